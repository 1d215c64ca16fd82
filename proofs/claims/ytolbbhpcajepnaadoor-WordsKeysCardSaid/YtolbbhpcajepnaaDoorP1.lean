/-
  The examples of chapter 2 answer as told (plain): awake is true. Its condition: none.
-/
import Derived.Test.YtolbbhpcajepnaaDoorHX15
import Derived.Lib.ItoaNum
namespace Go.Proofs.YtolbbhpcajepnaaDoor.Pure
open Go Go.RowKit Go.Proofs.YtolbbhpcajepnaaDoorW.PrintWords Go.Proofs.YtolbbhpcajepnaaDoor.H
set_option maxRecDepth 100000

theorem text120 : words_Text.f 120 = some ⟨#[49, 50, 48]⟩ := by
  unfold words_Text.f strconv_FormatUint.f
  rw [if_pos (by omega), show Int.toNat 120 = 120 from rfl, Lib.decDigits, dif_neg (by omega), Lib.decDigits, dif_neg (by omega), Lib.decDigits, dif_pos (by omega)]
  rfl
theorem split1 : words_Split.f 50 ⟨#[103, 101, 116, 32, 32, 97, 32, 98, 32]⟩ = some [⟨#[103, 101, 116]⟩, ⟨#[97]⟩, ⟨#[98]⟩] := by kernel_rfl
theorem num007 : words_Number.f ⟨#[48, 48, 55]⟩ = some (7, true) := by kernel_rfl
theorem signed5 : words_Signed.f 50 ⟨#[45, 53]⟩ = some (-5, true) := by kernel_rfl
theorem runesA : words_Runes.f ⟨#[97, 255]⟩ = some (2, false) := by kernel_rfl
theorem keyA : words_Key.f ⟨#[97]⟩ = some true := by kernel_rfl
theorem keyAB : words_Key.f ⟨#[97, 32, 98]⟩ = some false := by kernel_rfl
theorem shownAB : words_Shown.f ⟨#[97, 32, 98]⟩ = some ⟨#[97, 92, 48, 52, 48, 98]⟩ := by kernel_rfl
theorem awake50 : cellaretlaw2_awake.f 50 = some true := by
  unfold cellaretlaw2_awake.f
  rw [split1, num007, signed5, runesA, keyA, keyAB, text120, shownAB]
  kernel_rfl
theorem awakeEv : Ev (fun k => cellaretlaw2_awake.f k) true := Ev.of cellaretlaw2_awake.mono awake50
theorem WordsKnown : cellaretlaw2_WordsKnown.Pure := by
  refine ⟨50, ?_⟩
  unfold cellaretlaw2_WordsKnown.f
  rw [awake50]
  kernel_rfl
end Go.Proofs.YtolbbhpcajepnaaDoor.Pure
