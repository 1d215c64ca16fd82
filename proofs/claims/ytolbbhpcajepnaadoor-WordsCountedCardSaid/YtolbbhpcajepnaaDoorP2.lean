/-
  words.Split and the reference's Split tell the words between blanks (plain). Its condition: a text of fewer than 4000000000 bytes.
-/
import Derived.Test.YtolbbhpcajepnaaDoorHX9
import Derived.Test.YtolbbhpcajepnaaDoorHX22
import Derived.Test.YtolbbhpcajepnaaDoorL1
namespace Go.Proofs.YtolbbhpcajepnaaDoor.Pure
open Go Go.RowKit Go.Proofs.YtolbbhpcajepnaaDoorW.PrintWords Go.Proofs.YtolbbhpcajepnaaDoor.H Go.Proofs.YtolbbhpcajepnaaDoor.L
set_option linter.unusedSimpArgs false
set_option linter.unusedVariables false

theorem wrap_next {i : Int} (h0 : 0 ≤ i) (h : i < 140737488355328) : wrap64 (i + 1) = i + 1 := by unfold wrap64; omega
theorem rdOf_at {α : Type} (d : α) (xs : List α) (i : Nat) (h : i < xs.length) : rdOf d xs (i : Int) = xs[i] := by
  unfold rdOf
  rw [Int.toNat_natCast, List.getD_eq_getElem?_getD, List.getElem?_eq_getElem h]
  rfl
theorem tl (s : ByteArray) : s.toList = s.data.toList := ByteArray.toList_eq s
theorem tl_ba (l : List UInt8) : (ba l).toList = l := by rw [tl, ba_toList]

theorem split_loop (xs : List ByteArray) (hxs : xs.length < 8000000000000) : ∀ (d i : Nat) (out : List ByteArray), i + d = xs.length → out.length ≤ i →
    Ev (fun k => words_Split.l0 k out xs (xs.length : Int) (i : Int)) (out ++ (xs.drop i).filter (fun s => decide (s.toList ≠ [])))
  | 0, i, out, hi, ho => by
    refine Ev.step (fun k => words_Split.l0.eq_2 _ _ _ _ _) ?_
    simp only [if_neg (show ¬ ((i : Int) < (xs.length : Int)) by omega)]
    rw [List.drop_of_length_le (by omega)]
    simpa using Ev.now _
  | d + 1, i, out, hi, ho => by
    have hlt : i < xs.length := by omega
    refine Ev.step (fun k => words_Split.l0.eq_2 _ _ _ _ _) ?_
    simp only [if_pos (show (i : Int) < (xs.length : Int) by omega), if_pos (show (0 : Int) ≤ (i : Int) by omega), rdOf_at ByteArray.empty xs i hlt, wrap_next (show (0 : Int) ≤ (i : Int) by omega) (by omega)]
    rw [List.drop_eq_getElem_cons hlt]
    by_cases he : xs[i].toList = []
    · simp only [if_pos he]
      have h := split_loop xs hxs d (i + 1) out (by omega) (by omega)
      rw [List.filter_cons, if_neg (by simp [he])]
      exact h
    · simp only [if_neg he, if_pos (show out.length < 8796093022208 by omega)]
      have h := split_loop xs hxs d (i + 1) (out ++ [xs[i]]) (by omega) (by simp; omega)
      rw [List.append_assoc, List.singleton_append] at h
      rw [List.filter_cons, if_pos (by simpa using he)]
      exact h
theorem evSplit (s : ByteArray) (hs : s.size < 4000000000) : Ev (fun k => words_Split.f k s) ((wl [] s.data.toList).map ba) := by
  have hp : strings_Split.f s ⟨#[32]⟩ = some ((pc [] s.data.toList).map ba) := by
    unfold strings_Split.f
    rw [if_pos ⟨by omega, by show 1 ≤ 1; omega⟩]
    exact congrArg some (split_pc s.size s (Nat.le_refl _))
  have hl : s.data.toList.length = s.size := Array.length_toList
  have hlen : ((pc [] s.data.toList).map ba).length < 8000000000000 := by
    have := pc_len s.data.toList []
    rw [List.length_map]; omega
  have h := split_loop _ hlen _ 0 [] (Nat.zero_add _) (Nat.le_refl _)
  unfold words_Split.f
  simp only [hp, Option.bind_some]
  rw [wl_pc]
  refine Ev.congr (fun k => rfl) ?_
  have e : ([] : List ByteArray) ++ (((pc [] s.data.toList).map ba).drop 0).filter (fun s => decide (s.toList ≠ [])) = ((pc [] s.data.toList).filter (fun w => decide (w ≠ []))).map ba := by
    rw [List.nil_append, List.drop_zero, List.filter_map]
    congr 1
    apply List.filter_congr
    intro w _
    simp [tl_ba]
  rw [e] at h
  exact h
end Go.Proofs.YtolbbhpcajepnaaDoor.Pure
