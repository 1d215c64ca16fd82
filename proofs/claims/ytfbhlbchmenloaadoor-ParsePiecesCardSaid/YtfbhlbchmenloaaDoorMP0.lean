/-
  The law's own walk, its plain statement and its row: the law holds. Its condition: none beside the given row's own.
-/
import Derived.Test.YtfbhlbchmenloaaDoorM2
import Derived.Test.YtfbhlbchmenloaaDoorM3
import Derived.Test.YtfbhlbchmenloaaDoorM4
import Derived.Lib.SplitLaws
import Derived.Lib.CutLaws
import Derived.Lib.CountLaws
import Derived.Lib.IndexLaws
import Derived.Lib.IndexBytes
import Derived.Test.YtfbhlbchmenloaaDoorM0
import Derived.Laws.BitsLemmas
import Derived.Test.YtfbhlbchmenloaaDoorMPW0
import Derived.ShutString
import Derived.ChangeOld
import Derived.Below
import Derived.SizedLaws
import Derived.WalkKit
import Derived.ProofKit
import Derived.OpenShut
section
namespace Go.Proofs.YtfbhlbchmenloaaDoor.H
open Go.RowKit Go.Proofs.YtfbhlbchmenloaaDoorW.PrintWords Go.Proofs.YtfbhlbchmenloaaDoorW.PrintLast Go.Proofs.YtfbhlbchmenloaaDoorW.PrintMore
attribute [local go_sem] max2_int min2_int max_two min_two max_three min_three max_four min_four   -- for this text's walks alone
set_option linter.unusedVariables false
set_option linter.unusedSimpArgs false

/-! ### cellaretlaw18_ParsePieces: function 4 -/
mutual
def cellaretlaw18_ParsePieces.j0 : Nat → ByteArray → List Int → Bool → Option (Bool)
  | 0, _, _, _ => none
  | k + 1, x0, x1, x27 => if x27 = true then (some true) else ((parse_New.f).bind fun t350 => ((convB.f x0).bind fun t352 => ((parse_Feed.f t350 t352).bind fun t355 => (cellaretlaw18_ParsePieces.l0 k x0 x1 ([] : List (S32)) 0 t355))))
def cellaretlaw18_ParsePieces.j2 : Nat → ByteArray → List Int → List (S32) → Option (Bool)
  | 0, _, _, _ => none
  | k + 1, x0, x1, x6 => (parse_New.f).bind fun t390 => (cellaretlaw18_ParsePieces.l1 k x0 x1 x6 0 0 0 t390)
def cellaretlaw18_ParsePieces.l1 : Nat → ByteArray → List Int → List (S32) → Int → Int → Int → PS → Option (Bool)
  | 0, _, _, _, _, _, _, _ => none
  | k + 1, x0, x1, x6, x11, x12, x13, x392000 => if x13 ≤ (x1.length : Int) then (if x13 < (x1.length : Int) then (if 0 ≤ x13 then (if (wrap64 ((wrap64 ((x0.size : Int) - x11)) + 1)) = 0 then (none) else (cellaretlaw18_ParsePieces.j4 k x0 x1 x6 x11 x12 x13 (wrap64 (x11 + (Int.tmod (Go.bits .and .i64 (rd x1 x13) 4095) (wrap64 ((wrap64 ((x0.size : Int) - x11)) + 1))))) x392000)) else (none)) else (cellaretlaw18_ParsePieces.j4 k x0 x1 x6 x11 x12 x13 (x0.size : Int) x392000)) else (some (x12 == (x6.length : Int)))
def cellaretlaw18_ParsePieces.j4 : Nat → ByteArray → List Int → List (S32) → Int → Int → Int → Int → PS → Option (Bool)
  | 0, _, _, _, _, _, _, _, _ => none
  | k + 1, x0, x1, x6, x11, x12, x13, x14, x392000 => if 0 ≤ x11 then (if x11 ≤ x14 then (if x14 ≤ (x0.size : Int) then ((convB.f (x0.extract (x11 : Int).toNat (x14 : Int).toNat)).bind fun t393 => ((parse_Feed.f x392000 t393).bind fun t396 => (cellaretlaw18_ParsePieces.l2 k x0 x1 x6 x14 x12 x13 0 t396))) else (none)) else (none)) else (none)
def cellaretlaw18_ParsePieces.l2 : Nat → ByteArray → List Int → List (S32) → Int → Int → Int → Int → PS → Option (Bool)
  | 0, _, _, _, _, _, _, _, _ => none
  | k + 1, x0, x1, x6, x11, x12, x13, x15, x392000 => if x15 < 5000 then ((parse_Next.f k x392000).bind fun bt397 => (if bt397.2.2.2.2.2.2.2.2.2.2.2.2.1 = true then (if x12 ≥ (x6.length : Int) then (some false) else ((cellaretref17_Cmd.f bt397.1 bt397.2.1 bt397.2.2.1 bt397.2.2.2.1 bt397.2.2.2.2.1 bt397.2.2.2.2.2.1 bt397.2.2.2.2.2.2.1 bt397.2.2.2.2.2.2.2.1 bt397.2.2.2.2.2.2.2.2.1 bt397.2.2.2.2.2.2.2.2.2.1 bt397.2.2.2.2.2.2.2.2.2.2.1 bt397.2.2.2.2.2.2.2.2.2.2.2.1).bind fun bt414 => (if 0 ≤ x12 then (if x12 < (x6.length : Int) then ((cellaretref17_SameCmd.f k bt414.1 bt414.2.1 bt414.2.2.1 bt414.2.2.2.1 bt414.2.2.2.2.1 bt414.2.2.2.2.2.1 bt414.2.2.2.2.2.2.1 bt414.2.2.2.2.2.2.2.1 bt414.2.2.2.2.2.2.2.2.1 bt414.2.2.2.2.2.2.2.2.2.1 bt414.2.2.2.2.2.2.2.2.2.2.1 bt414.2.2.2.2.2.2.2.2.2.2.2 ((rd_T32 x6 x12).f0) ((rd_T32 x6 x12).f1) ((rd_T32 x6 x12).f2) ((rd_T32 x6 x12).f3) ((rd_T32 x6 x12).f4) ((rd_T32 x6 x12).f5) ((rd_T32 x6 x12).f6) ((rd_T32 x6 x12).f7) ((rd_T32 x6 x12).f8) ((rd_T32 x6 x12).f9) ((rd_T32 x6 x12).f10) ((rd_T32 x6 x12).f11)).bind fun t429 => (if t429 = true then (cellaretlaw18_ParsePieces.l2 k x0 x1 x6 x11 (wrap64 (x12 + 1)) x13 (wrap64 (x15 + 1)) bt397.2.2.2.2.2.2.2.2.2.2.2.2.2) else (some false))) else (none)) else (none)))) else (cellaretlaw18_ParsePieces.l1 k x0 x1 x6 x11 x12 (wrap64 (x13 + 1)) bt397.2.2.2.2.2.2.2.2.2.2.2.2.2))) else (cellaretlaw18_ParsePieces.l1 k x0 x1 x6 x11 x12 (wrap64 (x13 + 1)) x392000)
def cellaretlaw18_ParsePieces.l0 : Nat → ByteArray → List Int → List (S32) → Int → PS → Option (Bool)
  | 0, _, _, _, _, _ => none
  | k + 1, x0, x1, x6, x7, x352000 => if x7 < 5000 then ((parse_Next.f k x352000).bind fun bt356 => (if bt356.2.2.2.2.2.2.2.2.2.2.2.2.1 = true then ((cellaretref17_Cmd.f bt356.1 bt356.2.1 bt356.2.2.1 bt356.2.2.2.1 bt356.2.2.2.2.1 bt356.2.2.2.2.2.1 bt356.2.2.2.2.2.2.1 bt356.2.2.2.2.2.2.2.1 bt356.2.2.2.2.2.2.2.2.1 bt356.2.2.2.2.2.2.2.2.2.1 bt356.2.2.2.2.2.2.2.2.2.2.1 bt356.2.2.2.2.2.2.2.2.2.2.2.1).bind fun bt373 => (if x6.length < 1256584717458 then (cellaretlaw18_ParsePieces.l0 k x0 x1 (x6 ++ [(⟨bt373.1, bt373.2.1, bt373.2.2.1, bt373.2.2.2.1, bt373.2.2.2.2.1, bt373.2.2.2.2.2.1, bt373.2.2.2.2.2.2.1, bt373.2.2.2.2.2.2.2.1, bt373.2.2.2.2.2.2.2.2.1, bt373.2.2.2.2.2.2.2.2.2.1, bt373.2.2.2.2.2.2.2.2.2.2.1, bt373.2.2.2.2.2.2.2.2.2.2.2⟩ : S32)]) (wrap64 (x7 + 1)) bt356.2.2.2.2.2.2.2.2.2.2.2.2.2) else (none))) else (cellaretlaw18_ParsePieces.j2 k x0 x1 x6))) else (cellaretlaw18_ParsePieces.j2 k x0 x1 x6)
end
def cellaretlaw18_ParsePieces.f (k : Nat) (a0 : ByteArray) (l1 : List Int) : Option (Bool) := (cellaretlaw18_awake.f k).bind fun t349 => (if t349 = true then (if (a0.size : Int) > 4000 then (cellaretlaw18_ParsePieces.j0 k a0 l1 true) else (cellaretlaw18_ParsePieces.j0 k a0 l1 (decide ((l1.length : Int) > 20)))) else (some false))
theorem cellaretlaw18_ParsePieces.mono_l : ∀ k, (∀ y0 y1 y2, LeO (cellaretlaw18_ParsePieces.j0 k y0 y1 y2) (cellaretlaw18_ParsePieces.j0 (k + 1) y0 y1 y2)) ∧ (∀ y0 y1 y2, LeO (cellaretlaw18_ParsePieces.j2 k y0 y1 y2) (cellaretlaw18_ParsePieces.j2 (k + 1) y0 y1 y2)) ∧ (∀ y0 y1 y2 y3 y4 y5 y6, LeO (cellaretlaw18_ParsePieces.l1 k y0 y1 y2 y3 y4 y5 y6) (cellaretlaw18_ParsePieces.l1 (k + 1) y0 y1 y2 y3 y4 y5 y6)) ∧ (∀ y0 y1 y2 y3 y4 y5 y6 y7, LeO (cellaretlaw18_ParsePieces.j4 k y0 y1 y2 y3 y4 y5 y6 y7) (cellaretlaw18_ParsePieces.j4 (k + 1) y0 y1 y2 y3 y4 y5 y6 y7)) ∧ (∀ y0 y1 y2 y3 y4 y5 y6 y7, LeO (cellaretlaw18_ParsePieces.l2 k y0 y1 y2 y3 y4 y5 y6 y7) (cellaretlaw18_ParsePieces.l2 (k + 1) y0 y1 y2 y3 y4 y5 y6 y7)) ∧ (∀ y0 y1 y2 y3 y4, LeO (cellaretlaw18_ParsePieces.l0 k y0 y1 y2 y3 y4) (cellaretlaw18_ParsePieces.l0 (k + 1) y0 y1 y2 y3 y4))
  | 0 => ⟨fun _ _ _ r h => by simp [cellaretlaw18_ParsePieces.j0] at h, fun _ _ _ r h => by simp [cellaretlaw18_ParsePieces.j2] at h, fun _ _ _ _ _ _ _ r h => by simp [cellaretlaw18_ParsePieces.l1] at h, fun _ _ _ _ _ _ _ _ r h => by simp [cellaretlaw18_ParsePieces.j4] at h, fun _ _ _ _ _ _ _ _ r h => by simp [cellaretlaw18_ParsePieces.l2] at h, fun _ _ _ _ _ r h => by simp [cellaretlaw18_ParsePieces.l0] at h⟩
  | k + 1 => by
    obtain ⟨ih0, ih1, ih2, ih3, ih4, ih5⟩ := cellaretlaw18_ParsePieces.mono_l k
    refine ⟨?_, ?_, ?_, ?_, ?_, ?_⟩
    · intro y0 y1 y2
      unfold cellaretlaw18_ParsePieces.j0
      repeat' first
      | (with_reducible exact ih0 _ _ _)
      | (with_reducible exact ih1 _ _ _)
      | (with_reducible exact ih2 _ _ _ _ _ _ _)
      | (with_reducible exact ih3 _ _ _ _ _ _ _ _)
      | (with_reducible exact ih4 _ _ _ _ _ _ _ _)
      | (with_reducible exact ih5 _ _ _ _ _)
      | (with_reducible exact cellaretlaw18_awake.mono _)
      | (with_reducible exact cellaretref17_SameCmd.mono _ _ _ _ _ _ _ _ _ _ _ _ _ _ _ _ _ _ _ _ _ _ _ _ _)
      | (with_reducible exact parse_Next.mono _ _)
      | (with_reducible exact LeO.refl _)
      | (with_reducible exact LeO.none _)
      | (with_reducible refine LeO.ite ?_ ?_)
      | (with_reducible refine LeO.bind ?_ (fun _ => ?_))
      | exact ih0 _ _ _
      | exact ih1 _ _ _
      | exact ih2 _ _ _ _ _ _ _
      | exact ih3 _ _ _ _ _ _ _ _
      | exact ih4 _ _ _ _ _ _ _ _
      | exact ih5 _ _ _ _ _
      | exact cellaretlaw18_awake.mono _
      | exact cellaretref17_SameCmd.mono _ _ _ _ _ _ _ _ _ _ _ _ _ _ _ _ _ _ _ _ _ _ _ _ _
      | exact parse_Next.mono _ _
      | exact LeO.none _
      | refine LeO.ite ?_ ?_
      | refine LeO.bind ?_ (fun _ => ?_)
    · intro y0 y1 y2
      unfold cellaretlaw18_ParsePieces.j2
      repeat' first
      | (with_reducible exact ih0 _ _ _)
      | (with_reducible exact ih1 _ _ _)
      | (with_reducible exact ih2 _ _ _ _ _ _ _)
      | (with_reducible exact ih3 _ _ _ _ _ _ _ _)
      | (with_reducible exact ih4 _ _ _ _ _ _ _ _)
      | (with_reducible exact ih5 _ _ _ _ _)
      | (with_reducible exact cellaretlaw18_awake.mono _)
      | (with_reducible exact cellaretref17_SameCmd.mono _ _ _ _ _ _ _ _ _ _ _ _ _ _ _ _ _ _ _ _ _ _ _ _ _)
      | (with_reducible exact parse_Next.mono _ _)
      | (with_reducible exact LeO.refl _)
      | (with_reducible exact LeO.none _)
      | (with_reducible refine LeO.ite ?_ ?_)
      | (with_reducible refine LeO.bind ?_ (fun _ => ?_))
      | exact ih0 _ _ _
      | exact ih1 _ _ _
      | exact ih2 _ _ _ _ _ _ _
      | exact ih3 _ _ _ _ _ _ _ _
      | exact ih4 _ _ _ _ _ _ _ _
      | exact ih5 _ _ _ _ _
      | exact cellaretlaw18_awake.mono _
      | exact cellaretref17_SameCmd.mono _ _ _ _ _ _ _ _ _ _ _ _ _ _ _ _ _ _ _ _ _ _ _ _ _
      | exact parse_Next.mono _ _
      | exact LeO.none _
      | refine LeO.ite ?_ ?_
      | refine LeO.bind ?_ (fun _ => ?_)
    · intro y0 y1 y2 y3 y4 y5 y6
      unfold cellaretlaw18_ParsePieces.l1
      repeat' first
      | (with_reducible exact ih0 _ _ _)
      | (with_reducible exact ih1 _ _ _)
      | (with_reducible exact ih2 _ _ _ _ _ _ _)
      | (with_reducible exact ih3 _ _ _ _ _ _ _ _)
      | (with_reducible exact ih4 _ _ _ _ _ _ _ _)
      | (with_reducible exact ih5 _ _ _ _ _)
      | (with_reducible exact cellaretlaw18_awake.mono _)
      | (with_reducible exact cellaretref17_SameCmd.mono _ _ _ _ _ _ _ _ _ _ _ _ _ _ _ _ _ _ _ _ _ _ _ _ _)
      | (with_reducible exact parse_Next.mono _ _)
      | (with_reducible exact LeO.refl _)
      | (with_reducible exact LeO.none _)
      | (with_reducible refine LeO.ite ?_ ?_)
      | (with_reducible refine LeO.bind ?_ (fun _ => ?_))
      | exact ih0 _ _ _
      | exact ih1 _ _ _
      | exact ih2 _ _ _ _ _ _ _
      | exact ih3 _ _ _ _ _ _ _ _
      | exact ih4 _ _ _ _ _ _ _ _
      | exact ih5 _ _ _ _ _
      | exact cellaretlaw18_awake.mono _
      | exact cellaretref17_SameCmd.mono _ _ _ _ _ _ _ _ _ _ _ _ _ _ _ _ _ _ _ _ _ _ _ _ _
      | exact parse_Next.mono _ _
      | exact LeO.none _
      | refine LeO.ite ?_ ?_
      | refine LeO.bind ?_ (fun _ => ?_)
    · intro y0 y1 y2 y3 y4 y5 y6 y7
      unfold cellaretlaw18_ParsePieces.j4
      repeat' first
      | (with_reducible exact ih0 _ _ _)
      | (with_reducible exact ih1 _ _ _)
      | (with_reducible exact ih2 _ _ _ _ _ _ _)
      | (with_reducible exact ih3 _ _ _ _ _ _ _ _)
      | (with_reducible exact ih4 _ _ _ _ _ _ _ _)
      | (with_reducible exact ih5 _ _ _ _ _)
      | (with_reducible exact cellaretlaw18_awake.mono _)
      | (with_reducible exact cellaretref17_SameCmd.mono _ _ _ _ _ _ _ _ _ _ _ _ _ _ _ _ _ _ _ _ _ _ _ _ _)
      | (with_reducible exact parse_Next.mono _ _)
      | (with_reducible exact LeO.refl _)
      | (with_reducible exact LeO.none _)
      | (with_reducible refine LeO.ite ?_ ?_)
      | (with_reducible refine LeO.bind ?_ (fun _ => ?_))
      | exact ih0 _ _ _
      | exact ih1 _ _ _
      | exact ih2 _ _ _ _ _ _ _
      | exact ih3 _ _ _ _ _ _ _ _
      | exact ih4 _ _ _ _ _ _ _ _
      | exact ih5 _ _ _ _ _
      | exact cellaretlaw18_awake.mono _
      | exact cellaretref17_SameCmd.mono _ _ _ _ _ _ _ _ _ _ _ _ _ _ _ _ _ _ _ _ _ _ _ _ _
      | exact parse_Next.mono _ _
      | exact LeO.none _
      | refine LeO.ite ?_ ?_
      | refine LeO.bind ?_ (fun _ => ?_)
    · intro y0 y1 y2 y3 y4 y5 y6 y7
      unfold cellaretlaw18_ParsePieces.l2
      repeat' first
      | (with_reducible exact ih0 _ _ _)
      | (with_reducible exact ih1 _ _ _)
      | (with_reducible exact ih2 _ _ _ _ _ _ _)
      | (with_reducible exact ih3 _ _ _ _ _ _ _ _)
      | (with_reducible exact ih4 _ _ _ _ _ _ _ _)
      | (with_reducible exact ih5 _ _ _ _ _)
      | (with_reducible exact cellaretlaw18_awake.mono _)
      | (with_reducible exact cellaretref17_SameCmd.mono _ _ _ _ _ _ _ _ _ _ _ _ _ _ _ _ _ _ _ _ _ _ _ _ _)
      | (with_reducible exact parse_Next.mono _ _)
      | (with_reducible exact LeO.refl _)
      | (with_reducible exact LeO.none _)
      | (with_reducible refine LeO.ite ?_ ?_)
      | (with_reducible refine LeO.bind ?_ (fun _ => ?_))
      | exact ih0 _ _ _
      | exact ih1 _ _ _
      | exact ih2 _ _ _ _ _ _ _
      | exact ih3 _ _ _ _ _ _ _ _
      | exact ih4 _ _ _ _ _ _ _ _
      | exact ih5 _ _ _ _ _
      | exact cellaretlaw18_awake.mono _
      | exact cellaretref17_SameCmd.mono _ _ _ _ _ _ _ _ _ _ _ _ _ _ _ _ _ _ _ _ _ _ _ _ _
      | exact parse_Next.mono _ _
      | exact LeO.none _
      | refine LeO.ite ?_ ?_
      | refine LeO.bind ?_ (fun _ => ?_)
    · intro y0 y1 y2 y3 y4
      unfold cellaretlaw18_ParsePieces.l0
      repeat' first
      | (with_reducible exact ih0 _ _ _)
      | (with_reducible exact ih1 _ _ _)
      | (with_reducible exact ih2 _ _ _ _ _ _ _)
      | (with_reducible exact ih3 _ _ _ _ _ _ _ _)
      | (with_reducible exact ih4 _ _ _ _ _ _ _ _)
      | (with_reducible exact ih5 _ _ _ _ _)
      | (with_reducible exact cellaretlaw18_awake.mono _)
      | (with_reducible exact cellaretref17_SameCmd.mono _ _ _ _ _ _ _ _ _ _ _ _ _ _ _ _ _ _ _ _ _ _ _ _ _)
      | (with_reducible exact parse_Next.mono _ _)
      | (with_reducible exact LeO.refl _)
      | (with_reducible exact LeO.none _)
      | (with_reducible refine LeO.ite ?_ ?_)
      | (with_reducible refine LeO.bind ?_ (fun _ => ?_))
      | exact ih0 _ _ _
      | exact ih1 _ _ _
      | exact ih2 _ _ _ _ _ _ _
      | exact ih3 _ _ _ _ _ _ _ _
      | exact ih4 _ _ _ _ _ _ _ _
      | exact ih5 _ _ _ _ _
      | exact cellaretlaw18_awake.mono _
      | exact cellaretref17_SameCmd.mono _ _ _ _ _ _ _ _ _ _ _ _ _ _ _ _ _ _ _ _ _ _ _ _ _
      | exact parse_Next.mono _ _
      | exact LeO.none _
      | refine LeO.ite ?_ ?_
      | refine LeO.bind ?_ (fun _ => ?_)
theorem cellaretlaw18_ParsePieces.mono : ∀ a0 a1 k, LeO (cellaretlaw18_ParsePieces.f k a0 a1) (cellaretlaw18_ParsePieces.f (k + 1) a0 a1) := by
  intro a0 a1 k
  obtain ⟨ih0, ih1, ih2, ih3, ih4, ih5⟩ := cellaretlaw18_ParsePieces.mono_l k
  unfold cellaretlaw18_ParsePieces.f
  repeat' first
      | (with_reducible exact ih0 _ _ _)
      | (with_reducible exact ih1 _ _ _)
      | (with_reducible exact ih2 _ _ _ _ _ _ _)
      | (with_reducible exact ih3 _ _ _ _ _ _ _ _)
      | (with_reducible exact ih4 _ _ _ _ _ _ _ _)
      | (with_reducible exact ih5 _ _ _ _ _)
      | (with_reducible exact cellaretlaw18_awake.mono _)
      | (with_reducible exact cellaretref17_SameCmd.mono _ _ _ _ _ _ _ _ _ _ _ _ _ _ _ _ _ _ _ _ _ _ _ _ _)
      | (with_reducible exact parse_Next.mono _ _)
      | (with_reducible exact LeO.refl _)
      | (with_reducible exact LeO.none _)
      | (with_reducible refine LeO.ite ?_ ?_)
      | (with_reducible refine LeO.bind ?_ (fun _ => ?_))
      | exact ih0 _ _ _
      | exact ih1 _ _ _
      | exact ih2 _ _ _ _ _ _ _
      | exact ih3 _ _ _ _ _ _ _ _
      | exact ih4 _ _ _ _ _ _ _ _
      | exact ih5 _ _ _ _ _
      | exact cellaretlaw18_awake.mono _
      | exact cellaretref17_SameCmd.mono _ _ _ _ _ _ _ _ _ _ _ _ _ _ _ _ _ _ _ _ _ _ _ _ _
      | exact parse_Next.mono _ _
      | exact LeO.none _
      | refine LeO.ite ?_ ?_
      | refine LeO.bind ?_ (fun _ => ?_)
def cellaretlaw18_ParsePieces.T30 : Bool × List (List Nat × List Nat) := (true, [([], []), ([], []), ([1], [1]), ([0, 2], [0, 2]), ([3], [3]), ([4], [4]), ([5, 4, 4], [4, 5]), ([4], [4]), ([4], [4]), ([7, 8, 4], [4, 7, 8]), ([9, 4], [4, 9]), ([6, 10, 6, 4], [4, 6, 10]), ([11, 4], [4, 11]), ([4, 12], [4, 12])])
def cellaretlaw18_ParsePieces.B30 : List Nat := [0, 0, 2, 7, 15, 31, 63, 31, 31, 415, 927, 2047, 4095, 8191]
theorem cellaretlaw18_ParsePieces.tab30 : rtab .any (opsOf Tryd.f4 30) = cellaretlaw18_ParsePieces.T30 := by kernel_rfl
theorem cellaretlaw18_ParsePieces.bits30 : waitsOk cellaretlaw18_ParsePieces.T30.2 cellaretlaw18_ParsePieces.B30 = true := by kernel_rfl
theorem bBhy11 {B : Nat} {w W : World} (h : Below B w W := by repeat (first | (with_reducible first | exact HB.out | apply wA | apply wN | apply wD | refine below_set ?_ (IsS49.ge qC.out) | refine below_set ?_ qp.out | refine below_set ?_ (IsS49.ge qA.out) | refine below_set ?_ qq.out) | exact HB.out)) : Below B w W := h
theorem sS0hy11 {w0 W : World} {g : Nat} {ps : PS} (h : IsS49 w0 W g ps := by repeat (first | (with_reducible first | exact qA.out | apply sA | apply sN | apply sD | refine sF ?_ qe.out (by repeat (first | exact tO qD.out | apply tS | apply tA | apply tN | apply tD)) _) | exact qA.out)) : IsS49 w0 W g ps := h
theorem sS1hy11 {w0 W : World} {g : Nat} {ps : PS} (h : IsS49 w0 W g ps := by repeat (first | (with_reducible first | exact qC.out | apply sA | apply sN | apply sD | refine sF ?_ qm.out (by repeat (first | exact tO qN.out | apply tS | apply tA | apply tN | apply tD)) _) | exact qC.out)) : IsS49 w0 W g ps := h
set_option maxHeartbeats 8000000 in
set_option maxRecDepth 100000 in
theorem cellaretlaw18_ParsePieces.calls (k : Nat) (a0 : ByteArray) (A1 : Option Addr) (c1 : Nat) (l1 : List Int) (r : Bool) (hr_ : r = true) (w : World) (HLD : LaidA w) (hr1 : Kd.C (Kd.int .i64) w A1 l1.length l1) (hc1 : l1.length ≤ c1) (h : cellaretlaw18_ParsePieces.f k a0 l1 = some r) :
  Calls Tryd.prog 4 #[.string a0, .slice A1 l1.length c1] w fun e w' => e = .returned (.bool r) ∧ Below w.heap.size w w' := by
 have hu27 := Tryd.underlying27
 have hu32 := Tryd.underlying32
 have HR1 := M0 hr1
 have HC1 := M0 hc1
 clear hr1 hc1
 have HB := M0 (Below.refl w.heap.size w)
 have H : ((cellaretlaw18_awake.f k).bind fun qBX => (if qBX = true then (if (a0.size : Int) > 4000 then (cellaretlaw18_ParsePieces.j0 k a0 l1 true) else (cellaretlaw18_ParsePieces.j0 k a0 l1 (decide ((l1.length : Int) > 20)))) else (some false))) = some r := h
 clear h
 replace H := Option.bind_eq_some_iff.mp H
 obtain ⟨qBX, A30, H⟩ := H
 replace H : (if qBX = true then (if (a0.size : Int) > 4000 then (cellaretlaw18_ParsePieces.j0 k a0 l1 true) else (cellaretlaw18_ParsePieces.j0 k a0 l1 (decide ((l1.length : Int) > 20)))) else (some false)) = some r := H
 have A3 := M0 A30
 clear A30
 by_cases c4 : qBX = true
 ·subst c4
  have H1 : (if (a0.size : Int) > 4000 then (cellaretlaw18_ParsePieces.j0 k a0 l1 true) else (cellaretlaw18_ParsePieces.j0 k a0 l1 (decide ((l1.length : Int) > 20)))) = some r := by rw [if_pos rfl] at H; exact H
  clear H
  have H := H1
  clear H1
  have HC5 := M0 H
  clear H
  go_enter Tryd.func4, Tryd.ntmps4
  go_upto_region 3 with (first | ((with_reducible refine gate_callee (f := 6) rfl ?_); refine goesL_ (some 18) rfl rfl Tryd.func6 (by kernel_rfl) rfl #[] rfl (by (try simp only [List.map_toArray, List.map_cons, List.map_nil]); first | done | rfl | (simp only [List.length_drop, List.length_take]; rfl)) ?_; (with_reducible refine (cellaretlaw18_awake.calls k  true rfl _ ?side1 A3.out).mono ?_); (case side1 => exact HLD.below bBhy11); rintro e w6 ⟨rfl, hb⟩; refine ⟨_, rfl, ?_⟩; (first | have n0_ := M0 (below_step bBhy11 hb) | have n0_ := M0 True.intro); clear HB; have HB := n0_; clear n0_; (try clear hb); (try clear hb2); (try clear hk); (try clear hi)))
  (try simp only [Act.put, List.setIfInBounds_toArray, List.set_cons_zero, List.set_cons_succ])
  go_cut [27] (fun v27 wc => ∃ (kq : Nat) (x27_4 : Bool), v27 = .bool x27_4 ∧ Aside0 (cellaretlaw18_ParsePieces.j0 kq a0 l1 x27_4 = some r) ∧ Aside0 (kq ≤ k) ∧ Aside0 (Below w.heap.size w wc))
  case first =>
   have H := HC5.out
   clear HC5
   by_cases c7 : (a0.size : Int) > 4000
   ·rw [if_pos c7] at H
    have c7b0 : decide (4000 < (a0.size : Int)) = true := decide_eq_true c7
    have c7b1 : decide (4000 < a0.size) = true := decide_eq_true (by omega)
    clear c7
    (first | rw [c7b0] | (simp only [i64_w, i32_w]; rw [c7b0]) | skip)
    have H' := M0 H
    clear H
    go_wp2
    go_meet
    case rel => exact ⟨_, (true), (by first | rfl | (simp; done) | (simp [*]; done)), H', ⟨by first | omega | exact Nat.le_refl _⟩, ⟨bBhy11⟩⟩
   ·rw [if_neg c7] at H
    have c7b0 : decide (4000 < (a0.size : Int)) = false := decide_eq_false c7
    have c7b1 : decide (4000 < a0.size) = false := decide_eq_false (by omega)
    clear c7
    (first | rw [c7b0] | (simp only [i64_w, i32_w]; rw [c7b0]) | skip)
    have H' := M0 H
    clear H
    go_wp2
    go_meet
    case rel => exact ⟨_, (decide ((l1.length : Int) > 20)), (by first | rfl | (simp; done) | (simp [*]; done)), H', ⟨by first | omega | exact Nat.le_refl _⟩, ⟨bBhy11⟩⟩
  case rest =>
   clear HC5
   try clear c1
   try clear p2
   try clear c4
   try clear c6
   try clear c7
   try clear c7b0
   try clear c7b1
   obtain ⟨kq, x27_4, rfl, HA, HJ4, HB⟩ := hcut
   cases kq with
   | zero => exact absurd HA.out (by simp [cellaretlaw18_ParsePieces.j0])
   | succ kj4 =>
    have H := HA.out
    clear HA
    simp only [cellaretlaw18_ParsePieces.j0] at H
    by_cases c8 : x27_4 = true
    ·subst c8
     have H1 : (some true) = some r := by rw [if_pos rfl] at H; exact H
     clear H
     have H := H1
     clear H1
     obtain rfl := Option.some.inj H
     go_wp2
     go_ret
     exact ⟨by first | rfl | (simp [errW_none, errW_some] <;> rfl) | (simp [*, errW_none, errW_some] <;> rfl), bBhy11⟩
    ·replace c8 := Bool.eq_false_iff.mpr c8
     subst c8
     have H1 : ((parse_New.f).bind fun qAx => ((convB.f a0).bind fun qAB => ((parse_Feed.f qAx qAB).bind fun qs => (cellaretlaw18_ParsePieces.l0 kj4 a0 l1 ([] : List (S32)) 0 qs)))) = some r := by rw [if_neg (show ¬ (false = true) by decide)] at H; exact H
     clear H
     have H := H1
     clear H1
     replace H := Option.bind_eq_some_iff.mp H
     obtain ⟨qAx, A90, H⟩ := H
     replace H : ((convB.f a0).bind fun qAB => ((parse_Feed.f qAx qAB).bind fun qs => (cellaretlaw18_ParsePieces.l0 kj4 a0 l1 ([] : List (S32)) 0 qs))) = some r := H
     have A9 := M0 A90
     clear A90
     replace H := Option.bind_eq_some_iff.mp H
     obtain ⟨qAB, A100, H⟩ := H
     replace H : ((parse_Feed.f qAx qAB).bind fun qs => (cellaretlaw18_ParsePieces.l0 kj4 a0 l1 ([] : List (S32)) 0 qs)) = some r := H
     have A10 := M0 A100
     clear A100
     replace H := Option.bind_eq_some_iff.mp H
     obtain ⟨qs, A110, H⟩ := H
     replace H : (cellaretlaw18_ParsePieces.l0 kj4 a0 l1 ([] : List (S32)) 0 qs) = some r := H
     have A11 := M0 A110
     clear A110
     have HC12 := M0 H
     clear H
     go_upto_block 0 with (first | ((with_reducible refine gate_callee (f := 11) rfl ?_); refine goesL_ (some 28) rfl rfl Tryd.func11 (by kernel_rfl) rfl #[] rfl (by (try simp only [List.map_toArray, List.map_cons, List.map_nil]); first | done | rfl | (simp only [List.length_drop, List.length_take]; rfl)) ?_; (with_reducible refine (parse_New.calls  qAx w _ ?side1 ?side2 A9.out).mono ?_); (case side1 => exact bBhy11); (case side2 => exact HLD.below bBhy11); rintro e w13 ⟨g351, rfl, hi, hb, hb2⟩; refine ⟨_, rfl, ?_⟩; (first | have n0_ := M0 (hb) | have n0_ := M0 True.intro); (first | have n1_ := M0 (hi) | have n1_ := M0 True.intro); clear HB; have HB := n0_; have qC := n1_; clear n0_ n1_; (try clear hb); (try clear hb2); (try clear hk); (try clear hi)) | ((with_reducible refine gate_dst (N := 31) rfl ?_); (refine conv_event rfl (N := 31) rfl 9 38 5 rfl Tryd.underlying9 Tryd.underlying38 Tryd.underlying5 a0 qAB rfl A10.out ?_); intro v353 w14 ho0 hb; (first | have n0_ := M0 (Kd.V_lower (Kd.V_mono (ok' := fun k_ => k_ ≠ g351) ho0 (fun k_ hk_ => (IsS49.fresh sS1hy11 k_ hk_))) (below_size bBhy11)) | have n0_ := M0 True.intro); (first | have n1_ := M0 (IsS49.below sS1hy11 hb) | have n1_ := M0 True.intro); (first | have n2_ := M0 (below_step bBhy11 hb) | have n2_ := M0 True.intro); clear qC; clear HB; have qAF := n0_; have qC := n1_; have HB := n2_; clear n0_ n1_ n2_; (try clear hb); (try clear hb2); (try clear hk); (try clear hi); (try clear ho0); obtain ⟨qBv, qBw, qBx⟩ := Kd.V_slice qAF.out; subst qBx) | ((with_reducible refine gate_callee (f := 12) rfl ?_); refine goesL_ (some 32) rfl rfl Tryd.func12 (by kernel_rfl) rfl #[.pointer (some ⟨g351, 0, none⟩), .slice qBv qAB.length qBw] rfl (by (try simp only [List.map_toArray, List.map_cons, List.map_nil]); first | done | rfl | (simp only [List.length_drop, List.length_take]; rfl)) ?_; (with_reducible refine (parse_Feed.calls g351 qAx _ _ qAB qs w _ ?side1 ?side2 ?side5 ?side3 ?side4 A11.out).mono ?_); (case side1 => exact sS1hy11); (case side2 => exact bBhy11); (case side3 => repeat (first | exact (Kd.V_reads' qAF.out).2.2 | (with_reducible refine Kd.C_alloc ?_ _) | (with_reducible refine Kd.C_drewN ?_ _) | (with_reducible refine Kd.C_drew ?_))); (case side4 => exact (Kd.V_reads' qAF.out).2.1); (case side5 => exact HLD.below bBhy11); rintro e w16 ⟨rfl, hi, hb, hk⟩; refine ⟨_, rfl, ?_⟩; (first | have n0_ := M0 (Kd.V_mono (Kd.V_keep (Kd.V_mono (ok := fun k_ => k_ ≠ g351) (by (with_reducible repeat (first | apply Kd.V_alloc | apply Kd.V_drewN | apply Kd.V_drew)); exact qAF.out) (fun k_ hk_ => (⟨hk_, hk_⟩ : _ ∧ k_ ≠ g351))) hk (fun _ h => h.2)) (fun _ h => h.1)) | have n0_ := M0 True.intro); (first | have n1_ := M0 (hb) | have n1_ := M0 True.intro); (first | have n2_ := M0 (hi) | have n2_ := M0 True.intro); clear qAF; clear HB; clear qC; have qAF := n0_; have HB := n1_; have qC := n2_; clear n0_ n1_ n2_; (try clear hb); (try clear hb2); (try clear hk); (try clear hi)))
     (try simp only [Act.put, List.setIfInBounds_toArray, List.set_cons_zero, List.set_cons_succ])
     go_cut [6] (fun v6 wc => ∃ (kq : Nat) (x6_11 : List (S32)), Aside0 (cellaretlaw18_ParsePieces.j2 kq a0 l1 x6_11 = some r) ∧ Aside0 (kq ≤ kj4) ∧ Aside0 (Kd.S k32 32 wc w.heap.size (fun _ => True) v6 x6_11) ∧ Aside0 (Below w.heap.size w wc))
     case first =>
      have H := HC12.out
      clear HC12
      have H' := M0 H
      clear H
      go_wp2
      go_loopg [6, 7] kj4 (fun kq v6 v7 w' => ∃ (x6_2 : List (S32)) (x7_2 : Int) (x352000_2 : PS), v7 = .int .i64 x7_2 ∧ Aside0 (cellaretlaw18_ParsePieces.l0 kq a0 l1 x6_2 x7_2 x352000_2 = some r) ∧ Aside0 (kq ≤ kj4) ∧ Aside0 (Kd.S k32 32 w' w.heap.size (fun _ => True) v6 x6_2) ∧ Aside0 (IsS49 w w' g351 x352000_2) ∧ Aside0 (Below w.heap.size w w'))
      case atStart => exact ⟨(([] : List (S32))), (0), (qs), (by first | rfl | (simp; done) | (simp [*]; done)), H', ⟨Nat.le_refl _⟩, ⟨by first | exact Kd.S_nil _ _ _ _ _ | exact Kd.N_nil _ _ _ _ _ | exact Kd.V_nil _ _ _ _ _ | exact Kd.Q_nil _ _ _ _ _ | exact Kd.R_nil _ _ _ _ _⟩, ⟨sS1hy11⟩, ⟨bBhy11⟩⟩
      case round =>
       clear H'
       try clear c1
       try clear p2
       try clear c4
       try clear c6
       try clear c7
       try clear c7b0
       try clear c7b1
       try clear c8
       try clear c11
       try clear c12
       try clear p2
       obtain ⟨x6_2, x7_2, x352000_2, rfl, HA, HK2, HO_6, qC, HB⟩ := hrel
       cases gk with
       | zero => exact absurd HA.out (by simp [cellaretlaw18_ParsePieces.l0])
       | succ k2 =>
        have H := HA.out
        clear HA
        simp only [cellaretlaw18_ParsePieces.l0] at H
        by_cases c17 : x7_2 < 5000
        ·rw [if_pos c17] at H
         have c17b0 : decide (x7_2 < 5000) = true := decide_eq_true c17
         clear c17
         (first | rw [c17b0] | (simp only [i64_w, i32_w]; rw [c17b0]) | skip)
         replace H := Option.bind_eq_some_iff.mp H
         obtain ⟨⟨qO, qQ, qK, qW, qY, qb, qf, qh, qi, qj, ql, qn, qBm, qo⟩, A180, H⟩ := H
         replace H : (if qBm = true then ((cellaretref17_Cmd.f qO qQ qK qW qY qb qf qh qi qj ql qn).bind fun bt373 => (if x6_2.length < 1256584717458 then (cellaretlaw18_ParsePieces.l0 k2 a0 l1 (x6_2 ++ [(⟨bt373.1, bt373.2.1, bt373.2.2.1, bt373.2.2.2.1, bt373.2.2.2.2.1, bt373.2.2.2.2.2.1, bt373.2.2.2.2.2.2.1, bt373.2.2.2.2.2.2.2.1, bt373.2.2.2.2.2.2.2.2.1, bt373.2.2.2.2.2.2.2.2.2.1, bt373.2.2.2.2.2.2.2.2.2.2.1, bt373.2.2.2.2.2.2.2.2.2.2.2⟩ : S32)]) (wrap64 (x7_2 + 1)) qo) else (none))) else (cellaretlaw18_ParsePieces.j2 k2 a0 l1 x6_2)) = some r := H
         have A18 := M0 A180
         clear A180
         by_cases c19 : qBm = true
         ·subst c19
          have H1 : ((cellaretref17_Cmd.f qO qQ qK qW qY qb qf qh qi qj ql qn).bind fun bt373 => (if x6_2.length < 1256584717458 then (cellaretlaw18_ParsePieces.l0 k2 a0 l1 (x6_2 ++ [(⟨bt373.1, bt373.2.1, bt373.2.2.1, bt373.2.2.2.1, bt373.2.2.2.2.1, bt373.2.2.2.2.2.1, bt373.2.2.2.2.2.2.1, bt373.2.2.2.2.2.2.2.1, bt373.2.2.2.2.2.2.2.2.1, bt373.2.2.2.2.2.2.2.2.2.1, bt373.2.2.2.2.2.2.2.2.2.2.1, bt373.2.2.2.2.2.2.2.2.2.2.2⟩ : S32)]) (wrap64 (x7_2 + 1)) qo) else (none))) = some r := by rw [if_pos rfl] at H; exact H
          clear H
          have H := H1
          clear H1
          replace H := Option.bind_eq_some_iff.mp H
          obtain ⟨⟨qAy, qAz, qAw, qBA, qBB, qBC, qBD, qBE, qBF, qBG, qBH, qBI⟩, A200, H⟩ := H
          replace H : (if x6_2.length < 1256584717458 then (cellaretlaw18_ParsePieces.l0 k2 a0 l1 (x6_2 ++ [(⟨qAy, qAz, qAw, qBA, qBB, qBC, qBD, qBE, qBF, qBG, qBH, qBI⟩ : S32)]) (wrap64 (x7_2 + 1)) qo) else (none)) = some r := H
          have A20 := M0 A200
          clear A200
          by_cases c21 : x6_2.length < 1256584717458
          ·rw [if_pos c21] at H
           have qBs := M0 c21
           clear c21
           obtain ⟨y387, hy387⟩ : ∃ y_ : List (S32), y_ = (x6_2 ++ [(⟨qAy, qAz, qAw, qBA, qBB, qBC, qBD, qBE, qBF, qBG, qBH, qBI⟩ : S32)]) := ⟨_, rfl⟩
           replace H : (cellaretlaw18_ParsePieces.l0 k2 a0 l1 y387 (wrap64 (x7_2 + 1)) qo) = some r := by first | (rw [hy387]; with_reducible exact H) | (have H2_ := (Option.bind_some _ _).symm.trans H; rw [hy387]; with_reducible exact H2_) | (have H2_ := (Option.bind_some _ _).symm.trans H; with_reducible exact H2_) | with_reducible exact H | (rw [hy387]; exact H) | exact H
           have qBt := M0 hy387
           clear hy387
           have H' := M0 H
           clear H
           go_wp2_with (first | ((with_reducible refine gate_callee (f := 13) rfl ?_); refine goesL_ (some 39) rfl rfl Tryd.func13 (by kernel_rfl) rfl #[.pointer (some ⟨g351, 0, none⟩)] rfl (by (try simp only [List.map_toArray, List.map_cons, List.map_nil]); first | done | rfl | (simp only [List.length_drop, List.length_take]; rfl)) ?_; (with_reducible refine (parse_Next.calls k2 g351 x352000_2 qO qQ qK qW qY qb qf qh qi qj ql qn true qo w _ ?side1 ?side2 ?side3 A18.out).mono ?_); (case side1 => exact sS1hy11); (case side2 => exact bBhy11); (case side3 => exact HLD.below bBhy11); rintro e w22 ⟨v359, rfl, ho0, hi, hb, hk⟩; refine ⟨_, rfl, ?_⟩; (first | have n0_ := M0 (Kd.S_mono (Kd.S_told (Kd.S_oldK (IsS49.apartS (show IsS49 w _ g351 x352000_2 from sS1hy11) (by (with_reducible repeat (first | apply Kd.S_alloc | apply Kd.S_drewN | apply Kd.S_drew)); exact HO_6.out) (by decide)) hk) (Kd.R_base ho0)) (fun _ h_ => h_.1)) | have n0_ := M0 True.intro); (first | have n1_ := M0 (Kd.R_lower ho0 (below_size bBhy11)) | have n1_ := M0 True.intro); (first | have n2_ := M0 (hb) | have n2_ := M0 True.intro); (first | have n3_ := M0 (hi) | have n3_ := M0 True.intro); clear HO_6; clear HB; clear qC; have HO_6 := n0_; have qR := n1_; have HB := n2_; have qC := n3_; clear n0_ n1_ n2_ n3_; (try clear hb); (try clear hb2); (try clear hk); (try clear hi); (try clear ho0)) | ((with_reducible refine gate_dst (N := 8) rfl ?_); (try (refine gate_guard (by rfl) ?_; dsimp only)); refine box_event ?hg (N := 8) ?hd (cs := #[.string (⟨#[]⟩ : ByteArray), .string (⟨#[]⟩ : ByteArray), .slice none 0 0, .string (⟨#[]⟩ : ByteArray), .int .u32 0, .int .i64 0, .int .u64 0, .int .u64 0, .bool false, .bool false, .bool false, .bool false]) (t := 27) ?hr ?_; (case hd => rfl); (case hg => rfl); (case hr => first | (go_simp; done) | (go_simp; rfl)); intro qE hg w23 hbox hb; (first | have n0_ := M0 (Kd.S_below (by (with_reducible repeat (first | apply Kd.S_alloc | apply Kd.S_drewN | apply Kd.S_drew)); exact HO_6.out) hb) | have n0_ := M0 True.intro); (first | have n1_ := M0 (Kd.R_below (by (with_reducible repeat (first | apply rA | apply rN | apply rD)); exact qR.out) hb) | have n1_ := M0 True.intro); (first | have n2_ := M0 (IsS49.below sS1hy11 hb) | have n2_ := M0 True.intro); (first | have n3_ := M0 (below_step bBhy11 hb) | have n3_ := M0 True.intro); (first | have n4_ := M0 (hbox) | have n4_ := M0 True.intro); (first | have n5_ := M0 ((by rw [hg]; exact (below_size bBhy11) : w.heap.size ≤ qE)) | have n5_ := M0 True.intro); (first | have n6_ := M0 ((by rw [hg]; exact (below_size bBhy11) : w.heap.size ≤ qE)) | have n6_ := M0 True.intro); (first | have n7_ := M0 ((by rw [hg]; exact Nat.ne_of_lt (IsS49.lt (show IsS49 w _ g351 qo from sS1hy11)) : g351 ≠ qE)) | have n7_ := M0 True.intro); (first | have n8_ := M0 ((by rw [hg]; exact Nat.ne_of_gt (IsS49.lt (show IsS49 w _ g351 qo from sS1hy11)) : qE ≠ g351)) | have n8_ := M0 True.intro); clear HO_6; clear qR; clear qC; clear HB; have HO_6 := n0_; have qR := n1_; have qC := n2_; have HB := n3_; have qN := n4_; have GW372 := n5_; have qp := n6_; have qm := n7_; have qAC := n8_; clear n0_ n1_ n2_ n3_ n4_ n5_ n6_ n7_ n8_; clear hb hbox hg; have qDL := qAC.out; have qDM := qm.out; obtain ⟨qAG, qAH, qAI, qAJ, qAK, qAL, qAM, qAN, qAO, qAP, qt, qu⟩ := celL qN.out; obtain ⟨qAQ, qAR, qAS, qAT, qAU, qAV, qAW, qAX, qAY, qAZ, qv, qw⟩ := froZ qN.out; obtain ⟨qc, qZ, qBy⟩ := Kd.R_slice qR.out; subst qBy) | ((with_reducible refine gate_callee (f := 10) rfl ?_); refine goesL_ (some 46) rfl rfl Tryd.func10 (by kernel_rfl) rfl #[.agg #[.string qO, .string qQ, .slice qc qK.length qZ, .string qW, .int .u32 qY, .int .i64 qb, .int .u64 qf, .int .u64 qh, .bool qi, .bool qj, .bool ql, .bool qn]] rfl (by (try simp only [List.map_toArray, List.map_cons, List.map_nil]); first | done | rfl | (simp only [List.length_drop, List.length_take]; rfl)) ?_; (with_reducible refine (cellaretref17_Cmd.calls qO qQ _ _ qK qW qY qb qf qh qi qj ql qn qAy qAz qAw qBA qBB qBC qBD qBE qBF qBG qBH qBI _ ?side1 ?side2 A20.out).mono ?_); (case side1 => refine (Kd.R_reads' (e := 9) (base := w.heap.size) (ok := fun k_ => True) (n := qK.length) (c := qZ) ?_).2.2; exact (by (with_reducible repeat (first | apply rA | apply rN | apply rD)); exact (Kd.R_mono (R_far12 qE (Kd.R_types qR.out qN.out (by decide)) (.string qO) (.string qQ) (.slice qc qK.length qZ) (.string qW) (.int .u32 qY) (.int .i64 qb) (.int .u64 qf) (.int .u64 qh) (.bool qi) (.bool qj) (.bool ql) (.bool qn)) (fun _ h_ => h_.1)))); (case side2 => exact (Kd.R_reads' qR.out).2.1); rintro e w27 ⟨v376, rfl, ho0, hb⟩; refine ⟨_, rfl, ?_⟩; (first | have n0_ := M0 (Kd.S_elder' (by (with_reducible repeat (first | apply Kd.S_alloc | apply Kd.S_drewN | apply Kd.S_drew)); exact (Kd.S_mono (S_far12 qE (Kd.S_types HO_6.out qN.out (by decide)) (.string qO) (.string qQ) (.slice qc qK.length qZ) (.string qW) (.int .u32 qY) (.int .i64 qb) (.int .u64 qf) (.int .u64 qh) (.bool qi) (.bool qj) (.bool ql) (.bool qn)) (fun _ h_ => h_.1))) (Kd.R_base ho0) hb) | have n0_ := M0 True.intro); (first | have n1_ := M0 (Kd.R_elder' (by (with_reducible repeat (first | apply rA | apply rN | apply rD)); exact (Kd.R_mono (R_far12 qE (Kd.R_types qR.out qN.out (by decide)) (.string qO) (.string qQ) (.slice qc qK.length qZ) (.string qW) (.int .u32 qY) (.int .i64 qb) (.int .u64 qf) (.int .u64 qh) (.bool qi) (.bool qj) (.bool ql) (.bool qn)) (fun _ h_ => h_.1))) (Kd.R_base ho0) hb) | have n1_ := M0 True.intro); (first | have n2_ := M0 (Kd.R_lower (Kd.R_new' ho0 (Kd.R_lt (by (with_reducible repeat (first | apply rA | apply rN | apply rD)); exact (Kd.R_mono (R_far12 qE (Kd.R_types qR.out qN.out (by decide)) (.string qO) (.string qQ) (.slice qc qK.length qZ) (.string qW) (.int .u32 qY) (.int .i64 qb) (.int .u64 qf) (.int .u64 qh) (.bool qi) (.bool qj) (.bool ql) (.bool qn)) (fun _ h_ => h_.1))))) (below_size bBhy11)) | have n2_ := M0 (Kd.R_lower ho0 (below_size bBhy11)) | have n2_ := M0 True.intro); (first | have n3_ := M0 (IsS49.below (show IsS49 w ((((((((((((w23.setCell ⟨qE, 0, none⟩ (.string qO)).setCell ⟨qE, 1, none⟩ (.string qQ)).setCell ⟨qE, 2, none⟩ (.slice qc qK.length qZ)).setCell ⟨qE, 3, none⟩ (.string qW)).setCell ⟨qE, 4, none⟩ (.int .u32 qY)).setCell ⟨qE, 5, none⟩ (.int .i64 qb)).setCell ⟨qE, 6, none⟩ (.int .u64 qf)).setCell ⟨qE, 7, none⟩ (.int .u64 qh)).setCell ⟨qE, 8, none⟩ (.bool qi)).setCell ⟨qE, 9, none⟩ (.bool qj)).setCell ⟨qE, 10, none⟩ (.bool ql)).setCell ⟨qE, 11, none⟩ (.bool qn)) g351 qo from sS1hy11) hb) | have n3_ := M0 True.intro); (first | have n4_ := M0 (blk_below (g := qE) (o := .cells #[.string qO, .string qQ, .slice qc qK.length qZ, .string qW, .int .u32 qY, .int .i64 qb, .int .u64 qf, .int .u64 qh, .bool qi, .bool qj, .bool ql, .bool qn] 27 (0, 0)) (by (with_reducible repeat (first | refine bN ?_ _ | refine bD ?_ | refine bA ?_ _)); refine blk_put (cs := #[.string qO, .string qQ, .slice qc qK.length qZ, .string qW, .int .u32 qY, .int .i64 qb, .int .u64 qf, .int .u64 qh, .bool qi, .bool qj, .bool ql, .bool false]) ?_ 11 _ rfl; (with_reducible repeat (first | refine bN ?_ _ | refine bD ?_ | refine bA ?_ _)); refine blk_put (cs := #[.string qO, .string qQ, .slice qc qK.length qZ, .string qW, .int .u32 qY, .int .i64 qb, .int .u64 qf, .int .u64 qh, .bool qi, .bool qj, .bool false, .bool false]) ?_ 10 _ rfl; (with_reducible repeat (first | refine bN ?_ _ | refine bD ?_ | refine bA ?_ _)); refine blk_put (cs := #[.string qO, .string qQ, .slice qc qK.length qZ, .string qW, .int .u32 qY, .int .i64 qb, .int .u64 qf, .int .u64 qh, .bool qi, .bool false, .bool false, .bool false]) ?_ 9 _ rfl; (with_reducible repeat (first | refine bN ?_ _ | refine bD ?_ | refine bA ?_ _)); refine blk_put (cs := #[.string qO, .string qQ, .slice qc qK.length qZ, .string qW, .int .u32 qY, .int .i64 qb, .int .u64 qf, .int .u64 qh, .bool false, .bool false, .bool false, .bool false]) ?_ 8 _ rfl; (with_reducible repeat (first | refine bN ?_ _ | refine bD ?_ | refine bA ?_ _)); refine blk_put (cs := #[.string qO, .string qQ, .slice qc qK.length qZ, .string qW, .int .u32 qY, .int .i64 qb, .int .u64 qf, .int .u64 0, .bool false, .bool false, .bool false, .bool false]) ?_ 7 _ rfl; (with_reducible repeat (first | refine bN ?_ _ | refine bD ?_ | refine bA ?_ _)); refine blk_put (cs := #[.string qO, .string qQ, .slice qc qK.length qZ, .string qW, .int .u32 qY, .int .i64 qb, .int .u64 0, .int .u64 0, .bool false, .bool false, .bool false, .bool false]) ?_ 6 _ rfl; (with_reducible repeat (first | refine bN ?_ _ | refine bD ?_ | refine bA ?_ _)); refine blk_put (cs := #[.string qO, .string qQ, .slice qc qK.length qZ, .string qW, .int .u32 qY, .int .i64 0, .int .u64 0, .int .u64 0, .bool false, .bool false, .bool false, .bool false]) ?_ 5 _ rfl; (with_reducible repeat (first | refine bN ?_ _ | refine bD ?_ | refine bA ?_ _)); refine blk_put (cs := #[.string qO, .string qQ, .slice qc qK.length qZ, .string qW, .int .u32 0, .int .i64 0, .int .u64 0, .int .u64 0, .bool false, .bool false, .bool false, .bool false]) ?_ 4 _ rfl; (with_reducible repeat (first | refine bN ?_ _ | refine bD ?_ | refine bA ?_ _)); refine blk_put (cs := #[.string qO, .string qQ, .slice qc qK.length qZ, .string (⟨#[]⟩ : ByteArray), .int .u32 0, .int .i64 0, .int .u64 0, .int .u64 0, .bool false, .bool false, .bool false, .bool false]) ?_ 3 _ rfl; (with_reducible repeat (first | refine bN ?_ _ | refine bD ?_ | refine bA ?_ _)); refine blk_put (cs := #[.string qO, .string qQ, .slice none 0 0, .string (⟨#[]⟩ : ByteArray), .int .u32 0, .int .i64 0, .int .u64 0, .int .u64 0, .bool false, .bool false, .bool false, .bool false]) ?_ 2 _ rfl; (with_reducible repeat (first | refine bN ?_ _ | refine bD ?_ | refine bA ?_ _)); refine blk_put (cs := #[.string qO, .string (⟨#[]⟩ : ByteArray), .slice none 0 0, .string (⟨#[]⟩ : ByteArray), .int .u32 0, .int .i64 0, .int .u64 0, .int .u64 0, .bool false, .bool false, .bool false, .bool false]) ?_ 1 _ rfl; (with_reducible repeat (first | refine bN ?_ _ | refine bD ?_ | refine bA ?_ _)); refine blk_put (cs := #[.string (⟨#[]⟩ : ByteArray), .string (⟨#[]⟩ : ByteArray), .slice none 0 0, .string (⟨#[]⟩ : ByteArray), .int .u32 0, .int .i64 0, .int .u64 0, .int .u64 0, .bool false, .bool false, .bool false, .bool false]) ?_ 0 _ rfl; (with_reducible repeat (first | refine bN ?_ _ | refine bD ?_ | refine bA ?_ _)); exact qN.out) hb) | have n4_ := M0 True.intro); (first | have n5_ := M0 (below_step bBhy11 hb) | have n5_ := M0 True.intro); clear HO_6; clear qR; clear qC; clear qN; clear HB; have HO_6 := n0_; have qR := n1_; have qBK := n2_; have qC := n3_; have qN := n4_; have HB := n5_; clear n0_ n1_ n2_ n3_ n4_ n5_; (try clear hb); (try clear hb2); (try clear hk); (try clear hi); (try clear ho0); obtain ⟨qBn, qBo, qBz⟩ := Kd.R_slice qBK.out; subst qBz) | ((with_reducible refine gate_builtin (b := .append) (xs := #[.tmp 44, .tmp 47]) rfl ?_); (try (refine gate_guard (by rfl) ?_; dsimp only)); at_builtin; refine Kd.S_append k32 (w0 := w) w.heap.size rfl (.tmp 44) (.tmp 47) 39 32 (.agg #[(.string ⟨#[]⟩), (.string ⟨#[]⟩), (.slice none 0 0), (.string ⟨#[]⟩), (.int .u32 0), (.int .i64 0), (.int .u64 0), (.int .u64 0), (.bool false), (.bool false), (.bool false), (.bool false)]) 112 rfl Tryd.underlying39 info32 rfl (by decide) (by omega) u6 x6_2 (⟨qAy, qAz, qAw, qBA, qBB, qBC, qBD, qBE, qBF, qBG, qBH, qBI⟩ : S32) [.string qAy, .string qAz, .slice qBn qAw.length qBo, .string qBA, .int .u32 qBB, .int .i64 qBC, .int .u64 qBD, .int .u64 qBE, .bool qBF, .bool qBG, .bool qBH, .bool qBI] (fun k_ => some k_ ≠ (.slice qc qK.length qZ : Value).ownBlock) (fun k_ => some k_ = (.slice qBn qAw.length qBo : Value).ownBlock) rfl rfl ?aP (fun k_ hk_ => ((Kd.R_mono (ok' := fun k_ => ((fun k_ => some k_ ≠ (.slice qc qK.length qZ : Value).ownBlock)) k_ ∧ some k_ ≠ (u6 : Value).ownBlock) (Kd.R_apart' (qBK.out) (Kd.S_typed HO_6.out) (by decide)) (fun k_ hk => ⟨hk.1.2, hk.2⟩))).1 k_ hk_.symm) ?aF ?aO ?aB ?aS ?aL ?_; (case aP => exact k32_mkM _ _ _ (⟨qAy, qAz, qAw, qBA, qBB, qBC, qBD, qBE, qBF, qBG, qBH, qBI⟩ : S32) (Kd.R_mono (Kd.R_tight rfl (Kd.R_mono (ok' := fun k_ => ((fun k_ => some k_ ≠ (.slice qc qK.length qZ : Value).ownBlock)) k_ ∧ some k_ ≠ (u6 : Value).ownBlock) (Kd.R_apart' (qBK.out) (Kd.S_typed HO_6.out) (by decide)) (fun k_ hk => ⟨hk.1.2, hk.2⟩))) (fun _ h_ => h_))); (case aB => exact bBhy11); (case aF => exact (fun k_ hk => Kd.fresh' (Kd.R_lt (by (with_reducible repeat (first | apply rA | apply rN | apply rD)); exact qR.out)) k_ hk)); (case aO => exact (by (with_reducible repeat (first | apply Kd.S_alloc | apply Kd.S_drewN | apply Kd.S_drew)); exact Kd.S_mono HO_6.out (fun k_ hk => ⟨hk.1.2, fun e_ => hk.2 e_⟩))); (case aS => exact (below_size bBhy11)); (case aL => have := qBs.out; omega); intro v388 w28 ho hb hg hat; rw [← qBt.out] at ho; (first | have n0_ := M0 (IsS49.grownT sS1hy11 hg (Kd.S_typed (by (with_reducible repeat (first | apply Kd.S_alloc | apply Kd.S_drewN | apply Kd.S_drew)); exact HO_6.out)) (by decide) (by decide)) | have n0_ := M0 True.intro); (first | have n1_ := M0 (Kd.R_over' (by (with_reducible repeat (first | apply rA | apply rN | apply rD)); exact qR.out) (Kd.S_typed (by (with_reducible repeat (first | apply Kd.S_alloc | apply Kd.S_drewN | apply Kd.S_drew)); exact HO_6.out)) (by decide) hg) | have n1_ := M0 True.intro); (first | have n2_ := M0 (blk_grown (g := qE) (o := .cells #[.string qO, .string qQ, .slice qc qK.length qZ, .string qW, .int .u32 qY, .int .i64 qb, .int .u64 qf, .int .u64 qh, .bool qi, .bool qj, .bool ql, .bool qn] 27 (0, 0)) (by (with_reducible repeat (first | refine bN ?_ _ | refine bD ?_ | refine bA ?_ _)); exact qN.out) hg (Kd.S_ne HO_6.out qN.out (by decide))) | have n2_ := M0 True.intro); (first | have n3_ := M0 (hb) | have n3_ := M0 True.intro); (first | have n4_ := M0 (ho) | have n4_ := M0 True.intro); clear qC; clear qR; clear qN; clear HB; clear HO_6; clear qBK; have qC := n0_; have qR := n1_; have qN := n2_; have HB := n3_; have qBu := n4_; clear n0_ n1_ n2_ n3_ n4_; clear ho hb hg hat))
           go_roundg k2
           case measure => have := HJ4.out; have := HK2.out; omega
           case rel => exact ⟨(y387), (wrap64 (x7_2 + 1)), (qo), (by first | rfl | (simp; done) | (simp [*]; done)), H', ⟨by have := HJ4.out; have := HK2.out; omega⟩, ⟨by (with_reducible repeat (first | apply Kd.S_alloc | apply Kd.S_drewN | apply Kd.S_drew)); exact Kd.S_mono qBu.out (fun _ hk => trivial)⟩, ⟨sS1hy11⟩, ⟨bBhy11⟩⟩
          ·rw [if_neg c21] at H
           exact absurd H (by simp)
         ·replace c19 := Bool.eq_false_iff.mpr c19
          subst c19
          have H1 : (cellaretlaw18_ParsePieces.j2 k2 a0 l1 x6_2) = some r := by rw [if_neg (show ¬ (false = true) by decide)] at H; exact H
          clear H
          have H := H1
          clear H1
          have H' := M0 H
          clear H
          go_wp2_with (first | ((with_reducible refine gate_callee (f := 13) rfl ?_); refine goesL_ (some 39) rfl rfl Tryd.func13 (by kernel_rfl) rfl #[.pointer (some ⟨g351, 0, none⟩)] rfl (by (try simp only [List.map_toArray, List.map_cons, List.map_nil]); first | done | rfl | (simp only [List.length_drop, List.length_take]; rfl)) ?_; (with_reducible refine (parse_Next.calls k2 g351 x352000_2 qO qQ qK qW qY qb qf qh qi qj ql qn false qo w _ ?side1 ?side2 ?side3 A18.out).mono ?_); (case side1 => exact sS1hy11); (case side2 => exact bBhy11); (case side3 => exact HLD.below bBhy11); rintro e w30 ⟨v359, rfl, ho0, hi, hb, hk⟩; refine ⟨_, rfl, ?_⟩; (first | have n0_ := M0 (Kd.S_mono (Kd.S_told (Kd.S_oldK (IsS49.apartS (show IsS49 w _ g351 x352000_2 from sS1hy11) (by (with_reducible repeat (first | apply Kd.S_alloc | apply Kd.S_drewN | apply Kd.S_drew)); exact HO_6.out) (by decide)) hk) (Kd.R_base ho0)) (fun _ h_ => h_.1)) | have n0_ := M0 True.intro); (first | have n1_ := M0 (Kd.R_lower ho0 (below_size bBhy11)) | have n1_ := M0 True.intro); (first | have n2_ := M0 (hb) | have n2_ := M0 True.intro); (first | have n3_ := M0 (hi) | have n3_ := M0 True.intro); clear HO_6; clear HB; clear qC; have HO_6 := n0_; have qR := n1_; have HB := n2_; have qC := n3_; clear n0_ n1_ n2_ n3_; (try clear hb); (try clear hb2); (try clear hk); (try clear hi); (try clear ho0)) | ((with_reducible refine gate_dst (N := 8) rfl ?_); (try (refine gate_guard (by rfl) ?_; dsimp only)); refine box_event ?hg (N := 8) ?hd (cs := #[.string (⟨#[]⟩ : ByteArray), .string (⟨#[]⟩ : ByteArray), .slice none 0 0, .string (⟨#[]⟩ : ByteArray), .int .u32 0, .int .i64 0, .int .u64 0, .int .u64 0, .bool false, .bool false, .bool false, .bool false]) (t := 27) ?hr ?_; (case hd => rfl); (case hg => rfl); (case hr => first | (go_simp; done) | (go_simp; rfl)); intro qE hg w31 hbox hb; (first | have n0_ := M0 (Kd.S_below (by (with_reducible repeat (first | apply Kd.S_alloc | apply Kd.S_drewN | apply Kd.S_drew)); exact HO_6.out) hb) | have n0_ := M0 True.intro); (first | have n1_ := M0 (Kd.R_below (by (with_reducible repeat (first | apply rA | apply rN | apply rD)); exact qR.out) hb) | have n1_ := M0 True.intro); (first | have n2_ := M0 (IsS49.below sS1hy11 hb) | have n2_ := M0 True.intro); (first | have n3_ := M0 (below_step bBhy11 hb) | have n3_ := M0 True.intro); (first | have n4_ := M0 (hbox) | have n4_ := M0 True.intro); (first | have n5_ := M0 ((by rw [hg]; exact (below_size bBhy11) : w.heap.size ≤ qE)) | have n5_ := M0 True.intro); (first | have n6_ := M0 ((by rw [hg]; exact (below_size bBhy11) : w.heap.size ≤ qE)) | have n6_ := M0 True.intro); (first | have n7_ := M0 ((by rw [hg]; exact Nat.ne_of_lt (IsS49.lt (show IsS49 w _ g351 qo from sS1hy11)) : g351 ≠ qE)) | have n7_ := M0 True.intro); (first | have n8_ := M0 ((by rw [hg]; exact Nat.ne_of_gt (IsS49.lt (show IsS49 w _ g351 qo from sS1hy11)) : qE ≠ g351)) | have n8_ := M0 True.intro); clear HO_6; clear qR; clear qC; clear HB; have HO_6 := n0_; have qR := n1_; have qC := n2_; have HB := n3_; have qN := n4_; have GW372 := n5_; have qp := n6_; have qm := n7_; have qAC := n8_; clear n0_ n1_ n2_ n3_ n4_ n5_ n6_ n7_ n8_; clear hb hbox hg; have qDN := qAC.out; have qDO := qm.out; obtain ⟨qAa, qAb, qAc, qAd, qAe, qAf, qAg, qAh, qAi, qAj, qx, qy⟩ := celL qN.out; obtain ⟨qAk, qAl, qAm, qAn, qAo, qAp, qAq, qAr, qAs, qAt, qz, qAA⟩ := froZ qN.out; obtain ⟨qCA, qCB, qCC⟩ := Kd.R_slice qR.out; subst qCC))
          go_meet
          case rel => exact ⟨_, (x6_2), H', ⟨by have := HJ4.out; have := HK2.out; first | omega | exact Nat.le_refl _⟩, ⟨by (with_reducible repeat (first | apply Kd.S_alloc | apply Kd.S_drewN | apply Kd.S_drew)); exact Kd.S_mono (S_far12 qE (Kd.S_types HO_6.out qN.out (by decide)) (.string qO) (.string qQ) (.slice qCA qK.length qCB) (.string qW) (.int .u32 qY) (.int .i64 qb) (.int .u64 qf) (.int .u64 qh) (.bool qi) (.bool qj) (.bool ql) (.bool qn)) (fun _ hk => trivial)⟩, ⟨bBhy11⟩⟩
        ·rw [if_neg c17] at H
         have c17b0 : decide (x7_2 < 5000) = false := decide_eq_false c17
         clear c17
         (first | rw [c17b0] | (simp only [i64_w, i32_w]; rw [c17b0]) | skip)
         have H' := M0 H
         clear H
         go_wp2
         go_meet
         case rel => exact ⟨_, (x6_2), H', ⟨by have := HJ4.out; have := HK2.out; first | omega | exact Nat.le_refl _⟩, ⟨by (with_reducible repeat (first | apply Kd.S_alloc | apply Kd.S_drewN | apply Kd.S_drew)); exact HO_6.out⟩, ⟨bBhy11⟩⟩
     case rest =>
      clear HC12
      try clear c1
      try clear c2
      try clear p2
      try clear c3
      try clear c4
      try clear c6
      try clear p6
      try clear c7
      try clear c7b0
      try clear c7b1
      try clear c8
      try clear c10
      try clear c11
      try clear c12
      try clear c13
      try clear c17
      try clear c17b0
      try clear c19
      try clear c21
      try clear c24
      try clear c32
      try clear qAG
      try clear qAH
      try clear qt
      try clear qu
      try clear qAI
      try clear qAJ
      try clear qAK
      try clear qAL
      try clear qAM
      try clear qAN
      try clear qAO
      try clear qAP
      try clear qAa
      try clear qAb
      try clear qx
      try clear qy
      try clear qAc
      try clear qAd
      try clear qAe
      try clear qAf
      try clear qAg
      try clear qAh
      try clear qAi
      try clear qAj
      try clear qAQ
      try clear qAR
      try clear qv
      try clear qw
      try clear qAS
      try clear qAT
      try clear qAU
      try clear qAV
      try clear qAW
      try clear qAX
      try clear qAY
      try clear qAZ
      try clear qAk
      try clear qAl
      try clear qz
      try clear qAA
      try clear qAm
      try clear qAn
      try clear qAo
      try clear qAp
      try clear qAq
      try clear qAr
      try clear qAs
      try clear qAt
      try clear p2
      obtain ⟨kq, x6_11, HA, HJ11, HO_6, HB⟩ := hcut
      cases kq with
      | zero => exact absurd HA.out (by simp [cellaretlaw18_ParsePieces.j2])
      | succ kj11 =>
       have H := HA.out
       clear HA
       simp only [cellaretlaw18_ParsePieces.j2] at H
       replace H := Option.bind_eq_some_iff.mp H
       obtain ⟨qBl, A350, H⟩ := H
       replace H : (cellaretlaw18_ParsePieces.l1 kj11 a0 l1 x6_11 0 0 0 qBl) = some r := H
       have A35 := M0 A350
       clear A350
       have H' := M0 H
       clear H
       go_wp2_with (first | ((with_reducible refine gate_callee (f := 11) rfl ?_); refine goesL_ (some 49) rfl rfl Tryd.func11 (by kernel_rfl) rfl #[] rfl (by (try simp only [List.map_toArray, List.map_cons, List.map_nil]); first | done | rfl | (simp only [List.length_drop, List.length_take]; rfl)) ?_; (with_reducible refine (parse_New.calls  qBl w _ ?side1 ?side2 A35.out).mono ?_); (case side1 => exact bBhy11); (case side2 => exact HLD.below bBhy11); rintro e w36 ⟨g391, rfl, hi, hb, hb2⟩; refine ⟨_, rfl, ?_⟩; (first | have n0_ := M0 (Kd.S_below (by (with_reducible repeat (first | apply Kd.S_alloc | apply Kd.S_drewN | apply Kd.S_drew)); exact HO_6.out) hb2) | have n0_ := M0 True.intro); (first | have n1_ := M0 (hb) | have n1_ := M0 True.intro); (first | have n2_ := M0 (hi) | have n2_ := M0 True.intro); clear HO_6; clear HB; have HO_6 := n0_; have HB := n1_; have qA := n2_; clear n0_ n1_ n2_; (try clear hb); (try clear hb2); (try clear hk); (try clear hi)))
       go_loopg [11, 12, 13] kj11 (fun kq v11 v12 v13 w' => ∃ (x11_3 : Int) (x12_3 : Int) (x13_3 : Int) (x392000_3 : PS), v11 = .int .i64 x11_3 ∧ v12 = .int .i64 x12_3 ∧ v13 = .int .i64 x13_3 ∧ Aside0 (cellaretlaw18_ParsePieces.l1 kq a0 l1 x6_11 x11_3 x12_3 x13_3 x392000_3 = some r) ∧ Aside0 (kq ≤ kj11) ∧ Aside0 (Kd.S k32 32 w' w.heap.size (fun _ => True) u6 x6_11) ∧ Aside0 (IsS49 w w' g391 x392000_3) ∧ Aside0 (Below w.heap.size w w'))
       case atStart => exact ⟨(0), (0), (0), (qBl), (by first | rfl | (simp; done) | (simp [*]; done)), (by first | rfl | (simp; done) | (simp [*]; done)), (by first | rfl | (simp; done) | (simp [*]; done)), H', ⟨Nat.le_refl _⟩, ⟨by (with_reducible repeat (first | apply Kd.S_alloc | apply Kd.S_drewN | apply Kd.S_drew)); exact HO_6.out⟩, ⟨sS0hy11⟩, ⟨bBhy11⟩⟩
       case round =>
        clear H'
        try clear c1
        try clear c2
        try clear p2
        try clear c3
        try clear c4
        try clear c6
        try clear p6
        try clear c7
        try clear c7b0
        try clear c7b1
        try clear c8
        try clear c10
        try clear c11
        try clear c12
        try clear c13
        try clear c17
        try clear c17b0
        try clear c19
        try clear c21
        try clear c24
        try clear c32
        try clear qAG
        try clear qAH
        try clear qt
        try clear qu
        try clear qAI
        try clear qAJ
        try clear qAK
        try clear qAL
        try clear qAM
        try clear qAN
        try clear qAO
        try clear qAP
        try clear qAa
        try clear qAb
        try clear qx
        try clear qy
        try clear qAc
        try clear qAd
        try clear qAe
        try clear qAf
        try clear qAg
        try clear qAh
        try clear qAi
        try clear qAj
        try clear qAQ
        try clear qAR
        try clear qv
        try clear qw
        try clear qAS
        try clear qAT
        try clear qAU
        try clear qAV
        try clear qAW
        try clear qAX
        try clear qAY
        try clear qAZ
        try clear qAk
        try clear qAl
        try clear qz
        try clear qAA
        try clear qAm
        try clear qAn
        try clear qAo
        try clear qAp
        try clear qAq
        try clear qAr
        try clear qAs
        try clear qAt
        try clear p2
        try clear p6
        obtain ⟨x11_3, x12_3, x13_3, x392000_3, rfl, rfl, rfl, HA, HK3, HO_6, qA, HB⟩ := hrel
        cases gk with
        | zero => exact absurd HA.out (by simp [cellaretlaw18_ParsePieces.l1])
        | succ k3 =>
         have H := HA.out
         clear HA
         simp only [cellaretlaw18_ParsePieces.l1] at H
         by_cases c37 : x13_3 ≤ (l1.length : Int)
         ·rw [if_pos c37] at H
          have c37b0 : decide (x13_3 ≤ (l1.length : Int)) = true := decide_eq_true c37
          clear c37
          have HC38 := M0 H
          clear H
          go_upto_if 61 with (fail)
          go_cut [14] (fun v14 wc => ∃ (kq : Nat) (x14_37 : Int), v14 = .int .i64 x14_37 ∧ Aside0 (cellaretlaw18_ParsePieces.j4 kq a0 l1 x6_11 x11_3 x12_3 x13_3 x14_37 x392000_3 = some r) ∧ Aside0 (kq ≤ k3) ∧ Aside0 (Kd.S k32 32 wc w.heap.size (fun _ => True) u6 x6_11) ∧ Aside0 (IsS49 w wc g391 x392000_3) ∧ Aside0 (Below w.heap.size w wc))
          case first =>
           have H := HC38.out
           clear HC38
           by_cases c39 : x13_3 < (l1.length : Int)
           ·rw [if_pos c39] at H
            have c39b0 : decide (x13_3 < (l1.length : Int)) = true := decide_eq_true c39
            clear c39
            (first | rw [c39b0] | (simp only [i64_w, i32_w]; rw [c39b0]) | skip)
            by_cases c40 : 0 ≤ x13_3
            ·rw [if_pos c40] at H
             have c40b0 : decide (0 ≤ x13_3) = true := decide_eq_true c40
             clear c40
             by_cases c41 : (wrap64 ((wrap64 ((a0.size : Int) - x11_3)) + 1)) = 0
             ·rw [if_pos c41] at H
              exact absurd H (by simp)
             ·rw [if_neg c41] at H
              have c41b0 : ((wrap64 ((wrap64 ((a0.size : Int) - x11_3)) + 1)) == 0) = false := beq_eq_false_iff_ne.mpr c41
              have c41b1 : ((wrap64 ((wrap64 ((a0.size : Int) - x11_3)) + 1)) != 0) = true := bne_iff_ne.mpr c41
              have H' := M0 H
              clear H
              have p392 : 0 ≤ (x13_3 : Int) := of_decide_eq_true (by first | (with_reducible assumption) | assumption)
              have q392 : x13_3 < (l1.length : Int) := of_decide_eq_true (by first | (with_reducible assumption) | assumption)
              obtain ⟨qDP, e392, qr⟩ := Kd.at_int HR1.out x13_3 p392 q392
              cases e392
              replace qr := (HB.out.cell (World.block_lt_of_cell? w _ qr)).trans qr
              replace p392 := eq_true p392
              replace q392 := eq_true q392
              go_wp2
              go_meet
              case rel => exact ⟨_, (wrap64 (x11_3 + (Int.tmod (Go.bits .and .i64 (rd l1 x13_3) 4095) (wrap64 ((wrap64 ((a0.size : Int) - x11_3)) + 1))))), (by first | rfl | (simp; done) | (simp [*]; done)), H', ⟨by have := HJ4.out; have := HJ11.out; have := HK3.out; first | omega | exact Nat.le_refl _⟩, ⟨by (with_reducible repeat (first | apply Kd.S_alloc | apply Kd.S_drewN | apply Kd.S_drew)); exact HO_6.out⟩, ⟨sS0hy11⟩, ⟨bBhy11⟩⟩
            ·rw [if_neg c40] at H
             exact absurd H (by simp)
           ·rw [if_neg c39] at H
            have c39b0 : decide (x13_3 < (l1.length : Int)) = false := decide_eq_false c39
            clear c39
            (first | rw [c39b0] | (simp only [i64_w, i32_w]; rw [c39b0]) | skip)
            have H' := M0 H
            clear H
            go_wp2
            go_meet
            case rel => exact ⟨_, ((a0.size : Int)), (by first | rfl | (simp; done) | (simp [*]; done)), H', ⟨by have := HJ4.out; have := HJ11.out; have := HK3.out; first | omega | exact Nat.le_refl _⟩, ⟨by (with_reducible repeat (first | apply Kd.S_alloc | apply Kd.S_drewN | apply Kd.S_drew)); exact HO_6.out⟩, ⟨sS0hy11⟩, ⟨bBhy11⟩⟩
          case rest =>
           clear HC38
           try clear c1
           try clear c2
           try clear p2
           try clear c3
           try clear p3
           try clear q3
           try clear hx3
           try clear c4
           try clear c6
           try clear p6
           try clear c7
           try clear c7b0
           try clear c7b1
           try clear c8
           try clear c10
           try clear c11
           try clear c12
           try clear c13
           try clear c17
           try clear c17b0
           try clear c19
           try clear c21
           try clear c24
           try clear c32
           try clear c37
           try clear c37b0
           try clear c39
           try clear c39b0
           try clear p39
           try clear q39
           try clear qCD
           try clear c40
           try clear c40b0
           try clear c41
           try clear c41b0
           try clear c41b1
           try clear qAG
           try clear qAH
           try clear qt
           try clear qu
           try clear qAI
           try clear qAJ
           try clear qAK
           try clear qAL
           try clear qAM
           try clear qAN
           try clear qAO
           try clear qAP
           try clear qAa
           try clear qAb
           try clear qx
           try clear qy
           try clear qAc
           try clear qAd
           try clear qAe
           try clear qAf
           try clear qAg
           try clear qAh
           try clear qAi
           try clear qAj
           try clear qAQ
           try clear qAR
           try clear qv
           try clear qw
           try clear qAS
           try clear qAT
           try clear qAU
           try clear qAV
           try clear qAW
           try clear qAX
           try clear qAY
           try clear qAZ
           try clear qAk
           try clear qAl
           try clear qz
           try clear qAA
           try clear qAm
           try clear qAn
           try clear qAo
           try clear qAp
           try clear qAq
           try clear qAr
           try clear qAs
           try clear qAt
           try clear qr
           try clear p2
           try clear p392
           try clear p6
           try clear q392
           obtain ⟨kq, x14_37, rfl, HA, HJ37, HO_6, qA, HB⟩ := hcut
           cases kq with
           | zero => exact absurd HA.out (by simp [cellaretlaw18_ParsePieces.j4])
           | succ kj37 =>
            have H := HA.out
            clear HA
            simp only [cellaretlaw18_ParsePieces.j4] at H
            by_cases c42 : 0 ≤ x11_3
            ·rw [if_pos c42] at H
             have c42b0 := eq_true c42
             have c42b1 : decide (0 ≤ x11_3) = true := decide_eq_true c42
             clear c42
             by_cases c43 : x11_3 ≤ x14_37
             ·rw [if_pos c43] at H
              have c43b0 := eq_true c43
              have c43b1 : decide (x11_3 ≤ x14_37) = true := decide_eq_true c43
              clear c43
              by_cases c44 : x14_37 ≤ (a0.size : Int)
              ·rw [if_pos c44] at H
               have c44b0 := eq_true c44
               have c44b1 : decide (x14_37 ≤ (a0.size : Int)) = true := decide_eq_true c44
               clear c44
               replace H := Option.bind_eq_some_iff.mp H
               obtain ⟨qBY, A450, H⟩ := H
               replace H : ((parse_Feed.f x392000_3 qBY).bind fun qBL => (cellaretlaw18_ParsePieces.l2 kj37 a0 l1 x6_11 x14_37 x12_3 x13_3 0 qBL)) = some r := H
               have A45 := M0 A450
               clear A450
               replace H := Option.bind_eq_some_iff.mp H
               obtain ⟨qBL, A460, H⟩ := H
               replace H : (cellaretlaw18_ParsePieces.l2 kj37 a0 l1 x6_11 x14_37 x12_3 x13_3 0 qBL) = some r := H
               have A46 := M0 A460
               clear A460
               have H' := M0 H
               clear H
               go_wp2_with (first | ((with_reducible refine gate_dst (N := 80) rfl ?_); (refine conv_event rfl (N := 80) rfl 9 38 5 rfl Tryd.underlying9 Tryd.underlying38 Tryd.underlying5 (a0.extract (x11_3 : Int).toNat (x14_37 : Int).toNat) qBY rfl A45.out ?_); intro v394 w47 ho0 hb; (first | have n0_ := M0 (Kd.S_below (by (with_reducible repeat (first | apply Kd.S_alloc | apply Kd.S_drewN | apply Kd.S_drew)); exact HO_6.out) hb) | have n0_ := M0 True.intro); (first | have n1_ := M0 (Kd.V_lower (Kd.V_mono (ok' := fun k_ => some k_ ≠ (u6 : Value).ownBlock ∧ k_ ≠ g391) ho0 (fun k_ hk_ => ⟨(Kd.fresh' (Kd.S_lt (by (with_reducible repeat (first | apply Kd.S_alloc | apply Kd.S_drewN | apply Kd.S_drew)); exact HO_6.out)) k_ hk_), (IsS49.fresh sS0hy11 k_ hk_)⟩)) (below_size bBhy11)) | have n1_ := M0 True.intro); (first | have n2_ := M0 (IsS49.below sS0hy11 hb) | have n2_ := M0 True.intro); (first | have n3_ := M0 (below_step bBhy11 hb) | have n3_ := M0 True.intro); clear HO_6; clear qA; clear HB; have HO_6 := n0_; have qAu := n1_; have qA := n2_; have HB := n3_; clear n0_ n1_ n2_ n3_; (try clear hb); (try clear hb2); (try clear hk); (try clear hi); (try clear ho0); obtain ⟨qCE, qCF, qCG⟩ := Kd.V_slice qAu.out; subst qCG) | ((with_reducible refine gate_callee (f := 12) rfl ?_); refine goesL_ (some 81) rfl rfl Tryd.func12 (by kernel_rfl) rfl #[.pointer (some ⟨g391, 0, none⟩), .slice qCE qBY.length qCF] rfl (by (try simp only [List.map_toArray, List.map_cons, List.map_nil]); first | done | rfl | (simp only [List.length_drop, List.length_take]; rfl)) ?_; (with_reducible refine (parse_Feed.calls g391 x392000_3 _ _ qBY qBL w _ ?side1 ?side2 ?side5 ?side3 ?side4 A46.out).mono ?_); (case side1 => exact sS0hy11); (case side2 => exact bBhy11); (case side3 => repeat (first | exact (Kd.V_reads' qAu.out).2.2 | (with_reducible refine Kd.C_alloc ?_ _) | (with_reducible refine Kd.C_drewN ?_ _) | (with_reducible refine Kd.C_drew ?_))); (case side4 => exact (Kd.V_reads' qAu.out).2.1); (case side5 => exact HLD.below bBhy11); rintro e w49 ⟨rfl, hi, hb, hk⟩; refine ⟨_, rfl, ?_⟩; (first | have n0_ := M0 (Kd.S_mono (S_keepU (IsS49.apartS (show IsS49 w _ g391 x392000_3 from sS0hy11) (by (with_reducible repeat (first | apply Kd.S_alloc | apply Kd.S_drewN | apply Kd.S_drew)); exact HO_6.out) (by decide)) hk (fun _ h => h.2) (by decide)) (fun _ h => h.1)) | have n0_ := M0 True.intro); (first | have n1_ := M0 (Kd.V_mono (Kd.V_keep (Kd.V_mono (ok := fun k_ => (some k_ ≠ (u6 : Value).ownBlock ∧ k_ ≠ g391)) (by (with_reducible repeat (first | apply Kd.V_alloc | apply Kd.V_drewN | apply Kd.V_drew)); exact qAu.out) (fun k_ hk_ => (⟨hk_, hk_.2⟩ : _ ∧ k_ ≠ g391))) hk (fun _ h => h.2)) (fun _ h => h.1)) | have n1_ := M0 True.intro); (first | have n2_ := M0 (hb) | have n2_ := M0 True.intro); (first | have n3_ := M0 (hi) | have n3_ := M0 True.intro); clear HO_6; clear qAu; clear HB; clear qA; have HO_6 := n0_; have qAu := n1_; have HB := n2_; have qA := n3_; clear n0_ n1_ n2_ n3_; (try clear hb); (try clear hb2); (try clear hk); (try clear hi)))
               go_loopg [12, 15] kj37 (fun kq v12 v15 w' => ∃ (x12_5 : Int) (x15_5 : Int) (x392000_5 : PS), v12 = .int .i64 x12_5 ∧ v15 = .int .i64 x15_5 ∧ Aside0 (cellaretlaw18_ParsePieces.l2 kq a0 l1 x6_11 x14_37 x12_5 x13_3 x15_5 x392000_5 = some r) ∧ Aside0 (kq ≤ kj37) ∧ Aside0 (Kd.S k32 32 w' w.heap.size (fun _ => True) u6 x6_11) ∧ Aside0 (IsS49 w w' g391 x392000_5) ∧ Aside0 (Below w.heap.size w w'))
               case atStart => exact ⟨(x12_3), (0), (qBL), (by first | rfl | (simp; done) | (simp [*]; done)), (by first | rfl | (simp; done) | (simp [*]; done)), H', ⟨Nat.le_refl _⟩, ⟨by (with_reducible repeat (first | apply Kd.S_alloc | apply Kd.S_drewN | apply Kd.S_drew)); exact HO_6.out⟩, ⟨sS0hy11⟩, ⟨bBhy11⟩⟩
               case round =>
                clear H'
                try clear c1
                try clear c2
                try clear p2
                try clear c3
                try clear p3
                try clear q3
                try clear hx3
                try clear c4
                try clear c6
                try clear p6
                try clear c7
                try clear c7b0
                try clear c7b1
                try clear c8
                try clear c10
                try clear c11
                try clear c12
                try clear c13
                try clear c17
                try clear c17b0
                try clear c19
                try clear c21
                try clear c24
                try clear c32
                try clear c37
                try clear c37b0
                try clear c39
                try clear c39b0
                try clear p39
                try clear q39
                try clear qCD
                try clear c40
                try clear c40b0
                try clear c41
                try clear c41b0
                try clear c41b1
                try clear c42
                try clear c42b0
                try clear c42b1
                try clear c43
                try clear c43b0
                try clear c43b1
                try clear c44
                try clear c44b0
                try clear c44b1
                try clear qAG
                try clear qAH
                try clear qt
                try clear qu
                try clear qAI
                try clear qAJ
                try clear qAK
                try clear qAL
                try clear qAM
                try clear qAN
                try clear qAO
                try clear qAP
                try clear qAa
                try clear qAb
                try clear qx
                try clear qy
                try clear qAc
                try clear qAd
                try clear qAe
                try clear qAf
                try clear qAg
                try clear qAh
                try clear qAi
                try clear qAj
                try clear qAQ
                try clear qAR
                try clear qv
                try clear qw
                try clear qAS
                try clear qAT
                try clear qAU
                try clear qAV
                try clear qAW
                try clear qAX
                try clear qAY
                try clear qAZ
                try clear qAk
                try clear qAl
                try clear qz
                try clear qAA
                try clear qAm
                try clear qAn
                try clear qAo
                try clear qAp
                try clear qAq
                try clear qAr
                try clear qAs
                try clear qAt
                try clear qr
                try clear p2
                try clear p3
                try clear p39
                try clear p392
                try clear p6
                try clear q3
                try clear q39
                try clear q392
                obtain ⟨x12_5, x15_5, x392000_5, rfl, rfl, HA, HK5, HO_6, qA, HB⟩ := hrel
                cases gk with
                | zero => exact absurd HA.out (by simp [cellaretlaw18_ParsePieces.l2])
                | succ k5 =>
                 have H := HA.out
                 clear HA
                 simp only [cellaretlaw18_ParsePieces.l2] at H
                 by_cases c50 : x15_5 < 5000
                 ·rw [if_pos c50] at H
                  have c50b0 : decide (x15_5 < 5000) = true := decide_eq_true c50
                  clear c50
                  replace H := Option.bind_eq_some_iff.mp H
                  obtain ⟨⟨qH, qI, qG, qL, qM, qP, qS, qV, qX, qa, qd, qg, qBp, qk⟩, A510, H⟩ := H
                  replace H : (if qBp = true then (if x12_5 ≥ (x6_11.length : Int) then (some false) else ((cellaretref17_Cmd.f qH qI qG qL qM qP qS qV qX qa qd qg).bind fun bt414 => (if 0 ≤ x12_5 then (if x12_5 < (x6_11.length : Int) then ((cellaretref17_SameCmd.f k5 bt414.1 bt414.2.1 bt414.2.2.1 bt414.2.2.2.1 bt414.2.2.2.2.1 bt414.2.2.2.2.2.1 bt414.2.2.2.2.2.2.1 bt414.2.2.2.2.2.2.2.1 bt414.2.2.2.2.2.2.2.2.1 bt414.2.2.2.2.2.2.2.2.2.1 bt414.2.2.2.2.2.2.2.2.2.2.1 bt414.2.2.2.2.2.2.2.2.2.2.2 ((rd_T32 x6_11 x12_5).f0) ((rd_T32 x6_11 x12_5).f1) ((rd_T32 x6_11 x12_5).f2) ((rd_T32 x6_11 x12_5).f3) ((rd_T32 x6_11 x12_5).f4) ((rd_T32 x6_11 x12_5).f5) ((rd_T32 x6_11 x12_5).f6) ((rd_T32 x6_11 x12_5).f7) ((rd_T32 x6_11 x12_5).f8) ((rd_T32 x6_11 x12_5).f9) ((rd_T32 x6_11 x12_5).f10) ((rd_T32 x6_11 x12_5).f11)).bind fun qAD => (if qAD = true then (cellaretlaw18_ParsePieces.l2 k5 a0 l1 x6_11 x14_37 (wrap64 (x12_5 + 1)) x13_3 (wrap64 (x15_5 + 1)) qk) else (some false))) else (none)) else (none)))) else (cellaretlaw18_ParsePieces.l1 k5 a0 l1 x6_11 x14_37 x12_5 (wrap64 (x13_3 + 1)) qk)) = some r := H
                  have A51 := M0 A510
                  clear A510
                  by_cases c52 : qBp = true
                  ·subst c52
                   have H1 : (if x12_5 ≥ (x6_11.length : Int) then (some false) else ((cellaretref17_Cmd.f qH qI qG qL qM qP qS qV qX qa qd qg).bind fun bt414 => (if 0 ≤ x12_5 then (if x12_5 < (x6_11.length : Int) then ((cellaretref17_SameCmd.f k5 bt414.1 bt414.2.1 bt414.2.2.1 bt414.2.2.2.1 bt414.2.2.2.2.1 bt414.2.2.2.2.2.1 bt414.2.2.2.2.2.2.1 bt414.2.2.2.2.2.2.2.1 bt414.2.2.2.2.2.2.2.2.1 bt414.2.2.2.2.2.2.2.2.2.1 bt414.2.2.2.2.2.2.2.2.2.2.1 bt414.2.2.2.2.2.2.2.2.2.2.2 ((rd_T32 x6_11 x12_5).f0) ((rd_T32 x6_11 x12_5).f1) ((rd_T32 x6_11 x12_5).f2) ((rd_T32 x6_11 x12_5).f3) ((rd_T32 x6_11 x12_5).f4) ((rd_T32 x6_11 x12_5).f5) ((rd_T32 x6_11 x12_5).f6) ((rd_T32 x6_11 x12_5).f7) ((rd_T32 x6_11 x12_5).f8) ((rd_T32 x6_11 x12_5).f9) ((rd_T32 x6_11 x12_5).f10) ((rd_T32 x6_11 x12_5).f11)).bind fun qAD => (if qAD = true then (cellaretlaw18_ParsePieces.l2 k5 a0 l1 x6_11 x14_37 (wrap64 (x12_5 + 1)) x13_3 (wrap64 (x15_5 + 1)) qk) else (some false))) else (none)) else (none)))) = some r := by rw [if_pos rfl] at H; exact H
                   clear H
                   have H := H1
                   clear H1
                   by_cases c53 : x12_5 ≥ (x6_11.length : Int)
                   ·rw [if_pos c53] at H
                    exact absurd ((Option.some.inj H).trans hr_) (by decide)
                   ·rw [if_neg c53] at H
                    have c53b0 : decide ((x6_11.length : Int) ≤ x12_5) = false := decide_eq_false c53
                    clear c53
                    replace H := Option.bind_eq_some_iff.mp H
                    obtain ⟨⟨qBZ, qBa, qBb, qBc, qBd, qBe, qBf, qBg, qBh, qBi, qBj, qBk⟩, A620, H⟩ := H
                    replace H : (if 0 ≤ x12_5 then (if x12_5 < (x6_11.length : Int) then ((cellaretref17_SameCmd.f k5 qBZ qBa qBb qBc qBd qBe qBf qBg qBh qBi qBj qBk ((rd_T32 x6_11 x12_5).f0) ((rd_T32 x6_11 x12_5).f1) ((rd_T32 x6_11 x12_5).f2) ((rd_T32 x6_11 x12_5).f3) ((rd_T32 x6_11 x12_5).f4) ((rd_T32 x6_11 x12_5).f5) ((rd_T32 x6_11 x12_5).f6) ((rd_T32 x6_11 x12_5).f7) ((rd_T32 x6_11 x12_5).f8) ((rd_T32 x6_11 x12_5).f9) ((rd_T32 x6_11 x12_5).f10) ((rd_T32 x6_11 x12_5).f11)).bind fun qAD => (if qAD = true then (cellaretlaw18_ParsePieces.l2 k5 a0 l1 x6_11 x14_37 (wrap64 (x12_5 + 1)) x13_3 (wrap64 (x15_5 + 1)) qk) else (some false))) else (none)) else (none)) = some r := H
                    have A62 := M0 A620
                    clear A620
                    by_cases c63 : 0 ≤ x12_5
                    ·rw [if_pos c63] at H
                     have c63b0 : decide (0 ≤ x12_5) = true := decide_eq_true c63
                     clear c63
                     by_cases c64 : x12_5 < (x6_11.length : Int)
                     ·rw [if_pos c64] at H
                      have c64b0 : decide (x12_5 < (x6_11.length : Int)) = true := decide_eq_true c64
                      clear c64
                      replace H := Option.bind_eq_some_iff.mp H
                      obtain ⟨qAD, A650, H⟩ := H
                      replace H : (if qAD = true then (cellaretlaw18_ParsePieces.l2 k5 a0 l1 x6_11 x14_37 (wrap64 (x12_5 + 1)) x13_3 (wrap64 (x15_5 + 1)) qk) else (some false)) = some r := H
                      have A65 := M0 A650
                      clear A650
                      by_cases c66 : qAD = true
                      ·subst c66
                       have H1 : (cellaretlaw18_ParsePieces.l2 k5 a0 l1 x6_11 x14_37 (wrap64 (x12_5 + 1)) x13_3 (wrap64 (x15_5 + 1)) qk) = some r := by rw [if_pos rfl] at H; exact H
                       clear H
                       have H := H1
                       clear H1
                       have H' := M0 H
                       clear H
                       try go_wp2_with (first | ((with_reducible refine gate_callee (f := 13) rfl ?_); refine goesL_ (some 89) rfl rfl Tryd.func13 (by kernel_rfl) rfl #[.pointer (some ⟨g391, 0, none⟩)] rfl (by (try simp only [List.map_toArray, List.map_cons, List.map_nil]); first | done | rfl | (simp only [List.length_drop, List.length_take]; rfl)) ?_; (with_reducible refine (parse_Next.calls k5 g391 x392000_5 qH qI qG qL qM qP qS qV qX qa qd qg true qk w _ ?side1 ?side2 ?side3 A51.out).mono ?_); (case side1 => exact sS0hy11); (case side2 => exact bBhy11); (case side3 => exact HLD.below bBhy11); rintro e w67 ⟨v400, rfl, ho0, hi, hb, hk⟩; refine ⟨_, rfl, ?_⟩; (first | have n0_ := M0 (Kd.S_mono (Kd.S_told (Kd.S_oldK (IsS49.apartS (show IsS49 w _ g391 x392000_5 from sS0hy11) (by (with_reducible repeat (first | apply Kd.S_alloc | apply Kd.S_drewN | apply Kd.S_drew)); exact HO_6.out) (by decide)) hk) (Kd.R_base ho0)) (fun _ h_ => h_.1)) | have n0_ := M0 True.intro); (first | have n1_ := M0 (Kd.R_lower ho0 (below_size bBhy11)) | have n1_ := M0 True.intro); (first | have n2_ := M0 (hb) | have n2_ := M0 True.intro); (first | have n3_ := M0 (hi) | have n3_ := M0 True.intro); clear HO_6; clear HB; clear qA; have HO_6 := n0_; have qF := n1_; have HB := n2_; have qA := n3_; clear n0_ n1_ n2_ n3_; (try clear hb); (try clear hb2); (try clear hk); (try clear hi); (try clear ho0)) | ((with_reducible refine gate_dst (N := 16) rfl ?_); (try (refine gate_guard (by rfl) ?_; dsimp only)); refine box_event ?hg (N := 16) ?hd (cs := #[.string (⟨#[]⟩ : ByteArray), .string (⟨#[]⟩ : ByteArray), .slice none 0 0, .string (⟨#[]⟩ : ByteArray), .int .u32 0, .int .i64 0, .int .u64 0, .int .u64 0, .bool false, .bool false, .bool false, .bool false]) (t := 27) ?hr ?_; (case hd => rfl); (case hg => rfl); (case hr => first | (go_simp; done) | (go_simp; rfl)); intro qB hg w68 hbox hb; (first | have n0_ := M0 (Kd.S_below (by (with_reducible repeat (first | apply Kd.S_alloc | apply Kd.S_drewN | apply Kd.S_drew)); exact HO_6.out) hb) | have n0_ := M0 True.intro); (first | have n1_ := M0 (Kd.R_below (by (with_reducible repeat (first | apply rA | apply rN | apply rD)); exact qF.out) hb) | have n1_ := M0 True.intro); (first | have n2_ := M0 (IsS49.below sS0hy11 hb) | have n2_ := M0 True.intro); (first | have n3_ := M0 (below_step bBhy11 hb) | have n3_ := M0 True.intro); (first | have n4_ := M0 (hbox) | have n4_ := M0 True.intro); (first | have n5_ := M0 ((by rw [hg]; exact (below_size bBhy11) : w.heap.size ≤ qB)) | have n5_ := M0 True.intro); (first | have n6_ := M0 ((by rw [hg]; exact (below_size bBhy11) : w.heap.size ≤ qB)) | have n6_ := M0 True.intro); (first | have n7_ := M0 ((by rw [hg]; exact Nat.ne_of_lt (IsS49.lt (show IsS49 w _ g391 qk from sS0hy11)) : g391 ≠ qB)) | have n7_ := M0 True.intro); (first | have n8_ := M0 ((by rw [hg]; exact Nat.ne_of_gt (IsS49.lt (show IsS49 w _ g391 qk from sS0hy11)) : qB ≠ g391)) | have n8_ := M0 True.intro); clear HO_6; clear qF; clear qA; clear HB; have HO_6 := n0_; have qF := n1_; have qA := n2_; have HB := n3_; have qD := n4_; have GW413 := n5_; have qq := n6_; have qe := n7_; have qAE := n8_; clear n0_ n1_ n2_ n3_ n4_ n5_ n6_ n7_ n8_; clear hb hbox hg; have qDQ := qAE.out; have qDR := qe.out; obtain ⟨qCW, qCX, qCY, qCZ, qCa, qCb, qCc, qCd, qCe, qCf, qCH, qCI⟩ := celL qD.out; obtain ⟨qCg, qCh, qCi, qCj, qCk, qCl, qCm, qCn, qCo, qCp, qCJ, qCK⟩ := froZ qD.out; obtain ⟨qT, qU, qCL⟩ := Kd.R_slice qF.out; subst qCL))
                       (first | have n0_ : Aside0 (Kd.S k32 32 ((((((((((((w68.setCell ⟨qB, 0, none⟩ (.string qH)).setCell ⟨qB, 1, none⟩ (.string qI)).setCell ⟨qB, 2, none⟩ (.slice qT qG.length qU)).setCell ⟨qB, 3, none⟩ (.string qL)).setCell ⟨qB, 4, none⟩ (.int .u32 qM)).setCell ⟨qB, 5, none⟩ (.int .i64 qP)).setCell ⟨qB, 6, none⟩ (.int .u64 qS)).setCell ⟨qB, 7, none⟩ (.int .u64 qV)).setCell ⟨qB, 8, none⟩ (.bool qX)).setCell ⟨qB, 9, none⟩ (.bool qa)).setCell ⟨qB, 10, none⟩ (.bool qd)).setCell ⟨qB, 11, none⟩ (.bool qg)) w.heap.size (fun k_ => some k_ ≠ (.slice qT qG.length qU : Value).ownBlock) u6 x6_11) := ⟨by (with_reducible repeat (first | apply Kd.S_alloc | apply Kd.S_drewN | apply Kd.S_drew)); exact Kd.S_mono (S_far12 qB (Kd.S_types HO_6.out qD.out (by decide)) (.string qH) (.string qI) (.slice qT qG.length qU) (.string qL) (.int .u32 qM) (.int .i64 qP) (.int .u64 qS) (.int .u64 qV) (.bool qX) (.bool qa) (.bool qd) (.bool qg)) (fun _ hk => hk.1.2)⟩ | have n0_ := M0 True.intro)
                       (first | have n1_ : Aside0 (Kd.R Kd.string 9 ((((((((((((w68.setCell ⟨qB, 0, none⟩ (.string qH)).setCell ⟨qB, 1, none⟩ (.string qI)).setCell ⟨qB, 2, none⟩ (.slice qT qG.length qU)).setCell ⟨qB, 3, none⟩ (.string qL)).setCell ⟨qB, 4, none⟩ (.int .u32 qM)).setCell ⟨qB, 5, none⟩ (.int .i64 qP)).setCell ⟨qB, 6, none⟩ (.int .u64 qS)).setCell ⟨qB, 7, none⟩ (.int .u64 qV)).setCell ⟨qB, 8, none⟩ (.bool qX)).setCell ⟨qB, 9, none⟩ (.bool qa)).setCell ⟨qB, 10, none⟩ (.bool qd)).setCell ⟨qB, 11, none⟩ (.bool qg)) w.heap.size (fun _ => True) (.slice qT qG.length qU) qG) := ⟨by (with_reducible repeat (first | apply rA | apply rN | apply rD)); exact Kd.R_mono (R_far12 qB (Kd.R_types qF.out qD.out (by decide)) (.string qH) (.string qI) (.slice qT qG.length qU) (.string qL) (.int .u32 qM) (.int .i64 qP) (.int .u64 qS) (.int .u64 qV) (.bool qX) (.bool qa) (.bool qd) (.bool qg)) (fun _ hk => trivial)⟩ | have n1_ := M0 True.intro)
                       (first | have n2_ : Aside0 (((((((((((((w68.setCell ⟨qB, 0, none⟩ (.string qH)).setCell ⟨qB, 1, none⟩ (.string qI)).setCell ⟨qB, 2, none⟩ (.slice qT qG.length qU)).setCell ⟨qB, 3, none⟩ (.string qL)).setCell ⟨qB, 4, none⟩ (.int .u32 qM)).setCell ⟨qB, 5, none⟩ (.int .i64 qP)).setCell ⟨qB, 6, none⟩ (.int .u64 qS)).setCell ⟨qB, 7, none⟩ (.int .u64 qV)).setCell ⟨qB, 8, none⟩ (.bool qX)).setCell ⟨qB, 9, none⟩ (.bool qa)).setCell ⟨qB, 10, none⟩ (.bool qd)).setCell ⟨qB, 11, none⟩ (.bool qg)).heap[qB]? = some (.cells #[.string qH, .string qI, .slice qT qG.length qU, .string qL, .int .u32 qM, .int .i64 qP, .int .u64 qS, .int .u64 qV, .bool qX, .bool qa, .bool qd, .bool qg] 27 (0, 0))) := ⟨by (with_reducible repeat (first | refine bN ?_ _ | refine bD ?_ | refine bA ?_ _)); refine blk_put (cs := #[.string qH, .string qI, .slice qT qG.length qU, .string qL, .int .u32 qM, .int .i64 qP, .int .u64 qS, .int .u64 qV, .bool qX, .bool qa, .bool qd, .bool false]) ?_ 11 _ rfl; (with_reducible repeat (first | refine bN ?_ _ | refine bD ?_ | refine bA ?_ _)); refine blk_put (cs := #[.string qH, .string qI, .slice qT qG.length qU, .string qL, .int .u32 qM, .int .i64 qP, .int .u64 qS, .int .u64 qV, .bool qX, .bool qa, .bool false, .bool false]) ?_ 10 _ rfl; (with_reducible repeat (first | refine bN ?_ _ | refine bD ?_ | refine bA ?_ _)); refine blk_put (cs := #[.string qH, .string qI, .slice qT qG.length qU, .string qL, .int .u32 qM, .int .i64 qP, .int .u64 qS, .int .u64 qV, .bool qX, .bool false, .bool false, .bool false]) ?_ 9 _ rfl; (with_reducible repeat (first | refine bN ?_ _ | refine bD ?_ | refine bA ?_ _)); refine blk_put (cs := #[.string qH, .string qI, .slice qT qG.length qU, .string qL, .int .u32 qM, .int .i64 qP, .int .u64 qS, .int .u64 qV, .bool false, .bool false, .bool false, .bool false]) ?_ 8 _ rfl; (with_reducible repeat (first | refine bN ?_ _ | refine bD ?_ | refine bA ?_ _)); refine blk_put (cs := #[.string qH, .string qI, .slice qT qG.length qU, .string qL, .int .u32 qM, .int .i64 qP, .int .u64 qS, .int .u64 0, .bool false, .bool false, .bool false, .bool false]) ?_ 7 _ rfl; (with_reducible repeat (first | refine bN ?_ _ | refine bD ?_ | refine bA ?_ _)); refine blk_put (cs := #[.string qH, .string qI, .slice qT qG.length qU, .string qL, .int .u32 qM, .int .i64 qP, .int .u64 0, .int .u64 0, .bool false, .bool false, .bool false, .bool false]) ?_ 6 _ rfl; (with_reducible repeat (first | refine bN ?_ _ | refine bD ?_ | refine bA ?_ _)); refine blk_put (cs := #[.string qH, .string qI, .slice qT qG.length qU, .string qL, .int .u32 qM, .int .i64 0, .int .u64 0, .int .u64 0, .bool false, .bool false, .bool false, .bool false]) ?_ 5 _ rfl; (with_reducible repeat (first | refine bN ?_ _ | refine bD ?_ | refine bA ?_ _)); refine blk_put (cs := #[.string qH, .string qI, .slice qT qG.length qU, .string qL, .int .u32 0, .int .i64 0, .int .u64 0, .int .u64 0, .bool false, .bool false, .bool false, .bool false]) ?_ 4 _ rfl; (with_reducible repeat (first | refine bN ?_ _ | refine bD ?_ | refine bA ?_ _)); refine blk_put (cs := #[.string qH, .string qI, .slice qT qG.length qU, .string (⟨#[]⟩ : ByteArray), .int .u32 0, .int .i64 0, .int .u64 0, .int .u64 0, .bool false, .bool false, .bool false, .bool false]) ?_ 3 _ rfl; (with_reducible repeat (first | refine bN ?_ _ | refine bD ?_ | refine bA ?_ _)); refine blk_put (cs := #[.string qH, .string qI, .slice none 0 0, .string (⟨#[]⟩ : ByteArray), .int .u32 0, .int .i64 0, .int .u64 0, .int .u64 0, .bool false, .bool false, .bool false, .bool false]) ?_ 2 _ rfl; (with_reducible repeat (first | refine bN ?_ _ | refine bD ?_ | refine bA ?_ _)); refine blk_put (cs := #[.string qH, .string (⟨#[]⟩ : ByteArray), .slice none 0 0, .string (⟨#[]⟩ : ByteArray), .int .u32 0, .int .i64 0, .int .u64 0, .int .u64 0, .bool false, .bool false, .bool false, .bool false]) ?_ 1 _ rfl; (with_reducible repeat (first | refine bN ?_ _ | refine bD ?_ | refine bA ?_ _)); refine blk_put (cs := #[.string (⟨#[]⟩ : ByteArray), .string (⟨#[]⟩ : ByteArray), .slice none 0 0, .string (⟨#[]⟩ : ByteArray), .int .u32 0, .int .i64 0, .int .u64 0, .int .u64 0, .bool false, .bool false, .bool false, .bool false]) ?_ 0 _ rfl; (with_reducible repeat (first | refine bN ?_ _ | refine bD ?_ | refine bA ?_ _)); exact qD.out⟩ | have n2_ := M0 True.intro)
                       (first | have n3_ : Aside0 (IsS49 w ((((((((((((w68.setCell ⟨qB, 0, none⟩ (.string qH)).setCell ⟨qB, 1, none⟩ (.string qI)).setCell ⟨qB, 2, none⟩ (.slice qT qG.length qU)).setCell ⟨qB, 3, none⟩ (.string qL)).setCell ⟨qB, 4, none⟩ (.int .u32 qM)).setCell ⟨qB, 5, none⟩ (.int .i64 qP)).setCell ⟨qB, 6, none⟩ (.int .u64 qS)).setCell ⟨qB, 7, none⟩ (.int .u64 qV)).setCell ⟨qB, 8, none⟩ (.bool qX)).setCell ⟨qB, 9, none⟩ (.bool qa)).setCell ⟨qB, 10, none⟩ (.bool qd)).setCell ⟨qB, 11, none⟩ (.bool qg)) g391 qk) := ⟨sS0hy11⟩ | have n3_ := M0 True.intro)
                       (first | have n4_ : Aside0 (Below w.heap.size w ((((((((((((w68.setCell ⟨qB, 0, none⟩ (.string qH)).setCell ⟨qB, 1, none⟩ (.string qI)).setCell ⟨qB, 2, none⟩ (.slice qT qG.length qU)).setCell ⟨qB, 3, none⟩ (.string qL)).setCell ⟨qB, 4, none⟩ (.int .u32 qM)).setCell ⟨qB, 5, none⟩ (.int .i64 qP)).setCell ⟨qB, 6, none⟩ (.int .u64 qS)).setCell ⟨qB, 7, none⟩ (.int .u64 qV)).setCell ⟨qB, 8, none⟩ (.bool qX)).setCell ⟨qB, 9, none⟩ (.bool qa)).setCell ⟨qB, 10, none⟩ (.bool qd)).setCell ⟨qB, 11, none⟩ (.bool qg))) := ⟨bBhy11⟩ | have n4_ := M0 True.intro)
                       (try clear HO_6)
                       (try clear qF)
                       (try clear qD)
                       (try clear qA)
                       (try clear HB)
                       generalize ((((((((((((w68.setCell ⟨qB, 0, none⟩ (.string qH)).setCell ⟨qB, 1, none⟩ (.string qI)).setCell ⟨qB, 2, none⟩ (.slice qT qG.length qU)).setCell ⟨qB, 3, none⟩ (.string qL)).setCell ⟨qB, 4, none⟩ (.int .u32 qM)).setCell ⟨qB, 5, none⟩ (.int .i64 qP)).setCell ⟨qB, 6, none⟩ (.int .u64 qS)).setCell ⟨qB, 7, none⟩ (.int .u64 qV)).setCell ⟨qB, 8, none⟩ (.bool qX)).setCell ⟨qB, 9, none⟩ (.bool qa)).setCell ⟨qB, 10, none⟩ (.bool qd)).setCell ⟨qB, 11, none⟩ (.bool qg)) = w72 at n0_ n1_ n2_ n3_ n4_ ⊢
                       have HO_6 := n0_
                       have qF := n1_
                       have qD := n2_
                       have qA := n3_
                       have HB := n4_
                       clear n0_ n1_ n2_ n3_ n4_
                       (first | have n0_ := M0 (Kd.S_drew HO_6.out) | have n0_ := M0 True.intro)
                       (first | have n1_ := M0 (Kd.R_drew qF.out) | have n1_ := M0 True.intro)
                       (first | have n2_ := M0 (blk_drew qD.out) | have n2_ := M0 True.intro)
                       (first | have n3_ := M0 (IsS49.drew qA.out) | have n3_ := M0 True.intro)
                       (first | have n4_ := M0 (below_drew1 HB.out) | have n4_ := M0 True.intro)
                       clear HO_6
                       clear qF
                       clear qD
                       clear qA
                       clear HB
                       have HO_6 := n0_
                       have qF := n1_
                       have qD := n2_
                       have qA := n3_
                       have HB := n4_
                       clear n0_ n1_ n2_ n3_ n4_
                       obtain ⟨qDU, qDV, qBq⟩ := Kd.S_slice HO_6.out
                       (first | subst qBq | (injection qBq with f1_ f2_ f3_; have f4_ := f1_.symm; have f5_ := f3_.symm; clear f1_ f2_ f3_; subst f4_; subst f5_))
                       have p428 : 0 ≤ (x12_5 : Int) := of_decide_eq_true (by first | (with_reducible assumption) | assumption)
                       have q428 : x12_5 < (x6_11.length : Int) := of_decide_eq_true (by first | (with_reducible assumption) | assumption)
                       obtain ⟨qJ, A428_2, c428_2, e428, qBO, qBP, qBJ, qBQ, qBR, qBS, qBT, qBU, qBV, qBW, qBM, qBN, hl428_2, hi428_2⟩ := at_T32 (Kd.S_reads' HO_6.out).2.2 x12_5 p428 q428
                       cases e428
                       obtain ⟨ce428, hce428, hMe428, hcc428⟩ := Kd.S_get HO_6.out z32 x12_5 p428 (by first | exact q428 | exact of_decide_eq_true (by first | (with_reducible assumption) | assumption) | (have e_ := (Kd.S_reads' HO_6.out).1; omega))
                       obtain ⟨ve428_2, rfl, ge428_2⟩ := k32_openM hMe428
                       have hv428_2 := hcc428 2 _ rfl
                       rw [add_field _ _ 2 (by omega)] at hv428_2
                       replace hv428_2 := Option.some.inj (hv428_2.symm.trans qBJ)
                       rw [hv428_2] at ge428_2
                       have HL428_2 := M0 (show Kd.R Kd.string 9 _ _ _ _ ((rd_T32 x6_11 x12_5).f2) from ge428_2)
                       clear hv428_2 ge428_2
                       clear hcc428 hce428
                       have HR428_2 := M0 hi428_2
                       have HC428_2 := M0 hl428_2
                       clear hi428_2 hl428_2
                       replace p428 := eq_true p428
                       replace q428 := eq_true q428
                       refine start_ (n := 14) (S := fun w' => w'.cell? ⟨qB, 0, none⟩ = some (.string qH) ∧ w'.cell? ⟨qB, 1, none⟩ = some (.string qI) ∧ w'.cell? ⟨qB, 2, none⟩ = some (.slice qT qG.length qU) ∧ w'.cell? ⟨qB, 3, none⟩ = some (.string qL) ∧ w'.cell? ⟨qB, 4, none⟩ = some (.int .u32 qM) ∧ w'.cell? ⟨qB, 5, none⟩ = some (.int .i64 qP) ∧ w'.cell? ⟨qB, 6, none⟩ = some (.int .u64 qS) ∧ w'.cell? ⟨qB, 7, none⟩ = some (.int .u64 qV) ∧ w'.cell? ⟨qB, 8, none⟩ = some (.bool qX) ∧ w'.cell? ⟨qB, 9, none⟩ = some (.bool qa) ∧ w'.cell? ⟨qB, 10, none⟩ = some (.bool qd) ∧ w'.cell? ⟨qB, 11, none⟩ = some (.bool qg) ∧ w'.cell? (qJ.add ((x12_5).toNat * 12)) = some (.string ((rd_T32 x6_11 x12_5).f0)) ∧ w'.cell? ⟨(qJ.add ((x12_5).toNat * 12)).block, (qJ.add ((x12_5).toNat * 12)).off + 1, none⟩ = some (.string ((rd_T32 x6_11 x12_5).f1)) ∧ w'.cell? ⟨(qJ.add ((x12_5).toNat * 12)).block, (qJ.add ((x12_5).toNat * 12)).off + 2, none⟩ = some (.slice A428_2 ((rd_T32 x6_11 x12_5).f2).length c428_2) ∧ w'.cell? ⟨(qJ.add ((x12_5).toNat * 12)).block, (qJ.add ((x12_5).toNat * 12)).off + 3, none⟩ = some (.string ((rd_T32 x6_11 x12_5).f3)) ∧ w'.cell? ⟨(qJ.add ((x12_5).toNat * 12)).block, (qJ.add ((x12_5).toNat * 12)).off + 4, none⟩ = some (.int .u32 ((rd_T32 x6_11 x12_5).f4)) ∧ w'.cell? ⟨(qJ.add ((x12_5).toNat * 12)).block, (qJ.add ((x12_5).toNat * 12)).off + 5, none⟩ = some (.int .i64 ((rd_T32 x6_11 x12_5).f5)) ∧ w'.cell? ⟨(qJ.add ((x12_5).toNat * 12)).block, (qJ.add ((x12_5).toNat * 12)).off + 6, none⟩ = some (.int .u64 ((rd_T32 x6_11 x12_5).f6)) ∧ w'.cell? ⟨(qJ.add ((x12_5).toNat * 12)).block, (qJ.add ((x12_5).toNat * 12)).off + 7, none⟩ = some (.int .u64 ((rd_T32 x6_11 x12_5).f7)) ∧ w'.cell? ⟨(qJ.add ((x12_5).toNat * 12)).block, (qJ.add ((x12_5).toNat * 12)).off + 8, none⟩ = some (.bool ((rd_T32 x6_11 x12_5).f8)) ∧ w'.cell? ⟨(qJ.add ((x12_5).toNat * 12)).block, (qJ.add ((x12_5).toNat * 12)).off + 9, none⟩ = some (.bool ((rd_T32 x6_11 x12_5).f9)) ∧ w'.cell? ⟨(qJ.add ((x12_5).toNat * 12)).block, (qJ.add ((x12_5).toNat * 12)).off + 10, none⟩ = some (.bool ((rd_T32 x6_11 x12_5).f10)) ∧ w'.cell? ⟨(qJ.add ((x12_5).toNat * 12)).block, (qJ.add ((x12_5).toNat * 12)).off + 11, none⟩ = some (.bool ((rd_T32 x6_11 x12_5).f11))) (ds := []) #[false, false, false, false, false, false, false, false, false, false, false, false, false, false] (by kernel_rfl) rfl rfl ⟨(blk_cell qD.out 0).trans rfl, (blk_cell qD.out 1).trans rfl, (blk_cell qD.out 2).trans rfl, (blk_cell qD.out 3).trans rfl, (blk_cell qD.out 4).trans rfl, (blk_cell qD.out 5).trans rfl, (blk_cell qD.out 6).trans rfl, (blk_cell qD.out 7).trans rfl, (blk_cell qD.out 8).trans rfl, (blk_cell qD.out 9).trans rfl, (blk_cell qD.out 10).trans rfl, (blk_cell qD.out 11).trans rfl, qBO, qBP, qBJ, qBQ, qBR, qBS, qBT, qBU, qBV, qBW, qBM, qBN⟩ (fun hHeld => ?_); refine with_tabW cellaretlaw18_ParsePieces.tab30 cellaretlaw18_ParsePieces.bits30 (fun HT_ HW_ => ?_)
                       generalize w72.drew = w73 at HO_6 qF qD qA HB HL428_2 HR428_2 qBO qBP qBM qBN qBJ qBQ qBR qBS qBT qBU qBV qBW hHeld ⊢
                       refine pure_ (i := 0) (N := some 94) (v := ?_) (a' := ?_) #[true, false, false, false, false, false, false, false, false, false, false, false, false, false] rfl rfl (any_of HT_.out (by kernel_rfl)) (fun _ _ _ h => h) (Or.inl ⟨by rfl, ?_⟩) ?_ ?_
                       rotate_left
                       ·intro w'
                        go_simp
                        with_reducible rfl
                       rotate_left
                       ·simp only [Act.put, List.setIfInBounds_toArray, List.set_cons_zero, List.set_cons_succ, i64_w, i32_w]
                        rfl
                       refine pure_ (i := 1) (N := some 95) (v := ?_) (a' := ?_) #[true, true, false, false, false, false, false, false, false, false, false, false, false, false] rfl rfl (any_of HT_.out (by kernel_rfl)) (fun _ _ _ h => h) (Or.inl ⟨by rfl, ?_⟩) ?_ ?_
                       rotate_left
                       ·intro w'
                        go_simp
                        with_reducible rfl
                       rotate_left
                       ·simp only [Act.put, List.setIfInBounds_toArray, List.set_cons_zero, List.set_cons_succ, i64_w, i32_w]
                        rfl
                       refine pure_ (i := 2) (N := some 96) (v := ?_) (a' := ?_) #[true, true, true, false, false, false, false, false, false, false, false, false, false, false] rfl rfl (any_of HT_.out (by kernel_rfl)) (fun _ _ _ h => h) (Or.inl ⟨by rfl, ?_⟩) ?_ ?_
                       rotate_left
                       ·intro w'
                        go_simp
                        with_reducible rfl
                       rotate_left
                       ·simp only [Act.put, List.setIfInBounds_toArray, List.set_cons_zero, List.set_cons_succ, i64_w, i32_w]
                        rfl
                       refine pure_ (i := 3) (N := some 97) (v := ?_) (a' := ?_) #[true, true, true, true, false, false, false, false, false, false, false, false, false, false] rfl rfl (any_of HT_.out (by kernel_rfl)) (fun _ _ _ h => h) (Or.inl ⟨by rfl, ?_⟩) ?_ ?_
                       rotate_left
                       ·intro w'
                        go_simp
                        with_reducible rfl
                       rotate_left
                       ·simp only [Act.put, List.setIfInBounds_toArray, List.set_cons_zero, List.set_cons_succ, i64_w, i32_w]
                        rfl
                       refine pure_ (i := 4) (N := some 98) (v := ?_) (a' := ?_) #[true, true, true, true, true, false, false, false, false, false, false, false, false, false] rfl rfl (any_of HT_.out (by kernel_rfl)) (fun _ _ _ h => h) (Or.inl ⟨by rfl, ?_⟩) ?_ ?_
                       rotate_left
                       ·intro w'
                        go_simp
                        with_reducible rfl
                       rotate_left
                       ·simp only [Act.put, List.setIfInBounds_toArray, List.set_cons_zero, List.set_cons_succ, i64_w, i32_w]
                        rfl
                       refine pure_ (i := 7) (N := some 101) (v := ?_) (a' := ?_) #[true, true, true, true, true, false, false, true, false, false, false, false, false, false] rfl rfl (any_of HT_.out (by kernel_rfl)) (fun _ _ _ h => h) (Or.inl ⟨by rfl, ?_⟩) ?_ ?_
                       rotate_left
                       ·intro w'
                        go_simp
                        with_reducible rfl
                       rotate_left
                       ·simp only [Act.put, List.setIfInBounds_toArray, List.set_cons_zero, List.set_cons_succ, i64_w, i32_w]
                        rfl
                       refine pure_ (i := 8) (N := some 102) (v := ?_) (a' := ?_) #[true, true, true, true, true, false, false, true, true, false, false, false, false, false] rfl rfl (any_of HT_.out (by kernel_rfl)) (fun _ _ _ h => h) (Or.inl ⟨by rfl, ?_⟩) ?_ ?_
                       rotate_left
                       ·intro w'
                        go_simp
                        with_reducible rfl
                       rotate_left
                       ·simp only [Act.put, List.setIfInBounds_toArray, List.set_cons_zero, List.set_cons_succ, i64_w, i32_w]
                        rfl
                       refine pure_ (i := 9) (N := some 103) (v := ?_) (a' := ?_) #[true, true, true, true, true, false, false, true, true, true, false, false, false, false] rfl rfl (any_of HT_.out (by kernel_rfl)) (fun _ _ _ h => h) (Or.inl ⟨by rfl, ?_⟩) ?_ ?_
                       rotate_left
                       ·intro w'
                        go_simp
                        with_reducible rfl
                       rotate_left
                       ·simp only [Act.put, List.setIfInBounds_toArray, List.set_cons_zero, List.set_cons_succ, i64_w, i32_w]
                        rfl
                       refine take_ (i := 5) (N := some 99) (v := ?_) (a' := ?_) #[true, true, true, true, true, true, false, true, true, true, false, false, false, false] rfl rfl (take_ofW HT_.out HW_.out (by kernel_rfl)) (fun _ _ _ h => h) (Or.inl ⟨by rfl, ?_⟩) hHeld ?_ ?_
                       rotate_left
                       ·rintro w' ⟨s0, s1, s2, s3, s4, s5, s6, s7, s8, s9, s10, s11, s12, s13, s14, s15, s16, s17, s18, s19, s20, s21, s22, s23⟩
                        go_simp
                        with_reducible rfl
                       rotate_left
                       ·simp only [Act.put, List.setIfInBounds_toArray, List.set_cons_zero, List.set_cons_succ, i64_w, i32_w]
                        rfl
                       refine take_ (i := 10) (N := some 104) (v := ?_) (a' := ?_) #[true, true, true, true, true, true, false, true, true, true, true, false, false, false] rfl rfl (take_ofW HT_.out HW_.out (by kernel_rfl)) (fun _ _ _ h => h) (Or.inl ⟨by rfl, ?_⟩) hHeld ?_ ?_
                       rotate_left
                       ·rintro w' ⟨s0, s1, s2, s3, s4, s5, s6, s7, s8, s9, s10, s11, s12, s13, s14, s15, s16, s17, s18, s19, s20, s21, s22, s23⟩
                        go_simp
                        with_reducible rfl
                       rotate_left
                       ·simp only [Act.put, List.setIfInBounds_toArray, List.set_cons_zero, List.set_cons_succ, i64_w, i32_w]
                        rfl
                       refine one_ (i := 6) (N := some 100) #[true, true, true, true, true, true, true, true, true, true, true, false, false, false] rfl rfl (one_of HT_.out (by kernel_rfl)) (by decide) (fun K hK => ?_)
                       refine goes_ Tryd.func10 (by kernel_rfl) rfl #[.agg #[.string qH, .string qI, .slice qT qG.length qU, .string qL, .int .u32 qM, .int .i64 qP, .int .u64 qS, .int .u64 qV, .bool qX, .bool qa, .bool qd, .bool qg]] (by rfl) rfl rfl (by (try simp only [List.map_toArray, List.map_cons, List.map_nil]); first | done | rfl | (simp only [List.length_drop, List.length_take]; rfl)) ?_
                       with_reducible refine (cellaretref17_Cmd.calls qH qI _ _ qG qL qM qP qS qV qX qa qd qg qBZ qBa qBb qBc qBd qBe qBf qBg qBh qBi qBj qBk _ ?side1 ?side2 A62.out).mono ?_
                       (case side1 => repeat (first | exact (Kd.R_reads' qF.out).2.2 | (with_reducible refine Kd.C_alloc ?_ _) | (with_reducible refine Kd.C_drewN ?_ _) | (with_reducible refine Kd.C_drew ?_)))
                       (case side2 => exact (Kd.R_reads' qF.out).2.1)
                       rintro e w75 ⟨v417, rfl, ho0, hb⟩
                       have HS12_ := (hb.cell (World.block_lt_of_cell? _ _ (hHeld.2.2.2.2.2.2.2.2.2.2.2.2.1))).trans (hHeld.2.2.2.2.2.2.2.2.2.2.2.2.1)
                       have HS13_ := (hb.cell (World.block_lt_of_cell? _ _ (hHeld.2.2.2.2.2.2.2.2.2.2.2.2.2.1))).trans (hHeld.2.2.2.2.2.2.2.2.2.2.2.2.2.1)
                       have HS14_ := (hb.cell (World.block_lt_of_cell? _ _ (hHeld.2.2.2.2.2.2.2.2.2.2.2.2.2.2.1))).trans (hHeld.2.2.2.2.2.2.2.2.2.2.2.2.2.2.1)
                       have HS15_ := (hb.cell (World.block_lt_of_cell? _ _ (hHeld.2.2.2.2.2.2.2.2.2.2.2.2.2.2.2.1))).trans (hHeld.2.2.2.2.2.2.2.2.2.2.2.2.2.2.2.1)
                       have HS16_ := (hb.cell (World.block_lt_of_cell? _ _ (hHeld.2.2.2.2.2.2.2.2.2.2.2.2.2.2.2.2.1))).trans (hHeld.2.2.2.2.2.2.2.2.2.2.2.2.2.2.2.2.1)
                       have HS17_ := (hb.cell (World.block_lt_of_cell? _ _ (hHeld.2.2.2.2.2.2.2.2.2.2.2.2.2.2.2.2.2.1))).trans (hHeld.2.2.2.2.2.2.2.2.2.2.2.2.2.2.2.2.2.1)
                       have HS18_ := (hb.cell (World.block_lt_of_cell? _ _ (hHeld.2.2.2.2.2.2.2.2.2.2.2.2.2.2.2.2.2.2.1))).trans (hHeld.2.2.2.2.2.2.2.2.2.2.2.2.2.2.2.2.2.2.1)
                       have HS19_ := (hb.cell (World.block_lt_of_cell? _ _ (hHeld.2.2.2.2.2.2.2.2.2.2.2.2.2.2.2.2.2.2.2.1))).trans (hHeld.2.2.2.2.2.2.2.2.2.2.2.2.2.2.2.2.2.2.2.1)
                       have HS20_ := (hb.cell (World.block_lt_of_cell? _ _ (hHeld.2.2.2.2.2.2.2.2.2.2.2.2.2.2.2.2.2.2.2.2.1))).trans (hHeld.2.2.2.2.2.2.2.2.2.2.2.2.2.2.2.2.2.2.2.2.1)
                       have HS21_ := (hb.cell (World.block_lt_of_cell? _ _ (hHeld.2.2.2.2.2.2.2.2.2.2.2.2.2.2.2.2.2.2.2.2.2.1))).trans (hHeld.2.2.2.2.2.2.2.2.2.2.2.2.2.2.2.2.2.2.2.2.2.1)
                       have HS22_ := (hb.cell (World.block_lt_of_cell? _ _ (hHeld.2.2.2.2.2.2.2.2.2.2.2.2.2.2.2.2.2.2.2.2.2.2.1))).trans (hHeld.2.2.2.2.2.2.2.2.2.2.2.2.2.2.2.2.2.2.2.2.2.2.1)
                       have HS23_ := (hb.cell (World.block_lt_of_cell? _ _ (hHeld.2.2.2.2.2.2.2.2.2.2.2.2.2.2.2.2.2.2.2.2.2.2.2))).trans (hHeld.2.2.2.2.2.2.2.2.2.2.2.2.2.2.2.2.2.2.2.2.2.2.2)
                       refine ⟨_, rfl, ?_⟩
                       (first | have n0_ := M0 (Kd.S_elder' (by (with_reducible repeat (first | apply Kd.S_alloc | apply Kd.S_drewN | apply Kd.S_drew)); exact HO_6.out) (Kd.R_base ho0) hb) | have n0_ := M0 True.intro)
                       (first | have n1_ := M0 (Kd.R_elder' (by (with_reducible repeat (first | apply rA | apply rN | apply rD)); exact qF.out) (Kd.R_base ho0) hb) | have n1_ := M0 True.intro)
                       (first | have n2_ := M0 (Kd.R_elder' (by (with_reducible repeat (first | apply rA | apply rN | apply rD)); exact HL428_2.out) (Kd.R_base ho0) hb) | have n2_ := M0 True.intro)
                       (first | have n3_ := M0 (Kd.R_lower (Kd.R_new' (Kd.R_new' ho0 (Kd.R_lt (by (with_reducible repeat (first | apply rA | apply rN | apply rD)); exact qF.out))) (Kd.R_lt (by (with_reducible repeat (first | apply rA | apply rN | apply rD)); exact HL428_2.out))) (below_size bBhy11)) | have n3_ := M0 (Kd.R_lower ho0 (below_size bBhy11)) | have n3_ := M0 True.intro)
                       (first | have n4_ := M0 (IsS49.below sS0hy11 hb) | have n4_ := M0 True.intro)
                       (first | have n5_ := M0 (blk_below (g := qB) (o := .cells #[.string qH, .string qI, .slice qT qG.length qU, .string qL, .int .u32 qM, .int .i64 qP, .int .u64 qS, .int .u64 qV, .bool qX, .bool qa, .bool qd, .bool qg] 27 (0, 0)) (by (with_reducible repeat (first | refine bN ?_ _ | refine bD ?_ | refine bA ?_ _)); exact qD.out) hb) | have n5_ := M0 True.intro)
                       (first | have n6_ := M0 (Kd.C_below (by repeat (first | (with_reducible exact HR428_2.out) | (with_reducible refine Kd.C_alloc ?_ _) | (with_reducible refine Kd.C_drewN ?_ _) | (with_reducible refine Kd.C_drew ?_) | exact HR428_2.out)) hb) | have n6_ := M0 True.intro)
                       (first | have n7_ := M0 (below_step bBhy11 hb) | have n7_ := M0 True.intro)
                       clear HO_6
                       clear qF
                       clear HL428_2
                       clear qA
                       clear qD
                       clear HR428_2
                       clear HB
                       have HO_6 := n0_
                       have qF := n1_
                       have HL428_2 := n2_
                       have qAv := n3_
                       have qA := n4_
                       have qD := n5_
                       have HR428_2 := n6_
                       have HB := n7_
                       clear n0_ n1_ n2_ n3_ n4_ n5_ n6_ n7_
                       (try clear hb)
                       (try clear hb2)
                       (try clear hk)
                       (try clear hi)
                       (try clear ho0)
                       obtain ⟨qCM, qCN, qBr⟩ := Kd.R_slice qAv.out
                       (first | subst qBr | (injection qBr with f1_ f2_ f3_; have f4_ := f1_.symm; have f5_ := f3_.symm; clear f1_ f2_ f3_; subst f4_; subst f5_))
                       refine hK.out _ _ ⟨(blk_cell qD.out 0).trans rfl, (blk_cell qD.out 1).trans rfl, (blk_cell qD.out 2).trans rfl, (blk_cell qD.out 3).trans rfl, (blk_cell qD.out 4).trans rfl, (blk_cell qD.out 5).trans rfl, (blk_cell qD.out 6).trans rfl, (blk_cell qD.out 7).trans rfl, (blk_cell qD.out 8).trans rfl, (blk_cell qD.out 9).trans rfl, (blk_cell qD.out 10).trans rfl, (blk_cell qD.out 11).trans rfl, HS12_, HS13_, HS14_, HS15_, HS16_, HS17_, HS18_, HS19_, HS20_, HS21_, HS22_, HS23_⟩ (fun hHeld => ?_)
                       clear hK K
                       refine norm_ (a' := ?_) ?_ ?_
                       rotate_left
                       ·show Act.put _ (some 100) _ = _
                        simp only [Act.put, List.setIfInBounds_toArray, List.set_cons_zero, List.set_cons_succ, i64_w, i32_w]
                        rfl
                       refine one_ (i := 11) (N := some 105) #[true, true, true, true, true, true, true, true, true, true, true, true, false, false] rfl rfl (one_of HT_.out (by kernel_rfl)) (by decide) (fun K hK => ?_)
                       refine goes_ Tryd.func9 (by kernel_rfl) rfl #[.agg #[.string qBZ, .string qBa, .slice qCM qBb.length qCN, .string qBc, .int .u32 qBd, .int .i64 qBe, .int .u64 qBf, .int .u64 qBg, .bool qBh, .bool qBi, .bool qBj, .bool qBk], .agg #[.string ((rd_T32 x6_11 x12_5).f0), .string ((rd_T32 x6_11 x12_5).f1), .slice A428_2 ((rd_T32 x6_11 x12_5).f2).length c428_2, .string ((rd_T32 x6_11 x12_5).f3), .int .u32 ((rd_T32 x6_11 x12_5).f4), .int .i64 ((rd_T32 x6_11 x12_5).f5), .int .u64 ((rd_T32 x6_11 x12_5).f6), .int .u64 ((rd_T32 x6_11 x12_5).f7), .bool ((rd_T32 x6_11 x12_5).f8), .bool ((rd_T32 x6_11 x12_5).f9), .bool ((rd_T32 x6_11 x12_5).f10), .bool ((rd_T32 x6_11 x12_5).f11)]] (by rfl) rfl rfl (by (try simp only [List.map_toArray, List.map_cons, List.map_nil]); first | done | rfl | (simp only [List.length_drop, List.length_take]; rfl)) ?_
                       with_reducible refine (cellaretref17_SameCmd.calls k5 qBZ qBa _ _ qBb qBc qBd qBe qBf qBg qBh qBi qBj qBk ((rd_T32 x6_11 x12_5).f0) ((rd_T32 x6_11 x12_5).f1) _ _ ((rd_T32 x6_11 x12_5).f2) ((rd_T32 x6_11 x12_5).f3) ((rd_T32 x6_11 x12_5).f4) ((rd_T32 x6_11 x12_5).f5) ((rd_T32 x6_11 x12_5).f6) ((rd_T32 x6_11 x12_5).f7) ((rd_T32 x6_11 x12_5).f8) ((rd_T32 x6_11 x12_5).f9) ((rd_T32 x6_11 x12_5).f10) ((rd_T32 x6_11 x12_5).f11) true _ ?side1 ?side2 ?side3 ?side4 A65.out).mono ?_
                       (case side1 => repeat (first | exact (Kd.R_reads' qAv.out).2.2 | (with_reducible refine Kd.C_alloc ?_ _) | (with_reducible refine Kd.C_drewN ?_ _) | (with_reducible refine Kd.C_drew ?_)))
                       (case side2 => exact (Kd.R_reads' qAv.out).2.1)
                       (case side3 => repeat (first | exact (by repeat (first | (with_reducible exact HR428_2.out) | (with_reducible refine Kd.C_alloc ?_ _) | (with_reducible refine Kd.C_drewN ?_ _) | (with_reducible refine Kd.C_drew ?_) | exact HR428_2.out)) | (with_reducible refine Kd.C_alloc ?_ _) | (with_reducible refine Kd.C_drewN ?_ _) | (with_reducible refine Kd.C_drew ?_)))
                       (case side4 => exact HC428_2.out)
                       rintro e w77 ⟨rfl, hb⟩
                       have HS12_ := (hb.cell (World.block_lt_of_cell? _ _ (hHeld.2.2.2.2.2.2.2.2.2.2.2.2.1))).trans (hHeld.2.2.2.2.2.2.2.2.2.2.2.2.1)
                       have HS13_ := (hb.cell (World.block_lt_of_cell? _ _ (hHeld.2.2.2.2.2.2.2.2.2.2.2.2.2.1))).trans (hHeld.2.2.2.2.2.2.2.2.2.2.2.2.2.1)
                       have HS14_ := (hb.cell (World.block_lt_of_cell? _ _ (hHeld.2.2.2.2.2.2.2.2.2.2.2.2.2.2.1))).trans (hHeld.2.2.2.2.2.2.2.2.2.2.2.2.2.2.1)
                       have HS15_ := (hb.cell (World.block_lt_of_cell? _ _ (hHeld.2.2.2.2.2.2.2.2.2.2.2.2.2.2.2.1))).trans (hHeld.2.2.2.2.2.2.2.2.2.2.2.2.2.2.2.1)
                       have HS16_ := (hb.cell (World.block_lt_of_cell? _ _ (hHeld.2.2.2.2.2.2.2.2.2.2.2.2.2.2.2.2.1))).trans (hHeld.2.2.2.2.2.2.2.2.2.2.2.2.2.2.2.2.1)
                       have HS17_ := (hb.cell (World.block_lt_of_cell? _ _ (hHeld.2.2.2.2.2.2.2.2.2.2.2.2.2.2.2.2.2.1))).trans (hHeld.2.2.2.2.2.2.2.2.2.2.2.2.2.2.2.2.2.1)
                       have HS18_ := (hb.cell (World.block_lt_of_cell? _ _ (hHeld.2.2.2.2.2.2.2.2.2.2.2.2.2.2.2.2.2.2.1))).trans (hHeld.2.2.2.2.2.2.2.2.2.2.2.2.2.2.2.2.2.2.1)
                       have HS19_ := (hb.cell (World.block_lt_of_cell? _ _ (hHeld.2.2.2.2.2.2.2.2.2.2.2.2.2.2.2.2.2.2.2.1))).trans (hHeld.2.2.2.2.2.2.2.2.2.2.2.2.2.2.2.2.2.2.2.1)
                       have HS20_ := (hb.cell (World.block_lt_of_cell? _ _ (hHeld.2.2.2.2.2.2.2.2.2.2.2.2.2.2.2.2.2.2.2.2.1))).trans (hHeld.2.2.2.2.2.2.2.2.2.2.2.2.2.2.2.2.2.2.2.2.1)
                       have HS21_ := (hb.cell (World.block_lt_of_cell? _ _ (hHeld.2.2.2.2.2.2.2.2.2.2.2.2.2.2.2.2.2.2.2.2.2.1))).trans (hHeld.2.2.2.2.2.2.2.2.2.2.2.2.2.2.2.2.2.2.2.2.2.1)
                       have HS22_ := (hb.cell (World.block_lt_of_cell? _ _ (hHeld.2.2.2.2.2.2.2.2.2.2.2.2.2.2.2.2.2.2.2.2.2.2.1))).trans (hHeld.2.2.2.2.2.2.2.2.2.2.2.2.2.2.2.2.2.2.2.2.2.2.1)
                       have HS23_ := (hb.cell (World.block_lt_of_cell? _ _ (hHeld.2.2.2.2.2.2.2.2.2.2.2.2.2.2.2.2.2.2.2.2.2.2.2))).trans (hHeld.2.2.2.2.2.2.2.2.2.2.2.2.2.2.2.2.2.2.2.2.2.2.2)
                       refine ⟨_, rfl, ?_⟩
                       (first | have n0_ := M0 (Kd.S_below (by (with_reducible repeat (first | apply Kd.S_alloc | apply Kd.S_drewN | apply Kd.S_drew)); exact HO_6.out) hb) | have n0_ := M0 True.intro)
                       (first | have n1_ := M0 (Kd.R_below (by (with_reducible repeat (first | apply rA | apply rN | apply rD)); exact qF.out) hb) | have n1_ := M0 True.intro)
                       (first | have n2_ := M0 (Kd.R_below (by (with_reducible repeat (first | apply rA | apply rN | apply rD)); exact HL428_2.out) hb) | have n2_ := M0 True.intro)
                       (first | have n3_ := M0 (Kd.R_below (by (with_reducible repeat (first | apply rA | apply rN | apply rD)); exact qAv.out) hb) | have n3_ := M0 True.intro)
                       (first | have n4_ := M0 (IsS49.below sS0hy11 hb) | have n4_ := M0 True.intro)
                       (first | have n5_ := M0 (blk_below (g := qB) (o := .cells #[.string qH, .string qI, .slice qT qG.length qU, .string qL, .int .u32 qM, .int .i64 qP, .int .u64 qS, .int .u64 qV, .bool qX, .bool qa, .bool qd, .bool qg] 27 (0, 0)) (by (with_reducible repeat (first | refine bN ?_ _ | refine bD ?_ | refine bA ?_ _)); exact qD.out) hb) | have n5_ := M0 True.intro)
                       (first | have n6_ := M0 (Kd.C_below (by repeat (first | (with_reducible exact HR428_2.out) | (with_reducible refine Kd.C_alloc ?_ _) | (with_reducible refine Kd.C_drewN ?_ _) | (with_reducible refine Kd.C_drew ?_) | exact HR428_2.out)) hb) | have n6_ := M0 True.intro)
                       (first | have n7_ := M0 (below_step bBhy11 hb) | have n7_ := M0 True.intro)
                       clear HO_6
                       clear qF
                       clear HL428_2
                       clear qAv
                       clear qA
                       clear qD
                       clear HR428_2
                       clear HB
                       have HO_6 := n0_
                       have qF := n1_
                       have HL428_2 := n2_
                       have qAv := n3_
                       have qA := n4_
                       have qD := n5_
                       have HR428_2 := n6_
                       have HB := n7_
                       clear n0_ n1_ n2_ n3_ n4_ n5_ n6_ n7_
                       (try clear hb)
                       (try clear hb2)
                       (try clear hk)
                       (try clear hi)
                       refine hK.out _ _ ⟨(blk_cell qD.out 0).trans rfl, (blk_cell qD.out 1).trans rfl, (blk_cell qD.out 2).trans rfl, (blk_cell qD.out 3).trans rfl, (blk_cell qD.out 4).trans rfl, (blk_cell qD.out 5).trans rfl, (blk_cell qD.out 6).trans rfl, (blk_cell qD.out 7).trans rfl, (blk_cell qD.out 8).trans rfl, (blk_cell qD.out 9).trans rfl, (blk_cell qD.out 10).trans rfl, (blk_cell qD.out 11).trans rfl, HS12_, HS13_, HS14_, HS15_, HS16_, HS17_, HS18_, HS19_, HS20_, HS21_, HS22_, HS23_⟩ (fun hHeld => ?_)
                       clear hK K
                       refine norm_ (a' := ?_) ?_ ?_
                       rotate_left
                       ·show Act.put _ (some 105) _ = _
                        simp only [Act.put, List.setIfInBounds_toArray, List.set_cons_zero, List.set_cons_succ, i64_w, i32_w]
                        rfl
                       refine pure_ (i := 12) (N := some 106) (v := ?_) (a' := ?_) #[true, true, true, true, true, true, true, true, true, true, true, true, true, false] rfl rfl (any_of HT_.out (by kernel_rfl)) (fun _ _ _ h => h) (Or.inl ⟨by rfl, ?_⟩) ?_ ?_
                       rotate_left
                       ·intro w'
                        go_simp
                        with_reducible rfl
                       rotate_left
                       ·simp only [Act.put, List.setIfInBounds_toArray, List.set_cons_zero, List.set_cons_succ, i64_w, i32_w]
                        rfl
                       refine pure_ (i := 13) (N := some 107) (v := ?_) (a' := ?_) #[true, true, true, true, true, true, true, true, true, true, true, true, true, true] rfl rfl (any_of HT_.out (by kernel_rfl)) (fun _ _ _ h => h) (Or.inl ⟨by rfl, ?_⟩) ?_ ?_
                       rotate_left
                       ·intro w'
                        go_simp
                        with_reducible rfl
                       rotate_left
                       ·simp only [Act.put, List.setIfInBounds_toArray, List.set_cons_zero, List.set_cons_succ, i64_w, i32_w]
                        rfl
                       refine done_ (done_of HT_.out (by kernel_rfl)) ?_
                       try go_wp2
                       go_roundg k5
                       case measure => have := HJ4.out; have := HJ11.out; have := HK3.out; have := HJ37.out; have := HK5.out; omega
                       case rel => exact ⟨(wrap64 (x12_5 + 1)), (wrap64 (x15_5 + 1)), (qk), (by first | rfl | (simp; done) | (simp [*]; done)), (by first | rfl | (simp; done) | (simp [*]; done)), H', ⟨by have := HJ4.out; have := HJ11.out; have := HK3.out; have := HJ37.out; have := HK5.out; omega⟩, ⟨by (with_reducible repeat (first | apply Kd.S_alloc | apply Kd.S_drewN | apply Kd.S_drew)); exact Kd.S_mono HO_6.out (fun _ hk => trivial)⟩, ⟨sS0hy11⟩, ⟨bBhy11⟩⟩
                      ·replace c66 := Bool.eq_false_iff.mpr c66
                       subst c66
                       have H1 : (some false) = some r := by rw [if_neg (show ¬ (false = true) by decide)] at H; exact H
                       exact absurd ((Option.some.inj H1).trans hr_) (by decide)
                     ·rw [if_neg c64] at H
                      exact absurd H (by simp)
                    ·rw [if_neg c63] at H
                     exact absurd H (by simp)
                  ·replace c52 := Bool.eq_false_iff.mpr c52
                   subst c52
                   have H1 : (cellaretlaw18_ParsePieces.l1 k5 a0 l1 x6_11 x14_37 x12_5 (wrap64 (x13_3 + 1)) qk) = some r := by rw [if_neg (show ¬ (false = true) by decide)] at H; exact H
                   clear H
                   have H := H1
                   clear H1
                   have H' := M0 H
                   clear H
                   go_wp2_with (first | ((with_reducible refine gate_callee (f := 13) rfl ?_); refine goesL_ (some 89) rfl rfl Tryd.func13 (by kernel_rfl) rfl #[.pointer (some ⟨g391, 0, none⟩)] rfl (by (try simp only [List.map_toArray, List.map_cons, List.map_nil]); first | done | rfl | (simp only [List.length_drop, List.length_take]; rfl)) ?_; (with_reducible refine (parse_Next.calls k5 g391 x392000_5 qH qI qG qL qM qP qS qV qX qa qd qg false qk w _ ?side1 ?side2 ?side3 A51.out).mono ?_); (case side1 => exact sS0hy11); (case side2 => exact bBhy11); (case side3 => exact HLD.below bBhy11); rintro e w89 ⟨v400, rfl, ho0, hi, hb, hk⟩; refine ⟨_, rfl, ?_⟩; (first | have n0_ := M0 (Kd.S_mono (Kd.S_told (Kd.S_oldK (IsS49.apartS (show IsS49 w _ g391 x392000_5 from sS0hy11) (by (with_reducible repeat (first | apply Kd.S_alloc | apply Kd.S_drewN | apply Kd.S_drew)); exact HO_6.out) (by decide)) hk) (Kd.R_base ho0)) (fun _ h_ => h_.1)) | have n0_ := M0 True.intro); (first | have n1_ := M0 (Kd.R_lower ho0 (below_size bBhy11)) | have n1_ := M0 True.intro); (first | have n2_ := M0 (hb) | have n2_ := M0 True.intro); (first | have n3_ := M0 (hi) | have n3_ := M0 True.intro); clear HO_6; clear HB; clear qA; have HO_6 := n0_; have qF := n1_; have HB := n2_; have qA := n3_; clear n0_ n1_ n2_ n3_; (try clear hb); (try clear hb2); (try clear hk); (try clear hi); (try clear ho0)) | ((with_reducible refine gate_dst (N := 16) rfl ?_); (try (refine gate_guard (by rfl) ?_; dsimp only)); refine box_event ?hg (N := 16) ?hd (cs := #[.string (⟨#[]⟩ : ByteArray), .string (⟨#[]⟩ : ByteArray), .slice none 0 0, .string (⟨#[]⟩ : ByteArray), .int .u32 0, .int .i64 0, .int .u64 0, .int .u64 0, .bool false, .bool false, .bool false, .bool false]) (t := 27) ?hr ?_; (case hd => rfl); (case hg => rfl); (case hr => first | (go_simp; done) | (go_simp; rfl)); intro qB hg w90 hbox hb; (first | have n0_ := M0 (Kd.S_below (by (with_reducible repeat (first | apply Kd.S_alloc | apply Kd.S_drewN | apply Kd.S_drew)); exact HO_6.out) hb) | have n0_ := M0 True.intro); (first | have n1_ := M0 (Kd.R_below (by (with_reducible repeat (first | apply rA | apply rN | apply rD)); exact qF.out) hb) | have n1_ := M0 True.intro); (first | have n2_ := M0 (IsS49.below sS0hy11 hb) | have n2_ := M0 True.intro); (first | have n3_ := M0 (below_step bBhy11 hb) | have n3_ := M0 True.intro); (first | have n4_ := M0 (hbox) | have n4_ := M0 True.intro); (first | have n5_ := M0 ((by rw [hg]; exact (below_size bBhy11) : w.heap.size ≤ qB)) | have n5_ := M0 True.intro); (first | have n6_ := M0 ((by rw [hg]; exact (below_size bBhy11) : w.heap.size ≤ qB)) | have n6_ := M0 True.intro); (first | have n7_ := M0 ((by rw [hg]; exact Nat.ne_of_lt (IsS49.lt (show IsS49 w _ g391 qk from sS0hy11)) : g391 ≠ qB)) | have n7_ := M0 True.intro); (first | have n8_ := M0 ((by rw [hg]; exact Nat.ne_of_gt (IsS49.lt (show IsS49 w _ g391 qk from sS0hy11)) : qB ≠ g391)) | have n8_ := M0 True.intro); clear HO_6; clear qF; clear qA; clear HB; have HO_6 := n0_; have qF := n1_; have qA := n2_; have HB := n3_; have qD := n4_; have GW413 := n5_; have qq := n6_; have qe := n7_; have qAE := n8_; clear n0_ n1_ n2_ n3_ n4_ n5_ n6_ n7_ n8_; clear hb hbox hg; have qDS := qAE.out; have qDT := qe.out; obtain ⟨qCq, qCr, qCs, qCt, qCu, qCv, qCw, qCx, qCy, qCz, qCO, qCP⟩ := celL qD.out; obtain ⟨qDA, qDB, qDC, qDD, qDE, qDF, qDG, qDH, qDI, qDJ, qCQ, qCR⟩ := froZ qD.out; obtain ⟨qCS, qCT, qCU⟩ := Kd.R_slice qF.out; subst qCU))
                   go_roundg k5
                   case measure => have := HJ4.out; have := HJ11.out; have := HK3.out; have := HJ37.out; have := HK5.out; omega
                   case rel => exact ⟨(x14_37), (x12_5), (wrap64 (x13_3 + 1)), (qk), (by first | rfl | (simp; done) | (simp [*]; done)), (by first | rfl | (simp; done) | (simp [*]; done)), (by first | rfl | (simp; done) | (simp [*]; done)), H', ⟨by have := HJ4.out; have := HJ11.out; have := HK3.out; have := HJ37.out; have := HK5.out; omega⟩, ⟨by (with_reducible repeat (first | apply Kd.S_alloc | apply Kd.S_drewN | apply Kd.S_drew)); exact Kd.S_mono (S_far12 qB (Kd.S_types HO_6.out qD.out (by decide)) (.string qH) (.string qI) (.slice qCS qG.length qCT) (.string qL) (.int .u32 qM) (.int .i64 qP) (.int .u64 qS) (.int .u64 qV) (.bool qX) (.bool qa) (.bool qd) (.bool qg)) (fun _ hk => trivial)⟩, ⟨sS0hy11⟩, ⟨bBhy11⟩⟩
                 ·rw [if_neg c50] at H
                  have c50b0 : decide (x15_5 < 5000) = false := decide_eq_false c50
                  clear c50
                  have H' := M0 H
                  clear H
                  go_wp2
                  go_roundg k5
                  case measure => have := HJ4.out; have := HJ11.out; have := HK3.out; have := HJ37.out; have := HK5.out; omega
                  case rel => exact ⟨(x14_37), (x12_5), (wrap64 (x13_3 + 1)), (x392000_5), (by first | rfl | (simp; done) | (simp [*]; done)), (by first | rfl | (simp; done) | (simp [*]; done)), (by first | rfl | (simp; done) | (simp [*]; done)), H', ⟨by have := HJ4.out; have := HJ11.out; have := HK3.out; have := HJ37.out; have := HK5.out; omega⟩, ⟨by (with_reducible repeat (first | apply Kd.S_alloc | apply Kd.S_drewN | apply Kd.S_drew)); exact HO_6.out⟩, ⟨sS0hy11⟩, ⟨bBhy11⟩⟩
              ·rw [if_neg c44] at H
               exact absurd H (by simp)
             ·rw [if_neg c43] at H
              exact absurd H (by simp)
            ·rw [if_neg c42] at H
             exact absurd H (by simp)
         ·rw [if_neg c37] at H
          have c37b0 : decide (x13_3 ≤ (l1.length : Int)) = false := decide_eq_false c37
          clear c37
          obtain rfl := Option.some.inj H
          obtain ⟨qDW, qDX, qCV⟩ := Kd.S_slice HO_6.out
          subst qCV
          go_wp2
          go_ret
          exact ⟨by first | rfl | (simp [errW_none, errW_some] <;> rfl) | (simp [*, errW_none, errW_some] <;> rfl), bBhy11⟩
 ·replace c4 := Bool.eq_false_iff.mpr c4
  subst c4
  have H1 : (some false) = some r := by rw [if_neg (show ¬ (false = true) by decide)] at H; exact H
  exact absurd ((Option.some.inj H1).trans hr_) (by decide)
/-- THE ONE PURE STATEMENT of cellaretlaw18_ParsePieces: yours. -/
def cellaretlaw18_ParsePieces.Pure : Prop := ∀ (a0 : ByteArray) (l1 : List Int), a0.size ≤ 140737488351232 → l1.length ≤ maxLen → l1.length * 8 ≤ 140737488351232 → (∀ x ∈ l1, (Lit.int .i64 x).wf = true) → ∃ k, cellaretlaw18_ParsePieces.f k a0 l1 = some true
theorem cellaretlaw18_ParsePieces.walk (P : cellaretlaw18_ParsePieces.Pure) (a0 : ByteArray) (a1 : Option Addr) (len1 cap1 : Nat) (z1 : List Int) (w : World) (HLD : LaidA w) (w0 : a0.size ≤ 140737488351232) (w1 : (a1 = none ∧ len1 = 0 ∧ cap1 = 0 ∧ z1 = []) ∨ ∃ x, a1 = some x ∧ len1 ≤ cap1 ∧ cap1 ≤ maxLen ∧ z1.length = cap1 ∧ (∀ i, i < z1.length → w.cell? (x.add i) = some (.int .i64 (z1.getD i 0))) ∧ ∀ n ∈ z1, (Lit.int .i64 n).wf = true) (y1 : len1 * 8 ≤ 140737488351232) :
    Calls Tryd.prog 4 #[.string a0, .slice a1 len1 cap1] w fun e w' => e = .returned (.bool true) ∧ Below w.heap.size w w' := by
  obtain ⟨l1, rfl, hr1, hm1, hw1, hc1⟩ := ReadsInt.ofRowC w1
  obtain ⟨k, h⟩ := P a0 l1 w0 hm1 y1 hw1
  refine (cellaretlaw18_ParsePieces.calls k a0 _ _ l1 true rfl w HLD (Kd.C_of_reads (d := (0 : Int)) (h1 := fun _ => rfl) hr1) hc1 h).mono ?_
  rintro e w' ⟨rfl, hd⟩
  exact ⟨rfl, hd⟩

end Go.Proofs.YtfbhlbchmenloaaDoor.H
-- thinned
end
section
namespace Go.Proofs.YtfbhlbchmenloaaDoor.L
open Go
set_option linter.unusedSimpArgs false
set_option linter.unusedVariables false

/-- The words of a line, acc ahead of it. -/
def wl (acc : List UInt8) : List UInt8 → List (List UInt8)
  | [] => if acc = [] then [] else [acc]
  | c :: r => if c = 32 then (if acc = [] then wl [] r else acc :: wl [] r) else wl (acc ++ [c]) r
/-- The pieces between blanks. -/
def pc (acc : List UInt8) : List UInt8 → List (List UInt8)
  | [] => [acc]
  | c :: r => if c = 32 then acc :: pc [] r else pc (acc ++ [c]) r

theorem wl_pc (l : List UInt8) : ∀ acc, wl acc l = (pc acc l).filter (fun w => w ≠ []) := by
  induction l with
  | nil => intro acc; by_cases h : acc = [] <;> simp [wl, pc, h]
  | cons c r ih =>
    intro acc
    by_cases hc : c = 32
    · by_cases h : acc = [] <;> simp [wl, pc, h, hc, ih]
    · simp [wl, pc, hc, ih]

theorem pc_none (l : List UInt8) : ∀ acc, (∀ c ∈ l, c ≠ 32) → pc acc l = [acc ++ l] := by
  induction l with
  | nil => intro acc _; simp [pc]
  | cons c r ih =>
    intro acc h
    have hc : c ≠ 32 := h c (by simp)
    simp only [pc, if_neg hc]
    rw [ih _ (fun d hd => h d (by simp [hd]))]
    simp
theorem pc_hit (l r : List UInt8) : ∀ acc, (∀ c ∈ l, c ≠ 32) → pc acc (l ++ 32 :: r) = (acc ++ l) :: pc [] r := by
  induction l with
  | nil => intro acc _; simp [pc]
  | cons c l ih =>
    intro acc h
    have hc : c ≠ 32 := h c (by simp)
    simp only [List.cons_append, pc, if_neg hc]
    rw [ih _ (fun d hd => h d (by simp [hd]))]
    simp
theorem wl_word (l : List UInt8) : ∀ acc, (∀ c ∈ l, c ≠ 32) → wl acc l = if acc ++ l = [] then [] else [acc ++ l] := by
  intro acc h
  rw [wl_pc, pc_none l acc h]
  by_cases e : acc ++ l = [] <;> simp [e]
theorem wl_app (l r : List UInt8) : ∀ acc, wl acc (l ++ 32 :: r) = wl acc l ++ wl [] r := by
  induction l with
  | nil => intro acc; by_cases h : acc = [] <;> simp [wl, h]
  | cons c l ih =>
    intro acc
    by_cases hc : c = 32
    · by_cases h : acc = [] <;> simp [wl, h, hc, ih]
    · simp [wl, hc, ih]
/-- Each word is one: not empty, without a blank. -/
theorem wl_ok (l : List UInt8) : ∀ acc, (∀ c ∈ acc, c ≠ 32) → ∀ w ∈ wl acc l, w ≠ [] ∧ ∀ c ∈ w, c ≠ 32 := by
  induction l with
  | nil =>
    intro acc h w hw
    by_cases e : acc = []
    · simp [wl, e] at hw
    · simp [wl, e] at hw; subst hw; exact ⟨e, h⟩
  | cons c r ih =>
    intro acc h w hw
    by_cases hc : c = 32
    · by_cases e : acc = []
      · simp only [wl, if_pos hc, if_pos e] at hw
        exact ih [] (by simp) w hw
      · simp only [wl, if_pos hc, if_neg e] at hw
        rcases List.mem_cons.1 hw with rfl | hw
        · exact ⟨e, h⟩
        · exact ih [] (by simp) w hw
    · simp only [wl, if_neg hc] at hw
      refine ih _ (fun d hd => ?_) w hw
      rcases List.mem_append.1 hd with hd | hd
      · exact h d hd
      · simp at hd; subst hd; exact hc
/-- Words put together by single blanks. -/
def joinW : List (List UInt8) → List UInt8
  | [] => []
  | [w] => w
  | w :: v :: r => w ++ 32 :: joinW (v :: r)
theorem wl_join : ∀ ws : List (List UInt8), (∀ w ∈ ws, w ≠ [] ∧ ∀ c ∈ w, c ≠ 32) → wl [] (joinW ws) = ws
  | [], _ => rfl
  | [w], h => by
    obtain ⟨h1, h2⟩ := h w (by simp)
    rw [joinW, wl_word w [] h2]
    simp [h1]
  | w :: v :: r, h => by
    obtain ⟨h1, h2⟩ := h w (by simp)
    rw [joinW, wl_app, wl_word w [] h2, wl_join (v :: r) (fun u hu => h u (by simp [hu]))]
    simp [h1]
theorem wl_len (l : List UInt8) : ∀ acc, (wl acc l).length ≤ acc.length + l.length := by
  induction l with
  | nil =>
    intro acc
    by_cases e : acc = []
    · simp [wl, e]
    · have := List.length_pos_iff.2 e
      simp [wl, e]; omega
  | cons c r ih =>
    intro acc
    by_cases hc : c = 32
    · by_cases e : acc = []
      · have := ih []
        simp [wl, hc, e] at this ⊢; omega
      · have := ih []
        have h1 := List.length_pos_iff.2 e
        simp [wl, hc, e] at this ⊢; omega
    · have := ih (acc ++ [c])
      simp [wl, hc] at this ⊢; omega
theorem pc_len (l : List UInt8) : ∀ acc, (pc acc l).length ≤ 1 + l.length := by
  induction l with
  | nil => intro acc; simp [pc]
  | cons c r ih =>
    intro acc
    by_cases hc : c = 32
    · have := ih []; simp [pc, hc]; omega
    · have := ih (acc ++ [c]); simp [pc, hc]; omega

/-! The library's split at a blank is these pieces. -/
def ba (l : List UInt8) : ByteArray := ⟨l.toArray⟩
theorem ba_toList (l : List UInt8) : (ba l).data.toList = l := by simp [ba]
theorem ba_of (s : ByteArray) : ba s.data.toList = s := by cases s; simp [ba]
def sp : ByteArray := ⟨#[32]⟩
theorem sp_list : sp.data.toList = [32] := rfl
theorem index_sp (s : ByteArray) : Lib.indexB s sp = Lib.indexByte s.data.toList 32 := Lib.index_one _ _
theorem split_pc : ∀ (n : Nat) (s : ByteArray), s.size ≤ n → Lib.splitB sp 0 (Lib.countB s sp) s = (pc [] s.data.toList).map ba
  | n, s, hn => by
    rcases Lib.indexB_cases s sp with hix | ⟨i, hix, hroom⟩
    · rw [Lib.countB_miss s sp hix, Lib.splitB_zero, pc_none]
      · simp [ba_of]
      · intro c hc e
        rw [index_sp] at hix
        obtain ⟨k, hk, hck⟩ := List.getElem_of_mem hc
        exact Lib.indexByte_none hix k (by rw [List.getElem?_eq_getElem hk, hck, e])
    · have hsz : sp.size = 1 := rfl
      rw [hsz] at hroom
      rw [Lib.countB_hit s sp i (by rw [hsz]; omega) hix, Nat.add_comm 1, Lib.splitB_hit sp 0 _ s i hix, hsz]
      have hl : s.data.toList.length = s.size := Array.length_toList
      obtain ⟨m, rfl⟩ : ∃ m, n = m + 1 := ⟨n - 1, by omega⟩
      rw [split_pc m (s.extract (i + 1) s.size) (by rw [ByteArray.size_extract]; omega)]
      rw [index_sp] at hix
      obtain ⟨h1, h2⟩ := Lib.indexByte_some hix
      have hdec : s.data.toList = s.data.toList.take i ++ 32 :: s.data.toList.drop (i + 1) := by
        have hi : i < s.data.toList.length := by omega
        rw [List.getElem?_eq_getElem hi] at h1
        rw [← Option.some.inj h1, ← List.drop_eq_getElem_cons hi, List.take_append_drop]
      have h3 : pc [] s.data.toList = s.data.toList.take i :: pc [] (s.data.toList.drop (i + 1)) := by
        conv => lhs; rw [hdec]
        rw [pc_hit]
        · simp
        · intro c hc e
          obtain ⟨k, hk, hck⟩ := List.getElem_of_mem hc
          rw [List.length_take] at hk
          rw [List.getElem_take] at hck
          exact h2 k (by omega) (by rw [List.getElem?_eq_getElem (by omega), hck, e])
      rw [h3, List.map_cons]
      congr 1
      · rw [← ba_of (s.extract 0 (i + 0)), Lib.extract_data]
        simp
      · congr 2
        rw [Lib.extract_to_end]
theorem len_eq (s : ByteArray) : s.data.toList.length = s.size := Array.length_toList
end Go.Proofs.YtfbhlbchmenloaaDoor.L

namespace Go.Proofs.YtfbhlbchmenloaaDoor.Pure
open Go Go.RowKit Go.Proofs.YtfbhlbchmenloaaDoorW.PrintWords Go.Proofs.YtfbhlbchmenloaaDoor.H Go.Proofs.YtfbhlbchmenloaaDoor.L
set_option linter.unusedSimpArgs false
set_option linter.unusedVariables false

theorem wrap_next {i : Int} (h0 : 0 ≤ i) (h : i < 140737488355328) : wrap64 (i + 1) = i + 1 := by unfold wrap64; omega
theorem rdOf_at {α : Type} (d : α) (xs : List α) (i : Nat) (h : i < xs.length) : rdOf d xs (i : Int) = xs[i] := by
  unfold rdOf
  rw [Int.toNat_natCast, List.getD_eq_getElem?_getD, List.getElem?_eq_getElem h]
  rfl
theorem tl (s : ByteArray) : s.toList = s.data.toList := ByteArray.toList_eq s
theorem tl_ba (l : List UInt8) : (ba l).toList = l := by rw [tl, ba_toList]

theorem split_loop (xs : List ByteArray) (hxs : xs.length < 8000000000000) : ∀ (d i : Nat) (out : List ByteArray), i + d = xs.length → out.length ≤ i →
    Ev (fun k => words_Split.l0 k out xs (xs.length : Int) (i : Int)) (out ++ (xs.drop i).filter (fun s => decide (s.toList ≠ [])))
  | 0, i, out, hi, ho => by
    refine Ev.step (fun k => words_Split.l0.eq_2 _ _ _ _ _) ?_
    simp only [if_neg (show ¬ ((i : Int) < (xs.length : Int)) by omega)]
    rw [List.drop_of_length_le (by omega)]
    simpa using Ev.now _
  | d + 1, i, out, hi, ho => by
    have hlt : i < xs.length := by omega
    refine Ev.step (fun k => words_Split.l0.eq_2 _ _ _ _ _) ?_
    simp only [if_pos (show (i : Int) < (xs.length : Int) by omega), if_pos (show (0 : Int) ≤ (i : Int) by omega), rdOf_at ByteArray.empty xs i hlt, wrap_next (show (0 : Int) ≤ (i : Int) by omega) (by omega)]
    rw [List.drop_eq_getElem_cons hlt]
    by_cases he : xs[i].toList = []
    · simp only [if_pos he]
      have h := split_loop xs hxs d (i + 1) out (by omega) (by omega)
      rw [List.filter_cons, if_neg (by simp [he])]
      exact h
    · simp only [if_neg he, if_pos (show out.length < 8796093022208 by omega)]
      have h := split_loop xs hxs d (i + 1) (out ++ [xs[i]]) (by omega) (by simp; omega)
      rw [List.append_assoc, List.singleton_append] at h
      rw [List.filter_cons, if_pos (by simpa using he)]
      exact h
theorem evSplit (s : ByteArray) (hs : s.size < 4000000000) : Ev (fun k => words_Split.f k s) ((wl [] s.data.toList).map ba) := by
  have hp : strings_Split.f s ⟨#[32]⟩ = some ((pc [] s.data.toList).map ba) := by
    unfold strings_Split.f
    rw [if_pos ⟨by omega, by show 1 ≤ 1; omega⟩]
    exact congrArg some (split_pc s.size s (Nat.le_refl _))
  have hl : s.data.toList.length = s.size := Array.length_toList
  have hlen : ((pc [] s.data.toList).map ba).length < 8000000000000 := by
    have := pc_len s.data.toList []
    rw [List.length_map]; omega
  have h := split_loop _ hlen _ 0 [] (Nat.zero_add _) (Nat.le_refl _)
  unfold words_Split.f
  simp only [hp, Option.bind_some]
  rw [wl_pc]
  refine Ev.congr (fun k => rfl) ?_
  have e : ([] : List ByteArray) ++ (((pc [] s.data.toList).map ba).drop 0).filter (fun s => decide (s.toList ≠ [])) = ((pc [] s.data.toList).filter (fun w => decide (w ≠ []))).map ba := by
    rw [List.nil_append, List.drop_zero, List.filter_map]
    congr 1
    apply List.filter_congr
    intro w _
    simp [tl_ba]
  rw [e] at h
  exact h
def numG (acc : Nat) : List UInt8 → Int × Bool
  | [] => ((acc : Int), true)
  | c :: r => if 48 ≤ c.toNat ∧ c.toNat ≤ 57 then (if 1844674407370955161 < acc ∨ (acc = 1844674407370955161 ∧ 5 < c.toNat - 48) then (0, false) else numG (acc * 10 + (c.toNat - 48)) r) else (0, false)
theorem numG_bad : ∀ (l : List UInt8) (acc : Nat), l.all isDig ≠ true → numG acc l = (0, false)
  | [], acc, h => by simp at h
  | c :: r, acc, h => by
    unfold numG
    by_cases hc : 48 ≤ c.toNat ∧ c.toNat ≤ 57
    · rw [if_pos hc]
      by_cases ho : 1844674407370955161 < acc ∨ (acc = 1844674407370955161 ∧ 5 < c.toNat - 48)
      · rw [if_pos ho]
      · rw [if_neg ho]
        refine numG_bad r _ (fun e => h ?_)
        rw [List.all_cons, e]
        simp [isDig, hc.1, hc.2]
    · rw [if_neg hc]
theorem numG_parse : ∀ (l : List UInt8) (acc : Nat), l.all isDig = true → (match Lib.parseUintM (2 ^ 64 - 1) acc l with | .ok u => ((u : Int), true) | _ => (0, false)) = numG acc l
  | [], acc, _ => rfl
  | c :: r, acc, h => by
    rw [List.all_cons, Bool.and_eq_true] at h
    have hc : 48 ≤ c.toNat ∧ c.toNat ≤ 57 := by have := h.1; simp [isDig] at this; exact this
    unfold numG Lib.parseUintM
    rw [if_pos hc, if_pos hc]
    by_cases h1 : 1844674407370955162 ≤ acc
    · rw [if_pos h1, if_pos (by omega)]
    · rw [if_neg h1]
      by_cases h2 : 2 ^ 64 - 1 < acc * 10 + (c.toNat - 48)
      · rw [if_pos h2, if_pos (by omega)]
      · rw [if_neg h2, if_neg (by omega)]
        exact numG_parse r _ h.2
theorem numF_eq (l : List UInt8) : numF l = if l.length < 1 ∨ 20 < l.length then (0, false) else numG 0 l := by
  unfold numF
  by_cases h : l.length < 1 ∨ 20 < l.length
  · rw [if_pos h, if_pos h]
  · rw [if_neg h, if_neg h]
    by_cases hd : l.all isDig = true
    · rw [if_pos hd]
      unfold Lib.parseUintB
      rw [if_neg (by intro e; rw [e] at h; simp at h)]
      exact numG_parse l 0 hd
    · rw [if_neg hd, numG_bad l 0 hd]
theorem numG_range : ∀ (l : List UInt8) (acc : Nat), acc < 18446744073709551616 → 0 ≤ (numG acc l).1 ∧ (numG acc l).1 < 18446744073709551616
  | [], acc, h => by simp [numG]; omega
  | c :: r, acc, h => by
    unfold numG
    by_cases hc : 48 ≤ c.toNat ∧ c.toNat ≤ 57
    · rw [if_pos hc]
      by_cases ho : 1844674407370955161 < acc ∨ (acc = 1844674407370955161 ∧ 5 < c.toNat - 48)
      · rw [if_pos ho]; simp
      · rw [if_neg ho]; exact numG_range r _ (by omega)
    · rw [if_neg hc]; simp
theorem numF_range (l : List UInt8) : 0 ≤ (numF l).1 ∧ (numF l).1 < 18446744073709551616 := by
  rw [numF_eq]
  by_cases h : l.length < 1 ∨ 20 < l.length
  · rw [if_pos h]; simp
  · rw [if_neg h]; exact numG_range l 0 (by omega)

def negL : List UInt8 → Bool
  | c :: _ => c == 45
  | [] => false
def signF (l : List UInt8) : Int × Bool :=
  if negL l = true then (if (numF (l.drop 1)).2 = true ∧ (numF (l.drop 1)).1 ≤ 9223372036854775808 then (wrap64 (-(wrap64 (numF (l.drop 1)).1)), true) else (0, false))
  else (if (numF l).2 = true ∧ (numF l).1 < 9223372036854775808 then (wrap64 (numF l).1, true) else (0, false))
theorem hasPrefix_minus (s : ByteArray) : strings_HasPrefix.f s ⟨#[45]⟩ = some (negL s.data.toList) := by
  unfold strings_HasPrefix.f stringslite_HasPrefix.f
  have e1 : ((⟨#[45]⟩ : ByteArray).size : Int) = 1 := rfl
  simp only [e1]
  have hl := len_eq s
  by_cases h : 1 ≤ s.size
  · rw [if_pos (by omega), if_pos (by omega), if_pos (by omega), Option.bind_some]
    rw [tl, tl, Lib.extract_data]
    match hm : s.data.toList with
    | [] => rw [hm] at hl; simp at hl; omega
    | c :: r => simp [negL]
  · rw [if_neg (by omega), Option.bind_some]
    have : s.data.toList = [] := List.eq_nil_of_length_eq_zero (by omega)
    rw [this]
    rfl
theorem trimPrefix_minus (s : ByteArray) : strings_TrimPrefix.f s ⟨#[45]⟩ = some (if negL s.data.toList = true then s.extract 1 s.size else s) := by
  have hp := hasPrefix_minus s
  unfold strings_HasPrefix.f at hp
  have hp2 : stringslite_HasPrefix.f s ⟨#[45]⟩ = some (negL s.data.toList) := by
    cases h : stringslite_HasPrefix.f s ⟨#[45]⟩ with
    | none => rw [h] at hp; cases hp
    | some b => rw [h] at hp; exact hp
  unfold strings_TrimPrefix.f stringslite_TrimPrefix.f
  have e1 : ((⟨#[45]⟩ : ByteArray).size : Int) = 1 := rfl
  rw [hp2]
  simp only [Option.bind_some, e1]
  by_cases h : negL s.data.toList = true
  · have hl := len_eq s
    have : 1 ≤ s.size := by
      by_cases h0 : 1 ≤ s.size
      · exact h0
      · have e : s.data.toList = [] := List.eq_nil_of_length_eq_zero (by omega)
        rw [e] at h; cases h
    rw [if_pos h, if_pos h, if_pos (by omega), if_pos (by omega)]
    rfl
  · rw [if_neg h, if_neg h]
    rfl
theorem evSigned (s : ByteArray) : Ev (fun k => words_Signed.f k s) (signF s.data.toList) := by
  unfold words_Signed.f signF words_Number.f
  simp only [trimPrefix_minus, hasPrefix_minus, Option.bind_some]
  by_cases h : negL s.data.toList = true
  · simp only [if_pos h, Lib.extract_to_end]
    by_cases h1 : (numF (s.data.toList.drop 1)).2 = true
    · simp only [if_pos h1]
      refine Ev.step (fun k => words_Signed.j0.eq_2 _ _ _ _) ?_
      by_cases h2 : (numF (s.data.toList.drop 1)).1 ≤ 9223372036854775808
      · simp only [decide_eq_true h2, if_true, if_pos (And.intro h1 h2)]; exact Ev.now _
      · simp only [decide_eq_false h2, Bool.false_eq_true, if_false, hasPrefix_minus, Option.bind_some, if_pos h, if_neg (fun e : _ ∧ _ => h2 e.2)]; exact Ev.now _
    · simp only [if_neg h1, if_neg (fun e : _ ∧ _ => h1 e.1)]; exact Ev.now _
  · simp only [if_neg h]
    by_cases h1 : (numF s.data.toList).2 = true
    · simp only [if_pos h1]
      refine Ev.step (fun k => words_Signed.j0.eq_2 _ _ _ _) ?_
      simp only [Bool.false_eq_true, if_false, hasPrefix_minus, Option.bind_some, if_neg h]
      by_cases h2 : (numF s.data.toList).1 < 9223372036854775808
      · simp only [if_pos h2, if_pos (And.intro h1 h2)]; exact Ev.now _
      · simp only [if_neg h2, if_neg (fun e : _ ∧ _ => h2 e.2)]; exact Ev.now _
    · simp only [if_neg h1, if_neg (fun e : _ ∧ _ => h1 e.1)]; exact Ev.now _
end Go.Proofs.YtfbhlbchmenloaaDoor.Pure
end
section
namespace Go.Proofs.YtfbhlbchmenloaaDoor.Pure
open Go Go.RowKit Go.Proofs.YtfbhlbchmenloaaDoorW.PrintWords Go.Proofs.YtfbhlbchmenloaaDoor.H Go.Proofs.YtfbhlbchmenloaaDoor.L
set_option linter.unusedSimpArgs false
set_option linter.unusedVariables false
theorem ba_ext {a b : ByteArray} (h : a.data.toList = b.data.toList) : a = b := by rw [← ba_of a, ← ba_of b, h]
theorem tl_inj (a b : ByteArray) : a.toList = b.toList ↔ a = b := by
  rw [tl, tl]
  exact ⟨ba_ext, fun h => by rw [h]⟩
theorem beq_tl (a b : ByteArray) (l : List UInt8) (hl : b.toList = l) : (a.toList == l) = decide (a = b) := by
  subst hl
  rw [Bool.eq_iff_iff, beq_iff_eq, decide_eq_true_iff, tl_inj]
theorem eq_tl (a b : ByteArray) (l : List UInt8) (hl : b.toList = l) : (a.toList = l) = (a = b) := by
  subst hl
  rw [tl_inj]
def memB (a : ByteArray) (xs : List ByteArray) : Bool := xs.any fun z => decide (a = z)
def at_ (ws : List ByteArray) (i : Nat) : ByteArray := ws.getD i ByteArray.empty
theorem evIndex (xs : List ByteArray) (a : ByteArray) (hxs : xs.length < 1000000) : ∀ (d i : Nat), i + d = xs.length →
    ∃ r, Ev (fun k => slices_Index_string_string.l0 k xs a (xs.length : Int) (i : Int)) r ∧ decide (r ≥ 0) = memB a (xs.drop i)
  | 0, i, hi => by
    refine ⟨-1, Ev.step (fun k => slices_Index_string_string.l0.eq_2 _ _ _ _ _) ?_, ?_⟩
    · simp only [if_neg (show ¬ (i : Int) < (xs.length : Int) by omega)]; exact Ev.now _
    · rw [List.drop_of_length_le (by omega)]; rfl
  | d + 1, i, hi => by
    have hlt : i < xs.length := by omega
    by_cases he : a = xs[i]
    · refine ⟨(i : Int), Ev.step (fun k => slices_Index_string_string.l0.eq_2 _ _ _ _ _) ?_, ?_⟩
      · simp only [if_pos (show (i : Int) < (xs.length : Int) by omega), if_pos (show (0 : Int) ≤ (i : Int) by omega), rdOf_at ByteArray.empty xs i hlt, tl_inj, if_pos he]; exact Ev.now _
      · rw [List.drop_eq_getElem_cons hlt]
        unfold memB
        rw [List.any_cons, decide_eq_true he, Bool.true_or]
        exact decide_eq_true (by omega)
    · obtain ⟨r, h1, h2⟩ := evIndex xs a hxs d (i + 1) (by omega)
      refine ⟨r, Ev.step (fun k => slices_Index_string_string.l0.eq_2 _ _ _ _ _) ?_, ?_⟩
      · simp only [if_pos (show (i : Int) < (xs.length : Int) by omega), if_pos (show (0 : Int) ≤ (i : Int) by omega), rdOf_at ByteArray.empty xs i hlt, tl_inj, if_neg he, wrap_next (show (0 : Int) ≤ (i : Int) by omega) (by omega)]
        exact h1
      · rw [h2, List.drop_eq_getElem_cons hlt]
        unfold memB
        rw [List.any_cons, decide_eq_false he, Bool.false_or]
theorem evContains (xs : List ByteArray) (a : ByteArray) (hxs : xs.length < 1000000) : Ev (fun k => slices_Contains_string_string.f k xs a) (memB a xs) := by
  obtain ⟨r, h1, h2⟩ := evIndex xs a hxs xs.length 0 (by omega)
  unfold slices_Contains_string_string.f slices_Index_string_string.f
  rw [List.drop_zero] at h2
  rw [← h2]
  exact Ev.bind h1 (Ev.now _)
@[reducible] def noreplyW : ByteArray := ⟨#[110, 111, 114, 101, 112, 108, 121]⟩
@[reducible] def noughtW : ByteArray := ⟨#[48]⟩
def endsR (ws : List ByteArray) (n : Nat) (more : List ByteArray) : Bool × Bool :=
  if ws.length = n then (false, true) else if ws.length = n + 1 ∧ memB (at_ ws n) more = true then (decide (at_ ws n = noreplyW), true) else (false, false)
theorem endsR_len {ws : List ByteArray} {n : Nat} {more : List ByteArray} (h : (endsR ws n more).2 = true) : ws.length = n ∨ ws.length = n + 1 := by
  unfold endsR at h
  by_cases h1 : ws.length = n
  · exact .inl h1
  · rw [if_neg h1] at h
    by_cases h2 : ws.length = n + 1 ∧ memB (at_ ws n) more = true
    · exact .inr h2.1
    · rw [if_neg h2] at h; cases h
theorem rdOf_at_ (ws : List ByteArray) (n : Nat) (h : n < ws.length) : rdOf ByteArray.empty ws (n : Int) = at_ ws n := by
  rw [rdOf_at _ _ _ h]
  unfold at_
  rw [List.getD_eq_getElem?_getD, List.getElem?_eq_getElem h]
  rfl
theorem evEnds (ws : List ByteArray) (n : Nat) (a : Int) (ha : a = (n : Int)) (hn : n < 1000) (more : List ByteArray) (hm : more.length < 1000000) : Ev (fun k => parse_ends.f k ws a more) (endsR ws n more) := by
  subst ha
  unfold parse_ends.f endsR
  have hw : wrap64 ((n : Int) + 1) = ((n + 1 : Nat) : Int) := by unfold wrap64; omega
  by_cases h1 : ws.length = n
  · simp only [h1, if_true]
    exact Ev.now _
  · simp only [if_neg (show ¬ (ws.length : Int) = (n : Int) by omega), if_neg h1, hw]
    by_cases h2 : ws.length = n + 1
    · have e2 : (ws.length = n + 1 ∧ memB (at_ ws n) more = true) = (memB (at_ ws n) more = true) := propext ⟨fun z => z.2, fun z => ⟨h2, z⟩⟩
      simp only [if_pos (show (ws.length : Int) = ((n + 1 : Nat) : Int) by omega), if_pos (show (0 : Int) ≤ (n : Int) by omega), if_pos (show (n : Int) < (ws.length : Int) by omega), rdOf_at_ ws n (by omega), e2]
      refine Ev.bind (evContains more _ hm) ?_
      by_cases h3 : memB (at_ ws n) more = true
      · simp only [if_pos h3]
        rw [beq_tl (at_ ws n) noreplyW _ (tl _)]
        exact Ev.now _
      · simp only [if_neg h3]
        exact Ev.now _
    · simp only [if_neg (show ¬ (ws.length : Int) = ((n + 1 : Nat) : Int) by omega), if_neg (fun e : _ ∧ _ => h2 e.1)]
      exact Ev.now _
@[reducible] def getW : ByteArray := ⟨#[103, 101, 116]⟩
@[reducible] def getsW : ByteArray := ⟨#[103, 101, 116, 115]⟩
@[reducible] def gatW : ByteArray := ⟨#[103, 97, 116]⟩
@[reducible] def gatsW : ByteArray := ⟨#[103, 97, 116, 115]⟩
@[reducible] def setW : ByteArray := ⟨#[115, 101, 116]⟩
@[reducible] def addW : ByteArray := ⟨#[97, 100, 100]⟩
@[reducible] def replaceW : ByteArray := ⟨#[114, 101, 112, 108, 97, 99, 101]⟩
@[reducible] def appendW : ByteArray := ⟨#[97, 112, 112, 101, 110, 100]⟩
@[reducible] def prependW : ByteArray := ⟨#[112, 114, 101, 112, 101, 110, 100]⟩
@[reducible] def casW : ByteArray := ⟨#[99, 97, 115]⟩
@[reducible] def incrW : ByteArray := ⟨#[105, 110, 99, 114]⟩
@[reducible] def decrW : ByteArray := ⟨#[100, 101, 99, 114]⟩
@[reducible] def touchW : ByteArray := ⟨#[116, 111, 117, 99, 104]⟩
@[reducible] def deleteW : ByteArray := ⟨#[100, 101, 108, 101, 116, 101]⟩
@[reducible] def flushW : ByteArray := ⟨#[102, 108, 117, 115, 104, 95, 97, 108, 108]⟩
@[reducible] def versionW : ByteArray := ⟨#[118, 101, 114, 115, 105, 111, 110]⟩
@[reducible] def quitW : ByteArray := ⟨#[113, 117, 105, 116]⟩
@[reducible] def errT : ByteArray := ⟨#[69, 82, 82, 79, 82]⟩
@[reducible] def formT : ByteArray := ⟨#[67, 76, 73, 69, 78, 84, 95, 69, 82, 82, 79, 82, 32, 98, 97, 100, 32, 99, 111, 109, 109, 97, 110, 100, 32, 108, 105, 110, 101, 32, 102, 111, 114, 109, 97, 116]⟩
@[reducible] def deltaT : ByteArray := ⟨#[67, 76, 73, 69, 78, 84, 95, 69, 82, 82, 79, 82, 32, 105, 110, 118, 97, 108, 105, 100, 32, 110, 117, 109, 101, 114, 105, 99, 32, 100, 101, 108, 116, 97, 32, 97, 114, 103, 117, 109, 101, 110, 116]⟩
@[reducible] def timeT : ByteArray := ⟨#[67, 76, 73, 69, 78, 84, 95, 69, 82, 82, 79, 82, 32, 105, 110, 118, 97, 108, 105, 100, 32, 101, 120, 112, 116, 105, 109, 101, 32, 97, 114, 103, 117, 109, 101, 110, 116]⟩
@[reducible] def largeT : ByteArray := ⟨#[83, 69, 82, 86, 69, 82, 95, 69, 82, 82, 79, 82, 32, 111, 98, 106, 101, 99, 116, 32, 116, 111, 111, 32, 108, 97, 114, 103, 101, 32, 102, 111, 114, 32, 99, 97, 99, 104, 101]⟩
def storeP (ws : List ByteArray) (six : Bool) : Cm × Int :=
  let en := endsR ws (if six then 6 else 5) [noreplyW]
  let f := numF (at_ ws 2).data.toList
  let e := signF (at_ ws 3).data.toList
  let s := numF (at_ ws 4).data.toList
  let c := if six then numF (at_ ws 5).data.toList else (0, true)
  if en.2 = false then (.bad errT, -1)
  else if keyF (at_ ws 1) = false then (.bad formT, -1)
  else if f.2 = true ∧ e.2 = true ∧ s.2 = true ∧ c.2 = true ∧ f.1 ≤ 4294967295 ∧ s.1 ≤ 2147483647 then
    (if s.1 > 1024 then (.bad largeT, s.1) else (.store (at_ ws 0) (at_ ws 1) ⟨#[]⟩ (f.1 % 4294967296) e.1 c.1 en.1, s.1))
  else (.bad formT, -1)
theorem evStore2 (ws : List ByteArray) (hl : 5 ≤ ws.length) (q : Bool) (f e s c : Int) (hs : 0 ≤ s) (b : Bool) (hb : b = decide (s > 2147483647)) :
    Ev (fun k => parse_store.j2 k ws q f e s c b) (if s ≤ 2147483647 then (if s > 1024 then (.bad largeT, s) else (.store (at_ ws 0) (at_ ws 1) ⟨#[]⟩ (f % 4294967296) e c q, s)) else (.bad formT, -1)) := by
  refine Ev.step (fun k => parse_store.j2.eq_2 _ _ _ _ _ _ _ _) ?_
  subst hb
  by_cases h : s > 2147483647
  · simp only [decide_eq_true h, if_true, if_neg (show ¬ s ≤ 2147483647 by omega), parse_bad.f, Option.bind_some]; exact Ev.now _
  · have hw : wrap64 s = s := by unfold wrap64; omega
    simp only [decide_eq_false h, Bool.false_eq_true, if_false, if_pos (show s ≤ 2147483647 by omega), hw, if_pos (show 0 < (ws.length : Int) by omega), if_pos (show 1 < (ws.length : Int) by omega)]
    by_cases h1 : s > 1024
    · simp only [if_pos h1]; exact Ev.now _
    · simp only [if_neg h1]; exact Ev.now _
theorem evStore2t (ws : List ByteArray) (q : Bool) (f e s c : Int) : Ev (fun k => parse_store.j2 k ws q f e s c true) (.bad formT, -1) := by
  refine Ev.step (fun k => parse_store.j2.eq_2 _ _ _ _ _ _ _ _) ?_
  simp only [if_true, parse_bad.f, Option.bind_some]; exact Ev.now _
theorem evStore1 (ws : List ByteArray) (hl : 5 ≤ ws.length) (q : Bool) (f e s c : Int × Bool) (hs : 0 ≤ s.1) :
    Ev (fun k => parse_store.j1 k ws q f.1 f.2 e.1 e.2 s.1 s.2 c.1 c.2) (if f.2 = true ∧ e.2 = true ∧ s.2 = true ∧ c.2 = true ∧ f.1 ≤ 4294967295 ∧ s.1 ≤ 2147483647 then
    (if s.1 > 1024 then (.bad largeT, s.1) else (.store (at_ ws 0) (at_ ws 1) ⟨#[]⟩ (f.1 % 4294967296) e.1 c.1 q, s.1)) else (.bad formT, -1)) := by
  refine Ev.step (fun k => parse_store.j1.eq_2 _ _ _ _ _ _ _ _ _ _ _) ?_
  by_cases h1 : f.2 = true
  · by_cases h2 : e.2 = true
    · by_cases h3 : s.2 = true
      · by_cases h4 : c.2 = true
        · by_cases h5 : f.1 > 4294967295
          · simp only [if_pos h1, if_pos h2, if_pos h3, if_pos h4, if_pos h5, if_neg (show ¬ (f.2 = true ∧ e.2 = true ∧ s.2 = true ∧ c.2 = true ∧ f.1 ≤ 4294967295 ∧ s.1 ≤ 2147483647) by omega)]
            exact evStore2t _ _ _ _ _ _
          · simp only [if_pos h1, if_pos h2, if_pos h3, if_pos h4, if_neg h5]
            have h := evStore2 ws hl q f.1 e.1 s.1 c.1 hs _ rfl
            by_cases h6 : s.1 ≤ 2147483647
            · rw [if_pos h6] at h
              rw [if_pos ⟨h1, h2, h3, h4, by omega, h6⟩]
              exact h
            · rw [if_neg h6] at h
              rw [if_neg (fun z => h6 z.2.2.2.2.2)]
              exact h
        · simp only [if_pos h1, if_pos h2, if_pos h3, if_neg h4, if_neg (fun z : _ ∧ _ ∧ _ ∧ _ ∧ _ ∧ _ => h4 z.2.2.2.1)]; exact evStore2t _ _ _ _ _ _
      · simp only [if_pos h1, if_pos h2, if_neg h3, if_neg (fun z : _ ∧ _ ∧ _ ∧ _ ∧ _ ∧ _ => h3 z.2.2.1)]; exact evStore2t _ _ _ _ _ _
    · simp only [if_pos h1, if_neg h2, if_neg (fun z : _ ∧ _ ∧ _ ∧ _ ∧ _ ∧ _ => h2 z.2.1)]; exact evStore2t _ _ _ _ _ _
  · simp only [if_neg h1, if_neg (fun z : _ ∧ _ ∧ _ ∧ _ ∧ _ ∧ _ => h1 z.1)]; exact evStore2t _ _ _ _ _ _
theorem evStore0 (ws : List ByteArray) (six : Bool) (a : Int) (ha : a = if six = true then 6 else 5) : Ev (fun k => parse_store.j0 k ws a) (storeP ws six) := by
  refine Ev.step (fun k => parse_store.j0.eq_2 _ _ _) ?_
  unfold storeP
  refine Ev.bind (evEnds ws (if six = true then 6 else 5) a (by rw [ha]; cases six <;> rfl) (by cases six <;> decide) [noreplyW] (by decide)) ?_
  by_cases hen : (endsR ws (if six = true then 6 else 5) [noreplyW]).2 = true
  · have hl := endsR_len hen
    have hl5 : 5 ≤ ws.length := by cases six <;> simp at hl <;> omega
    simp only [if_pos hen, hen, Bool.true_eq_false, if_false, if_pos (show 1 < (ws.length : Int) by omega), if_pos (show 2 < (ws.length : Int) by omega), if_pos (show 3 < (ws.length : Int) by omega), if_pos (show 4 < (ws.length : Int) by omega), words_Key.f, words_Number.f, Option.bind_some]
    have r1 : rdOf ByteArray.empty ws 1 = at_ ws 1 := rfl
    have r2 : rdOf ByteArray.empty ws 2 = at_ ws 2 := rfl
    have r3 : rdOf ByteArray.empty ws 3 = at_ ws 3 := rfl
    have r4 : rdOf ByteArray.empty ws 4 = at_ ws 4 := rfl
    have r5 : rdOf ByteArray.empty ws 5 = at_ ws 5 := rfl
    simp only [r1, r2, r3, r4, r5]
    by_cases hk : keyF (at_ ws 1) = true
    · simp only [if_pos hk, hk, Bool.true_eq_false, if_false]
      refine Ev.bind (evSigned _) ?_
      cases six with
      | true =>
        simp only [if_true] at ha hl
        subst ha
        simp only [if_true, if_pos (show 5 < (ws.length : Int) by omega)]
        exact evStore1 ws hl5 _ _ _ _ _ (numF_range _).1
      | false =>
        simp only [Bool.false_eq_true, if_false] at ha
        subst ha
        simp only [show ¬ ((5 : Int) = 6) by decide, if_false, Bool.false_eq_true]
        have h := evStore1 ws hl5 (endsR ws 5 [noreplyW]).1 (numF (at_ ws 2).data.toList) (signF (at_ ws 3).data.toList) (numF (at_ ws 4).data.toList) (0, true) (numF_range _).1
        simp only [true_and] at h ⊢
        exact h
    · have hk2 : keyF (at_ ws 1) = false := by simpa using hk
      simp only [hk2, Bool.false_eq_true, if_false, if_true, parse_bad.f, Option.bind_some]
      exact Ev.now _
  · have hen2 := eq_false_of_ne_true hen
    simp only [hen2, Bool.false_eq_true, if_false, if_true, parse_bad.f, Option.bind_some]
    exact Ev.now _
def storeR (ws : List ByteArray) : Cm × Int := storeP ws (decide (at_ ws 0 = casW))
theorem evStore (ws : List ByteArray) (h : 0 < ws.length) : Ev (fun k => parse_store.f k ws) (storeR ws) := by
  unfold parse_store.f storeR
  have r0 : rdOf ByteArray.empty ws 0 = at_ ws 0 := rfl
  simp only [if_pos (show 0 < (ws.length : Int) by omega), r0, eq_tl (at_ ws 0) casW _ (tl _)]
  by_cases hc : at_ ws 0 = casW
  · simp only [if_pos hc, decide_eq_true hc]; exact evStore0 ws true 6 rfl
  · simp only [if_neg hc, decide_eq_false hc]; exact evStore0 ws false 5 rfl
def keyedR (ws : List ByteArray) : Cm × Int :=
  let en := endsR ws 3 [noreplyW]
  if en.2 = false then (.bad errT, -1)
  else if keyF (at_ ws 1) = false then (.bad formT, -1)
  else if at_ ws 0 = touchW then (if (signF (at_ ws 2).data.toList).2 = true then (.touch (at_ ws 1) (signF (at_ ws 2).data.toList).1 en.1, -1) else (.bad timeT, -1))
  else (if (numF (at_ ws 2).data.toList).2 = true then (.arith (at_ ws 1) (numF (at_ ws 2).data.toList).1 (decide (at_ ws 0 = decrW)) en.1, -1) else (.bad deltaT, -1))
theorem evKeyed (ws : List ByteArray) : Ev (fun k => parse_keyed.f k ws) (keyedR ws) := by
  unfold parse_keyed.f keyedR
  refine Ev.bind (evEnds ws 3 3 rfl (by decide) [noreplyW] (by decide)) ?_
  by_cases hen : (endsR ws 3 [noreplyW]).2 = true
  · have hl := endsR_len hen
    have r0 : rdOf ByteArray.empty ws 0 = at_ ws 0 := rfl
    have r1 : rdOf ByteArray.empty ws 1 = at_ ws 1 := rfl
    have r2 : rdOf ByteArray.empty ws 2 = at_ ws 2 := rfl
    simp only [if_pos hen, hen, Bool.true_eq_false, if_false, if_pos (show 0 < (ws.length : Int) by omega), if_pos (show 1 < (ws.length : Int) by omega), if_pos (show 2 < (ws.length : Int) by omega), words_Key.f, words_Number.f, Option.bind_some, r0, r1, r2, eq_tl (at_ ws 0) touchW _ (tl _), beq_tl (at_ ws 0) decrW _ (tl _)]
    by_cases hk : keyF (at_ ws 1) = true
    · simp only [if_pos hk, hk, Bool.true_eq_false, if_false]
      by_cases ht : at_ ws 0 = touchW
      · simp only [if_pos ht]
        refine Ev.bind (evSigned _) ?_
        by_cases hs : (signF (at_ ws 2).data.toList).2 = true
        · simp only [if_pos hs]; exact Ev.now _
        · simp only [if_neg hs, parse_bad.f, Option.bind_some]; exact Ev.now _
      · simp only [if_neg ht]
        by_cases hs : (numF (at_ ws 2).data.toList).2 = true
        · simp only [if_pos hs]; exact Ev.now _
        · simp only [if_neg hs, parse_bad.f, Option.bind_some]; exact Ev.now _
    · have hk2 : keyF (at_ ws 1) = false := by simpa using hk
      simp only [hk2, Bool.false_eq_true, if_false, if_true, parse_bad.f, Option.bind_some]
      exact Ev.now _
  · have hen2 := eq_false_of_ne_true hen
    simp only [hen2, Bool.false_eq_true, if_false, if_true, parse_bad.f, Option.bind_some]
    exact Ev.now _
def deleteR (ws : List ByteArray) : Cm × Int :=
  if (endsR ws 2 [noreplyW, noughtW]).2 = true then (if keyF (at_ ws 1) = true then (.delete (at_ ws 1) (endsR ws 2 [noreplyW, noughtW]).1, -1) else (.bad formT, -1)) else (.bad errT, -1)
def flushR (ws : List ByteArray) : Cm × Int :=
  if (endsR ws 1 [noreplyW, noughtW]).2 = true then (.flush (endsR ws 1 [noreplyW, noughtW]).1, -1) else (.bad errT, -1)
def wordR (ws : List ByteArray) : Cm × Int := if ws.length = 1 then (.word (at_ ws 0), -1) else (.bad errT, -1)
def isStoreW (w : ByteArray) : Prop := w = setW ∨ w = addW ∨ w = replaceW ∨ w = appendW ∨ w = prependW ∨ w = casW
instance (w : ByteArray) : Decidable (isStoreW w) := by unfold isStoreW; infer_instance
def isKeyedW (w : ByteArray) : Prop := w = incrW ∨ w = decrW ∨ w = touchW
instance (w : ByteArray) : Decidable (isKeyedW w) := by unfold isKeyedW; infer_instance
/-- A line that is no Get's. -/
def plainR (ws : List ByteArray) : Cm × Int :=
  if isStoreW (at_ ws 0) then storeR ws else if isKeyedW (at_ ws 0) then keyedR ws else if at_ ws 0 = deleteW then deleteR ws else if at_ ws 0 = flushW then flushR ws
  else if at_ ws 0 = versionW ∨ at_ ws 0 = quitW then wordR ws else (.bad errT, -1)
theorem evOne3 (ws : List ByteArray) (h : 0 < ws.length) (b : Bool) : Ev (fun k => parse_one.j3 k ws b) (if b = true then wordR ws else (.bad errT, -1)) := by
  refine Ev.step (fun k => parse_one.j3.eq_2 _ _ _) ?_
  have r0 : rdOf ByteArray.empty ws 0 = at_ ws 0 := rfl
  unfold wordR
  cases b with
  | true =>
    simp only [if_true, r0, if_pos (show 0 < (ws.length : Int) by omega)]
    by_cases h1 : ws.length = 1
    · simp only [if_pos (show (ws.length : Int) = 1 by omega), if_pos h1]; exact Ev.now _
    · simp only [if_neg (show ¬ (ws.length : Int) = 1 by omega), if_neg h1, parse_bad.f, Option.bind_some]; exact Ev.now _
  | false => simp only [Bool.false_eq_true, if_false, parse_bad.f, Option.bind_some]; exact Ev.now _
theorem evOne2 (ws : List ByteArray) (h : 0 < ws.length) (hs : ¬ isStoreW (at_ ws 0)) (b : Bool) (hb : b = decide (isKeyedW (at_ ws 0))) : Ev (fun k => parse_one.j2 k ws (at_ ws 0) b) (plainR ws) := by
  refine Ev.step (fun k => parse_one.j2.eq_2 _ _ _ _) ?_
  subst hb
  have r1 : rdOf ByteArray.empty ws 1 = at_ ws 1 := rfl
  unfold plainR
  rw [if_neg hs]
  by_cases hk : isKeyedW (at_ ws 0)
  · simp only [if_pos hk, decide_eq_true hk, if_true]
    exact Ev.bind (evKeyed ws) (Ev.now _)
  · simp only [if_neg hk, decide_eq_false hk, Bool.false_eq_true, if_false, eq_tl (at_ ws 0) deleteW _ (tl _), eq_tl (at_ ws 0) flushW _ (tl _), eq_tl (at_ ws 0) versionW _ (tl _), beq_tl (at_ ws 0) versionW _ (tl _), beq_tl (at_ ws 0) quitW _ (tl _)]
    by_cases hd : at_ ws 0 = deleteW
    · simp only [if_pos hd, deleteR]
      refine Ev.bind (evEnds ws 2 2 rfl (by decide) [noreplyW, noughtW] (by decide)) ?_
      by_cases he : (endsR ws 2 [noreplyW, noughtW]).2 = true
      · have hl := endsR_len he
        simp only [if_pos he, if_pos (show 1 < (ws.length : Int) by omega), words_Key.f, Option.bind_some, r1]
        by_cases hk : keyF (at_ ws 1) = true
        · simp only [if_pos hk]; exact Ev.now _
        · simp only [if_neg hk, parse_bad.f, Option.bind_some]; exact Ev.now _
      · simp only [if_neg he, parse_bad.f, Option.bind_some]; exact Ev.now _
    · simp only [if_neg hd]
      by_cases hf : at_ ws 0 = flushW
      · simp only [if_pos hf, flushR]
        refine Ev.bind (evEnds ws 1 1 rfl (by decide) [noreplyW, noughtW] (by decide)) ?_
        by_cases he : (endsR ws 1 [noreplyW, noughtW]).2 = true
        · simp only [if_pos he]; exact Ev.now _
        · simp only [if_neg he, parse_bad.f, Option.bind_some]; exact Ev.now _
      · simp only [if_neg hf]
        by_cases hv : at_ ws 0 = versionW
        · simp only [if_pos hv, if_pos (show at_ ws 0 = versionW ∨ at_ ws 0 = quitW from .inl hv), decide_eq_true hv]
          exact evOne3 ws h true
        · simp only [if_neg hv]
          have h3 := evOne3 ws h (decide (at_ ws 0 = quitW))
          by_cases hq : at_ ws 0 = quitW
          · rw [if_pos (show at_ ws 0 = versionW ∨ at_ ws 0 = quitW from .inr hq)]
            rw [if_pos (decide_eq_true hq)] at h3
            exact h3
          · rw [if_neg (show ¬ (at_ ws 0 = versionW ∨ at_ ws 0 = quitW) from fun z => z.elim hv hq)]
            rw [if_neg (by simpa using hq)] at h3
            exact h3
theorem evOne1 (ws : List ByteArray) (h : 0 < ws.length) (b : Bool) (hb : b = decide (isStoreW (at_ ws 0))) : Ev (fun k => parse_one.j1 k ws (at_ ws 0) b) (plainR ws) := by
  refine Ev.step (fun k => parse_one.j1.eq_2 _ _ _ _) ?_
  subst hb
  by_cases hs : isStoreW (at_ ws 0)
  · simp only [decide_eq_true hs, if_true]
    unfold plainR
    rw [if_pos hs]
    exact Ev.bind (evStore ws h) (Ev.now _)
  · simp only [decide_eq_false hs, Bool.false_eq_true, if_false, eq_tl (at_ ws 0) incrW _ (tl _), eq_tl (at_ ws 0) decrW _ (tl _), beq_tl (at_ ws 0) incrW _ (tl _), beq_tl (at_ ws 0) decrW _ (tl _), beq_tl (at_ ws 0) touchW _ (tl _)]
    by_cases h1 : at_ ws 0 = incrW
    · simp only [if_pos h1]; exact evOne2 ws h hs _ (decide_eq_decide.2 ⟨fun z => .inl z, fun _ => h1⟩)
    · simp only [if_neg h1]
      by_cases h2 : at_ ws 0 = decrW
      · simp only [if_pos h2]; exact evOne2 ws h hs _ (decide_eq_decide.2 ⟨fun z => .inr (.inl z), fun _ => h2⟩)
      · simp only [if_neg h2]; exact evOne2 ws h hs _ (decide_eq_decide.2 ⟨fun z => .inr (.inr z), fun z => z.elim (fun e => absurd e h1) fun z => z.elim (fun e => absurd e h2) id⟩)
theorem evOne0 (ws : List ByteArray) (h : 0 < ws.length) : Ev (fun k => parse_one.j0 k ws (at_ ws 0) false) (plainR ws) := by
  refine Ev.step (fun k => parse_one.j0.eq_2 _ _ _ _) ?_
  simp only [Bool.false_eq_true, if_false, eq_tl (at_ ws 0) setW _ (tl _), eq_tl (at_ ws 0) addW _ (tl _), eq_tl (at_ ws 0) replaceW _ (tl _), eq_tl (at_ ws 0) appendW _ (tl _), eq_tl (at_ ws 0) prependW _ (tl _), beq_tl (at_ ws 0) setW _ (tl _), beq_tl (at_ ws 0) addW _ (tl _), beq_tl (at_ ws 0) replaceW _ (tl _), beq_tl (at_ ws 0) appendW _ (tl _), beq_tl (at_ ws 0) prependW _ (tl _), beq_tl (at_ ws 0) casW _ (tl _)]
  by_cases h1 : at_ ws 0 = setW
  · simp only [if_pos h1]; exact evOne1 ws h _ (decide_eq_decide.2 ⟨fun z => .inl z, fun _ => h1⟩)
  · simp only [if_neg h1]
    by_cases h2 : at_ ws 0 = addW
    · simp only [if_pos h2]; exact evOne1 ws h _ (decide_eq_decide.2 ⟨fun z => .inr (.inl z), fun _ => h2⟩)
    · simp only [if_neg h2]
      by_cases h3 : at_ ws 0 = replaceW
      · simp only [if_pos h3]; exact evOne1 ws h _ (decide_eq_decide.2 ⟨fun z => .inr (.inr (.inl z)), fun _ => h3⟩)
      · simp only [if_neg h3]
        by_cases h4 : at_ ws 0 = appendW
        · simp only [if_pos h4]; exact evOne1 ws h _ (decide_eq_decide.2 ⟨fun z => .inr (.inr (.inr (.inl z))), fun _ => h4⟩)
        · simp only [if_neg h4]
          by_cases h5 : at_ ws 0 = prependW
          · simp only [if_pos h5]; exact evOne1 ws h _ (decide_eq_decide.2 ⟨fun z => .inr (.inr (.inr (.inr (.inl z)))), fun _ => h5⟩)
          · simp only [if_neg h5]; exact evOne1 ws h _ (decide_eq_decide.2 ⟨fun z => .inr (.inr (.inr (.inr (.inr z)))), fun z => z.elim (fun e => absurd e h1) fun z => z.elim (fun e => absurd e h2) fun z => z.elim (fun e => absurd e h3) fun z => z.elim (fun e => absurd e h4) fun z => z.elim (fun e => absurd e h5) id⟩)
/-- What a line's words tell. -/
def lineX (ws : List ByteArray) : Cx × Int :=
  match ws with
  | [] => (.pl (.bad errT), -1)
  | w :: r =>
    if w = getW then (get1 false r, -1) else if w = getsW then (get1 true r, -1)
    else if w = gatW then (match r with | x :: y :: ks => (getX (y :: ks) false true (signF x.data.toList), -1) | _ => (badX, -1))
    else if w = gatsW then (match r with | x :: y :: ks => (getX (y :: ks) true true (signF x.data.toList), -1) | _ => (badX, -1))
    else (.pl (plainR (w :: r)).1, (plainR (w :: r)).2)
theorem evMap {α β : Type} {g : Nat → Option α} {a : α} (f : α → β) (h : Ev g a) : Ev (fun k => (g k).map f) (f a) := by
  obtain ⟨K, hK⟩ := h
  exact ⟨K, fun k hk => by show (g k).map f = _; rw [hK k hk]; rfl⟩
theorem ev_get2 (ca : Bool) (r : List ByteArray) : Ev (fun k => get2 k ca r) (match r with | x :: y :: ks => getX (y :: ks) ca true (signF x.data.toList) | _ => badX) := by
  match r with
  | [] => exact Ev.now _
  | [a] => exact Ev.now _
  | a :: b :: ks => exact evMap (fun sg => getX (b :: ks) ca true sg) (evSigned a)
theorem evPlain (s : ByteArray) (hs : s.size < 4000000000) (ws : List ByteArray) (hws : (wl [] s.data.toList).map ba = ws) (h : 0 < ws.length) (hg : isGet (at_ ws 0) ≠ true) : Ev (fun k => parse_one.f k s) (plainR ws) := by
  unfold parse_one.f
  refine Ev.bind (hws ▸ evSplit s hs) ?_
  unfold isGet at hg
  simp only [ne_eq, Bool.or_eq_true, decide_eq_true_iff, not_or] at hg
  obtain ⟨⟨⟨g1, g2⟩, g3⟩, g4⟩ := hg
  have r0 : rdOf ByteArray.empty ws 0 = at_ ws 0 := rfl
  simp only [if_neg (show ¬ (ws.length : Int) = 0 by omega), if_pos (show 0 < (ws.length : Int) by omega), r0, eq_tl (at_ ws 0) getW _ (tl _), eq_tl (at_ ws 0) getsW _ (tl _), eq_tl (at_ ws 0) gatW _ (tl _), beq_tl (at_ ws 0) gatsW _ (tl _), if_neg g1, if_neg g2, if_neg g3, decide_eq_false g4]
  exact evOne0 ws h
theorem evOneF (s : ByteArray) (hs : s.size < 4000000000) : Ev (fun k => oneF k s) (lineX ((wl [] s.data.toList).map ba)) := by
  generalize hws : (wl [] s.data.toList).map ba = ws
  unfold oneF
  refine Ev.bind (hws ▸ evSplit s hs) ?_
  match ws, hws with
  | [], hws =>
    have hp : Ev (fun k => parse_one.f k s) (Cm.bad errT, (-1 : Int)) := by
      unfold parse_one.f
      refine Ev.bind (hws ▸ evSplit s hs) ?_
      simp only [List.length_nil, Int.natCast_zero, if_true, parse_bad.f, Option.bind_some]
      exact Ev.now _
    exact evMap (fun p : Cm × Int => (Cx.pl p.1, p.2)) hp
  | w :: r, hws =>
    by_cases hg : isGet w = true
    · simp only [if_pos hg, lineX, getLine]
      unfold isGet at hg
      simp only [Bool.or_eq_true, decide_eq_true_iff] at hg
      by_cases g1 : w = getW
      · simp only [if_pos g1]; exact evMap (fun x : Cx => (x, (-1 : Int))) (Ev.now _)
      · simp only [if_neg g1]
        by_cases g2 : w = getsW
        · simp only [if_pos g2]; exact evMap (fun x : Cx => (x, (-1 : Int))) (Ev.now _)
        · simp only [if_neg g2]
          by_cases g3 : w = gatW
          · simp only [if_pos g3]
            have h := evMap (fun x : Cx => (x, (-1 : Int))) (ev_get2 false r)
            match r, h with
            | [], h => exact h
            | [a], h => exact h
            | a :: b :: ks, h => exact h
          · simp only [if_neg g3]
            have g4 : w = gatsW := by
              rcases hg with ((h | h) | h) | h
              · exact absurd h g1
              · exact absurd h g2
              · exact absurd h g3
              · exact h
            simp only [if_pos g4]
            have h := evMap (fun x : Cx => (x, (-1 : Int))) (ev_get2 true r)
            match r, h with
            | [], h => exact h
            | [a], h => exact h
            | a :: b :: ks, h => exact h
    · simp only [if_neg hg, lineX]
      have hg2 := hg
      unfold isGet at hg2
      simp only [Bool.or_eq_true, decide_eq_true_iff, not_or] at hg2
      obtain ⟨⟨⟨g1, g2⟩, g3⟩, g4⟩ := hg2
      rw [if_neg g1, if_neg g2, if_neg g3, if_neg g4]
      exact evMap (fun p : Cm × Int => (Cx.pl p.1, p.2)) (evPlain s hs (w :: r) hws (by simp) hg)
end Go.Proofs.YtfbhlbchmenloaaDoor.Pure
end
section
namespace Go.Proofs.YtfbhlbchmenloaaDoor.Pure
open Go Go.RowKit Go.Proofs.YtfbhlbchmenloaaDoorW.PrintWords Go.Proofs.YtfbhlbchmenloaaDoor.H Go.Proofs.YtfbhlbchmenloaaDoor.L
set_option linter.unusedSimpArgs false
set_option linter.unusedVariables false
/-! Where a byte 10 is. -/
theorem ib_app (c : UInt8) : ∀ l r : List UInt8, Lib.indexByte (l ++ r) c = if Lib.indexByte l c < 0 then (if Lib.indexByte r c < 0 then -1 else l.length + Lib.indexByte r c) else Lib.indexByte l c
  | [], r => by
    have := Lib.indexByte_ge r c
    simp only [List.nil_append, Lib.indexByte, List.length_nil]
    rw [if_pos (by decide)]
    split <;> omega
  | b :: l, r => by
    have ih := ib_app c l r
    have h1 := Lib.indexByte_ge l c
    have h2 := Lib.indexByte_ge r c
    simp only [List.cons_append, Lib.indexByte]
    by_cases hb : (b == c) = true
    · simp [hb]
    · simp only [hb, Bool.false_eq_true, if_false, ih, beq_iff_eq]
      by_cases h3 : Lib.indexByte l c < 0
      · rw [if_pos h3]
        have h3' : Lib.indexByte l c = -1 := by omega
        rw [h3']
        by_cases h4 : Lib.indexByte r c < 0
        · simp [h4]
        · simp only [if_neg h4, List.length_cons]
          simp only [if_true, show ((-1 : Int) < 0) from by decide]
          rw [if_neg (by omega)]
          omega
      · simp only [if_neg h3, if_neg (show ¬ Lib.indexByte l c = -1 by omega)]
        rw [if_neg (by omega)]
theorem ib_lt (c : UInt8) : ∀ l : List UInt8, Lib.indexByte l c < l.length
  | [] => by simp [Lib.indexByte]
  | b :: l => by
    have ih := ib_lt c l
    simp only [Lib.indexByte, List.length_cons]
    split
    · omega
    · split <;> omega
theorem bytesOf_len (b : List Int) : (Lib.bytesOf b).length = b.length := by unfold Lib.bytesOf; rw [List.length_map]
theorem idx_ge (b : List Int) : -1 ≤ idx10 b := Lib.indexByte_ge _ _
theorem idx_lt (b : List Int) : idx10 b < b.length := by
  have := ib_lt 10 (Lib.bytesOf b)
  rw [bytesOf_len] at this
  exact this
theorem idx_app (b l : List Int) : idx10 (b ++ l) = if idx10 b < 0 then (if idx10 l < 0 then -1 else b.length + idx10 l) else idx10 b := by
  unfold idx10
  rw [show Lib.bytesOf (b ++ l) = Lib.bytesOf b ++ Lib.bytesOf l from List.map_append, ib_app, bytesOf_len]
theorem idx_nil : idx10 [] = -1 := rfl
/-! What is passed over. -/
def nrm (ps : PS) : PS := (psPass ps).2
theorem nrm_off {ps : PS} (h : ps.skip = false) : nrm ps = ps := by unfold nrm psPass; rw [if_pos h]
theorem nrm_wait {ps : PS} (h : ps.skip = true) (hi : idx10 ps.b < 0) : nrm ps = { ps with b := [] } := by
  unfold nrm psPass psUse
  rw [if_neg (by rw [h]; decide), if_pos hi, List.drop_length]
theorem nrm_on {ps : PS} (h : ps.skip = true) (hi : ¬ idx10 ps.b < 0) : nrm ps = { ps with b := ps.b.drop ((idx10 ps.b).toNat + 1), skip := false } := by
  unfold nrm psPass psUse
  rw [if_neg (by rw [h]; decide), if_neg hi]
theorem pass_1 (ps : PS) : (psPass ps).1 = !(nrm ps).skip := by
  cases h : ps.skip with
  | false => rw [nrm_off h, h]; unfold psPass; rw [if_pos h]; rfl
  | true =>
    by_cases hi : idx10 ps.b < 0
    · rw [nrm_wait h hi]; unfold psPass; rw [if_neg (by rw [h]; decide), if_pos hi]; simp [h]
    · rw [nrm_on h hi]; unfold psPass; rw [if_neg (by rw [h]; decide), if_neg hi]; rfl
theorem nrm_c (ps : PS) : (nrm ps).c = ps.c ∧ (nrm ps).n = ps.n ∧ (nrm ps).b.length ≤ ps.b.length := by
  cases h : ps.skip with
  | false => rw [nrm_off h]; exact ⟨rfl, rfl, Nat.le_refl _⟩
  | true =>
    by_cases hi : idx10 ps.b < 0
    · rw [nrm_wait h hi]; exact ⟨rfl, rfl, Nat.zero_le _⟩
    · rw [nrm_on h hi]; exact ⟨rfl, rfl, by rw [List.length_drop]; omega⟩
theorem nrm_nrm (ps : PS) : nrm (nrm ps) = nrm ps := by
  cases h : ps.skip with
  | false => rw [nrm_off h, nrm_off h]
  | true =>
    by_cases hi : idx10 ps.b < 0
    · rw [nrm_wait h hi, nrm_wait (by exact h) (show idx10 ([] : List Int) < 0 by decide)]
    · rw [nrm_on h hi]; exact nrm_off rfl
theorem nrm_feed (ps : PS) (l : List Int) : nrm (psFeed ps l) = nrm (psFeed (nrm ps) l) := by
  cases h : ps.skip with
  | false => rw [nrm_off h]
  | true =>
    by_cases hi : idx10 ps.b < 0
    · rw [nrm_wait h hi]
      have ha := idx_app ps.b l
      rw [if_pos hi] at ha
      by_cases hl : idx10 l < 0
      · rw [if_pos hl] at ha
        rw [nrm_wait (ps := psFeed ps l) h (by show idx10 (ps.b ++ l) < 0; omega), nrm_wait (by exact h) (by exact hl)]
        rfl
      · rw [if_neg hl] at ha
        have h0 := idx_ge l
        rw [nrm_on (ps := psFeed ps l) h (by show ¬ idx10 (ps.b ++ l) < 0; omega), nrm_on (by exact h) (by exact hl)]
        unfold psFeed
        simp only [List.nil_append]
        rw [ha, show ((ps.b.length : Int) + idx10 l).toNat + 1 = ps.b.length + ((idx10 l).toNat + 1) by omega, List.drop_append]
        rw [List.drop_of_length_le (by omega), Nat.add_sub_cancel_left, List.nil_append]
    · have ha := idx_app ps.b l
      rw [if_neg hi] at ha
      have hlt := idx_lt ps.b
      rw [nrm_on h hi, nrm_on (ps := psFeed ps l) h (by show ¬ idx10 (ps.b ++ l) < 0; omega)]
      refine Eq.trans ?_ (nrm_off rfl).symm
      unfold psFeed
      simp only [ha]
      rw [List.drop_append_of_le_length (by omega)]
/-! The next command. -/
def lineT (q : PS) : Cx × Int := lineX ((wl [] (strOfNums (lineL q)).data.toList).map ba)
def dataR (ps : PS) : Cx × Bool × PS := (.pl (psData ps ps.n.toNat).1, (psData ps ps.n.toNat).2.1, (psData ps ps.n.toNat).2.2)
def pend (q : PS) : PS := { psUse q ((idx10 q.b).toNat + 1) with c := (match (lineT q).1 with | .pl c => c | _ => .nil), n := (lineT q).2 }
def nextN (q : PS) : Cx × Bool × PS :=
  if q.skip = true then (.pl .nil, false, q)
  else if isNil q.c = true then
    (if idx10 q.b < 0 then (if 2048 < (trimL q.b).length then (.pl (.bad textLong), true, { q with b := [], skip := true }) else (.pl .nil, false, q))
    else if 2048 < (lineL q).length then (.pl (.bad textLong), true, psUse q ((idx10 q.b).toNat + 1))
    else if (lineT q).2 = -1 then ((lineT q).1, true, psUse q ((idx10 q.b).toNat + 1))
    else dataR (pend q))
  else dataR q
def nextR (ps : PS) : Cx × Bool × PS := nextN (nrm ps)
def OkL (p : Cm × Int) : Prop := isNil p.1 = false ∧ (p.2 = -1 ∨ 0 ≤ p.2) ∧ (toD p.1).keys.length ≤ 64
theorem okL_ite {c : Prop} [Decidable c] {a b : Cm × Int} (ha : OkL a) (hb : OkL b) : OkL (if c then a else b) := by split <;> assumption
theorem okL_bad (t : ByteArray) : OkL (.bad t, -1) := ⟨rfl, .inl rfl, by simp [toD]⟩
theorem okL_store (ws : List ByteArray) (six : Bool) : OkL (storeP ws six) := by
  unfold storeP
  refine okL_ite (okL_bad _) (okL_ite (okL_bad _) (okL_ite (okL_ite ⟨rfl, .inr (numF_range _).1, by simp [toD]⟩ ⟨rfl, .inr (numF_range _).1, by simp [toD]⟩) (okL_bad _)))
theorem okL_plain (ws : List ByteArray) : OkL (plainR ws) := by
  unfold plainR
  refine okL_ite (okL_store _ _) (okL_ite ?_ (okL_ite ?_ (okL_ite ?_ (okL_ite ?_ (okL_bad _)))))
  · unfold keyedR
    exact okL_ite (okL_bad _) (okL_ite (okL_bad _) (okL_ite (okL_ite ⟨rfl, .inl rfl, by simp [toD]⟩ (okL_bad _)) (okL_ite ⟨rfl, .inl rfl, by simp [toD]⟩ (okL_bad _))))
  · unfold deleteR
    exact okL_ite (okL_ite ⟨rfl, .inl rfl, by simp [toD]⟩ (okL_bad _)) (okL_bad _)
  · unfold flushR
    exact okL_ite ⟨rfl, .inl rfl, by simp [toD]⟩ (okL_bad _)
  · unfold wordR
    exact okL_ite ⟨rfl, .inl rfl, by simp [toD]⟩ (okL_bad _)
def OkX (p : Cx × Int) : Prop := isNilX p.1 = false ∧ (p.2 = -1 ∨ 0 ≤ p.2 ∧ ∃ c, p.1 = .pl c ∧ isNil c = false) ∧ (toX p.1).keys.length ≤ 64
theorem okX_bad : OkX (badX, -1) := ⟨rfl, .inl rfl, by simp [badX, toX, toD]⟩
theorem okX_get (ks : List ByteArray) (ca t : Bool) (sg : Int × Bool) : OkX (getX ks ca t sg, -1) := by
  unfold getX
  by_cases h : ks.any (fun k => !keyF k) = true ∨ 64 < ks.length
  · rw [if_pos h]; exact ⟨rfl, .inl rfl, by simp [toX, toD]⟩
  · rw [if_neg h]
    have h2 : ¬ 64 < ks.length := fun z => h (.inr z)
    match sg with
    | (e, true) => exact ⟨rfl, .inl rfl, by simp only [toX, Go.Proofs.YtfbhlbchmenloaaDoor.H.getD]; omega⟩
    | (_, false) => exact ⟨rfl, .inl rfl, by simp [toX, toD]⟩
theorem okX_get1 (ca : Bool) (r : List ByteArray) : OkX (get1 ca r, -1) := by
  unfold get1
  split
  · exact okX_bad
  · exact okX_get _ _ _ _
theorem okX_line (ws : List ByteArray) : OkX (lineX ws) := by
  unfold lineX
  match ws with
  | [] => exact okX_bad
  | w :: r =>
    have hp := okL_plain (w :: r)
    simp only
    by_cases g1 : w = getW
    · rw [if_pos g1]; exact okX_get1 _ _
    · rw [if_neg g1]
      by_cases g2 : w = getsW
      · rw [if_pos g2]; exact okX_get1 _ _
      · rw [if_neg g2]
        by_cases g3 : w = gatW
        · rw [if_pos g3]
          match r with
          | [] => exact okX_bad
          | [a] => exact okX_bad
          | a :: b :: ks => exact okX_get _ _ _ _
        · rw [if_neg g3]
          by_cases g4 : w = gatsW
          · rw [if_pos g4]
            match r with
            | [] => exact okX_bad
            | [a] => exact okX_bad
            | a :: b :: ks => exact okX_get _ _ _ _
          · rw [if_neg g4]
            exact ⟨hp.1, hp.2.1.imp id (fun h => ⟨h, _, rfl, hp.1⟩), hp.2.2⟩
/-- A command that waits has a length. -/
def Inv (ps : PS) : Prop := isNil ps.c = false → 0 ≤ ps.n
theorem Inv.nrm {ps : PS} (h : Inv ps) : Inv (nrm ps) := by
  obtain ⟨h1, h2, _⟩ := nrm_c ps
  unfold Inv
  rw [h1, h2]
  exact h
theorem Inv.feed {ps : PS} (h : Inv ps) (l : List Int) : Inv (psFeed ps l) := h
theorem pend_ok (q : PS) (h : ¬ (lineT q).2 = -1) : 0 ≤ (pend q).n ∧ isNil (pend q).c = false ∧ (pend q).skip = q.skip := by
  obtain ⟨h1, h2, _⟩ := okX_line ((wl [] (strOfNums (lineL q)).data.toList).map ba)
  rcases h2 with h2 | ⟨h2, c, hc, hn⟩
  · exact absurd h2 h
  · refine ⟨h2, ?_, rfl⟩
    unfold pend lineT
    rw [hc]
    exact hn
theorem data_some {ps : PS} (h : 0 ≤ ps.n) : dataX ps = some (dataR ps) := by unfold dataX dataR; rw [if_pos h]
theorem next_is (ps : PS) (hI : Inv ps) (x : Cx) (n : Int) (hx : needsLine ps = true → (x, n) = lineT (nrm ps)) : psNext ps x n = some (nextR ps) := by
  have hN := hI.nrm
  unfold psNext nextR nextN
  rw [pass_1]
  show (if (!(nrm ps).skip) = false then some (Cx.pl .nil, false, nrm ps) else if isNil (nrm ps).c = true then (if (psLine (nrm ps) x n).2.1 = false ∨ isNilX (psLine (nrm ps) x n).1 = false then some (psLine (nrm ps) x n) else dataX (psLine (nrm ps) x n).2.2) else dataX (nrm ps)) = _
  have hx : ¬ idx10 (nrm ps).b < 0 → ¬ 2048 < (lineL (nrm ps)).length → (x, n) = lineT (nrm ps) := fun h1 h2 => hx (by
    unfold needsLine
    rw [show (psPass ps).2 = nrm ps from rfl]
    simp [h1, h2])
  generalize nrm ps = q at *
  cases hs : q.skip with
  | true => simp
  | false =>
    simp only [Bool.not_false, Bool.true_eq_false, if_false, Bool.false_eq_true]
    by_cases hc : isNil q.c = true
    · simp only [if_pos hc]
      unfold psLine
      by_cases h1 : idx10 q.b < 0
      · simp only [if_pos h1]
        by_cases h2 : 2048 < (trimL q.b).length
        · simp only [if_pos h2]
          rw [if_pos (.inr rfl)]
          unfold psUse
          rw [List.drop_length]
        · simp only [if_neg h2, true_or, if_true]
      · simp only [if_neg h1]
        by_cases h2 : 2048 < (lineL q).length
        · simp only [if_pos h2]
          rw [if_pos (.inr rfl)]
        · simp only [if_neg h2]
          have hxn := hx h1 h2
          have e1 : x = (lineT q).1 := by rw [← hxn]
          have e2 : n = (lineT q).2 := by rw [← hxn]
          subst e1 e2
          obtain ⟨h3, _⟩ := okX_line ((wl [] (strOfNums (lineL q)).data.toList).map ba)
          by_cases h4 : (lineT q).2 = -1
          · simp only [if_pos h4]
            rw [if_pos (.inr h3)]
          · simp only [if_neg h4, Bool.true_eq_false, isNilX, isNil, or_self, if_false]
            exact data_some (pend_ok q h4).1
    · simp only [if_neg hc]
      exact data_some (hN (by simpa using hc))
theorem sos_size (b : List Int) : (strOfNums b).size = b.length := by unfold strOfNums; simp [ByteArray.size]
theorem evNext (ps : PS) (hI : Inv ps) : Ev (fun k => parse_Next.f k ps) (outP (toX (nextR ps).1) (nextR ps).2.1 (nextR ps).2.2) := by
  unfold parse_Next.f
  by_cases h : needsLine ps = true
  · simp only [if_pos h]
    have hz : (lineL (psPass ps).2).length ≤ 2048 := by
      unfold needsLine at h
      simp at h
      omega
    refine Ev.bind (a := lineT (nrm ps)) (evOneF (strOfNums (lineL (psPass ps).2)) (by rw [sos_size]; omega)) ?_
    have e := next_is ps hI (lineT (nrm ps)).1 (lineT (nrm ps)).2 (fun _ => rfl)
    simp only [e]
    exact Ev.now _
  · simp only [if_neg h, Option.bind_some]
    rw [next_is ps hI _ _ (fun e => absurd e h)]
    exact Ev.now _
/-! What is fed later. -/
theorem end_app (b l : List Int) (n : Nat) (h : ¬ psEnd b n < 0) : psEnd (b ++ l) n = psEnd b n := by
  have hn : n < b.length := by
    unfold psEnd at h
    by_cases z : b.length ≤ n
    · rw [if_pos z] at h; omega
    · omega
  have g0 : (b ++ l).getD n 0 = b.getD n 0 := by rw [List.getD_eq_getElem?_getD, List.getD_eq_getElem?_getD, List.getElem?_append_left hn]
  unfold psEnd at h ⊢
  rw [if_neg (by omega)] at h
  rw [if_neg (by rw [List.length_append]; omega), if_neg (show ¬ b.length ≤ n by omega), g0]
  by_cases h1 : b.getD n 0 = 10
  · rw [if_pos h1, if_pos h1]
  · rw [if_neg h1] at h ⊢
    rw [if_neg h1]
    by_cases h2 : b.getD n 0 ≠ 13
    · rw [if_pos h2, if_pos h2]
    · rw [if_neg h2] at h ⊢
      rw [if_neg h2]
      by_cases h3 : b.length - n = 1
      · rw [if_pos h3] at h; omega
      · have g1 : (b ++ l).getD (n + 1) 0 = b.getD (n + 1) 0 := by rw [List.getD_eq_getElem?_getD, List.getD_eq_getElem?_getD, List.getElem?_append_left (by omega)]
        rw [if_neg h3, if_neg (by rw [List.length_append]; omega), g1]
theorem data_feed (st : PS) (l : List Int) (h : (dataR st).2.1 = true) : (dataR (psFeed st l)) = ((dataR st).1, true, psFeed (dataR st).2.2 l) := by
  unfold dataR at h ⊢
  have hnn : (psFeed st l).n = st.n := rfl
  rw [hnn]
  generalize st.n.toNat = n at *
  unfold psData at h ⊢
  by_cases h1 : psEnd st.b n < 0
  · rw [if_pos h1] at h; cases h
  · have he := end_app st.b l n h1
    have hle := psEnd_le st.b n h1
    rw [show (psFeed st l).b = st.b ++ l from rfl, he, if_neg h1, if_neg h1]
    by_cases h2 : psEnd st.b n = 0
    · rw [if_pos h2, if_pos h2]
      simp only [psFeed]
      rw [List.drop_append_of_le_length (by omega)]
    · rw [if_neg h2, if_neg h2]
      simp only [psFeed]
      rw [List.drop_append_of_le_length (by omega), List.take_append_of_le_length (by omega)]
theorem data_wait (st : PS) (h : (dataR st).2.1 = false) : (dataR st).2.2 = st := by
  unfold dataR psData at h ⊢
  by_cases h1 : psEnd st.b st.n.toNat < 0
  · simp only [if_pos h1]
  · simp only [if_neg h1] at h
    by_cases h2 : psEnd st.b st.n.toNat = 0
    · simp only [if_pos h2] at h; cases h
    · simp only [if_neg h2] at h; cases h
theorem trim_app (b l : List Int) (h : 2048 < (trimL b).length) : 2048 < (trimL (b ++ l)).length := by
  have hb := trimL_len b
  by_cases hl : l = []
  · rw [hl, List.append_nil]; exact h
  · have : 0 < l.length := List.length_pos_iff.2 hl
    have hlen : (b ++ l).length = b.length + l.length := List.length_append
    unfold trimL
    split
    · rw [List.length_take]; omega
    · omega
theorem line_feed {q : PS} (l : List Int) (hi : ¬ idx10 q.b < 0) : idx10 (psFeed q l).b = idx10 q.b ∧ lineL (psFeed q l) = lineL q ∧ psUse (psFeed q l) ((idx10 q.b).toNat + 1) = psFeed (psUse q ((idx10 q.b).toNat + 1)) l := by
  have ha := idx_app q.b l
  rw [if_neg hi] at ha
  have hlt := idx_lt q.b
  refine ⟨ha, ?_, ?_⟩
  · unfold lineL
    rw [show (psFeed q l).b = q.b ++ l from rfl, ha, List.take_append_of_le_length (by omega)]
  · unfold psUse psFeed
    simp only
    rw [List.drop_append_of_le_length (by omega)]
theorem next_feed (ps : PS) (l : List Int) :
    ((nextR ps).2.1 = true → (nextR (psFeed ps l)).1 = (nextR ps).1 ∧ (nextR (psFeed ps l)).2.1 = true ∧ nrm (nextR (psFeed ps l)).2.2 = nrm (psFeed (nextR ps).2.2 l))
    ∧ ((nextR ps).2.1 = false → nextR (psFeed ps l) = nextR (psFeed (nextR ps).2.2 l)) := by
  unfold nextR
  rw [nrm_feed ps l]
  have hid := nrm_nrm ps
  generalize nrm ps = q at *
  cases hs : q.skip with
  | true =>
    have e : nextN q = (.pl .nil, false, q) := by unfold nextN; rw [if_pos hs]
    rw [e]
    exact ⟨(fun h => by cases h), fun _ => rfl⟩
  | false =>
    rw [nrm_off (ps := psFeed q l) hs]
    have hsf : (psFeed q l).skip = true ↔ False := by show q.skip = true ↔ False; rw [hs]; simp
    have hq : ¬ q.skip = true := by rw [hs]; decide
    by_cases hc : isNil q.c = true
    · by_cases h1 : idx10 q.b < 0
      · by_cases h2 : 2048 < (trimL q.b).length
        · have e : nextN q = (.pl (.bad textLong), true, { q with b := [], skip := true }) := by unfold nextN; rw [if_neg hq, if_pos hc, if_pos h1, if_pos h2]
          rw [e]
          refine ⟨fun _ => ?_, (fun h => by cases h)⟩
          have ha := idx_app q.b l
          rw [if_pos h1] at ha
          by_cases hl : idx10 l < 0
          · rw [if_pos hl] at ha
            have e2 : nextN (psFeed q l) = (.pl (.bad textLong), true, { psFeed q l with b := [], skip := true }) := by
              unfold nextN
              rw [if_neg (show ¬ (psFeed q l).skip = true from hq), if_pos (show isNil (psFeed q l).c = true from hc), if_pos (show idx10 (psFeed q l).b < 0 by show idx10 (q.b ++ l) < 0; omega), if_pos (show 2048 < (trimL (psFeed q l).b).length from trim_app _ _ h2)]
            rw [e2]
            refine ⟨rfl, rfl, ?_⟩
            rw [nrm_wait rfl (show idx10 ([] : List Int) < 0 by decide), nrm_wait rfl (by exact hl)]
            rfl
          · rw [if_neg hl] at ha
            have h0 := idx_ge l
            have hll := idx_lt l
            have e3 : lineL (psFeed q l) = trimL (q.b ++ l.take (idx10 l).toNat) := by
              unfold lineL
              rw [show (psFeed q l).b = q.b ++ l from rfl, ha, show ((q.b.length : Int) + idx10 l).toNat = q.b.length + (idx10 l).toNat by omega, List.take_append]
              rw [List.take_of_length_le (by omega), Nat.add_sub_cancel_left]
            have e2 : nextN (psFeed q l) = (.pl (.bad textLong), true, psUse (psFeed q l) ((idx10 (psFeed q l).b).toNat + 1)) := by
              unfold nextN
              rw [if_neg (show ¬ (psFeed q l).skip = true from hq), if_pos (show isNil (psFeed q l).c = true from hc), if_neg (show ¬ idx10 (psFeed q l).b < 0 by show ¬ idx10 (q.b ++ l) < 0; omega), if_pos (by rw [e3]; exact trim_app _ _ h2)]
            rw [e2]
            refine ⟨rfl, rfl, ?_⟩
            rw [nrm_off (by exact hs), nrm_on rfl (by exact hl)]
            unfold psUse psFeed
            simp only [List.nil_append]
            rw [ha, show ((q.b.length : Int) + idx10 l).toNat + 1 = q.b.length + ((idx10 l).toNat + 1) by omega, List.drop_append]
            rw [List.drop_of_length_le (by omega), Nat.add_sub_cancel_left, List.nil_append, hs]
        · have e : nextN q = (.pl .nil, false, q) := by unfold nextN; rw [if_neg hq, if_pos hc, if_pos h1, if_neg h2]
          rw [e]
          exact ⟨(fun h => by cases h), fun _ => by rw [nrm_off (ps := psFeed q l) hs]⟩
      · obtain ⟨f1, f2, f3⟩ := line_feed l h1
        have f4 : lineT (psFeed q l) = lineT q := by unfold lineT; rw [f2]
        by_cases h2 : 2048 < (lineL q).length
        · have e : nextN q = (.pl (.bad textLong), true, psUse q ((idx10 q.b).toNat + 1)) := by unfold nextN; rw [if_neg hq, if_pos hc, if_neg h1, if_pos h2]
          have e2 : nextN (psFeed q l) = (.pl (.bad textLong), true, psUse (psFeed q l) ((idx10 q.b).toNat + 1)) := by
            unfold nextN
            rw [if_neg (show ¬ (psFeed q l).skip = true from hq), if_pos (show isNil (psFeed q l).c = true from hc), f1, if_neg h1, f2, if_pos h2]
          rw [e, e2]
          refine ⟨fun _ => ⟨rfl, rfl, ?_⟩, (fun h => by cases h)⟩
          rw [f3]
        · by_cases h3 : (lineT q).2 = -1
          · have e : nextN q = ((lineT q).1, true, psUse q ((idx10 q.b).toNat + 1)) := by unfold nextN; rw [if_neg hq, if_pos hc, if_neg h1, if_neg h2, if_pos h3]
            have e2 : nextN (psFeed q l) = ((lineT q).1, true, psUse (psFeed q l) ((idx10 q.b).toNat + 1)) := by
              unfold nextN
              rw [if_neg (show ¬ (psFeed q l).skip = true from hq), if_pos (show isNil (psFeed q l).c = true from hc), f1, if_neg h1, f2, if_neg h2, f4, if_pos h3]
            rw [e, e2]
            refine ⟨fun _ => ⟨rfl, rfl, ?_⟩, (fun h => by cases h)⟩
            rw [f3]
          · have e : nextN q = dataR (pend q) := by unfold nextN; rw [if_neg hq, if_pos hc, if_neg h1, if_neg h2, if_neg h3]
            have e4 : pend (psFeed q l) = psFeed (pend q) l := by
              unfold pend
              rw [f1, f3, f4]
              rfl
            have e2 : nextN (psFeed q l) = dataR (psFeed (pend q) l) := by
              unfold nextN
              rw [if_neg (show ¬ (psFeed q l).skip = true from hq), if_pos (show isNil (psFeed q l).c = true from hc), f1, if_neg h1, f2, if_neg h2, f4, if_neg h3, e4]
            rw [e, e2]
            obtain ⟨p1, p2, p3⟩ := pend_ok q h3
            refine ⟨fun h => ?_, fun h => ?_⟩
            · rw [data_feed _ _ h]; exact ⟨rfl, rfl, rfl⟩
            · rw [data_wait _ h, nrm_off (ps := psFeed (pend q) l) (by exact p3.trans hs)]
              unfold nextN
              rw [if_neg (show ¬ (psFeed (pend q) l).skip = true from by rw [show (psFeed (pend q) l).skip = q.skip from p3]; exact hq), if_neg (show ¬ isNil (psFeed (pend q) l).c = true from by rw [show (psFeed (pend q) l).c = (pend q).c from rfl, p2]; decide)]
    · have e : nextN q = dataR q := by unfold nextN; rw [if_neg hq, if_neg hc]
      have e2 : nextN (psFeed q l) = dataR (psFeed q l) := by
        unfold nextN
        rw [if_neg (show ¬ (psFeed q l).skip = true from hq), if_neg (show ¬ isNil (psFeed q l).c = true from hc)]
      rw [e, e2]
      refine ⟨fun h => ?_, fun h => ?_⟩
      · rw [data_feed _ _ h]; exact ⟨rfl, rfl, rfl⟩
      · rw [data_wait _ h, nrm_off (ps := psFeed q l) hs, e2]
/-! All that is told till nothing more comes. -/
def Drain : PS → List Cx → PS → Prop
  | ps, [], p => (nextR ps).2.1 = false ∧ (nextR ps).2.2 = p
  | ps, y :: ys, p => (nextR ps).2.1 = true ∧ (nextR ps).1 = y ∧ Drain (nextR ps).2.2 ys p
theorem drain_one : ∀ (ys zs : List Cx) (ps p q : PS), Drain ps ys p → Drain ps zs q → ys = zs ∧ p = q
  | [], [], ps, p, q, h1, h2 => ⟨rfl, h1.2.symm.trans h2.2⟩
  | [], z :: zs, ps, p, q, h1, h2 => by have := h1.1.symm.trans h2.1; cases this
  | y :: ys, [], ps, p, q, h1, h2 => by have := h1.1.symm.trans h2.1; cases this
  | y :: ys, z :: zs, ps, p, q, h1, h2 => by
    obtain ⟨h3, h4⟩ := drain_one ys zs _ p q h1.2.2 h2.2.2
    exact ⟨by rw [h3, ← h1.2.1, ← h2.2.1], h4⟩
theorem drain_nrm {ps ps' : PS} (h : nrm ps = nrm ps') : ∀ {ys : List Cx} {p : PS}, Drain ps ys p → Drain ps' ys p
  | [], p, hd => by
    have e : nextR ps = nextR ps' := by unfold nextR; rw [h]
    have hd : (nextR ps).2.1 = false ∧ (nextR ps).2.2 = p := hd
    rw [e] at hd
    exact hd
  | y :: ys, p, hd => by
    have e : nextR ps = nextR ps' := by unfold nextR; rw [h]
    have hd : (nextR ps).2.1 = true ∧ (nextR ps).1 = y ∧ Drain (nextR ps).2.2 ys p := hd
    rw [e] at hd
    exact hd
theorem drain_feed (l : List Int) : ∀ (ys zs : List Cx) (ps p q : PS), Drain ps ys p → Drain (psFeed p l) zs q → Drain (psFeed ps l) (ys ++ zs) q
  | [], zs, ps, p, q, h1, h2 => by
    have e := (next_feed ps l).2 h1.1
    rw [show (nextR ps).2.2 = p from h1.2] at e
    rw [List.nil_append]
    match zs, h2 with
    | [], h2 =>
      have h2 : (nextR (psFeed p l)).2.1 = false ∧ (nextR (psFeed p l)).2.2 = q := h2
      rw [← e] at h2
      exact h2
    | z :: zs, h2 =>
      have h2 : (nextR (psFeed p l)).2.1 = true ∧ (nextR (psFeed p l)).1 = z ∧ Drain (nextR (psFeed p l)).2.2 zs q := h2
      rw [← e] at h2
      exact h2
  | y :: ys, zs, ps, p, q, h1, h2 => by
    obtain ⟨f1, f2, f3⟩ := (next_feed ps l).1 h1.1
    refine ⟨f2, f1.trans h1.2.1, drain_nrm f3.symm (drain_feed l ys zs _ p q h1.2.2 h2)⟩
/-! It ends. -/
def mu (ps : PS) : Nat := ps.b.length + (if isNil ps.c = true then 0 else 1)
theorem data_less (st : PS) (h : (dataR st).2.1 = true) : isNil (dataR st).2.2.c = true ∧ (dataR st).2.2.b.length ≤ st.b.length := by
  unfold dataR psData at h ⊢
  by_cases h1 : psEnd st.b st.n.toNat < 0
  · simp only [if_pos h1] at h; cases h
  · simp only [if_neg h1]
    by_cases h2 : psEnd st.b st.n.toNat = 0
    · simp only [if_pos h2]; exact ⟨rfl, by rw [List.length_drop]; omega⟩
    · simp only [if_neg h2]; exact ⟨rfl, by rw [List.length_drop]; omega⟩
theorem next_less (ps : PS) (h : (nextR ps).2.1 = true) : isNil (nextR ps).2.2.c = true ∧ (nextR ps).2.2.b.length < mu ps := by
  obtain ⟨c1, c2, c3⟩ := nrm_c ps
  have hm : (nrm ps).b.length + (if isNil (nrm ps).c = true then 0 else 1) ≤ mu ps := by unfold mu; rw [c1]; omega
  unfold nextR at h ⊢
  generalize nrm ps = q at *
  unfold nextN at h ⊢
  have hlt := idx_lt q.b
  by_cases hs : q.skip = true
  · simp only [if_pos hs] at h; cases h
  · simp only [if_neg hs] at h ⊢
    by_cases hc : isNil q.c = true
    · simp only [if_pos hc] at h ⊢ hm
      by_cases h1 : idx10 q.b < 0
      · simp only [if_pos h1] at h ⊢
        by_cases h2 : 2048 < (trimL q.b).length
        · simp only [if_pos h2]
          have := trimL_len q.b
          exact ⟨hc, by show ([] : List Int).length < _; rw [List.length_nil]; omega⟩
        · simp only [if_neg h2] at h; cases h
      · simp only [if_neg h1] at h ⊢
        have hu : (psUse q ((idx10 q.b).toNat + 1)).b.length < q.b.length := by show (q.b.drop _).length < _; rw [List.length_drop]; omega
        by_cases h2 : 2048 < (lineL q).length
        · simp only [if_pos h2]; exact ⟨hc, by omega⟩
        · simp only [if_neg h2] at h ⊢
          by_cases h3 : (lineT q).2 = -1
          · simp only [if_pos h3]; exact ⟨hc, by omega⟩
          · simp only [if_neg h3] at h ⊢
            obtain ⟨d1, d2⟩ := data_less _ h
            refine ⟨d1, ?_⟩
            have : (pend q).b = (psUse q ((idx10 q.b).toNat + 1)).b := rfl
            rw [this] at d2
            omega
    · simp only [if_neg hc] at h ⊢ hm
      obtain ⟨d1, d2⟩ := data_less _ h
      exact ⟨d1, by omega⟩
theorem drain_some : ∀ (f : Nat) (ps : PS), mu ps < f → ∃ ys p, Drain ps ys p ∧ ys.length ≤ mu ps
  | 0, ps, h => by omega
  | f + 1, ps, h => by
    cases hb : (nextR ps).2.1 with
    | false => exact ⟨[], _, ⟨hb, rfl⟩, Nat.zero_le _⟩
    | true =>
      obtain ⟨l1, l2⟩ := next_less ps hb
      have hm : mu (nextR ps).2.2 = (nextR ps).2.2.b.length := by unfold mu; rw [if_pos l1]; omega
      obtain ⟨ys, p, h1, h2⟩ := drain_some f (nextR ps).2.2 (by omega)
      exact ⟨_ :: ys, p, ⟨hb, rfl, h1⟩, by rw [List.length_cons]; omega⟩
/-! What stays true. -/
theorem data_inv (st : PS) (hI : 0 ≤ st.n) : Inv (dataR st).2.2 := by
  intro h
  unfold dataR psData at h ⊢
  by_cases h1 : psEnd st.b st.n.toNat < 0
  · simp only [if_pos h1]; exact hI
  · simp only [if_neg h1] at h ⊢
    by_cases h2 : psEnd st.b st.n.toNat = 0
    · simp only [if_pos h2]; exact hI
    · simp only [if_neg h2]; exact hI
theorem next_inv (ps : PS) (hI : Inv ps) : Inv (nextR ps).2.2 := by
  have hN := hI.nrm
  unfold nextR
  generalize nrm ps = q at *
  unfold nextN
  by_cases hs : q.skip = true
  · rw [if_pos hs]; exact hN
  · rw [if_neg hs]
    by_cases hc : isNil q.c = true
    · rw [if_pos hc]
      by_cases h1 : idx10 q.b < 0
      · rw [if_pos h1]
        by_cases h2 : 2048 < (trimL q.b).length
        · rw [if_pos h2]; exact hN
        · rw [if_neg h2]; exact hN
      · rw [if_neg h1]
        by_cases h2 : 2048 < (lineL q).length
        · rw [if_pos h2]; exact hN
        · rw [if_neg h2]
          by_cases h3 : (lineT q).2 = -1
          · rw [if_pos h3]; exact hN
          · rw [if_neg h3]; exact data_inv _ (pend_ok q h3).1
    · rw [if_neg hc]; exact data_inv _ (hN (by simpa using hc))
theorem next_keys (ps : PS) : (toX (nextR ps).1).keys.length ≤ 64 := by
  have hp : ∀ c : Cm, (toX (.pl c)).keys.length ≤ 64 := fun c => by cases c <;> simp [toX, toD]
  unfold nextR
  generalize nrm ps = q at *
  unfold nextN
  by_cases hs : q.skip = true
  · rw [if_pos hs]; exact hp _
  · rw [if_neg hs]
    by_cases hc : isNil q.c = true
    · rw [if_pos hc]
      by_cases h1 : idx10 q.b < 0
      · rw [if_pos h1]
        by_cases h2 : 2048 < (trimL q.b).length
        · rw [if_pos h2]; exact hp _
        · rw [if_neg h2]; exact hp _
      · rw [if_neg h1]
        by_cases h2 : 2048 < (lineL q).length
        · rw [if_pos h2]; exact hp _
        · rw [if_neg h2]
          by_cases h3 : (lineT q).2 = -1
          · rw [if_pos h3]; exact (okX_line _).2.2
          · rw [if_neg h3]; exact hp _
    · rw [if_neg hc]; exact hp _
end Go.Proofs.YtfbhlbchmenloaaDoor.Pure
end
section
namespace Go.Proofs.YtfbhlbchmenloaaDoor.Pure
open Go Go.RowKit Go.Proofs.YtfbhlbchmenloaaDoorW.PrintWords Go.Proofs.YtfbhlbchmenloaaDoor.H Go.Proofs.YtfbhlbchmenloaaDoor.L
set_option linter.unusedSimpArgs false
set_option linter.unusedVariables false
theorem cmd_is (d : Cd) (hk : d.keys.length ≤ 64) : cellaretref17_Cmd.f d.what d.verb d.keys d.data d.flags d.exp d.cas d.by_ d.withCas d.withTouch d.down d.quiet = some (d.what, d.verb, d.keys, d.data, d.flags, d.exp, d.cas, d.by_, d.withCas, d.withTouch, d.down, d.quiet) := by
  unfold cellaretref17_Cmd.f
  simp only [Option.bind_some, List.nil_append, List.length_nil, Nat.zero_add, if_pos (show d.keys.length < 8796093022208 by omega)]
  by_cases h : (d.keys.length : Int) = 0
  · rw [if_pos h, List.eq_nil_of_length_eq_zero (show d.keys.length = 0 by omega)]
  · rw [if_neg h]
theorem same_loop (d : Cd) (hk : d.keys.length < 1000000) : ∀ (m i : Nat), i + m = d.keys.length →
    Ev (fun k => cellaretref17_SameCmd.l0 k (i : Int) d.what d.verb d.keys d.data d.flags d.exp d.cas d.by_ d.withCas d.withTouch d.down d.quiet d.what d.verb d.keys d.data d.flags d.exp d.cas d.by_ d.withCas d.withTouch d.down d.quiet) true
  | 0, i, hi => by
    refine Ev.step (fun k => cellaretref17_SameCmd.l0.eq_2 _ _ _ _ _ _ _ _ _ _ _ _ _ _ _ _ _ _ _ _ _ _ _ _ _ _) ?_
    simp only [if_neg (show ¬ (i : Int) < (d.keys.length : Int) by omega), if_true, beq_self_eq_true]
    exact Ev.now _
  | m + 1, i, hi => by
    refine Ev.step (fun k => cellaretref17_SameCmd.l0.eq_2 _ _ _ _ _ _ _ _ _ _ _ _ _ _ _ _ _ _ _ _ _ _ _ _ _ _) ?_
    have hw : wrap64 ((i : Int) + 1) = ((i + 1 : Nat) : Int) := by unfold wrap64; omega
    simp only [if_pos (show (i : Int) < (d.keys.length : Int) by omega), if_pos (show (0 : Int) ≤ (i : Int) by omega), if_true, hw]
    exact same_loop d hk m (i + 1) (by omega)
theorem evSame (d : Cd) (hk : d.keys.length < 1000000) : Ev (fun k => cellaretref17_SameCmd.f k d.what d.verb d.keys d.data d.flags d.exp d.cas d.by_ d.withCas d.withTouch d.down d.quiet d.what d.verb d.keys d.data d.flags d.exp d.cas d.by_ d.withCas d.withTouch d.down d.quiet) true := by
  unfold cellaretref17_SameCmd.f
  simp only [if_true]
  exact same_loop d hk d.keys.length 0 (by omega)
theorem and4095 (z : Int) : ∃ m : Nat, Go.bits .and .i64 z 4095 = (m : Int) := by
  have h : (BitVec.ofInt 64 z).toNat &&& 4095 < 2 ^ 12 := Nat.and_lt_two_pow _ (by decide)
  refine ⟨(BitVec.ofInt 64 z).toNat &&& 4095, ?_⟩
  show IntKind.i64.wrap (((BitVec.ofInt 64 z &&& BitVec.ofInt 64 4095).toNat : Nat) : Int) = _
  rw [BitVec.toNat_and, show (BitVec.ofInt 64 4095).toNat = 4095 from by decide, IntKind.wrap_i64]
  omega
theorem awake60 : cellaretlaw18_awake.f 60 = some true := by kernel_rfl
theorem awakeEv : Ev (fun k => cellaretlaw18_awake.f k) true := Ev.of cellaretlaw18_awake.mono awake60
end Go.Proofs.YtfbhlbchmenloaaDoor.Pure
end
section
namespace Go.Proofs.YtfbhlbchmenloaaDoor.Pure
open Go Go.RowKit Go.Proofs.YtfbhlbchmenloaaDoorW.PrintWords Go.Proofs.YtfbhlbchmenloaaDoor.H Go.Proofs.YtfbhlbchmenloaaDoor.L
set_option linter.unusedSimpArgs false
set_option linter.unusedVariables false
def toC (y : Cx) : S32 := ⟨(toX y).what, (toX y).verb, (toX y).keys, (toX y).data, (toX y).flags, (toX y).exp, (toX y).cas, (toX y).by_, (toX y).withCas, (toX y).withTouch, (toX y).down, (toX y).quiet⟩
theorem mu_le (ps : PS) : mu ps ≤ ps.b.length + 1 := by unfold mu; split <;> omega
theorem next_b (ps : PS) : (nextR ps).2.2.b.length ≤ ps.b.length := by
  cases hb : (nextR ps).2.1 with
  | true =>
    have h := (next_less ps hb).2
    have := mu_le ps
    omega
  | false =>
    obtain ⟨c1, c2, c3⟩ := nrm_c ps
    unfold nextR at hb ⊢
    generalize nrm ps = q at *
    have hlt := idx_lt q.b
    unfold nextN at hb ⊢
    by_cases hs : q.skip = true
    · rw [if_pos hs]; exact c3
    · rw [if_neg hs] at hb ⊢
      by_cases hc : isNil q.c = true
      · rw [if_pos hc] at hb ⊢
        by_cases h1 : idx10 q.b < 0
        · rw [if_pos h1] at hb ⊢
          by_cases h2 : 2048 < (trimL q.b).length
          · rw [if_pos h2]; exact Nat.zero_le _
          · rw [if_neg h2]; exact c3
        · rw [if_neg h1] at hb ⊢
          by_cases h2 : 2048 < (lineL q).length
          · rw [if_pos h2] at hb; cases hb
          · rw [if_neg h2] at hb ⊢
            by_cases h3 : (lineT q).2 = -1
            · rw [if_pos h3] at hb; cases hb
            · rw [if_neg h3] at hb ⊢
              rw [data_wait _ hb]
              show (q.b.drop _).length ≤ _
              rw [List.length_drop]
              omega
      · rw [if_neg hc] at hb ⊢
        rw [data_wait _ hb]
        exact c3
theorem drain_b : ∀ (ys : List Cx) (ps p : PS), Drain ps ys p → p.b.length ≤ ps.b.length
  | [], ps, p, h => by rw [← h.2]; exact next_b ps
  | y :: ys, ps, p, h => Nat.le_trans (drain_b ys _ p h.2.2) (next_b ps)
theorem drain_inv : ∀ (ys : List Cx) (ps p : PS), Inv ps → Drain ps ys p → Inv p
  | [], ps, p, hI, h => by rw [← h.2]; exact next_inv ps hI
  | y :: ys, ps, p, hI, h => drain_inv ys _ p (next_inv ps hI) h.2.2
/-- All that comes of a Parser to which l is fed. -/
theorem loopA (s : ByteArray) (cuts : List Int) {r : Bool} : ∀ (ys : List Cx) (out : List S32) (c : Nat) (ps p : PS), Drain ps ys p → Inv ps → c + ys.length < 5000 → out.length = c →
    Ev (fun k => cellaretlaw18_ParsePieces.j2 k s cuts (out ++ ys.map toC)) r → Ev (fun k => cellaretlaw18_ParsePieces.l0 k s cuts out (c : Int) ps) r
  | [], out, c, ps, p, hd, hI, hc, ho, hr => by
    refine Ev.step (fun k => cellaretlaw18_ParsePieces.l0.eq_2 _ _ _ _ _ _) ?_
    simp only [if_pos (show (c : Int) < 5000 by simp at hc; omega)]
    refine Ev.bind (evNext ps hI) ?_
    simp only [outP, hd.1, Bool.false_eq_true, if_false]
    simpa using hr
  | y :: ys, out, c, ps, p, hd, hI, hc, ho, hr => by
    refine Ev.step (fun k => cellaretlaw18_ParsePieces.l0.eq_2 _ _ _ _ _ _) ?_
    rw [List.length_cons] at hc
    simp only [if_pos (show (c : Int) < 5000 by omega)]
    refine Ev.bind (evNext ps hI) ?_
    have hw : wrap64 ((c : Int) + 1) = ((c + 1 : Nat) : Int) := by unfold wrap64; omega
    simp only [outP, hd.1, if_true, cmd_is _ (next_keys ps), Option.bind_some, hw, if_pos (show out.length < 1256584717458 by omega)]
    have h := loopA s cuts ys (out ++ [toC y]) (c + 1) (nextR ps).2.2 p hd.2.2 (next_inv ps hI) (by omega) (by simp; omega) (by rw [List.append_assoc]; exact hr)
    rw [← hd.2.1] at h
    exact h
theorem rdT_at (xs : List S32) (i : Nat) (h : i < xs.length) : rd_T32 xs (i : Int) = xs[i] := by
  unfold rd_T32
  rw [Int.toNat_natCast, List.getD_eq_getElem?_getD, List.getElem?_eq_getElem h]
  rfl
theorem loopB (s : ByteArray) (cuts : List Int) (x : List Cx) (hx : x.length < 1000000) (at_ i : Int) {r : Bool} : ∀ (ys zs done : List Cx) (n c : Nat) (ps p : PS), Drain ps ys p → Inv ps → x = done ++ (ys ++ zs) → done.length = n → c + ys.length < 5000 →
    Ev (fun k => cellaretlaw18_ParsePieces.l1 k s cuts (x.map toC) at_ ((n + ys.length : Nat) : Int) (wrap64 (i + 1)) p) r →
    Ev (fun k => cellaretlaw18_ParsePieces.l2 k s cuts (x.map toC) at_ (n : Int) i (c : Int) ps) r
  | [], zs, done, n, c, ps, p, hd, hI, hxs, hn, hc, hr => by
    refine Ev.step (fun k => cellaretlaw18_ParsePieces.l2.eq_2 _ _ _ _ _ _ _ _ _) ?_
    simp only [if_pos (show (c : Int) < 5000 by simp at hc; omega)]
    refine Ev.bind (evNext ps hI) ?_
    simp only [outP, hd.1, Bool.false_eq_true, if_false]
    rw [← hd.2] at hr
    exact hr
  | y :: ys, zs, done, n, c, ps, p, hd, hI, hxs, hn, hc, hr => by
    refine Ev.step (fun k => cellaretlaw18_ParsePieces.l2.eq_2 _ _ _ _ _ _ _ _ _) ?_
    rw [List.length_cons] at hc
    simp only [if_pos (show (c : Int) < 5000 by omega)]
    refine Ev.bind (evNext ps hI) ?_
    have hlx : n < x.length := by rw [hxs]; simp; omega
    have hlm : n < (x.map toC).length := by rw [List.length_map]; exact hlx
    have hxn : (x.map toC)[n] = toC (nextR ps).1 := by
      rw [List.getElem_map]
      congr 1
      rw [hd.2.1]
      subst hxs
      rw [List.getElem_append_right (by omega)]
      simp [hn]
    have hw : wrap64 ((c : Int) + 1) = ((c + 1 : Nat) : Int) := by unfold wrap64; omega
    have hw2 : wrap64 ((n : Int) + 1) = ((n + 1 : Nat) : Int) := by unfold wrap64; omega
    simp only [outP, hd.1, if_true, if_neg (show ¬ (n : Int) ≥ ((x.map toC).length : Int) by omega), cmd_is _ (next_keys ps), Option.bind_some, if_pos (show (0 : Int) ≤ (n : Int) by omega), if_pos (show (n : Int) < ((x.map toC).length : Int) by omega), rdT_at _ n hlm, hxn, hw, hw2]
    refine Ev.bind (evSame (toX (nextR ps).1) (by have := next_keys ps; omega)) ?_
    simp only [if_true]
    exact loopB s cuts x hx at_ i ys zs (done ++ [y]) (n + 1) (c + 1) (nextR ps).2.2 p hd.2.2 (next_inv ps hI) (by rw [hxs]; simp) (by simp; omega) (by omega) (by rw [List.length_cons] at hr; rw [show n + 1 + ys.length = n + (ys.length + 1) by omega]; exact hr)
/-- The bytes of a text behind a place. -/
def tailL (s : ByteArray) (a : Nat) : List Int := (bytesOf s).drop a
theorem piece_bytes (s : ByteArray) (a b : Nat) (h1 : a ≤ b) (h2 : b ≤ s.size) : bytesOf (s.extract a b) ++ tailL s b = tailL s a := by
  have e : bytesOf (s.extract a b) = ((bytesOf s).drop a).take (b - a) := by
    unfold bytesOf
    rw [Lib.extract_data, List.map_take, List.map_drop]
  unfold tailL
  rw [e, show b = a + (b - a) by omega, ← List.drop_drop, show a + (b - a) - a = b - a by omega, List.take_append_drop]
theorem wsub (a b : Nat) (h : b ≤ a) (ha : a ≤ 100000) : wrap64 ((a : Int) - (b : Int)) = ((a - b : Nat) : Int) := by unfold wrap64; omega
theorem wadd1 (a : Nat) (ha : a ≤ 100000) : wrap64 ((a : Int) + 1) = ((a + 1 : Nat) : Int) := by unfold wrap64; omega
theorem wadd (a b : Nat) (h : a + b ≤ 100000) : wrap64 ((a : Int) + (b : Int)) = ((a + b : Nat) : Int) := by unfold wrap64; omega
theorem outer (s : ByteArray) (cuts : List Int) (hs : s.size ≤ 4000) (hcuts : cuts.length ≤ 20) (x : List Cx) (hx : x.length ≤ 4001) : ∀ (d i a n : Nat) (done zs : List Cx) (ps pf : PS), i + d = cuts.length → a ≤ s.size → Inv ps → ps.b.length ≤ a →
    Drain (psFeed ps (tailL s a)) zs pf → x = done ++ zs → done.length = n → Ev (fun k => cellaretlaw18_ParsePieces.l1 k s cuts (x.map toC) (a : Int) (n : Int) (i : Int) ps) true := by
  have last : ∀ (i a n : Nat) (ps : PS), i = cuts.length + 1 → n = x.length → Ev (fun k => cellaretlaw18_ParsePieces.l1 k s cuts (x.map toC) (a : Int) (n : Int) (i : Int) ps) true := by
    intro i a n ps hi hn
    refine Ev.step (fun k => cellaretlaw18_ParsePieces.l1.eq_2 _ _ _ _ _ _ _ _) ?_
    simp only [if_neg (show ¬ (i : Int) ≤ (cuts.length : Int) by omega), List.length_map, hn, beq_self_eq_true]
    exact Ev.now _
  have step : ∀ (i a b n : Nat) (done zs : List Cx) (ps pf : PS) (next : ∀ ys zs2 p, Drain (psFeed ps (bytesOf (s.extract a b))) ys p → Inv p → p.b.length ≤ b → Drain (psFeed p (tailL s b)) zs2 pf → zs = ys ++ zs2 → Ev (fun k => cellaretlaw18_ParsePieces.l1 k s cuts (x.map toC) (b : Int) ((n + ys.length : Nat) : Int) ((i + 1 : Nat) : Int) p) true),
      i ≤ cuts.length → a ≤ b → b ≤ s.size → Inv ps → ps.b.length ≤ a → Drain (psFeed ps (tailL s a)) zs pf → x = done ++ zs → done.length = n →
      Ev (fun k => cellaretlaw18_ParsePieces.j4 k s cuts (x.map toC) (a : Int) (n : Int) (i : Int) (b : Int) ps) true := by
    intro i a b n done zs ps pf next hi hab hb hI hpl hd hxs hn
    refine Ev.step (fun k => cellaretlaw18_ParsePieces.j4.eq_2 _ _ _ _ _ _ _ _ _) ?_
    have hlen : (bytesOf (s.extract a b)).length = b - a := by rw [bytesOf_length, ByteArray.size_extract]; omega
    have hcv : convB.f (s.extract a b) = some (bytesOf (s.extract a b)) := by unfold convB.f; rw [if_pos (by rw [ByteArray.size_extract]; omega)]
    have hfd : parse_Feed.f ps (bytesOf (s.extract a b)) = some (psFeed ps (bytesOf (s.extract a b))) := by unfold parse_Feed.f; rw [if_pos (by rw [hlen]; omega)]
    have hw : wrap64 ((i : Int) + 1) = ((i + 1 : Nat) : Int) := by unfold wrap64; omega
    simp only [if_pos (show (0 : Int) ≤ (a : Int) by omega), if_pos (show (a : Int) ≤ (b : Int) by omega), if_pos (show (b : Int) ≤ (s.size : Int) by omega), Int.toNat_natCast, hcv, hfd, Option.bind_some]
    have hmb : (psFeed ps (bytesOf (s.extract a b))).b.length ≤ b := by show (ps.b ++ bytesOf (s.extract a b)).length ≤ b; rw [List.length_append, hlen]; omega
    obtain ⟨ys, p, hy, hyl⟩ := drain_some (mu (psFeed ps (bytesOf (s.extract a b))) + 1) _ (Nat.lt_succ_self _)
    have hmu := mu_le (psFeed ps (bytesOf (s.extract a b)))
    obtain ⟨zs2, q, hz, _⟩ := drain_some (mu (psFeed p (tailL s b)) + 1) _ (Nat.lt_succ_self _)
    have hall := drain_feed (tailL s b) ys zs2 _ p q hy hz
    rw [show psFeed (psFeed ps (bytesOf (s.extract a b))) (tailL s b) = psFeed ps (tailL s a) from by
      rw [← piece_bytes s a b hab hb]
      unfold psFeed
      simp only [List.append_assoc]] at hall
    obtain ⟨e1, e2⟩ := drain_one _ _ _ _ _ hall hd
    subst e2
    have hpb := drain_b ys _ p hy
    refine loopB s cuts x (by omega) (b : Int) (i : Int) ys zs2 done n 0 _ p hy (hI.feed _) (by rw [hxs, ← e1]) hn (by omega) ?_
    rw [hw]
    exact next ys zs2 p hy (drain_inv ys _ p (hI.feed _) hy) (by omega) hz e1.symm
  intro d
  induction d with
  | zero =>
    intro i a n done zs ps pf hi ha hI hpl hd hxs hn
    refine Ev.step (fun k => cellaretlaw18_ParsePieces.l1.eq_2 _ _ _ _ _ _ _ _) ?_
    simp only [if_pos (show (i : Int) ≤ (cuts.length : Int) by omega), if_neg (show ¬ (i : Int) < (cuts.length : Int) by omega)]
    refine step i a s.size n done zs ps pf (fun ys zs2 p h1 h2 h3 h4 h5 => ?_) (by omega) ha (Nat.le_refl _) hI hpl hd hxs hn
    have hnil : tailL s s.size = [] := by unfold tailL; exact List.drop_of_length_le (by rw [bytesOf_length]; exact Nat.le_refl _)
    rw [hnil] at h4
    have hz : zs2 = [] := by
      have hid : psFeed p [] = p := by unfold psFeed; rw [List.append_nil]
      rw [hid] at h4
      have hdd := drain_feed [] ys zs2 _ p pf h1 (by rw [hid]; exact h4)
      rw [show psFeed (psFeed ps (bytesOf (s.extract a s.size))) [] = psFeed ps (bytesOf (s.extract a s.size)) from by unfold psFeed; simp] at hdd
      obtain ⟨e1, _⟩ := drain_one _ _ _ _ _ hdd h1
      exact List.append_right_eq_self.1 e1
    subst hz
    rw [List.append_nil] at h5
    subst h5
    exact last (i + 1) _ _ p (by omega) (by rw [hxs, List.length_append, hn])
  | succ d ih =>
    intro i a n done zs ps pf hi ha hI hpl hd hxs hn
    refine Ev.step (fun k => cellaretlaw18_ParsePieces.l1.eq_2 _ _ _ _ _ _ _ _) ?_
    obtain ⟨m, hm⟩ := and4095 (rd cuts (i : Int))
    obtain ⟨t, w4, hlt⟩ : ∃ t : Nat, Int.tmod (m : Int) ((s.size - a + 1 : Nat) : Int) = (t : Int) ∧ t < s.size - a + 1 := ⟨m % (s.size - a + 1), Int.tmod_eq_emod_of_nonneg (Int.natCast_nonneg m), Nat.mod_lt _ (Nat.succ_pos _)⟩
    have w1 := wsub s.size a ha (by omega)
    have w2 := wadd1 (s.size - a) (by omega)
    have w3 := wadd a t (by clear w1 w2 w4 hm; omega)
    have q1 : (i : Int) ≤ (cuts.length : Int) := by clear w1 w2 w3 w4 hm; omega
    have q2 : (i : Int) < (cuts.length : Int) := by clear w1 w2 w3 w4 hm; omega
    have q3 : (0 : Int) ≤ (i : Int) := Int.natCast_nonneg i
    have q4 : ¬ ((s.size - a + 1 : Nat) : Int) = 0 := by clear w1 w2 w3 w4 hm; omega
    simp only [if_pos q1, if_pos q2, if_pos q3, w1, w2, if_neg q4, hm, w4, w3]
    clear w1 w2 w3 w4 hm q1 q2 q3 q4
    refine step i a (a + t) n done zs ps pf (fun ys zs2 p h1 h2 h3 h4 h5 => ?_) (by omega) (by omega) (by omega) hI hpl hd hxs hn
    exact ih (i + 1) _ _ (done ++ ys) zs2 p pf (by omega) (by omega) h2 h3 h4 (by rw [hxs, h5, List.append_assoc]) (by rw [List.length_append, hn])
theorem ParsePieces : cellaretlaw18_ParsePieces.Pure := by
  intro s cuts hs hl1 hl2 hwf
  refine Ev.rounds (r := true) ?_
  unfold cellaretlaw18_ParsePieces.f
  refine Ev.bind awakeEv ?_
  simp only [if_true]
  by_cases h : (s.size : Int) > 4000
  · simp only [if_pos h]
    refine Ev.step (fun k => cellaretlaw18_ParsePieces.j0.eq_2 _ _ _ _) ?_
    simp only [if_true]
    exact Ev.now _
  · simp only [if_neg h]
    refine Ev.step (fun k => cellaretlaw18_ParsePieces.j0.eq_2 _ _ _ _) ?_
    by_cases h2 : (cuts.length : Int) > 20
    · simp only [decide_eq_true h2, if_true]
      exact Ev.now _
    · have hcv : convB.f s = some (bytesOf s) := by unfold convB.f; rw [if_pos (by omega)]
      have hfd : parse_Feed.f psNew (bytesOf s) = some (psFeed psNew (bytesOf s)) := by unfold parse_Feed.f; rw [if_pos (by rw [bytesOf_length]; show 0 + s.size ≤ _; omega)]
      simp only [decide_eq_false h2, Bool.false_eq_true, if_false, parse_New.f, hcv, hfd, Option.bind_some]
      have hI : Inv psNew := fun h => by cases h
      have hfb : (psFeed psNew (bytesOf s)).b.length = s.size := by show ([] ++ bytesOf s).length = _; rw [List.nil_append, bytesOf_length]
      obtain ⟨x, pf, hd, hxl⟩ := drain_some (mu (psFeed psNew (bytesOf s)) + 1) _ (Nat.lt_succ_self _)
      have hmu := mu_le (psFeed psNew (bytesOf s))
      refine loopA s cuts x [] 0 _ pf hd (hI.feed _) (by omega) rfl ?_
      refine Ev.step (fun k => cellaretlaw18_ParsePieces.j2.eq_2 _ _ _ _) ?_
      simp only [parse_New.f, Option.bind_some, List.nil_append]
      exact outer s cuts (by omega) (by omega) x (by omega) cuts.length 0 0 0 [] x psNew pf (by omega) (Nat.zero_le _) hI (Nat.zero_le _) hd rfl rfl
end Go.Proofs.YtfbhlbchmenloaaDoor.Pure
end
section
namespace Go.Proofs.YtfbhlbchmenloaaDoor.parsePieces
open Go.ChangeShapes Go.WideShapes Go.ChangeAt Go.RowKit Go.Proofs.YtfbhlbchmenloaaDoor.R Go.Proofs.YtfbhlbchmenloaaDoor.H
open Go.ChangeMaps (open_string shut_string)
set_option linter.unusedVariables false
set_option linter.unusedSimpArgs false
theorem laidOut : laidOutB Tryd.prog = true := by kernel_rfl
set_option maxRecDepth 100000 in
theorem contract (H : Type) (enc : TypeId × Value → H) (W : World) (base : Nat) (args : Array Value) (ds gs : List (DataW H)) (before : List MemPlace)
    (hval0 : ∀ (j : Nat) t v, Tryd.f4.params[j]? = some t → args[j]? = some v → Value.okWide Tryd.prog W .any base t v)
    (hW : DataW.Whole enc Tryd.prog Tryd.f4.params.toList Rows.parsePiecesSpec.vars false W args.toList ds gs before)
    (hsz0 : (DataW.weightsEach Tryd.prog (Tryd.f4.params.toList ++ Rows.parsePiecesSpec.plain.varTypes Tryd.prog) (ds ++ gs)).all (· ≤ reachBytes) = true)
    (HLD : LaidA W) :
    Calls Tryd.prog 4 args W fun e W' => ∃ v, e = .returned v ∧ Rows.parsePiecesSpec.post enc Tryd.prog Tryd.f4 false true false false W args v W' := by
  have hsz := hsz0
  have hval := hval0
  have hW' := hW
  obtain ⟨p, q, hA0, hV, rfl, hfz, hnd⟩ := hW
  have hA : DataW.TrodAll enc Tryd.prog W 0 (fun _ => true) true Tryd.f4.params.toList args.toList ds p := hA0
  rw [Tryd.params4] at hA hval hsz
  obtain ⟨v0, vs0, d0, ds0, p0, q0, hargs, rfl, rfl, h0, r0⟩ := trodAll_cons hA
  obtain ⟨v1, vs1, d1, ds1, p1, q1, rfl, rfl, rfl, h1, r1⟩ := trodAll_cons r0
  obtain ⟨rfl, rfl, rfl⟩ := trodAll_nil r1
  obtain rfl : args = #[v0, v1] := by cases args; simp_all
  obtain ⟨rfl, rfl⟩ := trodVars_none hV
  obtain ⟨a0, rfl, rfl, rfl, y0⟩ := open_string Tryd.underlying9 (hval 0 9 v0 rfl rfl) h0
  have w0 : a0.size ≤ 140737488351232 := by
    have z := sized_string hsz (j := 0) (t := 9) rfl rfl
    rw [Array.length_toList] at z
    exact z
  obtain ⟨a1, len1, cap1, rfl⟩ := okWide_slice Tryd.underlying34 (hval 1 34 v1 rfl rfl)
  have k1 := h1
  have lt1 : ∀ x ∈ p1, x.block < W.heap.size := by obtain ⟨m, hm⟩ := k1; exact DataW.trod_lt m _ _ _ hm
  obtain ⟨z1, w1⟩ : ∃ zs : List Int, (a1 = none ∧ len1 = 0 ∧ cap1 = 0 ∧ zs = []) ∨ ∃ x, a1 = some x ∧ len1 ≤ cap1 ∧ cap1 ≤ maxLen ∧ zs.length = cap1 ∧ (∀ i, i < zs.length → W.cell? (x.add i) = some (.int .i64 (zs.getD i 0))) ∧ ∀ n ∈ zs, (Lit.int .i64 n).wf = true := by
    obtain ⟨fuel, hf⟩ := h1
    rcases open_ints Tryd.underlying34 Tryd.underlying3 (by kernel_rfl) hf with ⟨hcs, _⟩ | ⟨x, l, c, zs, hcs, _, hl, hm, hz, _, hcell, hwz⟩
    · simp [Value.cells] at hcs
      obtain ⟨rfl, rfl, rfl⟩ := hcs
      exact ⟨[], .inl ⟨rfl, rfl, rfl, rfl⟩⟩
    · simp [Value.cells] at hcs
      obtain ⟨rfl, rfl, rfl⟩ := hcs
      exact ⟨zs, .inr ⟨_, rfl, hl, hm, by simpa using hz, hcell, hwz⟩⟩
  have y1 : len1 * 8 ≤ 140737488351232 := Go.Proofs.YtfbhlbchmenloaaDoorW.PrintWords.sized_ints hsz (j := 1) (t := 34) rfl rfl Tryd.underlying34 Tryd.underlying3 (by kernel_rfl) (by kernel_rfl) h1
  clear hA0 hval0 hsz0 hsz
  refine (Go.Proofs.YtfbhlbchmenloaaDoor.H.cellaretlaw18_ParsePieces.walk Go.Proofs.YtfbhlbchmenloaaDoor.Pure.ParsePieces a0 a1 len1 cap1 z1 W HLD w0 w1 y1).mono fun e W' ⟨he, bel⟩ => ?_
  subst he
  exact ⟨_, rfl, _, _, _, [], _, [], hW', trodAll_mk1 (shut_bool Tryd.underlying4 _), (trodAll_cons_mk (shut_string Tryd.underlying9 y0) (trodAll_cons_mk (Below.trod laidOut (by kernel_rfl) (of_decide_eq_true (by kernel_rfl)) k1 bel lt1) trodAll_mk0)), rfl, bel.frame _, fun h => by cases h⟩
theorem reads (os : Os) {H : Type} (enc : TypeId × Value → H) : ∃ places, DataW.whole enc Tryd.prog ((laidWorld os).forCall (fun _ _ => 0) ⟨#[], #[.string ByteArray.empty, .slice none 0 0], []⟩).memory Tryd.f4.params.toList Rows.parsePiecesSpec.vars false #[Value.string ByteArray.empty, Value.slice none 0 0].toList 8 = some ([.lit (.string []), .nil], [], places) :=
  ⟨[], by kernel_rfl⟩
set_option maxRecDepth 100000 in
theorem lifted (os : Os) (started : os.Started) (H : Type) (enc : TypeId × Value → H) (F : Stop.Interp) :
    ReturnsInHanded {} Tryd.checked os 4 .any ((OpenSpec.ofChange Rows.parsePiecesSpec).preRow enc Tryd.prog Tryd.f4 Rows.parsePiecesRow.domain false Rows.parsePiecesRow.laid) (((OpenSpec.ofChange Rows.parsePiecesSpec).at F).post enc Tryd.prog Tryd.f4 false true false false) := by
  obtain ⟨places, hx⟩ := reads os enc
  refine returnsInHanded_of_row (C := Tryd.checked) (s := OpenSpec.ofChange Rows.parsePiecesSpec) own started (by kernel_rfl) Tryd.func4
    (witness_row_atRef (enc := enc) (C := Tryd.checked) false (laidWorld os) #[.string ByteArray.empty, .slice none 0 0] rfl (by kernel_rfl) (by kernel_rfl) (by kernel_rfl)
      (OpenSpec.preRow_of_cond 8 hx (by kernel_rfl) (fun k hk => by cases hk) (by kernel_rfl) (laid_met os _))) ?_
  intro W base args ds gs before hval hW _ _ hsz hL hsh _
  exact contract H enc W base args ds gs before hval hW hsz (laidA_of hL hsh)
theorem said : Rows.ParsePiecesSaid :=
  OpenClaim.holds_of_cond 4 Tryd.f4 rfl rfl rfl rfl rfl rfl rfl ⟨rfl, rfl, rfl, rfl, rfl⟩ rfl rfl rfl rfl rfl (by kernel_rfl) Tryd.func4 (by kernel_rfl)
    (of_decide_eq_true (by kernel_rfl)) (by unfold Func.isWrapper; first | (rw [if_pos (by decide +kernel)]; kernel_rfl) | (rw [if_neg (by decide +kernel)]; exact ⟨rfl, rfl⟩))
    (fun os started H enc _ F => by rw [OpenClaim.pre_eq_preRow]; exact lifted os started H enc F)
theorem plain (f : FuncId) (fn : Func) (hf : Tryd.pinned.checked.prog.funcNamed "cellaret/cellaretlaw18.ParsePieces" = some f) (hfn : Tryd.pinned.checked.prog.funcs[f]? = some fn) :
    true = Tryd.pinned.checked.prog.looks [] ∧ ∀ (j : Nat) t, fn.params[j]? = some t → Tryd.pinned.checked.prog.wantsStandIn t = false := by
  obtain rfl : f = 4 := Option.some.inj ((show Tryd.prog.funcNamed "cellaret/cellaretlaw18.ParsePieces" = some 4 by kernel_rfl).symm.trans hf) |>.symm
  obtain rfl : fn = Tryd.f4 := (Option.some.inj (Tryd.func4.symm.trans hfn)).symm
  refine ⟨by kernel_rfl, fun j t ht => ?_⟩
  rw [Tryd.params4] at ht
  have hm := Array.mem_of_getElem? ht
  have hm2 : t = 9 ∨ t = 34 := by simpa [or_comm, or_assoc] using hm
  rcases hm2 with rfl | rfl
  · exact (show Tryd.prog.wantsStandIn 9 = false by kernel_rfl)
  · exact (show Tryd.prog.wantsStandIn 34 = false by kernel_rfl)
theorem card : Rows.ParsePiecesCardSaid :=
  Claim7.holds_tied_plain_at .later [] _ _ _ _ said (fun _ h => by cases h) (by kernel_rfl) (fun _ h => by cases h) parsePieces_row_tie rfl ⟨rfl, rfl⟩ (by kernel_rfl) rfl plain (by kernel_rfl)
end Go.Proofs.YtfbhlbchmenloaaDoor.parsePieces
namespace Go.Proofs.YtfbhlbchmenloaaDoor
/-- The card, under a short name, for the claim. -/
theorem parsePieces_holds : Rows.ParsePiecesCardSaid := parsePieces.card
end Go.Proofs.YtfbhlbchmenloaaDoor
end
