/-
  The law's own walk, its plain statement and its row: the law holds. Its condition: none beside the given row's own.
-/
import Derived.Test.YtfbhlbchmenloaaGreatDoorMB0
import Derived.Test.YtfbhlbchmenloaaGreatDoorMB1
import Derived.Lib.ConvBytes
import Derived.Test.YtfbhlbchmenloaaGreatDoorProg
import Derived.Below
import Derived.Deep.Draws
import Derived.Deep.AppendLies
import Derived.Maps.AppendAt
import Derived.OwnWalk
import Derived.Laws.BytesArg
import Derived.Laws.MakeOwn
import Derived.Laws.OwnMore
import Derived.Deep.OwnRows
import Derived.Tactics
import Derived.Laws.Slices
import Derived.WalkKit
import Derived.KernelRfl
import Derived.RowKit3
import Derived.Deep.LoopGhost
import Derived.Deep.QuietTactic
import Derived.BigQuiet
import Derived.WideLaws
import Derived.Deep.DeepCutAuto
import Derived.Deep.CutBlock
import Derived.Deep.RegionHeld3
import Derived.Laws.Rows
import Derived.Lib.AppendStr
import Derived.ArgAppend
import Derived.Laws.IdiomCopy
import Derived.OrdersHeld
import Derived.Laws.BitsLemmas
import Derived.RowKit
import Derived.Test.YtfbhlbchmenloaaGreatDoorMBW0
import Derived.Lib.SplitLaws
import Derived.Lib.CutLaws
import Derived.Lib.CountLaws
import Derived.Lib.IndexLaws
import Derived.Lib.IndexBytes
section
namespace Go.Proofs.YtfbhlbchmenloaaGreatDoor.H
open Go.RowKit Go.Proofs.YtfbhlbchmenloaaGreatDoorW.PrintWords Go.Proofs.YtfbhlbchmenloaaGreatDoorW.PrintLast Go.Proofs.YtfbhlbchmenloaaGreatDoorW.PrintMore
set_option linter.unusedVariables false
set_option linter.unusedSimpArgs false
theorem str_drop {w : World} {gb ob : Nat} {xs : List ByteArray} (hmax : xs.length ≤ 9223372036854775807) (h : ∀ j, j < xs.length → w.cell? ⟨gb, ob + j, none⟩ = some (.string (xs.getD j ByteArray.empty))) (n m : Nat) (hm : (xs.drop n).length = m) : Kd.C Kd.string w (some ⟨gb, ob + n, none⟩) m (xs.drop n) := by
 refine ⟨hm, by rw [List.length_drop] at hm; omega, fun h0 => ⟨_, rfl, fun j p hj => ⟨[.string p], rfl, rfl, fun k u hu => ?_⟩⟩⟩
 have hjl := (List.getElem?_eq_some_iff.1 hj).1
 rw [List.length_drop] at hjl
 have hk : k = 0 := by
  have := (List.getElem?_eq_some_iff.1 hu).1
  simp at this
  omega
 subst hk
 obtain rfl := Option.some.inj hu
 rw [List.getElem?_drop] at hj
 have := h (n + j) (by omega)
 rw [List.getD_eq_getElem?_getD, hj] at this
 rw [add_at]
 have e : ob + n + (j * 1 + 0) = ob + (n + j) := by omega
 show w.cell? ⟨gb, ob + n + (j * 1 + 0), none⟩ = _
 rw [e]
 exact this
def get_T1 : Bool × List (List Nat × List Nat) := (true, [([], []), ([0], [0]), ([1], [1]), ([2], [2]), ([3], [3]), ([4], [4]), ([5, 4], [4, 5]), ([6, 4], [4, 6]), ([7, 4], [4, 7]), ([4, 8], [4, 8]), ([], []), ([10], [10]), ([11], [11]), ([12], [12]), ([13, 4], [13]), ([14], [14]), ([15, 14], [14, 15]), ([16, 14], [14, 16]), ([17, 14], [14, 17]), ([14, 18], [14, 18]), ([9, 19], [9, 19]), ([], []), ([21, 20, 14, 0, 1, 2, 3, 4, 5, 6, 7, 8, 9, 10, 11, 12, 13, 14, 15, 16, 17, 18, 19, 20, 21], [20, 21])])
def get_B1 : List Nat := [0, 1, 3, 7, 15, 31, 63, 127, 255, 511, 0, 1024, 3072, 7168, 15391, 31775, 64543, 130079, 261151, 523295, 1048575, 0, 4194303]
abbrev gb0_ : Array Bool := #[false, false, false, false, false, false, false, false, false, false, false, false, false, false, false, false, false, false, false, false, false, false, false]
abbrev gb1_ : Array Bool := #[true, false, false, false, false, false, false, false, false, false, false, false, false, false, false, false, false, false, false, false, false, false, false]
abbrev gb2_ : Array Bool := #[true, true, false, false, false, false, false, false, false, false, false, false, false, false, false, false, false, false, false, false, false, false, false]
abbrev gb3_ : Array Bool := #[true, true, true, false, false, false, false, false, false, false, false, false, false, false, false, false, false, false, false, false, false, false, false]
abbrev gb4_ : Array Bool := #[true, true, true, true, false, false, false, false, false, false, false, false, false, false, false, false, false, false, false, false, false, false, false]
abbrev gb5_ : Array Bool := #[true, true, true, true, true, false, false, false, false, false, false, false, false, false, false, false, false, false, false, false, false, false, false]
abbrev gb6_ : Array Bool := #[true, true, true, true, true, true, false, false, false, false, false, false, false, false, false, false, false, false, false, false, false, false, false]
abbrev gb7_ : Array Bool := #[true, true, true, true, true, true, true, false, false, false, false, false, false, false, false, false, false, false, false, false, false, false, false]
abbrev gb8_ : Array Bool := #[true, true, true, true, true, true, true, true, false, false, false, false, false, false, false, false, false, false, false, false, false, false, false]
abbrev gb9_ : Array Bool := #[true, true, true, true, true, true, true, true, true, false, false, false, false, false, false, false, false, false, false, false, false, false, false]
abbrev gb10_ : Array Bool := #[true, true, true, true, true, true, true, true, true, true, false, false, false, false, false, false, false, false, false, false, false, false, false]
abbrev gb11_ : Array Bool := #[true, true, true, true, true, true, true, true, true, true, true, false, false, false, false, false, false, false, false, false, false, false, false]
abbrev gb12_ : Array Bool := #[true, true, true, true, true, true, true, true, true, true, true, true, false, false, false, false, false, false, false, false, false, false, false]
abbrev gb13_ : Array Bool := #[true, true, true, true, true, true, true, true, true, true, true, true, true, false, false, false, false, false, false, false, false, false, false]
abbrev gb14_ : Array Bool := #[true, true, true, true, true, true, true, true, true, true, true, true, true, true, false, false, false, false, false, false, false, false, false]
abbrev gb15_ : Array Bool := #[true, true, true, true, true, true, true, true, true, true, true, true, true, true, true, false, false, false, false, false, false, false, false]
abbrev gb16_ : Array Bool := #[true, true, true, true, true, true, true, true, true, true, true, true, true, true, true, true, false, false, false, false, false, false, false]
abbrev gb17_ : Array Bool := #[true, true, true, true, true, true, true, true, true, true, true, true, true, true, true, true, true, false, false, false, false, false, false]
abbrev gb18_ : Array Bool := #[true, true, true, true, true, true, true, true, true, true, true, true, true, true, true, true, true, true, false, false, false, false, false]
abbrev gb19_ : Array Bool := #[true, true, true, true, true, true, true, true, true, true, true, true, true, true, true, true, true, true, true, false, false, false, false]
abbrev gb20_ : Array Bool := #[true, true, true, true, true, true, true, true, true, true, true, true, true, true, true, true, true, true, true, true, false, false, false]
abbrev gb21_ : Array Bool := #[true, true, true, true, true, true, true, true, true, true, true, true, true, true, true, true, true, true, true, true, true, false, false]
abbrev gb22_ : Array Bool := #[true, true, true, true, true, true, true, true, true, true, true, true, true, true, true, true, true, true, true, true, true, true, false]
abbrev gb23_ : Array Bool := #[true, true, true, true, true, true, true, true, true, true, true, true, true, true, true, true, true, true, true, true, true, true, true]
theorem get_tab1 : rtab .any (opsOf Tryz.f48 1) = get_T1 := by kernel_rfl
theorem get_bits1 : waitsOk get_T1.2 get_B1 = true := by kernel_rfl
/-- What a Get's words say, its keys told. -/
def getX (ks : List ByteArray) (ca t : Bool) (sg : Int × Bool) : Cx := if ks.any (fun k => !keyF k) = true ∨ 64 < ks.length then .pl (.bad ⟨#[67, 76, 73, 69, 78, 84, 95, 69, 82, 82, 79, 82, 32, 98, 97, 100, 32, 99, 111, 109, 109, 97, 110, 100, 32, 108, 105, 110, 101, 32, 102, 111, 114, 109, 97, 116]⟩) else match sg with
 | (e, true) => .get ks ca t e
 | (_, false) => .pl (.bad ⟨#[67, 76, 73, 69, 78, 84, 95, 69, 82, 82, 79, 82, 32, 105, 110, 118, 97, 108, 105, 100, 32, 101, 120, 112, 116, 105, 109, 101, 32, 97, 114, 103, 117, 109, 101, 110, 116]⟩)
set_option maxHeartbeats 8000000 in
set_option maxRecDepth 100000 in
theorem get_get_short (A : Option Addr) (c : Nat) (r : List ByteArray) (w : World) (HLD : LaidA w) (hr : Kd.C Kd.string w A (⟨#[103, 101, 116]⟩ :: r).length (⟨#[103, 101, 116]⟩ :: r)) (hcc : (⟨#[103, 101, 116]⟩ :: r).length ≤ c) (hl : r.length < 1) :
  Calls Tryz.prog 48 #[.slice A (⟨#[103, 101, 116]⟩ :: r).length c] w fun e w' => ∃ v, e = .returned (.tuple #[v, .int .i64 (-1)]) ∧ AnyR w' v (.pl (.bad ⟨#[69, 82, 82, 79, 82]⟩)) ∧ Below w.heap.size w w' := by
 have hus := Tryz.underlying22
 have hug := Tryz.underlying69
 have hmax := hr.2.1
 have HL := Aside0.mk HLD
 obtain ⟨gb, ob, hA, hcell⟩ := str_cells hr (by simp)
 have x0 := hcell 0 (by simp)
 have x1 : w.cell? ⟨gb, ob, none⟩ = some (.string ⟨#[103, 101, 116]⟩) := x0
 subst hA
 have hlt : gb < w.heap.size := World.block_lt_of_cell? w _ x1
 have hne : ¬ gb = w.heap.size := by omega
 have HC := Aside0.mk hcell
 have HMX := Aside0.mk hmax
 clear HLD hr hcell x0
 go_enter Tryz.func48, Tryz.ntmps48
 go_wp2
 refine start_ (n := 23) (S := fun w' => w'.cell? ⟨gb, ob, none⟩ = some (.string ⟨#[103, 101, 116]⟩)) (ds := [22]) gb0_ (by kernel_rfl) rfl rfl x1 (fun hHeld => ?_); refine with_tabW get_tab1 get_bits1 (fun HT_ HW_ => ?_)
 generalize hWd : w.drew = wd at hHeld ⊢
 refine pure_ (i := 0) (N := some 7) (v := ?_) (a' := ?_) gb1_ rfl rfl (any_of HT_.out (by kernel_rfl)) (fun _ _ _ h => h) (Or.inl ⟨by rfl, ?_⟩) ?_ ?_
 rotate_left
 ·intro w'
  go_simp
  with_reducible rfl
 rotate_left
 ·simp only [Act.put, List.setIfInBounds_toArray, List.set_cons_zero, List.set_cons_succ, i64_w, i32_w]
  rfl
 refine pure_ (i := 1) (N := some 8) (v := ?_) (a' := ?_) gb2_ rfl rfl (any_of HT_.out (by kernel_rfl)) (fun _ _ _ h => h) (Or.inl ⟨by rfl, ?_⟩) ?_ ?_
 rotate_left
 ·intro w'
  go_simp
  with_reducible rfl
 rotate_left
 ·simp only [Act.put, List.setIfInBounds_toArray, List.set_cons_zero, List.set_cons_succ, i64_w, i32_w]
  rfl
 refine take_ (i := 2) (N := some 9) (v := ?_) (a' := ?_) gb3_ rfl rfl (take_ofW HT_.out HW_.out (by kernel_rfl)) (fun _ _ _ h => h) (Or.inl ⟨by rfl, ?_⟩) hHeld ?_ ?_
 rotate_left
 ·rintro w' s0
  go_simp
  with_reducible rfl
 rotate_left
 ·simp only [Act.put, List.setIfInBounds_toArray, List.set_cons_zero, List.set_cons_succ, i64_w, i32_w]
  rfl
 refine pure_ (i := 3) (N := some 10) (v := ?_) (a' := ?_) gb4_ rfl rfl (any_of HT_.out (by kernel_rfl)) (fun _ _ _ h => h) (Or.inl ⟨by rfl, ?_⟩) ?_ ?_
 rotate_left
 ·intro w'
  go_simp
  with_reducible rfl
 rotate_left
 ·simp only [Act.put, List.setIfInBounds_toArray, List.set_cons_zero, List.set_cons_succ, i64_w, i32_w]
  rfl
 refine pure_ (i := 4) (N := some 11) (v := ?_) (a' := ?_) gb5_ rfl rfl (any_of HT_.out (by kernel_rfl)) (fun _ _ _ h => h) (Or.inl ⟨by rfl, ?_⟩) ?_ ?_
 rotate_left
 ·intro w'
  go_simp
  with_reducible rfl
 rotate_left
 ·simp only [Act.put, List.setIfInBounds_toArray, List.set_cons_zero, List.set_cons_succ, i64_w, i32_w]
  rfl
 refine pure_ (i := 5) (N := some 12) (v := ?_) (a' := ?_) gb6_ rfl rfl (any_of HT_.out (by kernel_rfl)) (fun _ _ _ h => h) (Or.inl ⟨by rfl, ?_⟩) ?_ ?_
 rotate_left
 ·intro w'
  go_simp
  with_reducible rfl
 rotate_left
 ·simp only [Act.put, List.setIfInBounds_toArray, List.set_cons_zero, List.set_cons_succ, i64_w, i32_w]
  rfl
 refine pure_ (i := 6) (N := some 13) (v := ?_) (a' := ?_) gb7_ rfl rfl (any_of HT_.out (by kernel_rfl)) (fun _ _ _ h => h) (Or.inl ⟨by rfl, ?_⟩) ?_ ?_
 rotate_left
 ·intro w'
  go_simp
  with_reducible rfl
 rotate_left
 ·simp only [Act.put, List.setIfInBounds_toArray, List.set_cons_zero, List.set_cons_succ, i64_w, i32_w]
  rfl
 refine take_ (i := 7) (N := some 14) (v := ?_) (a' := ?_) gb8_ rfl rfl (take_ofW HT_.out HW_.out (by kernel_rfl)) (fun _ _ _ h => h) (Or.inl ⟨by rfl, ?_⟩) hHeld ?_ ?_
 rotate_left
 ·rintro w' s0
  go_simp
  with_reducible rfl
 rotate_left
 ·simp only [Act.put, List.setIfInBounds_toArray, List.set_cons_zero, List.set_cons_succ, i64_w, i32_w]
  rfl
 refine pure_ (i := 8) (N := some 15) (v := ?_) (a' := ?_) gb9_ rfl rfl (any_of HT_.out (by kernel_rfl)) (fun _ _ _ h => h) (Or.inl ⟨by rfl, ?_⟩) ?_ ?_
 rotate_left
 ·intro w'
  go_simp
  with_reducible rfl
 rotate_left
 ·simp only [Act.put, List.setIfInBounds_toArray, List.set_cons_zero, List.set_cons_succ, i64_w, i32_w]
  rfl
 refine pure_ (i := 9) (N := some 16) (v := ?_) (a' := ?_) gb10_ rfl rfl (any_of HT_.out (by kernel_rfl)) (fun _ _ _ h => h) (Or.inl ⟨by rfl, ?_⟩) ?_ ?_
 rotate_left
 ·intro w'
  go_simp
  with_reducible rfl
 rotate_left
 ·simp only [Act.put, List.setIfInBounds_toArray, List.set_cons_zero, List.set_cons_succ, i64_w, i32_w]
  rfl
 refine pure_ (i := 10) (N := some 17) (v := ?_) (a' := ?_) gb11_ rfl rfl (any_of HT_.out (by kernel_rfl)) (fun _ _ _ h => h) (Or.inl ⟨by rfl, ?_⟩) ?_ ?_
 rotate_left
 ·intro w'
  go_simp
  with_reducible rfl
 rotate_left
 ·simp only [Act.put, List.setIfInBounds_toArray, List.set_cons_zero, List.set_cons_succ, i64_w, i32_w]
  rfl
 refine pure_ (i := 11) (N := some 18) (v := ?_) (a' := ?_) gb12_ rfl rfl (any_of HT_.out (by kernel_rfl)) (fun _ _ _ h => h) (Or.inl ⟨by rfl, ?_⟩) ?_ ?_
 rotate_left
 ·intro w'
  go_simp
  with_reducible rfl
 rotate_left
 ·simp only [Act.put, List.setIfInBounds_toArray, List.set_cons_zero, List.set_cons_succ, i64_w, i32_w]
  rfl
 refine take_ (i := 12) (N := some 19) (v := ?_) (a' := ?_) gb13_ rfl rfl (take_ofW HT_.out HW_.out (by kernel_rfl)) (fun _ _ _ h => h) (Or.inl ⟨by rfl, ?_⟩) hHeld ?_ ?_
 rotate_left
 ·rintro w' s0
  go_simp
  with_reducible rfl
 rotate_left
 ·simp only [Act.put, List.setIfInBounds_toArray, List.set_cons_zero, List.set_cons_succ, i64_w, i32_w]
  rfl
 refine pure_ (i := 13) (N := some 20) (v := ?_) (a' := ?_) gb14_ rfl rfl (any_of HT_.out (by kernel_rfl)) (fun _ _ _ h => h) (Or.inl ⟨by rfl, ?_⟩) ?_ ?_
 rotate_left
 ·intro w'
  go_simp
  with_reducible rfl
 rotate_left
 ·simp only [Act.put, List.setIfInBounds_toArray, List.set_cons_zero, List.set_cons_succ, i64_w, i32_w]
  rfl
 refine pure_ (i := 14) (N := some 21) (v := ?_) (a' := ?_) gb15_ rfl rfl (any_of HT_.out (by kernel_rfl)) (fun _ _ _ h => h) (Or.inl ⟨by rfl, ?_⟩) ?_ ?_
 rotate_left
 ·intro w'
  go_simp
  with_reducible rfl
 rotate_left
 ·simp only [Act.put, List.setIfInBounds_toArray, List.set_cons_zero, List.set_cons_succ, i64_w, i32_w]
  rfl
 refine pure_ (i := 15) (N := some 22) (v := ?_) (a' := ?_) gb16_ rfl rfl (any_of HT_.out (by kernel_rfl)) (fun _ _ _ h => h) (Or.inl ⟨by rfl, ?_⟩) ?_ ?_
 rotate_left
 ·intro w'
  go_simp
  with_reducible rfl
 rotate_left
 ·simp only [Act.put, List.setIfInBounds_toArray, List.set_cons_zero, List.set_cons_succ, i64_w, i32_w]
  rfl
 refine pure_ (i := 16) (N := some 23) (v := ?_) (a' := ?_) gb17_ rfl rfl (any_of HT_.out (by kernel_rfl)) (fun _ _ _ h => h) (Or.inl ⟨by rfl, ?_⟩) ?_ ?_
 rotate_left
 ·intro w'
  go_simp
  with_reducible rfl
 rotate_left
 ·simp only [Act.put, List.setIfInBounds_toArray, List.set_cons_zero, List.set_cons_succ, i64_w, i32_w]
  rfl
 refine take_ (i := 17) (N := some 24) (v := ?_) (a' := ?_) gb18_ rfl rfl (take_ofW HT_.out HW_.out (by kernel_rfl)) (fun _ _ _ h => h) (Or.inl ⟨by rfl, ?_⟩) hHeld ?_ ?_
 rotate_left
 ·rintro w' s0
  go_simp
  with_reducible rfl
 rotate_left
 ·simp only [Act.put, List.setIfInBounds_toArray, List.set_cons_zero, List.set_cons_succ, i64_w, i32_w]
  rfl
 refine pure_ (i := 18) (N := some 25) (v := ?_) (a' := ?_) gb19_ rfl rfl (any_of HT_.out (by kernel_rfl)) (fun _ _ _ h => h) (Or.inl ⟨by rfl, ?_⟩) ?_ ?_
 rotate_left
 ·intro w'
  go_simp
  with_reducible rfl
 rotate_left
 ·simp only [Act.put, List.setIfInBounds_toArray, List.set_cons_zero, List.set_cons_succ, i64_w, i32_w]
  rfl
 refine pure_ (i := 19) (N := some 26) (v := ?_) (a' := ?_) gb20_ rfl rfl (any_of HT_.out (by kernel_rfl)) (fun _ _ _ h => h) (Or.inl ⟨by rfl, ?_⟩) ?_ ?_
 rotate_left
 ·intro w'
  go_simp
  with_reducible rfl
 rotate_left
 ·simp only [Act.put, List.setIfInBounds_toArray, List.set_cons_zero, List.set_cons_succ, i64_w, i32_w]
  rfl
 refine pure_ (i := 20) (N := some 27) (v := ?_) (a' := ?_) gb21_ rfl rfl (any_of HT_.out (by kernel_rfl)) (fun _ _ _ h => h) (Or.inl ⟨by rfl, ?_⟩) ?_ ?_
 rotate_left
 ·intro w'
  go_simp
  with_reducible rfl
 rotate_left
 ·simp only [Act.put, List.setIfInBounds_toArray, List.set_cons_zero, List.set_cons_succ, i64_w, i32_w]
  rfl
 refine one_ (i := 21) (N := some 4) gb22_ rfl rfl (one_of HT_.out (by kernel_rfl)) (by decide) (fun K hK => ?_)
 refine box_step ?hg (N := 4) ?hd (cs := #[.slice none 0 0, .bool false, .bool false, .int .i64 0]) (t := 69) ?hr ?_; (case hd => rfl); (case hg => rfl); (case hr => first | (go_simp; done) | (go_simp; rfl))
 intro g hg w1 hbox hb
 have hb1 : Below w.heap.size w w1 := by
  rw [← hWd] at hb
  exact below_undrew hb
 have hgs : w.heap.size ≤ g := by rw [hg, ← hWd]; exact Nat.le_refl _
 have hgb : gb ≠ g := by omega
 have x2 := pw_cell_below hb1 x1
 clear hg hb
 refine hK.out _ _ x2 (fun hHeld2 => ?_)
 refine last_ (i := 22) (N := none) gb23_ rfl rfl (one_of HT_.out (by kernel_rfl)) (by decide) (fun K2 hK2 => ?_)
 obtain ⟨z0, z1, z2, z3⟩ : w1.cell? ⟨g, 0, none⟩ = some (.slice none 0 0) ∧ w1.cell? ⟨g, 1, none⟩ = some (.bool false) ∧ w1.cell? ⟨g, 2, none⟩ = some (.bool false) ∧ w1.cell? ⟨g, 3, none⟩ = some (.int .i64 0) := ⟨(blk_cell hbox 0).trans rfl, (blk_cell hbox 1).trans rfl, (blk_cell hbox 2).trans rfl, (blk_cell hbox 3).trans rfl⟩
 have zf : ∀ i, w1.frozen? ⟨g, i, none⟩ = false := fun i => blk_frozen hbox i
 refine skip_ (w1 := (((w1.setCell ⟨g, 0, none⟩ (.slice none 0 0)).setCell ⟨g, 1, none⟩ (.bool false)).setCell ⟨g, 2, none⟩ (.bool false)).setCell ⟨g, 3, none⟩ (.int .i64 0)) (by rfl) rfl ?hrun ?_
 case hrun => go_simp
 refine hK2.out _ _ (done_ (done_of HT_.out (by kernel_rfl)) ?_)
 have hbk := blk_set (blk_set (blk_set (blk_set hbox 0 (.slice none 0 0)) 1 (.bool false)) 2 (.bool false)) 3 (.int .i64 0)
 have hb2 := below_set (below_set (below_set (below_set hb1 hgs (j := 0) (v := .slice none 0 0)) hgs (j := 1) (v := .bool false)) hgs (j := 2) (v := .bool false)) hgs (j := 3) (v := .int .i64 0)
 clear hb1 hbox hK hK2 hHeld hHeld2 z0 z1 z2 z3 zf x2
 generalize World.setCell _ ⟨g, 3, none⟩ _ = W2 at hbk hb2 ⊢
 replace hbk : W2.heap[g]? = some (.cells #[.slice none 0 0, .bool false, .bool false, .int .i64 0] 69 (0, 0)) := hbk
 have HBK := Aside0.mk hbk
 have HB2 := Aside0.mk hb2
 obtain ⟨z0, z1, z2, z3⟩ : W2.cell? ⟨g, 0, none⟩ = some (.slice none 0 0) ∧ W2.cell? ⟨g, 1, none⟩ = some (.bool false) ∧ W2.cell? ⟨g, 2, none⟩ = some (.bool false) ∧ W2.cell? ⟨g, 3, none⟩ = some (.int .i64 0) := ⟨(blk_cell hbk 0).trans rfl, (blk_cell hbk 1).trans rfl, (blk_cell hbk 2).trans rfl, (blk_cell hbk 3).trans rfl⟩
 have zf : ∀ i, W2.frozen? ⟨g, i, none⟩ = false := fun i => blk_frozen hbk i
 have HGB := Aside0.mk hgb
 have HGS := Aside0.mk hgs
 have HX1 := Aside0.mk x1
 clear hbk hb2 hgb hgs x1 hWd
 have d1 : decide (((r.length + 1 : Nat) : Int) ≤ 1) = true := decide_eq_true (by omega)
 have d2 : decide (r.length + 1 ≤ 1) = true := decide_eq_true (by omega)
 have d3 : decide ((r.length : Int) + 1 ≤ 1) = true := decide_eq_true (by omega)
 clear hl
 go_wp2_with (go_at_call 47; refine (parse_bad.calls _ _ _ _ rfl).mono ?_; rintro e w3 ⟨rfl, hd⟩; have HD := Aside0.mk hd; clear hd)
 go_ret2
 exact ⟨_, rfl, rfl, below_step (by repeat (first | exact HB2.out | apply below_drew1 | apply below_alloc | apply pw_below_drewN)) HD.out.below⟩
set_option maxHeartbeats 8000000 in
set_option maxRecDepth 100000 in
theorem get_get_full (A : Option Addr) (c : Nat) (ks : List ByteArray) (w : World) (HLD : LaidA w) (hr : Kd.C Kd.string w A (⟨#[103, 101, 116]⟩ :: ks).length (⟨#[103, 101, 116]⟩ :: ks)) (hcc : (⟨#[103, 101, 116]⟩ :: ks).length ≤ c) (hn : 0 < ks.length) :
  Calls Tryz.prog 48 #[.slice A (⟨#[103, 101, 116]⟩ :: ks).length c] w fun e w' => ∃ v, e = .returned (.tuple #[v, .int .i64 (-1)]) ∧ AnyR w' v (getX ks false false (0, true)) ∧ Below w.heap.size w w' := by
 have hus := Tryz.underlying22
 have hug := Tryz.underlying69
 have hmax := hr.2.1
 have HL := Aside0.mk HLD
 obtain ⟨gb, ob, hA, hcell⟩ := str_cells hr (by simp)
 have x0 := hcell 0 (by simp)
 have x1 : w.cell? ⟨gb, ob, none⟩ = some (.string ⟨#[103, 101, 116]⟩) := x0
 subst hA
 have hlt : gb < w.heap.size := World.block_lt_of_cell? w _ x1
 have hne : ¬ gb = w.heap.size := by omega
 have HC := Aside0.mk hcell
 have HMX := Aside0.mk hmax
 clear HLD hr hcell x0
 obtain ⟨X, hX⟩ : ∃ X, X = getX ks false false (0, true) := ⟨_, rfl⟩
 rw [← hX]
 have HXX := Aside0.mk hX
 clear hX
 have hF0 : Kd.F Kd.string w (fun _ => True) (some ⟨gb, ob + 1, none⟩) ks.length ks := Kd.F_mono (Kd.C_F Kd.heap_string (str_drop (xs := ⟨#[103, 101, 116]⟩ :: ks) HMX.out HC.out 1 ks.length rfl)) (fun _ _ => trivial)
 have HF0 := Aside0.mk hF0
 have HN := Aside0.mk hn
 have HCC := Aside0.mk hcc
 have e3 : (ks.length + 1 ≤ c) = True := eq_true (by simp at hcc; omega)
 have e4 : ¬ c = 1 := by simp at hcc; omega
 have e5 : ¬ c = 0 := by simp at hcc; omega
 have d1 : decide (((ks.length + 1 : Nat) : Int) ≤ 1) = false := decide_eq_false (by omega)
 have d2 : decide (ks.length + 1 ≤ 1) = false := decide_eq_false (by omega)
 have d3 : decide ((ks.length : Int) + 1 ≤ 1) = false := decide_eq_false (by omega)
 have d5 : decide ((ks.length : Int) + 1 + 1 ≤ 1) = false := decide_eq_false (by omega)
 have e1 : (1 ≤ ks.length + 1) = True := eq_true (by omega)
 have e6 : ((1 : Int) ≤ (ks.length : Int) + 1) = True := eq_true (by omega)
 clear hF0 hn hcc
 go_enter Tryz.func48, Tryz.ntmps48
 go_wp2
 refine start_ (n := 23) (S := fun w' => w'.cell? ⟨gb, ob, none⟩ = some (.string ⟨#[103, 101, 116]⟩)) (ds := [22]) gb0_ (by kernel_rfl) rfl rfl x1 (fun hHeld => ?_); refine with_tabW get_tab1 get_bits1 (fun HT_ HW_ => ?_)
 generalize hWd : w.drew = wd at hHeld ⊢
 refine pure_ (i := 0) (N := some 7) (v := ?_) (a' := ?_) gb1_ rfl rfl (any_of HT_.out (by kernel_rfl)) (fun _ _ _ h => h) (Or.inl ⟨by rfl, ?_⟩) ?_ ?_
 rotate_left
 ·intro w'
  go_simp
  with_reducible rfl
 rotate_left
 ·simp only [Act.put, List.setIfInBounds_toArray, List.set_cons_zero, List.set_cons_succ, i64_w, i32_w]
  rfl
 refine pure_ (i := 1) (N := some 8) (v := ?_) (a' := ?_) gb2_ rfl rfl (any_of HT_.out (by kernel_rfl)) (fun _ _ _ h => h) (Or.inl ⟨by rfl, ?_⟩) ?_ ?_
 rotate_left
 ·intro w'
  go_simp
  with_reducible rfl
 rotate_left
 ·simp only [Act.put, List.setIfInBounds_toArray, List.set_cons_zero, List.set_cons_succ, i64_w, i32_w]
  rfl
 refine take_ (i := 2) (N := some 9) (v := ?_) (a' := ?_) gb3_ rfl rfl (take_ofW HT_.out HW_.out (by kernel_rfl)) (fun _ _ _ h => h) (Or.inl ⟨by rfl, ?_⟩) hHeld ?_ ?_
 rotate_left
 ·rintro w' s0
  go_simp
  with_reducible rfl
 rotate_left
 ·simp only [Act.put, List.setIfInBounds_toArray, List.set_cons_zero, List.set_cons_succ, i64_w, i32_w]
  rfl
 refine pure_ (i := 3) (N := some 10) (v := ?_) (a' := ?_) gb4_ rfl rfl (any_of HT_.out (by kernel_rfl)) (fun _ _ _ h => h) (Or.inl ⟨by rfl, ?_⟩) ?_ ?_
 rotate_left
 ·intro w'
  go_simp
  with_reducible rfl
 rotate_left
 ·simp only [Act.put, List.setIfInBounds_toArray, List.set_cons_zero, List.set_cons_succ, i64_w, i32_w]
  rfl
 refine pure_ (i := 4) (N := some 11) (v := ?_) (a' := ?_) gb5_ rfl rfl (any_of HT_.out (by kernel_rfl)) (fun _ _ _ h => h) (Or.inl ⟨by rfl, ?_⟩) ?_ ?_
 rotate_left
 ·intro w'
  go_simp
  with_reducible rfl
 rotate_left
 ·simp only [Act.put, List.setIfInBounds_toArray, List.set_cons_zero, List.set_cons_succ, i64_w, i32_w]
  rfl
 refine pure_ (i := 5) (N := some 12) (v := ?_) (a' := ?_) gb6_ rfl rfl (any_of HT_.out (by kernel_rfl)) (fun _ _ _ h => h) (Or.inl ⟨by rfl, ?_⟩) ?_ ?_
 rotate_left
 ·intro w'
  go_simp
  with_reducible rfl
 rotate_left
 ·simp only [Act.put, List.setIfInBounds_toArray, List.set_cons_zero, List.set_cons_succ, i64_w, i32_w]
  rfl
 refine pure_ (i := 6) (N := some 13) (v := ?_) (a' := ?_) gb7_ rfl rfl (any_of HT_.out (by kernel_rfl)) (fun _ _ _ h => h) (Or.inl ⟨by rfl, ?_⟩) ?_ ?_
 rotate_left
 ·intro w'
  go_simp
  with_reducible rfl
 rotate_left
 ·simp only [Act.put, List.setIfInBounds_toArray, List.set_cons_zero, List.set_cons_succ, i64_w, i32_w]
  rfl
 refine take_ (i := 7) (N := some 14) (v := ?_) (a' := ?_) gb8_ rfl rfl (take_ofW HT_.out HW_.out (by kernel_rfl)) (fun _ _ _ h => h) (Or.inl ⟨by rfl, ?_⟩) hHeld ?_ ?_
 rotate_left
 ·rintro w' s0
  go_simp
  with_reducible rfl
 rotate_left
 ·simp only [Act.put, List.setIfInBounds_toArray, List.set_cons_zero, List.set_cons_succ, i64_w, i32_w]
  rfl
 refine pure_ (i := 8) (N := some 15) (v := ?_) (a' := ?_) gb9_ rfl rfl (any_of HT_.out (by kernel_rfl)) (fun _ _ _ h => h) (Or.inl ⟨by rfl, ?_⟩) ?_ ?_
 rotate_left
 ·intro w'
  go_simp
  with_reducible rfl
 rotate_left
 ·simp only [Act.put, List.setIfInBounds_toArray, List.set_cons_zero, List.set_cons_succ, i64_w, i32_w]
  rfl
 refine pure_ (i := 9) (N := some 16) (v := ?_) (a' := ?_) gb10_ rfl rfl (any_of HT_.out (by kernel_rfl)) (fun _ _ _ h => h) (Or.inl ⟨by rfl, ?_⟩) ?_ ?_
 rotate_left
 ·intro w'
  go_simp
  with_reducible rfl
 rotate_left
 ·simp only [Act.put, List.setIfInBounds_toArray, List.set_cons_zero, List.set_cons_succ, i64_w, i32_w]
  rfl
 refine pure_ (i := 10) (N := some 17) (v := ?_) (a' := ?_) gb11_ rfl rfl (any_of HT_.out (by kernel_rfl)) (fun _ _ _ h => h) (Or.inl ⟨by rfl, ?_⟩) ?_ ?_
 rotate_left
 ·intro w'
  go_simp
  with_reducible rfl
 rotate_left
 ·simp only [Act.put, List.setIfInBounds_toArray, List.set_cons_zero, List.set_cons_succ, i64_w, i32_w]
  rfl
 refine pure_ (i := 11) (N := some 18) (v := ?_) (a' := ?_) gb12_ rfl rfl (any_of HT_.out (by kernel_rfl)) (fun _ _ _ h => h) (Or.inl ⟨by rfl, ?_⟩) ?_ ?_
 rotate_left
 ·intro w'
  go_simp
  with_reducible rfl
 rotate_left
 ·simp only [Act.put, List.setIfInBounds_toArray, List.set_cons_zero, List.set_cons_succ, i64_w, i32_w]
  rfl
 refine take_ (i := 12) (N := some 19) (v := ?_) (a' := ?_) gb13_ rfl rfl (take_ofW HT_.out HW_.out (by kernel_rfl)) (fun _ _ _ h => h) (Or.inl ⟨by rfl, ?_⟩) hHeld ?_ ?_
 rotate_left
 ·rintro w' s0
  go_simp
  with_reducible rfl
 rotate_left
 ·simp only [Act.put, List.setIfInBounds_toArray, List.set_cons_zero, List.set_cons_succ, i64_w, i32_w]
  rfl
 refine pure_ (i := 13) (N := some 20) (v := ?_) (a' := ?_) gb14_ rfl rfl (any_of HT_.out (by kernel_rfl)) (fun _ _ _ h => h) (Or.inl ⟨by rfl, ?_⟩) ?_ ?_
 rotate_left
 ·intro w'
  go_simp
  with_reducible rfl
 rotate_left
 ·simp only [Act.put, List.setIfInBounds_toArray, List.set_cons_zero, List.set_cons_succ, i64_w, i32_w]
  rfl
 refine pure_ (i := 14) (N := some 21) (v := ?_) (a' := ?_) gb15_ rfl rfl (any_of HT_.out (by kernel_rfl)) (fun _ _ _ h => h) (Or.inl ⟨by rfl, ?_⟩) ?_ ?_
 rotate_left
 ·intro w'
  go_simp
  with_reducible rfl
 rotate_left
 ·simp only [Act.put, List.setIfInBounds_toArray, List.set_cons_zero, List.set_cons_succ, i64_w, i32_w]
  rfl
 refine pure_ (i := 15) (N := some 22) (v := ?_) (a' := ?_) gb16_ rfl rfl (any_of HT_.out (by kernel_rfl)) (fun _ _ _ h => h) (Or.inl ⟨by rfl, ?_⟩) ?_ ?_
 rotate_left
 ·intro w'
  go_simp
  with_reducible rfl
 rotate_left
 ·simp only [Act.put, List.setIfInBounds_toArray, List.set_cons_zero, List.set_cons_succ, i64_w, i32_w]
  rfl
 refine pure_ (i := 16) (N := some 23) (v := ?_) (a' := ?_) gb17_ rfl rfl (any_of HT_.out (by kernel_rfl)) (fun _ _ _ h => h) (Or.inl ⟨by rfl, ?_⟩) ?_ ?_
 rotate_left
 ·intro w'
  go_simp
  with_reducible rfl
 rotate_left
 ·simp only [Act.put, List.setIfInBounds_toArray, List.set_cons_zero, List.set_cons_succ, i64_w, i32_w]
  rfl
 refine take_ (i := 17) (N := some 24) (v := ?_) (a' := ?_) gb18_ rfl rfl (take_ofW HT_.out HW_.out (by kernel_rfl)) (fun _ _ _ h => h) (Or.inl ⟨by rfl, ?_⟩) hHeld ?_ ?_
 rotate_left
 ·rintro w' s0
  go_simp
  with_reducible rfl
 rotate_left
 ·simp only [Act.put, List.setIfInBounds_toArray, List.set_cons_zero, List.set_cons_succ, i64_w, i32_w]
  rfl
 refine pure_ (i := 18) (N := some 25) (v := ?_) (a' := ?_) gb19_ rfl rfl (any_of HT_.out (by kernel_rfl)) (fun _ _ _ h => h) (Or.inl ⟨by rfl, ?_⟩) ?_ ?_
 rotate_left
 ·intro w'
  go_simp
  with_reducible rfl
 rotate_left
 ·simp only [Act.put, List.setIfInBounds_toArray, List.set_cons_zero, List.set_cons_succ, i64_w, i32_w]
  rfl
 refine pure_ (i := 19) (N := some 26) (v := ?_) (a' := ?_) gb20_ rfl rfl (any_of HT_.out (by kernel_rfl)) (fun _ _ _ h => h) (Or.inl ⟨by rfl, ?_⟩) ?_ ?_
 rotate_left
 ·intro w'
  go_simp
  with_reducible rfl
 rotate_left
 ·simp only [Act.put, List.setIfInBounds_toArray, List.set_cons_zero, List.set_cons_succ, i64_w, i32_w]
  rfl
 refine pure_ (i := 20) (N := some 27) (v := ?_) (a' := ?_) gb21_ rfl rfl (any_of HT_.out (by kernel_rfl)) (fun _ _ _ h => h) (Or.inl ⟨by rfl, ?_⟩) ?_ ?_
 rotate_left
 ·intro w'
  go_simp
  with_reducible rfl
 rotate_left
 ·simp only [Act.put, List.setIfInBounds_toArray, List.set_cons_zero, List.set_cons_succ, i64_w, i32_w]
  rfl
 refine one_ (i := 21) (N := some 4) gb22_ rfl rfl (one_of HT_.out (by kernel_rfl)) (by decide) (fun K hK => ?_)
 refine box_step ?hg (N := 4) ?hd (cs := #[.slice none 0 0, .bool false, .bool false, .int .i64 0]) (t := 69) ?hr ?_; (case hd => rfl); (case hg => rfl); (case hr => first | (go_simp; done) | (go_simp; rfl))
 intro g hg w1 hbox hb
 have hb1 : Below w.heap.size w w1 := by
  rw [← hWd] at hb
  exact below_undrew hb
 have hgs : w.heap.size ≤ g := by rw [hg, ← hWd]; exact Nat.le_refl _
 have hgb : gb ≠ g := by omega
 have x2 := pw_cell_below hb1 x1
 clear hg hb
 refine hK.out _ _ x2 (fun hHeld2 => ?_)
 refine last_ (i := 22) (N := none) gb23_ rfl rfl (one_of HT_.out (by kernel_rfl)) (by decide) (fun K2 hK2 => ?_)
 obtain ⟨z0, z1, z2, z3⟩ : w1.cell? ⟨g, 0, none⟩ = some (.slice none 0 0) ∧ w1.cell? ⟨g, 1, none⟩ = some (.bool false) ∧ w1.cell? ⟨g, 2, none⟩ = some (.bool false) ∧ w1.cell? ⟨g, 3, none⟩ = some (.int .i64 0) := ⟨(blk_cell hbox 0).trans rfl, (blk_cell hbox 1).trans rfl, (blk_cell hbox 2).trans rfl, (blk_cell hbox 3).trans rfl⟩
 have zf : ∀ i, w1.frozen? ⟨g, i, none⟩ = false := fun i => blk_frozen hbox i
 refine skip_ (w1 := (((w1.setCell ⟨g, 0, none⟩ (.slice none 0 0)).setCell ⟨g, 1, none⟩ (.bool false)).setCell ⟨g, 2, none⟩ (.bool false)).setCell ⟨g, 3, none⟩ (.int .i64 0)) (by rfl) rfl ?hrun ?_
 case hrun => go_simp
 refine hK2.out _ _ (done_ (done_of HT_.out (by kernel_rfl)) ?_)
 have hbk := blk_set (blk_set (blk_set (blk_set hbox 0 (.slice none 0 0)) 1 (.bool false)) 2 (.bool false)) 3 (.int .i64 0)
 have hb2 := below_set (below_set (below_set (below_set hb1 hgs (j := 0) (v := .slice none 0 0)) hgs (j := 1) (v := .bool false)) hgs (j := 2) (v := .bool false)) hgs (j := 3) (v := .int .i64 0)
 clear hb1 hbox hK hK2 hHeld hHeld2 z0 z1 z2 z3 zf x2
 generalize World.setCell _ ⟨g, 3, none⟩ _ = W2 at hbk hb2 ⊢
 replace hbk : W2.heap[g]? = some (.cells #[.slice none 0 0, .bool false, .bool false, .int .i64 0] 69 (0, 0)) := hbk
 have HBK := Aside0.mk hbk
 have HB2 := Aside0.mk hb2
 obtain ⟨z0, z1, z2, z3⟩ : W2.cell? ⟨g, 0, none⟩ = some (.slice none 0 0) ∧ W2.cell? ⟨g, 1, none⟩ = some (.bool false) ∧ W2.cell? ⟨g, 2, none⟩ = some (.bool false) ∧ W2.cell? ⟨g, 3, none⟩ = some (.int .i64 0) := ⟨(blk_cell hbk 0).trans rfl, (blk_cell hbk 1).trans rfl, (blk_cell hbk 2).trans rfl, (blk_cell hbk 3).trans rfl⟩
 have zf : ∀ i, W2.frozen? ⟨g, i, none⟩ = false := fun i => blk_frozen hbk i
 have HGB := Aside0.mk hgb
 have HGS := Aside0.mk hgs
 have HX1 := Aside0.mk x1
 clear hbk hb2 hgb hgs x1 hWd
 by_cases hk : ks.any (fun k => !keyF k) = true
 ·have HK := Aside0.mk hk
  clear hk
  go_wp2_with (first | (go_at_call 58; refine (ContainsFunc_walk _ _ ks _ (HL.out.below (below_set HB2.out HGS.out)) (Kd.F_now (Kd.F_below HF0.out (below_set HB2.out HGS.out)))).mono ?_; rintro e w3 ⟨rfl, hb3⟩; rw [HK.out]; have hbk3 := blk_below (blk_set HBK.out 0 (.slice (some ⟨gb, ob + 1, none⟩) ks.length (c - 1))) hb3; replace hbk3 : w3.heap[g]? = some (.cells #[.slice (some ⟨gb, ob + 1, none⟩) ks.length (c - 1), .bool false, .bool false, .int .i64 0] 69 (0, 0)) := hbk3; obtain ⟨y0, y1, y2, y3⟩ : w3.cell? ⟨g, 0, none⟩ = some (.slice (some ⟨gb, ob + 1, none⟩) ks.length (c - 1)) ∧ w3.cell? ⟨g, 1, none⟩ = some (.bool false) ∧ w3.cell? ⟨g, 2, none⟩ = some (.bool false) ∧ w3.cell? ⟨g, 3, none⟩ = some (.int .i64 0) := ⟨(blk_cell hbk3 0).trans rfl, (blk_cell hbk3 1).trans rfl, (blk_cell hbk3 2).trans rfl, (blk_cell hbk3 3).trans rfl⟩; have HBK3 := Aside0.mk hbk3; have HB3 := Aside0.mk (below_step (below_set HB2.out HGS.out) hb3); clear hbk3 hb3) | (go_at_call 47; refine (parse_bad.calls _ _ _ _ rfl).mono ?_; rintro e w4 ⟨rfl, hd⟩; have HD := Aside0.mk hd; clear hd))
  go_ret2
  refine ⟨_, rfl, ?_, below_step HB3.out HD.out.below⟩
  rw [HXX.out]
  unfold getX
  rw [if_pos (Or.inl HK.out)]
  exact rfl
 have HK := Aside0.mk (by simpa using hk : ks.any (fun k => !keyF k) = false)
 by_cases h64 : 64 < ks.length
 ·have H64 := Aside0.mk h64
  have f1 : decide ((64 : Int) < (ks.length : Int)) = true := decide_eq_true (by omega)
  have f2 : decide (64 < ks.length) = true := decide_eq_true (by omega)
  clear hk h64
  go_wp2_with (first | (go_at_call 58; refine (ContainsFunc_walk _ _ ks _ (HL.out.below (below_set HB2.out HGS.out)) (Kd.F_now (Kd.F_below HF0.out (below_set HB2.out HGS.out)))).mono ?_; rintro e w3 ⟨rfl, hb3⟩; rw [HK.out]; have hbk3 := blk_below (blk_set HBK.out 0 (.slice (some ⟨gb, ob + 1, none⟩) ks.length (c - 1))) hb3; replace hbk3 : w3.heap[g]? = some (.cells #[.slice (some ⟨gb, ob + 1, none⟩) ks.length (c - 1), .bool false, .bool false, .int .i64 0] 69 (0, 0)) := hbk3; obtain ⟨y0, y1, y2, y3⟩ : w3.cell? ⟨g, 0, none⟩ = some (.slice (some ⟨gb, ob + 1, none⟩) ks.length (c - 1)) ∧ w3.cell? ⟨g, 1, none⟩ = some (.bool false) ∧ w3.cell? ⟨g, 2, none⟩ = some (.bool false) ∧ w3.cell? ⟨g, 3, none⟩ = some (.int .i64 0) := ⟨(blk_cell hbk3 0).trans rfl, (blk_cell hbk3 1).trans rfl, (blk_cell hbk3 2).trans rfl, (blk_cell hbk3 3).trans rfl⟩; have HBK3 := Aside0.mk hbk3; have HB3 := Aside0.mk (below_step (below_set HB2.out HGS.out) hb3); clear hbk3 hb3) | (go_at_call 47; refine (parse_bad.calls _ _ _ _ rfl).mono ?_; rintro e w4 ⟨rfl, hd⟩; have HD := Aside0.mk hd; clear hd))
  go_ret2
  refine ⟨_, rfl, ?_, below_step HB3.out HD.out.below⟩
  rw [HXX.out]
  unfold getX
  rw [if_pos (Or.inr H64.out)]
  exact rfl
 have HNO := Aside0.mk (show ¬ (ks.any (fun k => !keyF k) = true ∨ 64 < ks.length) from by rintro (h | h); exact hk h; exact h64 h)
 have H64 := Aside0.mk h64
 have f1 : decide ((64 : Int) < (ks.length : Int)) = false := decide_eq_false (by omega)
 have f2 : decide (64 < ks.length) = false := decide_eq_false (by omega)
 clear hk h64
 go_wp2_with ((go_at_call 58; refine (ContainsFunc_walk _ _ ks _ (HL.out.below (below_set HB2.out HGS.out)) (Kd.F_now (Kd.F_below HF0.out (below_set HB2.out HGS.out)))).mono ?_; rintro e w3 ⟨rfl, hb3⟩; rw [HK.out]; have hbk3 := blk_below (blk_set HBK.out 0 (.slice (some ⟨gb, ob + 1, none⟩) ks.length (c - 1))) hb3; replace hbk3 : w3.heap[g]? = some (.cells #[.slice (some ⟨gb, ob + 1, none⟩) ks.length (c - 1), .bool false, .bool false, .int .i64 0] 69 (0, 0)) := hbk3; obtain ⟨y0, y1, y2, y3⟩ : w3.cell? ⟨g, 0, none⟩ = some (.slice (some ⟨gb, ob + 1, none⟩) ks.length (c - 1)) ∧ w3.cell? ⟨g, 1, none⟩ = some (.bool false) ∧ w3.cell? ⟨g, 2, none⟩ = some (.bool false) ∧ w3.cell? ⟨g, 3, none⟩ = some (.int .i64 0) := ⟨(blk_cell hbk3 0).trans rfl, (blk_cell hbk3 1).trans rfl, (blk_cell hbk3 2).trans rfl, (blk_cell hbk3 3).trans rfl⟩; have HBK3 := Aside0.mk hbk3; have HB3 := Aside0.mk (below_step (below_set HB2.out HGS.out) hb3); clear hbk3 hb3))
 go_ret2
 refine ⟨_, rfl, ?_, HB3.out⟩
 rw [HXX.out]
 unfold getX
 rw [if_neg HNO.out]
 exact ⟨_, _, rfl, ⟨HN.out, by have := H64.out; omega⟩, by have := HCC.out; simp at this; omega, Kd.F_below HF0.out HB3.out⟩
set_option maxHeartbeats 8000000 in
set_option maxRecDepth 100000 in
theorem get_gets_short (A : Option Addr) (c : Nat) (r : List ByteArray) (w : World) (HLD : LaidA w) (hr : Kd.C Kd.string w A (⟨#[103, 101, 116, 115]⟩ :: r).length (⟨#[103, 101, 116, 115]⟩ :: r)) (hcc : (⟨#[103, 101, 116, 115]⟩ :: r).length ≤ c) (hl : r.length < 1) :
  Calls Tryz.prog 48 #[.slice A (⟨#[103, 101, 116, 115]⟩ :: r).length c] w fun e w' => ∃ v, e = .returned (.tuple #[v, .int .i64 (-1)]) ∧ AnyR w' v (.pl (.bad ⟨#[69, 82, 82, 79, 82]⟩)) ∧ Below w.heap.size w w' := by
 have hus := Tryz.underlying22
 have hug := Tryz.underlying69
 have hmax := hr.2.1
 have HL := Aside0.mk HLD
 obtain ⟨gb, ob, hA, hcell⟩ := str_cells hr (by simp)
 have x0 := hcell 0 (by simp)
 have x1 : w.cell? ⟨gb, ob, none⟩ = some (.string ⟨#[103, 101, 116, 115]⟩) := x0
 subst hA
 have hlt : gb < w.heap.size := World.block_lt_of_cell? w _ x1
 have hne : ¬ gb = w.heap.size := by omega
 have HC := Aside0.mk hcell
 have HMX := Aside0.mk hmax
 clear HLD hr hcell x0
 go_enter Tryz.func48, Tryz.ntmps48
 go_wp2
 refine start_ (n := 23) (S := fun w' => w'.cell? ⟨gb, ob, none⟩ = some (.string ⟨#[103, 101, 116, 115]⟩)) (ds := [22]) gb0_ (by kernel_rfl) rfl rfl x1 (fun hHeld => ?_); refine with_tabW get_tab1 get_bits1 (fun HT_ HW_ => ?_)
 generalize hWd : w.drew = wd at hHeld ⊢
 refine pure_ (i := 0) (N := some 7) (v := ?_) (a' := ?_) gb1_ rfl rfl (any_of HT_.out (by kernel_rfl)) (fun _ _ _ h => h) (Or.inl ⟨by rfl, ?_⟩) ?_ ?_
 rotate_left
 ·intro w'
  go_simp
  with_reducible rfl
 rotate_left
 ·simp only [Act.put, List.setIfInBounds_toArray, List.set_cons_zero, List.set_cons_succ, i64_w, i32_w]
  rfl
 refine pure_ (i := 1) (N := some 8) (v := ?_) (a' := ?_) gb2_ rfl rfl (any_of HT_.out (by kernel_rfl)) (fun _ _ _ h => h) (Or.inl ⟨by rfl, ?_⟩) ?_ ?_
 rotate_left
 ·intro w'
  go_simp
  with_reducible rfl
 rotate_left
 ·simp only [Act.put, List.setIfInBounds_toArray, List.set_cons_zero, List.set_cons_succ, i64_w, i32_w]
  rfl
 refine take_ (i := 2) (N := some 9) (v := ?_) (a' := ?_) gb3_ rfl rfl (take_ofW HT_.out HW_.out (by kernel_rfl)) (fun _ _ _ h => h) (Or.inl ⟨by rfl, ?_⟩) hHeld ?_ ?_
 rotate_left
 ·rintro w' s0
  go_simp
  with_reducible rfl
 rotate_left
 ·simp only [Act.put, List.setIfInBounds_toArray, List.set_cons_zero, List.set_cons_succ, i64_w, i32_w]
  rfl
 refine pure_ (i := 3) (N := some 10) (v := ?_) (a' := ?_) gb4_ rfl rfl (any_of HT_.out (by kernel_rfl)) (fun _ _ _ h => h) (Or.inl ⟨by rfl, ?_⟩) ?_ ?_
 rotate_left
 ·intro w'
  go_simp
  with_reducible rfl
 rotate_left
 ·simp only [Act.put, List.setIfInBounds_toArray, List.set_cons_zero, List.set_cons_succ, i64_w, i32_w]
  rfl
 refine pure_ (i := 4) (N := some 11) (v := ?_) (a' := ?_) gb5_ rfl rfl (any_of HT_.out (by kernel_rfl)) (fun _ _ _ h => h) (Or.inl ⟨by rfl, ?_⟩) ?_ ?_
 rotate_left
 ·intro w'
  go_simp
  with_reducible rfl
 rotate_left
 ·simp only [Act.put, List.setIfInBounds_toArray, List.set_cons_zero, List.set_cons_succ, i64_w, i32_w]
  rfl
 refine pure_ (i := 5) (N := some 12) (v := undef) (a' := ?_) gb6_ rfl rfl (any_of HT_.out (by kernel_rfl)) (fun _ _ _ h => h) (Or.inr ⟨by rfl, rfl⟩) ?_ ?_
 rotate_left
 ·simp only [Act.put, List.setIfInBounds_toArray, List.set_cons_zero, List.set_cons_succ, i64_w, i32_w]
  rfl
 refine pure_ (i := 6) (N := some 13) (v := undef) (a' := ?_) gb7_ rfl rfl (any_of HT_.out (by kernel_rfl)) (fun _ _ _ h => h) (Or.inr ⟨by rfl, rfl⟩) ?_ ?_
 rotate_left
 ·simp only [Act.put, List.setIfInBounds_toArray, List.set_cons_zero, List.set_cons_succ, i64_w, i32_w]
  rfl
 refine pure_ (i := 7) (N := some 14) (v := undef) (a' := ?_) gb8_ rfl rfl (any_of HT_.out (by kernel_rfl)) (fun _ _ _ h => h) (Or.inr ⟨by rfl, rfl⟩) ?_ ?_
 rotate_left
 ·simp only [Act.put, List.setIfInBounds_toArray, List.set_cons_zero, List.set_cons_succ, i64_w, i32_w]
  rfl
 refine pure_ (i := 8) (N := some 15) (v := undef) (a' := ?_) gb9_ rfl rfl (any_of HT_.out (by kernel_rfl)) (fun _ _ _ h => h) (Or.inr ⟨by rfl, rfl⟩) ?_ ?_
 rotate_left
 ·simp only [Act.put, List.setIfInBounds_toArray, List.set_cons_zero, List.set_cons_succ, i64_w, i32_w]
  rfl
 refine pure_ (i := 9) (N := some 16) (v := ?_) (a' := ?_) gb10_ rfl rfl (any_of HT_.out (by kernel_rfl)) (fun _ _ _ h => h) (Or.inl ⟨by rfl, ?_⟩) ?_ ?_
 rotate_left
 ·intro w'
  go_simp
  with_reducible rfl
 rotate_left
 ·simp only [Act.put, List.setIfInBounds_toArray, List.set_cons_zero, List.set_cons_succ, i64_w, i32_w]
  rfl
 refine pure_ (i := 10) (N := some 17) (v := ?_) (a' := ?_) gb11_ rfl rfl (any_of HT_.out (by kernel_rfl)) (fun _ _ _ h => h) (Or.inl ⟨by rfl, ?_⟩) ?_ ?_
 rotate_left
 ·intro w'
  go_simp
  with_reducible rfl
 rotate_left
 ·simp only [Act.put, List.setIfInBounds_toArray, List.set_cons_zero, List.set_cons_succ, i64_w, i32_w]
  rfl
 refine pure_ (i := 11) (N := some 18) (v := ?_) (a' := ?_) gb12_ rfl rfl (any_of HT_.out (by kernel_rfl)) (fun _ _ _ h => h) (Or.inl ⟨by rfl, ?_⟩) ?_ ?_
 rotate_left
 ·intro w'
  go_simp
  with_reducible rfl
 rotate_left
 ·simp only [Act.put, List.setIfInBounds_toArray, List.set_cons_zero, List.set_cons_succ, i64_w, i32_w]
  rfl
 refine take_ (i := 12) (N := some 19) (v := ?_) (a' := ?_) gb13_ rfl rfl (take_ofW HT_.out HW_.out (by kernel_rfl)) (fun _ _ _ h => h) (Or.inl ⟨by rfl, ?_⟩) hHeld ?_ ?_
 rotate_left
 ·rintro w' s0
  go_simp
  with_reducible rfl
 rotate_left
 ·simp only [Act.put, List.setIfInBounds_toArray, List.set_cons_zero, List.set_cons_succ, i64_w, i32_w]
  rfl
 refine pure_ (i := 13) (N := some 20) (v := ?_) (a' := ?_) gb14_ rfl rfl (any_of HT_.out (by kernel_rfl)) (fun _ _ _ h => h) (Or.inl ⟨by rfl, ?_⟩) ?_ ?_
 rotate_left
 ·intro w'
  go_simp
  with_reducible rfl
 rotate_left
 ·simp only [Act.put, List.setIfInBounds_toArray, List.set_cons_zero, List.set_cons_succ, i64_w, i32_w]
  rfl
 refine pure_ (i := 14) (N := some 21) (v := ?_) (a' := ?_) gb15_ rfl rfl (any_of HT_.out (by kernel_rfl)) (fun _ _ _ h => h) (Or.inl ⟨by rfl, ?_⟩) ?_ ?_
 rotate_left
 ·intro w'
  go_simp
  with_reducible rfl
 rotate_left
 ·simp only [Act.put, List.setIfInBounds_toArray, List.set_cons_zero, List.set_cons_succ, i64_w, i32_w]
  rfl
 refine pure_ (i := 15) (N := some 22) (v := ?_) (a' := ?_) gb16_ rfl rfl (any_of HT_.out (by kernel_rfl)) (fun _ _ _ h => h) (Or.inl ⟨by rfl, ?_⟩) ?_ ?_
 rotate_left
 ·intro w'
  go_simp
  with_reducible rfl
 rotate_left
 ·simp only [Act.put, List.setIfInBounds_toArray, List.set_cons_zero, List.set_cons_succ, i64_w, i32_w]
  rfl
 refine pure_ (i := 16) (N := some 23) (v := ?_) (a' := ?_) gb17_ rfl rfl (any_of HT_.out (by kernel_rfl)) (fun _ _ _ h => h) (Or.inl ⟨by rfl, ?_⟩) ?_ ?_
 rotate_left
 ·intro w'
  go_simp
  with_reducible rfl
 rotate_left
 ·simp only [Act.put, List.setIfInBounds_toArray, List.set_cons_zero, List.set_cons_succ, i64_w, i32_w]
  rfl
 refine take_ (i := 17) (N := some 24) (v := ?_) (a' := ?_) gb18_ rfl rfl (take_ofW HT_.out HW_.out (by kernel_rfl)) (fun _ _ _ h => h) (Or.inl ⟨by rfl, ?_⟩) hHeld ?_ ?_
 rotate_left
 ·rintro w' s0
  go_simp
  with_reducible rfl
 rotate_left
 ·simp only [Act.put, List.setIfInBounds_toArray, List.set_cons_zero, List.set_cons_succ, i64_w, i32_w]
  rfl
 refine pure_ (i := 18) (N := some 25) (v := ?_) (a' := ?_) gb19_ rfl rfl (any_of HT_.out (by kernel_rfl)) (fun _ _ _ h => h) (Or.inl ⟨by rfl, ?_⟩) ?_ ?_
 rotate_left
 ·intro w'
  go_simp
  with_reducible rfl
 rotate_left
 ·simp only [Act.put, List.setIfInBounds_toArray, List.set_cons_zero, List.set_cons_succ, i64_w, i32_w]
  rfl
 refine pure_ (i := 19) (N := some 26) (v := ?_) (a' := ?_) gb20_ rfl rfl (any_of HT_.out (by kernel_rfl)) (fun _ _ _ h => h) (Or.inl ⟨by rfl, ?_⟩) ?_ ?_
 rotate_left
 ·intro w'
  go_simp
  with_reducible rfl
 rotate_left
 ·simp only [Act.put, List.setIfInBounds_toArray, List.set_cons_zero, List.set_cons_succ, i64_w, i32_w]
  rfl
 refine pure_ (i := 20) (N := some 27) (v := ?_) (a' := ?_) gb21_ rfl rfl (any_of HT_.out (by kernel_rfl)) (fun _ _ _ h => h) (Or.inl ⟨by rfl, ?_⟩) ?_ ?_
 rotate_left
 ·intro w'
  go_simp
  with_reducible rfl
 rotate_left
 ·simp only [Act.put, List.setIfInBounds_toArray, List.set_cons_zero, List.set_cons_succ, i64_w, i32_w]
  rfl
 refine one_ (i := 21) (N := some 4) gb22_ rfl rfl (one_of HT_.out (by kernel_rfl)) (by decide) (fun K hK => ?_)
 refine box_step ?hg (N := 4) ?hd (cs := #[.slice none 0 0, .bool false, .bool false, .int .i64 0]) (t := 69) ?hr ?_; (case hd => rfl); (case hg => rfl); (case hr => first | (go_simp; done) | (go_simp; rfl))
 intro g hg w1 hbox hb
 have hb1 : Below w.heap.size w w1 := by
  rw [← hWd] at hb
  exact below_undrew hb
 have hgs : w.heap.size ≤ g := by rw [hg, ← hWd]; exact Nat.le_refl _
 have hgb : gb ≠ g := by omega
 have x2 := pw_cell_below hb1 x1
 clear hg hb
 refine hK.out _ _ x2 (fun hHeld2 => ?_)
 refine last_ (i := 22) (N := none) gb23_ rfl rfl (one_of HT_.out (by kernel_rfl)) (by decide) (fun K2 hK2 => ?_)
 obtain ⟨z0, z1, z2, z3⟩ : w1.cell? ⟨g, 0, none⟩ = some (.slice none 0 0) ∧ w1.cell? ⟨g, 1, none⟩ = some (.bool false) ∧ w1.cell? ⟨g, 2, none⟩ = some (.bool false) ∧ w1.cell? ⟨g, 3, none⟩ = some (.int .i64 0) := ⟨(blk_cell hbox 0).trans rfl, (blk_cell hbox 1).trans rfl, (blk_cell hbox 2).trans rfl, (blk_cell hbox 3).trans rfl⟩
 have zf : ∀ i, w1.frozen? ⟨g, i, none⟩ = false := fun i => blk_frozen hbox i
 refine skip_ (w1 := (((w1.setCell ⟨g, 0, none⟩ (.slice none 0 0)).setCell ⟨g, 1, none⟩ (.bool true)).setCell ⟨g, 2, none⟩ (.bool false)).setCell ⟨g, 3, none⟩ (.int .i64 0)) (by rfl) rfl ?hrun ?_
 case hrun => go_simp
 refine hK2.out _ _ (done_ (done_of HT_.out (by kernel_rfl)) ?_)
 have hbk := blk_set (blk_set (blk_set (blk_set hbox 0 (.slice none 0 0)) 1 (.bool true)) 2 (.bool false)) 3 (.int .i64 0)
 have hb2 := below_set (below_set (below_set (below_set hb1 hgs (j := 0) (v := .slice none 0 0)) hgs (j := 1) (v := .bool true)) hgs (j := 2) (v := .bool false)) hgs (j := 3) (v := .int .i64 0)
 clear hb1 hbox hK hK2 hHeld hHeld2 z0 z1 z2 z3 zf x2
 generalize World.setCell _ ⟨g, 3, none⟩ _ = W2 at hbk hb2 ⊢
 replace hbk : W2.heap[g]? = some (.cells #[.slice none 0 0, .bool true, .bool false, .int .i64 0] 69 (0, 0)) := hbk
 have HBK := Aside0.mk hbk
 have HB2 := Aside0.mk hb2
 obtain ⟨z0, z1, z2, z3⟩ : W2.cell? ⟨g, 0, none⟩ = some (.slice none 0 0) ∧ W2.cell? ⟨g, 1, none⟩ = some (.bool true) ∧ W2.cell? ⟨g, 2, none⟩ = some (.bool false) ∧ W2.cell? ⟨g, 3, none⟩ = some (.int .i64 0) := ⟨(blk_cell hbk 0).trans rfl, (blk_cell hbk 1).trans rfl, (blk_cell hbk 2).trans rfl, (blk_cell hbk 3).trans rfl⟩
 have zf : ∀ i, W2.frozen? ⟨g, i, none⟩ = false := fun i => blk_frozen hbk i
 have HGB := Aside0.mk hgb
 have HGS := Aside0.mk hgs
 have HX1 := Aside0.mk x1
 clear hbk hb2 hgb hgs x1 hWd
 have d1 : decide (((r.length + 1 : Nat) : Int) ≤ 1) = true := decide_eq_true (by omega)
 have d2 : decide (r.length + 1 ≤ 1) = true := decide_eq_true (by omega)
 have d3 : decide ((r.length : Int) + 1 ≤ 1) = true := decide_eq_true (by omega)
 clear hl
 go_wp2_with (go_at_call 47; refine (parse_bad.calls _ _ _ _ rfl).mono ?_; rintro e w3 ⟨rfl, hd⟩; have HD := Aside0.mk hd; clear hd)
 go_ret2
 exact ⟨_, rfl, rfl, below_step (by repeat (first | exact HB2.out | apply below_drew1 | apply below_alloc | apply pw_below_drewN)) HD.out.below⟩
set_option maxHeartbeats 8000000 in
set_option maxRecDepth 100000 in
theorem get_gets_full (A : Option Addr) (c : Nat) (ks : List ByteArray) (w : World) (HLD : LaidA w) (hr : Kd.C Kd.string w A (⟨#[103, 101, 116, 115]⟩ :: ks).length (⟨#[103, 101, 116, 115]⟩ :: ks)) (hcc : (⟨#[103, 101, 116, 115]⟩ :: ks).length ≤ c) (hn : 0 < ks.length) :
  Calls Tryz.prog 48 #[.slice A (⟨#[103, 101, 116, 115]⟩ :: ks).length c] w fun e w' => ∃ v, e = .returned (.tuple #[v, .int .i64 (-1)]) ∧ AnyR w' v (getX ks true false (0, true)) ∧ Below w.heap.size w w' := by
 have hus := Tryz.underlying22
 have hug := Tryz.underlying69
 have hmax := hr.2.1
 have HL := Aside0.mk HLD
 obtain ⟨gb, ob, hA, hcell⟩ := str_cells hr (by simp)
 have x0 := hcell 0 (by simp)
 have x1 : w.cell? ⟨gb, ob, none⟩ = some (.string ⟨#[103, 101, 116, 115]⟩) := x0
 subst hA
 have hlt : gb < w.heap.size := World.block_lt_of_cell? w _ x1
 have hne : ¬ gb = w.heap.size := by omega
 have HC := Aside0.mk hcell
 have HMX := Aside0.mk hmax
 clear HLD hr hcell x0
 obtain ⟨X, hX⟩ : ∃ X, X = getX ks true false (0, true) := ⟨_, rfl⟩
 rw [← hX]
 have HXX := Aside0.mk hX
 clear hX
 have hF0 : Kd.F Kd.string w (fun _ => True) (some ⟨gb, ob + 1, none⟩) ks.length ks := Kd.F_mono (Kd.C_F Kd.heap_string (str_drop (xs := ⟨#[103, 101, 116, 115]⟩ :: ks) HMX.out HC.out 1 ks.length rfl)) (fun _ _ => trivial)
 have HF0 := Aside0.mk hF0
 have HN := Aside0.mk hn
 have HCC := Aside0.mk hcc
 have e3 : (ks.length + 1 ≤ c) = True := eq_true (by simp at hcc; omega)
 have e4 : ¬ c = 1 := by simp at hcc; omega
 have e5 : ¬ c = 0 := by simp at hcc; omega
 have d1 : decide (((ks.length + 1 : Nat) : Int) ≤ 1) = false := decide_eq_false (by omega)
 have d2 : decide (ks.length + 1 ≤ 1) = false := decide_eq_false (by omega)
 have d3 : decide ((ks.length : Int) + 1 ≤ 1) = false := decide_eq_false (by omega)
 have d5 : decide ((ks.length : Int) + 1 + 1 ≤ 1) = false := decide_eq_false (by omega)
 have e1 : (1 ≤ ks.length + 1) = True := eq_true (by omega)
 have e6 : ((1 : Int) ≤ (ks.length : Int) + 1) = True := eq_true (by omega)
 clear hF0 hn hcc
 go_enter Tryz.func48, Tryz.ntmps48
 go_wp2
 refine start_ (n := 23) (S := fun w' => w'.cell? ⟨gb, ob, none⟩ = some (.string ⟨#[103, 101, 116, 115]⟩)) (ds := [22]) gb0_ (by kernel_rfl) rfl rfl x1 (fun hHeld => ?_); refine with_tabW get_tab1 get_bits1 (fun HT_ HW_ => ?_)
 generalize hWd : w.drew = wd at hHeld ⊢
 refine pure_ (i := 0) (N := some 7) (v := ?_) (a' := ?_) gb1_ rfl rfl (any_of HT_.out (by kernel_rfl)) (fun _ _ _ h => h) (Or.inl ⟨by rfl, ?_⟩) ?_ ?_
 rotate_left
 ·intro w'
  go_simp
  with_reducible rfl
 rotate_left
 ·simp only [Act.put, List.setIfInBounds_toArray, List.set_cons_zero, List.set_cons_succ, i64_w, i32_w]
  rfl
 refine pure_ (i := 1) (N := some 8) (v := ?_) (a' := ?_) gb2_ rfl rfl (any_of HT_.out (by kernel_rfl)) (fun _ _ _ h => h) (Or.inl ⟨by rfl, ?_⟩) ?_ ?_
 rotate_left
 ·intro w'
  go_simp
  with_reducible rfl
 rotate_left
 ·simp only [Act.put, List.setIfInBounds_toArray, List.set_cons_zero, List.set_cons_succ, i64_w, i32_w]
  rfl
 refine take_ (i := 2) (N := some 9) (v := ?_) (a' := ?_) gb3_ rfl rfl (take_ofW HT_.out HW_.out (by kernel_rfl)) (fun _ _ _ h => h) (Or.inl ⟨by rfl, ?_⟩) hHeld ?_ ?_
 rotate_left
 ·rintro w' s0
  go_simp
  with_reducible rfl
 rotate_left
 ·simp only [Act.put, List.setIfInBounds_toArray, List.set_cons_zero, List.set_cons_succ, i64_w, i32_w]
  rfl
 refine pure_ (i := 3) (N := some 10) (v := ?_) (a' := ?_) gb4_ rfl rfl (any_of HT_.out (by kernel_rfl)) (fun _ _ _ h => h) (Or.inl ⟨by rfl, ?_⟩) ?_ ?_
 rotate_left
 ·intro w'
  go_simp
  with_reducible rfl
 rotate_left
 ·simp only [Act.put, List.setIfInBounds_toArray, List.set_cons_zero, List.set_cons_succ, i64_w, i32_w]
  rfl
 refine pure_ (i := 4) (N := some 11) (v := ?_) (a' := ?_) gb5_ rfl rfl (any_of HT_.out (by kernel_rfl)) (fun _ _ _ h => h) (Or.inl ⟨by rfl, ?_⟩) ?_ ?_
 rotate_left
 ·intro w'
  go_simp
  with_reducible rfl
 rotate_left
 ·simp only [Act.put, List.setIfInBounds_toArray, List.set_cons_zero, List.set_cons_succ, i64_w, i32_w]
  rfl
 refine pure_ (i := 5) (N := some 12) (v := undef) (a' := ?_) gb6_ rfl rfl (any_of HT_.out (by kernel_rfl)) (fun _ _ _ h => h) (Or.inr ⟨by rfl, rfl⟩) ?_ ?_
 rotate_left
 ·simp only [Act.put, List.setIfInBounds_toArray, List.set_cons_zero, List.set_cons_succ, i64_w, i32_w]
  rfl
 refine pure_ (i := 6) (N := some 13) (v := undef) (a' := ?_) gb7_ rfl rfl (any_of HT_.out (by kernel_rfl)) (fun _ _ _ h => h) (Or.inr ⟨by rfl, rfl⟩) ?_ ?_
 rotate_left
 ·simp only [Act.put, List.setIfInBounds_toArray, List.set_cons_zero, List.set_cons_succ, i64_w, i32_w]
  rfl
 refine pure_ (i := 7) (N := some 14) (v := undef) (a' := ?_) gb8_ rfl rfl (any_of HT_.out (by kernel_rfl)) (fun _ _ _ h => h) (Or.inr ⟨by rfl, rfl⟩) ?_ ?_
 rotate_left
 ·simp only [Act.put, List.setIfInBounds_toArray, List.set_cons_zero, List.set_cons_succ, i64_w, i32_w]
  rfl
 refine pure_ (i := 8) (N := some 15) (v := undef) (a' := ?_) gb9_ rfl rfl (any_of HT_.out (by kernel_rfl)) (fun _ _ _ h => h) (Or.inr ⟨by rfl, rfl⟩) ?_ ?_
 rotate_left
 ·simp only [Act.put, List.setIfInBounds_toArray, List.set_cons_zero, List.set_cons_succ, i64_w, i32_w]
  rfl
 refine pure_ (i := 9) (N := some 16) (v := ?_) (a' := ?_) gb10_ rfl rfl (any_of HT_.out (by kernel_rfl)) (fun _ _ _ h => h) (Or.inl ⟨by rfl, ?_⟩) ?_ ?_
 rotate_left
 ·intro w'
  go_simp
  with_reducible rfl
 rotate_left
 ·simp only [Act.put, List.setIfInBounds_toArray, List.set_cons_zero, List.set_cons_succ, i64_w, i32_w]
  rfl
 refine pure_ (i := 10) (N := some 17) (v := ?_) (a' := ?_) gb11_ rfl rfl (any_of HT_.out (by kernel_rfl)) (fun _ _ _ h => h) (Or.inl ⟨by rfl, ?_⟩) ?_ ?_
 rotate_left
 ·intro w'
  go_simp
  with_reducible rfl
 rotate_left
 ·simp only [Act.put, List.setIfInBounds_toArray, List.set_cons_zero, List.set_cons_succ, i64_w, i32_w]
  rfl
 refine pure_ (i := 11) (N := some 18) (v := ?_) (a' := ?_) gb12_ rfl rfl (any_of HT_.out (by kernel_rfl)) (fun _ _ _ h => h) (Or.inl ⟨by rfl, ?_⟩) ?_ ?_
 rotate_left
 ·intro w'
  go_simp
  with_reducible rfl
 rotate_left
 ·simp only [Act.put, List.setIfInBounds_toArray, List.set_cons_zero, List.set_cons_succ, i64_w, i32_w]
  rfl
 refine take_ (i := 12) (N := some 19) (v := ?_) (a' := ?_) gb13_ rfl rfl (take_ofW HT_.out HW_.out (by kernel_rfl)) (fun _ _ _ h => h) (Or.inl ⟨by rfl, ?_⟩) hHeld ?_ ?_
 rotate_left
 ·rintro w' s0
  go_simp
  with_reducible rfl
 rotate_left
 ·simp only [Act.put, List.setIfInBounds_toArray, List.set_cons_zero, List.set_cons_succ, i64_w, i32_w]
  rfl
 refine pure_ (i := 13) (N := some 20) (v := ?_) (a' := ?_) gb14_ rfl rfl (any_of HT_.out (by kernel_rfl)) (fun _ _ _ h => h) (Or.inl ⟨by rfl, ?_⟩) ?_ ?_
 rotate_left
 ·intro w'
  go_simp
  with_reducible rfl
 rotate_left
 ·simp only [Act.put, List.setIfInBounds_toArray, List.set_cons_zero, List.set_cons_succ, i64_w, i32_w]
  rfl
 refine pure_ (i := 14) (N := some 21) (v := ?_) (a' := ?_) gb15_ rfl rfl (any_of HT_.out (by kernel_rfl)) (fun _ _ _ h => h) (Or.inl ⟨by rfl, ?_⟩) ?_ ?_
 rotate_left
 ·intro w'
  go_simp
  with_reducible rfl
 rotate_left
 ·simp only [Act.put, List.setIfInBounds_toArray, List.set_cons_zero, List.set_cons_succ, i64_w, i32_w]
  rfl
 refine pure_ (i := 15) (N := some 22) (v := ?_) (a' := ?_) gb16_ rfl rfl (any_of HT_.out (by kernel_rfl)) (fun _ _ _ h => h) (Or.inl ⟨by rfl, ?_⟩) ?_ ?_
 rotate_left
 ·intro w'
  go_simp
  with_reducible rfl
 rotate_left
 ·simp only [Act.put, List.setIfInBounds_toArray, List.set_cons_zero, List.set_cons_succ, i64_w, i32_w]
  rfl
 refine pure_ (i := 16) (N := some 23) (v := ?_) (a' := ?_) gb17_ rfl rfl (any_of HT_.out (by kernel_rfl)) (fun _ _ _ h => h) (Or.inl ⟨by rfl, ?_⟩) ?_ ?_
 rotate_left
 ·intro w'
  go_simp
  with_reducible rfl
 rotate_left
 ·simp only [Act.put, List.setIfInBounds_toArray, List.set_cons_zero, List.set_cons_succ, i64_w, i32_w]
  rfl
 refine take_ (i := 17) (N := some 24) (v := ?_) (a' := ?_) gb18_ rfl rfl (take_ofW HT_.out HW_.out (by kernel_rfl)) (fun _ _ _ h => h) (Or.inl ⟨by rfl, ?_⟩) hHeld ?_ ?_
 rotate_left
 ·rintro w' s0
  go_simp
  with_reducible rfl
 rotate_left
 ·simp only [Act.put, List.setIfInBounds_toArray, List.set_cons_zero, List.set_cons_succ, i64_w, i32_w]
  rfl
 refine pure_ (i := 18) (N := some 25) (v := ?_) (a' := ?_) gb19_ rfl rfl (any_of HT_.out (by kernel_rfl)) (fun _ _ _ h => h) (Or.inl ⟨by rfl, ?_⟩) ?_ ?_
 rotate_left
 ·intro w'
  go_simp
  with_reducible rfl
 rotate_left
 ·simp only [Act.put, List.setIfInBounds_toArray, List.set_cons_zero, List.set_cons_succ, i64_w, i32_w]
  rfl
 refine pure_ (i := 19) (N := some 26) (v := ?_) (a' := ?_) gb20_ rfl rfl (any_of HT_.out (by kernel_rfl)) (fun _ _ _ h => h) (Or.inl ⟨by rfl, ?_⟩) ?_ ?_
 rotate_left
 ·intro w'
  go_simp
  with_reducible rfl
 rotate_left
 ·simp only [Act.put, List.setIfInBounds_toArray, List.set_cons_zero, List.set_cons_succ, i64_w, i32_w]
  rfl
 refine pure_ (i := 20) (N := some 27) (v := ?_) (a' := ?_) gb21_ rfl rfl (any_of HT_.out (by kernel_rfl)) (fun _ _ _ h => h) (Or.inl ⟨by rfl, ?_⟩) ?_ ?_
 rotate_left
 ·intro w'
  go_simp
  with_reducible rfl
 rotate_left
 ·simp only [Act.put, List.setIfInBounds_toArray, List.set_cons_zero, List.set_cons_succ, i64_w, i32_w]
  rfl
 refine one_ (i := 21) (N := some 4) gb22_ rfl rfl (one_of HT_.out (by kernel_rfl)) (by decide) (fun K hK => ?_)
 refine box_step ?hg (N := 4) ?hd (cs := #[.slice none 0 0, .bool false, .bool false, .int .i64 0]) (t := 69) ?hr ?_; (case hd => rfl); (case hg => rfl); (case hr => first | (go_simp; done) | (go_simp; rfl))
 intro g hg w1 hbox hb
 have hb1 : Below w.heap.size w w1 := by
  rw [← hWd] at hb
  exact below_undrew hb
 have hgs : w.heap.size ≤ g := by rw [hg, ← hWd]; exact Nat.le_refl _
 have hgb : gb ≠ g := by omega
 have x2 := pw_cell_below hb1 x1
 clear hg hb
 refine hK.out _ _ x2 (fun hHeld2 => ?_)
 refine last_ (i := 22) (N := none) gb23_ rfl rfl (one_of HT_.out (by kernel_rfl)) (by decide) (fun K2 hK2 => ?_)
 obtain ⟨z0, z1, z2, z3⟩ : w1.cell? ⟨g, 0, none⟩ = some (.slice none 0 0) ∧ w1.cell? ⟨g, 1, none⟩ = some (.bool false) ∧ w1.cell? ⟨g, 2, none⟩ = some (.bool false) ∧ w1.cell? ⟨g, 3, none⟩ = some (.int .i64 0) := ⟨(blk_cell hbox 0).trans rfl, (blk_cell hbox 1).trans rfl, (blk_cell hbox 2).trans rfl, (blk_cell hbox 3).trans rfl⟩
 have zf : ∀ i, w1.frozen? ⟨g, i, none⟩ = false := fun i => blk_frozen hbox i
 refine skip_ (w1 := (((w1.setCell ⟨g, 0, none⟩ (.slice none 0 0)).setCell ⟨g, 1, none⟩ (.bool true)).setCell ⟨g, 2, none⟩ (.bool false)).setCell ⟨g, 3, none⟩ (.int .i64 0)) (by rfl) rfl ?hrun ?_
 case hrun => go_simp
 refine hK2.out _ _ (done_ (done_of HT_.out (by kernel_rfl)) ?_)
 have hbk := blk_set (blk_set (blk_set (blk_set hbox 0 (.slice none 0 0)) 1 (.bool true)) 2 (.bool false)) 3 (.int .i64 0)
 have hb2 := below_set (below_set (below_set (below_set hb1 hgs (j := 0) (v := .slice none 0 0)) hgs (j := 1) (v := .bool true)) hgs (j := 2) (v := .bool false)) hgs (j := 3) (v := .int .i64 0)
 clear hb1 hbox hK hK2 hHeld hHeld2 z0 z1 z2 z3 zf x2
 generalize World.setCell _ ⟨g, 3, none⟩ _ = W2 at hbk hb2 ⊢
 replace hbk : W2.heap[g]? = some (.cells #[.slice none 0 0, .bool true, .bool false, .int .i64 0] 69 (0, 0)) := hbk
 have HBK := Aside0.mk hbk
 have HB2 := Aside0.mk hb2
 obtain ⟨z0, z1, z2, z3⟩ : W2.cell? ⟨g, 0, none⟩ = some (.slice none 0 0) ∧ W2.cell? ⟨g, 1, none⟩ = some (.bool true) ∧ W2.cell? ⟨g, 2, none⟩ = some (.bool false) ∧ W2.cell? ⟨g, 3, none⟩ = some (.int .i64 0) := ⟨(blk_cell hbk 0).trans rfl, (blk_cell hbk 1).trans rfl, (blk_cell hbk 2).trans rfl, (blk_cell hbk 3).trans rfl⟩
 have zf : ∀ i, W2.frozen? ⟨g, i, none⟩ = false := fun i => blk_frozen hbk i
 have HGB := Aside0.mk hgb
 have HGS := Aside0.mk hgs
 have HX1 := Aside0.mk x1
 clear hbk hb2 hgb hgs x1 hWd
 by_cases hk : ks.any (fun k => !keyF k) = true
 ·have HK := Aside0.mk hk
  clear hk
  go_wp2_with (first | (go_at_call 58; refine (ContainsFunc_walk _ _ ks _ (HL.out.below (below_set HB2.out HGS.out)) (Kd.F_now (Kd.F_below HF0.out (below_set HB2.out HGS.out)))).mono ?_; rintro e w3 ⟨rfl, hb3⟩; rw [HK.out]; have hbk3 := blk_below (blk_set HBK.out 0 (.slice (some ⟨gb, ob + 1, none⟩) ks.length (c - 1))) hb3; replace hbk3 : w3.heap[g]? = some (.cells #[.slice (some ⟨gb, ob + 1, none⟩) ks.length (c - 1), .bool true, .bool false, .int .i64 0] 69 (0, 0)) := hbk3; obtain ⟨y0, y1, y2, y3⟩ : w3.cell? ⟨g, 0, none⟩ = some (.slice (some ⟨gb, ob + 1, none⟩) ks.length (c - 1)) ∧ w3.cell? ⟨g, 1, none⟩ = some (.bool true) ∧ w3.cell? ⟨g, 2, none⟩ = some (.bool false) ∧ w3.cell? ⟨g, 3, none⟩ = some (.int .i64 0) := ⟨(blk_cell hbk3 0).trans rfl, (blk_cell hbk3 1).trans rfl, (blk_cell hbk3 2).trans rfl, (blk_cell hbk3 3).trans rfl⟩; have HBK3 := Aside0.mk hbk3; have HB3 := Aside0.mk (below_step (below_set HB2.out HGS.out) hb3); clear hbk3 hb3) | (go_at_call 47; refine (parse_bad.calls _ _ _ _ rfl).mono ?_; rintro e w4 ⟨rfl, hd⟩; have HD := Aside0.mk hd; clear hd))
  go_ret2
  refine ⟨_, rfl, ?_, below_step HB3.out HD.out.below⟩
  rw [HXX.out]
  unfold getX
  rw [if_pos (Or.inl HK.out)]
  exact rfl
 have HK := Aside0.mk (by simpa using hk : ks.any (fun k => !keyF k) = false)
 by_cases h64 : 64 < ks.length
 ·have H64 := Aside0.mk h64
  have f1 : decide ((64 : Int) < (ks.length : Int)) = true := decide_eq_true (by omega)
  have f2 : decide (64 < ks.length) = true := decide_eq_true (by omega)
  clear hk h64
  go_wp2_with (first | (go_at_call 58; refine (ContainsFunc_walk _ _ ks _ (HL.out.below (below_set HB2.out HGS.out)) (Kd.F_now (Kd.F_below HF0.out (below_set HB2.out HGS.out)))).mono ?_; rintro e w3 ⟨rfl, hb3⟩; rw [HK.out]; have hbk3 := blk_below (blk_set HBK.out 0 (.slice (some ⟨gb, ob + 1, none⟩) ks.length (c - 1))) hb3; replace hbk3 : w3.heap[g]? = some (.cells #[.slice (some ⟨gb, ob + 1, none⟩) ks.length (c - 1), .bool true, .bool false, .int .i64 0] 69 (0, 0)) := hbk3; obtain ⟨y0, y1, y2, y3⟩ : w3.cell? ⟨g, 0, none⟩ = some (.slice (some ⟨gb, ob + 1, none⟩) ks.length (c - 1)) ∧ w3.cell? ⟨g, 1, none⟩ = some (.bool true) ∧ w3.cell? ⟨g, 2, none⟩ = some (.bool false) ∧ w3.cell? ⟨g, 3, none⟩ = some (.int .i64 0) := ⟨(blk_cell hbk3 0).trans rfl, (blk_cell hbk3 1).trans rfl, (blk_cell hbk3 2).trans rfl, (blk_cell hbk3 3).trans rfl⟩; have HBK3 := Aside0.mk hbk3; have HB3 := Aside0.mk (below_step (below_set HB2.out HGS.out) hb3); clear hbk3 hb3) | (go_at_call 47; refine (parse_bad.calls _ _ _ _ rfl).mono ?_; rintro e w4 ⟨rfl, hd⟩; have HD := Aside0.mk hd; clear hd))
  go_ret2
  refine ⟨_, rfl, ?_, below_step HB3.out HD.out.below⟩
  rw [HXX.out]
  unfold getX
  rw [if_pos (Or.inr H64.out)]
  exact rfl
 have HNO := Aside0.mk (show ¬ (ks.any (fun k => !keyF k) = true ∨ 64 < ks.length) from by rintro (h | h); exact hk h; exact h64 h)
 have H64 := Aside0.mk h64
 have f1 : decide ((64 : Int) < (ks.length : Int)) = false := decide_eq_false (by omega)
 have f2 : decide (64 < ks.length) = false := decide_eq_false (by omega)
 clear hk h64
 go_wp2_with ((go_at_call 58; refine (ContainsFunc_walk _ _ ks _ (HL.out.below (below_set HB2.out HGS.out)) (Kd.F_now (Kd.F_below HF0.out (below_set HB2.out HGS.out)))).mono ?_; rintro e w3 ⟨rfl, hb3⟩; rw [HK.out]; have hbk3 := blk_below (blk_set HBK.out 0 (.slice (some ⟨gb, ob + 1, none⟩) ks.length (c - 1))) hb3; replace hbk3 : w3.heap[g]? = some (.cells #[.slice (some ⟨gb, ob + 1, none⟩) ks.length (c - 1), .bool true, .bool false, .int .i64 0] 69 (0, 0)) := hbk3; obtain ⟨y0, y1, y2, y3⟩ : w3.cell? ⟨g, 0, none⟩ = some (.slice (some ⟨gb, ob + 1, none⟩) ks.length (c - 1)) ∧ w3.cell? ⟨g, 1, none⟩ = some (.bool true) ∧ w3.cell? ⟨g, 2, none⟩ = some (.bool false) ∧ w3.cell? ⟨g, 3, none⟩ = some (.int .i64 0) := ⟨(blk_cell hbk3 0).trans rfl, (blk_cell hbk3 1).trans rfl, (blk_cell hbk3 2).trans rfl, (blk_cell hbk3 3).trans rfl⟩; have HBK3 := Aside0.mk hbk3; have HB3 := Aside0.mk (below_step (below_set HB2.out HGS.out) hb3); clear hbk3 hb3))
 go_ret2
 refine ⟨_, rfl, ?_, HB3.out⟩
 rw [HXX.out]
 unfold getX
 rw [if_neg HNO.out]
 exact ⟨_, _, rfl, ⟨HN.out, by have := H64.out; omega⟩, by have := HCC.out; simp at this; omega, Kd.F_below HF0.out HB3.out⟩
set_option maxHeartbeats 8000000 in
set_option maxRecDepth 100000 in
theorem get_gat_short (A : Option Addr) (c : Nat) (r : List ByteArray) (w : World) (HLD : LaidA w) (hr : Kd.C Kd.string w A (⟨#[103, 97, 116]⟩ :: r).length (⟨#[103, 97, 116]⟩ :: r)) (hcc : (⟨#[103, 97, 116]⟩ :: r).length ≤ c) (hl : r.length < 2) :
  Calls Tryz.prog 48 #[.slice A (⟨#[103, 97, 116]⟩ :: r).length c] w fun e w' => ∃ v, e = .returned (.tuple #[v, .int .i64 (-1)]) ∧ AnyR w' v (.pl (.bad ⟨#[69, 82, 82, 79, 82]⟩)) ∧ Below w.heap.size w w' := by
 have hus := Tryz.underlying22
 have hug := Tryz.underlying69
 have hmax := hr.2.1
 have HL := Aside0.mk HLD
 obtain ⟨gb, ob, hA, hcell⟩ := str_cells hr (by simp)
 have x0 := hcell 0 (by simp)
 have x1 : w.cell? ⟨gb, ob, none⟩ = some (.string ⟨#[103, 97, 116]⟩) := x0
 subst hA
 have hlt : gb < w.heap.size := World.block_lt_of_cell? w _ x1
 have hne : ¬ gb = w.heap.size := by omega
 have HC := Aside0.mk hcell
 have HMX := Aside0.mk hmax
 clear HLD hr hcell x0
 go_enter Tryz.func48, Tryz.ntmps48
 go_wp2
 refine start_ (n := 23) (S := fun w' => w'.cell? ⟨gb, ob, none⟩ = some (.string ⟨#[103, 97, 116]⟩)) (ds := [22]) gb0_ (by kernel_rfl) rfl rfl x1 (fun hHeld => ?_); refine with_tabW get_tab1 get_bits1 (fun HT_ HW_ => ?_)
 generalize hWd : w.drew = wd at hHeld ⊢
 refine pure_ (i := 0) (N := some 7) (v := ?_) (a' := ?_) gb1_ rfl rfl (any_of HT_.out (by kernel_rfl)) (fun _ _ _ h => h) (Or.inl ⟨by rfl, ?_⟩) ?_ ?_
 rotate_left
 ·intro w'
  go_simp
  with_reducible rfl
 rotate_left
 ·simp only [Act.put, List.setIfInBounds_toArray, List.set_cons_zero, List.set_cons_succ, i64_w, i32_w]
  rfl
 refine pure_ (i := 1) (N := some 8) (v := ?_) (a' := ?_) gb2_ rfl rfl (any_of HT_.out (by kernel_rfl)) (fun _ _ _ h => h) (Or.inl ⟨by rfl, ?_⟩) ?_ ?_
 rotate_left
 ·intro w'
  go_simp
  with_reducible rfl
 rotate_left
 ·simp only [Act.put, List.setIfInBounds_toArray, List.set_cons_zero, List.set_cons_succ, i64_w, i32_w]
  rfl
 refine take_ (i := 2) (N := some 9) (v := ?_) (a' := ?_) gb3_ rfl rfl (take_ofW HT_.out HW_.out (by kernel_rfl)) (fun _ _ _ h => h) (Or.inl ⟨by rfl, ?_⟩) hHeld ?_ ?_
 rotate_left
 ·rintro w' s0
  go_simp
  with_reducible rfl
 rotate_left
 ·simp only [Act.put, List.setIfInBounds_toArray, List.set_cons_zero, List.set_cons_succ, i64_w, i32_w]
  rfl
 refine pure_ (i := 3) (N := some 10) (v := ?_) (a' := ?_) gb4_ rfl rfl (any_of HT_.out (by kernel_rfl)) (fun _ _ _ h => h) (Or.inl ⟨by rfl, ?_⟩) ?_ ?_
 rotate_left
 ·intro w'
  go_simp
  with_reducible rfl
 rotate_left
 ·simp only [Act.put, List.setIfInBounds_toArray, List.set_cons_zero, List.set_cons_succ, i64_w, i32_w]
  rfl
 refine pure_ (i := 4) (N := some 11) (v := ?_) (a' := ?_) gb5_ rfl rfl (any_of HT_.out (by kernel_rfl)) (fun _ _ _ h => h) (Or.inl ⟨by rfl, ?_⟩) ?_ ?_
 rotate_left
 ·intro w'
  go_simp
  with_reducible rfl
 rotate_left
 ·simp only [Act.put, List.setIfInBounds_toArray, List.set_cons_zero, List.set_cons_succ, i64_w, i32_w]
  rfl
 refine pure_ (i := 5) (N := some 12) (v := ?_) (a' := ?_) gb6_ rfl rfl (any_of HT_.out (by kernel_rfl)) (fun _ _ _ h => h) (Or.inl ⟨by rfl, ?_⟩) ?_ ?_
 rotate_left
 ·intro w'
  go_simp
  with_reducible rfl
 rotate_left
 ·simp only [Act.put, List.setIfInBounds_toArray, List.set_cons_zero, List.set_cons_succ, i64_w, i32_w]
  rfl
 refine pure_ (i := 6) (N := some 13) (v := ?_) (a' := ?_) gb7_ rfl rfl (any_of HT_.out (by kernel_rfl)) (fun _ _ _ h => h) (Or.inl ⟨by rfl, ?_⟩) ?_ ?_
 rotate_left
 ·intro w'
  go_simp
  with_reducible rfl
 rotate_left
 ·simp only [Act.put, List.setIfInBounds_toArray, List.set_cons_zero, List.set_cons_succ, i64_w, i32_w]
  rfl
 refine take_ (i := 7) (N := some 14) (v := ?_) (a' := ?_) gb8_ rfl rfl (take_ofW HT_.out HW_.out (by kernel_rfl)) (fun _ _ _ h => h) (Or.inl ⟨by rfl, ?_⟩) hHeld ?_ ?_
 rotate_left
 ·rintro w' s0
  go_simp
  with_reducible rfl
 rotate_left
 ·simp only [Act.put, List.setIfInBounds_toArray, List.set_cons_zero, List.set_cons_succ, i64_w, i32_w]
  rfl
 refine pure_ (i := 8) (N := some 15) (v := ?_) (a' := ?_) gb9_ rfl rfl (any_of HT_.out (by kernel_rfl)) (fun _ _ _ h => h) (Or.inl ⟨by rfl, ?_⟩) ?_ ?_
 rotate_left
 ·intro w'
  go_simp
  with_reducible rfl
 rotate_left
 ·simp only [Act.put, List.setIfInBounds_toArray, List.set_cons_zero, List.set_cons_succ, i64_w, i32_w]
  rfl
 refine pure_ (i := 9) (N := some 16) (v := ?_) (a' := ?_) gb10_ rfl rfl (any_of HT_.out (by kernel_rfl)) (fun _ _ _ h => h) (Or.inl ⟨by rfl, ?_⟩) ?_ ?_
 rotate_left
 ·intro w'
  go_simp
  with_reducible rfl
 rotate_left
 ·simp only [Act.put, List.setIfInBounds_toArray, List.set_cons_zero, List.set_cons_succ, i64_w, i32_w]
  rfl
 refine pure_ (i := 10) (N := some 17) (v := ?_) (a' := ?_) gb11_ rfl rfl (any_of HT_.out (by kernel_rfl)) (fun _ _ _ h => h) (Or.inl ⟨by rfl, ?_⟩) ?_ ?_
 rotate_left
 ·intro w'
  go_simp
  with_reducible rfl
 rotate_left
 ·simp only [Act.put, List.setIfInBounds_toArray, List.set_cons_zero, List.set_cons_succ, i64_w, i32_w]
  rfl
 refine pure_ (i := 11) (N := some 18) (v := ?_) (a' := ?_) gb12_ rfl rfl (any_of HT_.out (by kernel_rfl)) (fun _ _ _ h => h) (Or.inl ⟨by rfl, ?_⟩) ?_ ?_
 rotate_left
 ·intro w'
  go_simp
  with_reducible rfl
 rotate_left
 ·simp only [Act.put, List.setIfInBounds_toArray, List.set_cons_zero, List.set_cons_succ, i64_w, i32_w]
  rfl
 refine take_ (i := 12) (N := some 19) (v := ?_) (a' := ?_) gb13_ rfl rfl (take_ofW HT_.out HW_.out (by kernel_rfl)) (fun _ _ _ h => h) (Or.inl ⟨by rfl, ?_⟩) hHeld ?_ ?_
 rotate_left
 ·rintro w' s0
  go_simp
  with_reducible rfl
 rotate_left
 ·simp only [Act.put, List.setIfInBounds_toArray, List.set_cons_zero, List.set_cons_succ, i64_w, i32_w]
  rfl
 refine pure_ (i := 13) (N := some 20) (v := ?_) (a' := ?_) gb14_ rfl rfl (any_of HT_.out (by kernel_rfl)) (fun _ _ _ h => h) (Or.inl ⟨by rfl, ?_⟩) ?_ ?_
 rotate_left
 ·intro w'
  go_simp
  with_reducible rfl
 rotate_left
 ·simp only [Act.put, List.setIfInBounds_toArray, List.set_cons_zero, List.set_cons_succ, i64_w, i32_w]
  rfl
 refine pure_ (i := 14) (N := some 21) (v := ?_) (a' := ?_) gb15_ rfl rfl (any_of HT_.out (by kernel_rfl)) (fun _ _ _ h => h) (Or.inl ⟨by rfl, ?_⟩) ?_ ?_
 rotate_left
 ·intro w'
  go_simp
  with_reducible rfl
 rotate_left
 ·simp only [Act.put, List.setIfInBounds_toArray, List.set_cons_zero, List.set_cons_succ, i64_w, i32_w]
  rfl
 refine pure_ (i := 15) (N := some 22) (v := undef) (a' := ?_) gb16_ rfl rfl (any_of HT_.out (by kernel_rfl)) (fun _ _ _ h => h) (Or.inr ⟨by rfl, rfl⟩) ?_ ?_
 rotate_left
 ·simp only [Act.put, List.setIfInBounds_toArray, List.set_cons_zero, List.set_cons_succ, i64_w, i32_w]
  rfl
 refine pure_ (i := 16) (N := some 23) (v := undef) (a' := ?_) gb17_ rfl rfl (any_of HT_.out (by kernel_rfl)) (fun _ _ _ h => h) (Or.inr ⟨by rfl, rfl⟩) ?_ ?_
 rotate_left
 ·simp only [Act.put, List.setIfInBounds_toArray, List.set_cons_zero, List.set_cons_succ, i64_w, i32_w]
  rfl
 refine pure_ (i := 17) (N := some 24) (v := undef) (a' := ?_) gb18_ rfl rfl (any_of HT_.out (by kernel_rfl)) (fun _ _ _ h => h) (Or.inr ⟨by rfl, rfl⟩) ?_ ?_
 rotate_left
 ·simp only [Act.put, List.setIfInBounds_toArray, List.set_cons_zero, List.set_cons_succ, i64_w, i32_w]
  rfl
 refine pure_ (i := 18) (N := some 25) (v := undef) (a' := ?_) gb19_ rfl rfl (any_of HT_.out (by kernel_rfl)) (fun _ _ _ h => h) (Or.inr ⟨by rfl, rfl⟩) ?_ ?_
 rotate_left
 ·simp only [Act.put, List.setIfInBounds_toArray, List.set_cons_zero, List.set_cons_succ, i64_w, i32_w]
  rfl
 refine pure_ (i := 19) (N := some 26) (v := ?_) (a' := ?_) gb20_ rfl rfl (any_of HT_.out (by kernel_rfl)) (fun _ _ _ h => h) (Or.inl ⟨by rfl, ?_⟩) ?_ ?_
 rotate_left
 ·intro w'
  go_simp
  with_reducible rfl
 rotate_left
 ·simp only [Act.put, List.setIfInBounds_toArray, List.set_cons_zero, List.set_cons_succ, i64_w, i32_w]
  rfl
 refine pure_ (i := 20) (N := some 27) (v := ?_) (a' := ?_) gb21_ rfl rfl (any_of HT_.out (by kernel_rfl)) (fun _ _ _ h => h) (Or.inl ⟨by rfl, ?_⟩) ?_ ?_
 rotate_left
 ·intro w'
  go_simp
  with_reducible rfl
 rotate_left
 ·simp only [Act.put, List.setIfInBounds_toArray, List.set_cons_zero, List.set_cons_succ, i64_w, i32_w]
  rfl
 refine one_ (i := 21) (N := some 4) gb22_ rfl rfl (one_of HT_.out (by kernel_rfl)) (by decide) (fun K hK => ?_)
 refine box_step ?hg (N := 4) ?hd (cs := #[.slice none 0 0, .bool false, .bool false, .int .i64 0]) (t := 69) ?hr ?_; (case hd => rfl); (case hg => rfl); (case hr => first | (go_simp; done) | (go_simp; rfl))
 intro g hg w1 hbox hb
 have hb1 : Below w.heap.size w w1 := by
  rw [← hWd] at hb
  exact below_undrew hb
 have hgs : w.heap.size ≤ g := by rw [hg, ← hWd]; exact Nat.le_refl _
 have hgb : gb ≠ g := by omega
 have x2 := pw_cell_below hb1 x1
 clear hg hb
 refine hK.out _ _ x2 (fun hHeld2 => ?_)
 refine last_ (i := 22) (N := none) gb23_ rfl rfl (one_of HT_.out (by kernel_rfl)) (by decide) (fun K2 hK2 => ?_)
 obtain ⟨z0, z1, z2, z3⟩ : w1.cell? ⟨g, 0, none⟩ = some (.slice none 0 0) ∧ w1.cell? ⟨g, 1, none⟩ = some (.bool false) ∧ w1.cell? ⟨g, 2, none⟩ = some (.bool false) ∧ w1.cell? ⟨g, 3, none⟩ = some (.int .i64 0) := ⟨(blk_cell hbox 0).trans rfl, (blk_cell hbox 1).trans rfl, (blk_cell hbox 2).trans rfl, (blk_cell hbox 3).trans rfl⟩
 have zf : ∀ i, w1.frozen? ⟨g, i, none⟩ = false := fun i => blk_frozen hbox i
 refine skip_ (w1 := (((w1.setCell ⟨g, 0, none⟩ (.slice none 0 0)).setCell ⟨g, 1, none⟩ (.bool false)).setCell ⟨g, 2, none⟩ (.bool true)).setCell ⟨g, 3, none⟩ (.int .i64 0)) (by rfl) rfl ?hrun ?_
 case hrun => go_simp
 refine hK2.out _ _ (done_ (done_of HT_.out (by kernel_rfl)) ?_)
 have hbk := blk_set (blk_set (blk_set (blk_set hbox 0 (.slice none 0 0)) 1 (.bool false)) 2 (.bool true)) 3 (.int .i64 0)
 have hb2 := below_set (below_set (below_set (below_set hb1 hgs (j := 0) (v := .slice none 0 0)) hgs (j := 1) (v := .bool false)) hgs (j := 2) (v := .bool true)) hgs (j := 3) (v := .int .i64 0)
 clear hb1 hbox hK hK2 hHeld hHeld2 z0 z1 z2 z3 zf x2
 generalize World.setCell _ ⟨g, 3, none⟩ _ = W2 at hbk hb2 ⊢
 replace hbk : W2.heap[g]? = some (.cells #[.slice none 0 0, .bool false, .bool true, .int .i64 0] 69 (0, 0)) := hbk
 have HBK := Aside0.mk hbk
 have HB2 := Aside0.mk hb2
 obtain ⟨z0, z1, z2, z3⟩ : W2.cell? ⟨g, 0, none⟩ = some (.slice none 0 0) ∧ W2.cell? ⟨g, 1, none⟩ = some (.bool false) ∧ W2.cell? ⟨g, 2, none⟩ = some (.bool true) ∧ W2.cell? ⟨g, 3, none⟩ = some (.int .i64 0) := ⟨(blk_cell hbk 0).trans rfl, (blk_cell hbk 1).trans rfl, (blk_cell hbk 2).trans rfl, (blk_cell hbk 3).trans rfl⟩
 have zf : ∀ i, W2.frozen? ⟨g, i, none⟩ = false := fun i => blk_frozen hbk i
 have HGB := Aside0.mk hgb
 have HGS := Aside0.mk hgs
 have HX1 := Aside0.mk x1
 clear hbk hb2 hgb hgs x1 hWd
 have d1 : decide (((r.length + 1 : Nat) : Int) ≤ 2) = true := decide_eq_true (by omega)
 have d2 : decide (r.length + 1 ≤ 2) = true := decide_eq_true (by omega)
 have d3 : decide ((r.length : Int) + 1 ≤ 2) = true := decide_eq_true (by omega)
 clear hl
 go_wp2_with (go_at_call 47; refine (parse_bad.calls _ _ _ _ rfl).mono ?_; rintro e w3 ⟨rfl, hd⟩; have HD := Aside0.mk hd; clear hd)
 go_ret2
 exact ⟨_, rfl, rfl, below_step (by repeat (first | exact HB2.out | apply below_drew1 | apply below_alloc | apply pw_below_drewN)) HD.out.below⟩
set_option maxHeartbeats 8000000 in
set_option maxRecDepth 100000 in
theorem get_gat_full (A : Option Addr) (c : Nat) (ks : List ByteArray) (x : ByteArray) (w : World) (HLD : LaidA w) (hr : Kd.C Kd.string w A (⟨#[103, 97, 116]⟩ :: x :: ks).length (⟨#[103, 97, 116]⟩ :: x :: ks)) (hcc : (⟨#[103, 97, 116]⟩ :: x :: ks).length ≤ c) (hn : 0 < ks.length) (k : Nat) (sg : Int × Bool) (hsg : words_Signed.f k x = some sg) :
  Calls Tryz.prog 48 #[.slice A (⟨#[103, 97, 116]⟩ :: x :: ks).length c] w fun e w' => ∃ v, e = .returned (.tuple #[v, .int .i64 (-1)]) ∧ AnyR w' v (getX ks false true sg) ∧ Below w.heap.size w w' := by
 have hus := Tryz.underlying22
 have hug := Tryz.underlying69
 have hmax := hr.2.1
 have HL := Aside0.mk HLD
 obtain ⟨gb, ob, hA, hcell⟩ := str_cells hr (by simp)
 have x0 := hcell 0 (by simp)
 have x1 : w.cell? ⟨gb, ob, none⟩ = some (.string ⟨#[103, 97, 116]⟩) := x0
 subst hA
 have hlt : gb < w.heap.size := World.block_lt_of_cell? w _ x1
 have hne : ¬ gb = w.heap.size := by omega
 have HC := Aside0.mk hcell
 have HMX := Aside0.mk hmax
 clear HLD hr hcell x0
 obtain ⟨sv, sk⟩ := sg
 obtain ⟨X, hX⟩ : ∃ X, X = getX ks false true (sv, sk) := ⟨_, rfl⟩
 rw [← hX]
 have HXX := Aside0.mk hX
 clear hX
 have hF0 : Kd.F Kd.string w (fun _ => True) (some ⟨gb, ob + 2, none⟩) ks.length ks := Kd.F_mono (Kd.C_F Kd.heap_string (str_drop (xs := ⟨#[103, 97, 116]⟩ :: x :: ks) HMX.out HC.out 2 ks.length rfl)) (fun _ _ => trivial)
 have HF0 := Aside0.mk hF0
 have HN := Aside0.mk hn
 have HCC := Aside0.mk hcc
 have e3 : (ks.length + 2 ≤ c) = True := eq_true (by simp at hcc; omega)
 have e4 : ¬ c = 2 := by simp at hcc; omega
 have e5 : ¬ c = 0 := by simp at hcc; omega
 have d1 : decide (((ks.length + 2 : Nat) : Int) ≤ 2) = false := decide_eq_false (by omega)
 have d2 : decide (ks.length + 2 ≤ 2) = false := decide_eq_false (by omega)
 have d3 : decide ((ks.length : Int) + 2 ≤ 2) = false := decide_eq_false (by omega)
 have d5 : decide ((ks.length : Int) + 1 + 1 ≤ 2) = false := decide_eq_false (by omega)
 have e1 : (2 ≤ ks.length + 2) = True := eq_true (by omega)
 have e6 : ((2 : Int) ≤ (ks.length : Int) + 2) = True := eq_true (by omega)
 clear hF0 hn hcc
 have e7 : ((0 : Int) < (ks.length : Int) + 1 + 1) = True := eq_true (by omega)
 have e8 : ((1 : Int) < (ks.length : Int) + 1 + 1) = True := eq_true (by omega)
 have e9 : ((2 : Int) ≤ (ks.length : Int) + 1 + 1) = True := eq_true (by omega)
 have e10 : (ks.length + 1 + 1 ≤ c) = True := eq_true (by have := of_eq_true e3; omega)
 have x1b : w.cell? ⟨gb, ob + 1, none⟩ = some (.string x) := HC.out 1 (by simp)
 have HX2 := Aside0.mk x1b
 clear x1b
 have HSG := Aside0.mk hsg
 clear hsg
 go_enter Tryz.func48, Tryz.ntmps48
 go_wp2
 refine start_ (n := 23) (S := fun w' => w'.cell? ⟨gb, ob, none⟩ = some (.string ⟨#[103, 97, 116]⟩)) (ds := [22]) gb0_ (by kernel_rfl) rfl rfl x1 (fun hHeld => ?_); refine with_tabW get_tab1 get_bits1 (fun HT_ HW_ => ?_)
 generalize hWd : w.drew = wd at hHeld ⊢
 refine pure_ (i := 0) (N := some 7) (v := ?_) (a' := ?_) gb1_ rfl rfl (any_of HT_.out (by kernel_rfl)) (fun _ _ _ h => h) (Or.inl ⟨by rfl, ?_⟩) ?_ ?_
 rotate_left
 ·intro w'
  go_simp
  with_reducible rfl
 rotate_left
 ·simp only [Act.put, List.setIfInBounds_toArray, List.set_cons_zero, List.set_cons_succ, i64_w, i32_w]
  rfl
 refine pure_ (i := 1) (N := some 8) (v := ?_) (a' := ?_) gb2_ rfl rfl (any_of HT_.out (by kernel_rfl)) (fun _ _ _ h => h) (Or.inl ⟨by rfl, ?_⟩) ?_ ?_
 rotate_left
 ·intro w'
  go_simp
  with_reducible rfl
 rotate_left
 ·simp only [Act.put, List.setIfInBounds_toArray, List.set_cons_zero, List.set_cons_succ, i64_w, i32_w]
  rfl
 refine take_ (i := 2) (N := some 9) (v := ?_) (a' := ?_) gb3_ rfl rfl (take_ofW HT_.out HW_.out (by kernel_rfl)) (fun _ _ _ h => h) (Or.inl ⟨by rfl, ?_⟩) hHeld ?_ ?_
 rotate_left
 ·rintro w' s0
  go_simp
  with_reducible rfl
 rotate_left
 ·simp only [Act.put, List.setIfInBounds_toArray, List.set_cons_zero, List.set_cons_succ, i64_w, i32_w]
  rfl
 refine pure_ (i := 3) (N := some 10) (v := ?_) (a' := ?_) gb4_ rfl rfl (any_of HT_.out (by kernel_rfl)) (fun _ _ _ h => h) (Or.inl ⟨by rfl, ?_⟩) ?_ ?_
 rotate_left
 ·intro w'
  go_simp
  with_reducible rfl
 rotate_left
 ·simp only [Act.put, List.setIfInBounds_toArray, List.set_cons_zero, List.set_cons_succ, i64_w, i32_w]
  rfl
 refine pure_ (i := 4) (N := some 11) (v := ?_) (a' := ?_) gb5_ rfl rfl (any_of HT_.out (by kernel_rfl)) (fun _ _ _ h => h) (Or.inl ⟨by rfl, ?_⟩) ?_ ?_
 rotate_left
 ·intro w'
  go_simp
  with_reducible rfl
 rotate_left
 ·simp only [Act.put, List.setIfInBounds_toArray, List.set_cons_zero, List.set_cons_succ, i64_w, i32_w]
  rfl
 refine pure_ (i := 5) (N := some 12) (v := ?_) (a' := ?_) gb6_ rfl rfl (any_of HT_.out (by kernel_rfl)) (fun _ _ _ h => h) (Or.inl ⟨by rfl, ?_⟩) ?_ ?_
 rotate_left
 ·intro w'
  go_simp
  with_reducible rfl
 rotate_left
 ·simp only [Act.put, List.setIfInBounds_toArray, List.set_cons_zero, List.set_cons_succ, i64_w, i32_w]
  rfl
 refine pure_ (i := 6) (N := some 13) (v := ?_) (a' := ?_) gb7_ rfl rfl (any_of HT_.out (by kernel_rfl)) (fun _ _ _ h => h) (Or.inl ⟨by rfl, ?_⟩) ?_ ?_
 rotate_left
 ·intro w'
  go_simp
  with_reducible rfl
 rotate_left
 ·simp only [Act.put, List.setIfInBounds_toArray, List.set_cons_zero, List.set_cons_succ, i64_w, i32_w]
  rfl
 refine take_ (i := 7) (N := some 14) (v := ?_) (a' := ?_) gb8_ rfl rfl (take_ofW HT_.out HW_.out (by kernel_rfl)) (fun _ _ _ h => h) (Or.inl ⟨by rfl, ?_⟩) hHeld ?_ ?_
 rotate_left
 ·rintro w' s0
  go_simp
  with_reducible rfl
 rotate_left
 ·simp only [Act.put, List.setIfInBounds_toArray, List.set_cons_zero, List.set_cons_succ, i64_w, i32_w]
  rfl
 refine pure_ (i := 8) (N := some 15) (v := ?_) (a' := ?_) gb9_ rfl rfl (any_of HT_.out (by kernel_rfl)) (fun _ _ _ h => h) (Or.inl ⟨by rfl, ?_⟩) ?_ ?_
 rotate_left
 ·intro w'
  go_simp
  with_reducible rfl
 rotate_left
 ·simp only [Act.put, List.setIfInBounds_toArray, List.set_cons_zero, List.set_cons_succ, i64_w, i32_w]
  rfl
 refine pure_ (i := 9) (N := some 16) (v := ?_) (a' := ?_) gb10_ rfl rfl (any_of HT_.out (by kernel_rfl)) (fun _ _ _ h => h) (Or.inl ⟨by rfl, ?_⟩) ?_ ?_
 rotate_left
 ·intro w'
  go_simp
  with_reducible rfl
 rotate_left
 ·simp only [Act.put, List.setIfInBounds_toArray, List.set_cons_zero, List.set_cons_succ, i64_w, i32_w]
  rfl
 refine pure_ (i := 10) (N := some 17) (v := ?_) (a' := ?_) gb11_ rfl rfl (any_of HT_.out (by kernel_rfl)) (fun _ _ _ h => h) (Or.inl ⟨by rfl, ?_⟩) ?_ ?_
 rotate_left
 ·intro w'
  go_simp
  with_reducible rfl
 rotate_left
 ·simp only [Act.put, List.setIfInBounds_toArray, List.set_cons_zero, List.set_cons_succ, i64_w, i32_w]
  rfl
 refine pure_ (i := 11) (N := some 18) (v := ?_) (a' := ?_) gb12_ rfl rfl (any_of HT_.out (by kernel_rfl)) (fun _ _ _ h => h) (Or.inl ⟨by rfl, ?_⟩) ?_ ?_
 rotate_left
 ·intro w'
  go_simp
  with_reducible rfl
 rotate_left
 ·simp only [Act.put, List.setIfInBounds_toArray, List.set_cons_zero, List.set_cons_succ, i64_w, i32_w]
  rfl
 refine take_ (i := 12) (N := some 19) (v := ?_) (a' := ?_) gb13_ rfl rfl (take_ofW HT_.out HW_.out (by kernel_rfl)) (fun _ _ _ h => h) (Or.inl ⟨by rfl, ?_⟩) hHeld ?_ ?_
 rotate_left
 ·rintro w' s0
  go_simp
  with_reducible rfl
 rotate_left
 ·simp only [Act.put, List.setIfInBounds_toArray, List.set_cons_zero, List.set_cons_succ, i64_w, i32_w]
  rfl
 refine pure_ (i := 13) (N := some 20) (v := ?_) (a' := ?_) gb14_ rfl rfl (any_of HT_.out (by kernel_rfl)) (fun _ _ _ h => h) (Or.inl ⟨by rfl, ?_⟩) ?_ ?_
 rotate_left
 ·intro w'
  go_simp
  with_reducible rfl
 rotate_left
 ·simp only [Act.put, List.setIfInBounds_toArray, List.set_cons_zero, List.set_cons_succ, i64_w, i32_w]
  rfl
 refine pure_ (i := 14) (N := some 21) (v := ?_) (a' := ?_) gb15_ rfl rfl (any_of HT_.out (by kernel_rfl)) (fun _ _ _ h => h) (Or.inl ⟨by rfl, ?_⟩) ?_ ?_
 rotate_left
 ·intro w'
  go_simp
  with_reducible rfl
 rotate_left
 ·simp only [Act.put, List.setIfInBounds_toArray, List.set_cons_zero, List.set_cons_succ, i64_w, i32_w]
  rfl
 refine pure_ (i := 15) (N := some 22) (v := undef) (a' := ?_) gb16_ rfl rfl (any_of HT_.out (by kernel_rfl)) (fun _ _ _ h => h) (Or.inr ⟨by rfl, rfl⟩) ?_ ?_
 rotate_left
 ·simp only [Act.put, List.setIfInBounds_toArray, List.set_cons_zero, List.set_cons_succ, i64_w, i32_w]
  rfl
 refine pure_ (i := 16) (N := some 23) (v := undef) (a' := ?_) gb17_ rfl rfl (any_of HT_.out (by kernel_rfl)) (fun _ _ _ h => h) (Or.inr ⟨by rfl, rfl⟩) ?_ ?_
 rotate_left
 ·simp only [Act.put, List.setIfInBounds_toArray, List.set_cons_zero, List.set_cons_succ, i64_w, i32_w]
  rfl
 refine pure_ (i := 17) (N := some 24) (v := undef) (a' := ?_) gb18_ rfl rfl (any_of HT_.out (by kernel_rfl)) (fun _ _ _ h => h) (Or.inr ⟨by rfl, rfl⟩) ?_ ?_
 rotate_left
 ·simp only [Act.put, List.setIfInBounds_toArray, List.set_cons_zero, List.set_cons_succ, i64_w, i32_w]
  rfl
 refine pure_ (i := 18) (N := some 25) (v := undef) (a' := ?_) gb19_ rfl rfl (any_of HT_.out (by kernel_rfl)) (fun _ _ _ h => h) (Or.inr ⟨by rfl, rfl⟩) ?_ ?_
 rotate_left
 ·simp only [Act.put, List.setIfInBounds_toArray, List.set_cons_zero, List.set_cons_succ, i64_w, i32_w]
  rfl
 refine pure_ (i := 19) (N := some 26) (v := ?_) (a' := ?_) gb20_ rfl rfl (any_of HT_.out (by kernel_rfl)) (fun _ _ _ h => h) (Or.inl ⟨by rfl, ?_⟩) ?_ ?_
 rotate_left
 ·intro w'
  go_simp
  with_reducible rfl
 rotate_left
 ·simp only [Act.put, List.setIfInBounds_toArray, List.set_cons_zero, List.set_cons_succ, i64_w, i32_w]
  rfl
 refine pure_ (i := 20) (N := some 27) (v := ?_) (a' := ?_) gb21_ rfl rfl (any_of HT_.out (by kernel_rfl)) (fun _ _ _ h => h) (Or.inl ⟨by rfl, ?_⟩) ?_ ?_
 rotate_left
 ·intro w'
  go_simp
  with_reducible rfl
 rotate_left
 ·simp only [Act.put, List.setIfInBounds_toArray, List.set_cons_zero, List.set_cons_succ, i64_w, i32_w]
  rfl
 refine one_ (i := 21) (N := some 4) gb22_ rfl rfl (one_of HT_.out (by kernel_rfl)) (by decide) (fun K hK => ?_)
 refine box_step ?hg (N := 4) ?hd (cs := #[.slice none 0 0, .bool false, .bool false, .int .i64 0]) (t := 69) ?hr ?_; (case hd => rfl); (case hg => rfl); (case hr => first | (go_simp; done) | (go_simp; rfl))
 intro g hg w1 hbox hb
 have hb1 : Below w.heap.size w w1 := by
  rw [← hWd] at hb
  exact below_undrew hb
 have hgs : w.heap.size ≤ g := by rw [hg, ← hWd]; exact Nat.le_refl _
 have hgb : gb ≠ g := by omega
 have x2 := pw_cell_below hb1 x1
 clear hg hb
 refine hK.out _ _ x2 (fun hHeld2 => ?_)
 refine last_ (i := 22) (N := none) gb23_ rfl rfl (one_of HT_.out (by kernel_rfl)) (by decide) (fun K2 hK2 => ?_)
 obtain ⟨z0, z1, z2, z3⟩ : w1.cell? ⟨g, 0, none⟩ = some (.slice none 0 0) ∧ w1.cell? ⟨g, 1, none⟩ = some (.bool false) ∧ w1.cell? ⟨g, 2, none⟩ = some (.bool false) ∧ w1.cell? ⟨g, 3, none⟩ = some (.int .i64 0) := ⟨(blk_cell hbox 0).trans rfl, (blk_cell hbox 1).trans rfl, (blk_cell hbox 2).trans rfl, (blk_cell hbox 3).trans rfl⟩
 have zf : ∀ i, w1.frozen? ⟨g, i, none⟩ = false := fun i => blk_frozen hbox i
 refine skip_ (w1 := (((w1.setCell ⟨g, 0, none⟩ (.slice none 0 0)).setCell ⟨g, 1, none⟩ (.bool false)).setCell ⟨g, 2, none⟩ (.bool true)).setCell ⟨g, 3, none⟩ (.int .i64 0)) (by rfl) rfl ?hrun ?_
 case hrun => go_simp
 refine hK2.out _ _ (done_ (done_of HT_.out (by kernel_rfl)) ?_)
 have hbk := blk_set (blk_set (blk_set (blk_set hbox 0 (.slice none 0 0)) 1 (.bool false)) 2 (.bool true)) 3 (.int .i64 0)
 have hb2 := below_set (below_set (below_set (below_set hb1 hgs (j := 0) (v := .slice none 0 0)) hgs (j := 1) (v := .bool false)) hgs (j := 2) (v := .bool true)) hgs (j := 3) (v := .int .i64 0)
 clear hb1 hbox hK hK2 hHeld hHeld2 z0 z1 z2 z3 zf x2
 generalize World.setCell _ ⟨g, 3, none⟩ _ = W2 at hbk hb2 ⊢
 replace hbk : W2.heap[g]? = some (.cells #[.slice none 0 0, .bool false, .bool true, .int .i64 0] 69 (0, 0)) := hbk
 have HBK := Aside0.mk hbk
 have HB2 := Aside0.mk hb2
 obtain ⟨z0, z1, z2, z3⟩ : W2.cell? ⟨g, 0, none⟩ = some (.slice none 0 0) ∧ W2.cell? ⟨g, 1, none⟩ = some (.bool false) ∧ W2.cell? ⟨g, 2, none⟩ = some (.bool true) ∧ W2.cell? ⟨g, 3, none⟩ = some (.int .i64 0) := ⟨(blk_cell hbk 0).trans rfl, (blk_cell hbk 1).trans rfl, (blk_cell hbk 2).trans rfl, (blk_cell hbk 3).trans rfl⟩
 have zf : ∀ i, W2.frozen? ⟨g, i, none⟩ = false := fun i => blk_frozen hbk i
 have HGB := Aside0.mk hgb
 have HGS := Aside0.mk hgs
 have HX1 := Aside0.mk x1
 clear hbk hb2 hgb hgs x1 hWd
 by_cases hk : ks.any (fun k => !keyF k) = true
 ·have HK := Aside0.mk hk
  clear hk
  go_wp2_with (first | (go_at_call 58; refine (ContainsFunc_walk _ _ ks _ (HL.out.below (below_set HB2.out HGS.out)) (Kd.F_now (Kd.F_below HF0.out (below_set HB2.out HGS.out)))).mono ?_; rintro e w3 ⟨rfl, hb3⟩; rw [HK.out]; have hbk3 := blk_below (blk_set HBK.out 0 (.slice (some ⟨gb, ob + 2, none⟩) ks.length (c - 2))) hb3; replace hbk3 : w3.heap[g]? = some (.cells #[.slice (some ⟨gb, ob + 2, none⟩) ks.length (c - 2), .bool false, .bool true, .int .i64 0] 69 (0, 0)) := hbk3; obtain ⟨y0, y1, y2, y3⟩ : w3.cell? ⟨g, 0, none⟩ = some (.slice (some ⟨gb, ob + 2, none⟩) ks.length (c - 2)) ∧ w3.cell? ⟨g, 1, none⟩ = some (.bool false) ∧ w3.cell? ⟨g, 2, none⟩ = some (.bool true) ∧ w3.cell? ⟨g, 3, none⟩ = some (.int .i64 0) := ⟨(blk_cell hbk3 0).trans rfl, (blk_cell hbk3 1).trans rfl, (blk_cell hbk3 2).trans rfl, (blk_cell hbk3 3).trans rfl⟩; have HBK3 := Aside0.mk hbk3; have HB3 := Aside0.mk (below_step (below_set HB2.out HGS.out) hb3); clear hbk3 hb3) | (go_at_call 47; refine (parse_bad.calls _ _ _ _ rfl).mono ?_; rintro e w4 ⟨rfl, hd⟩; have HD := Aside0.mk hd; clear hd))
  go_ret2
  refine ⟨_, rfl, ?_, below_step HB3.out HD.out.below⟩
  rw [HXX.out]
  unfold getX
  rw [if_pos (Or.inl HK.out)]
  exact rfl
 have HK := Aside0.mk (by simpa using hk : ks.any (fun k => !keyF k) = false)
 by_cases h64 : 64 < ks.length
 ·have H64 := Aside0.mk h64
  have f1 : decide ((64 : Int) < (ks.length : Int)) = true := decide_eq_true (by omega)
  have f2 : decide (64 < ks.length) = true := decide_eq_true (by omega)
  clear hk h64
  go_wp2_with (first | (go_at_call 58; refine (ContainsFunc_walk _ _ ks _ (HL.out.below (below_set HB2.out HGS.out)) (Kd.F_now (Kd.F_below HF0.out (below_set HB2.out HGS.out)))).mono ?_; rintro e w3 ⟨rfl, hb3⟩; rw [HK.out]; have hbk3 := blk_below (blk_set HBK.out 0 (.slice (some ⟨gb, ob + 2, none⟩) ks.length (c - 2))) hb3; replace hbk3 : w3.heap[g]? = some (.cells #[.slice (some ⟨gb, ob + 2, none⟩) ks.length (c - 2), .bool false, .bool true, .int .i64 0] 69 (0, 0)) := hbk3; obtain ⟨y0, y1, y2, y3⟩ : w3.cell? ⟨g, 0, none⟩ = some (.slice (some ⟨gb, ob + 2, none⟩) ks.length (c - 2)) ∧ w3.cell? ⟨g, 1, none⟩ = some (.bool false) ∧ w3.cell? ⟨g, 2, none⟩ = some (.bool true) ∧ w3.cell? ⟨g, 3, none⟩ = some (.int .i64 0) := ⟨(blk_cell hbk3 0).trans rfl, (blk_cell hbk3 1).trans rfl, (blk_cell hbk3 2).trans rfl, (blk_cell hbk3 3).trans rfl⟩; have HBK3 := Aside0.mk hbk3; have HB3 := Aside0.mk (below_step (below_set HB2.out HGS.out) hb3); clear hbk3 hb3) | (go_at_call 47; refine (parse_bad.calls _ _ _ _ rfl).mono ?_; rintro e w4 ⟨rfl, hd⟩; have HD := Aside0.mk hd; clear hd))
  go_ret2
  refine ⟨_, rfl, ?_, below_step HB3.out HD.out.below⟩
  rw [HXX.out]
  unfold getX
  rw [if_pos (Or.inr H64.out)]
  exact rfl
 have HNO := Aside0.mk (show ¬ (ks.any (fun k => !keyF k) = true ∨ 64 < ks.length) from by rintro (h | h); exact hk h; exact h64 h)
 have H64 := Aside0.mk h64
 have f1 : decide ((64 : Int) < (ks.length : Int)) = false := decide_eq_false (by omega)
 have f2 : decide (64 < ks.length) = false := decide_eq_false (by omega)
 clear hk h64
 cases sk with
 | false =>
  go_wp2_with (first | (go_at_call 58; refine (ContainsFunc_walk _ _ ks _ (HL.out.below (below_set HB2.out HGS.out)) (Kd.F_now (Kd.F_below HF0.out (below_set HB2.out HGS.out)))).mono ?_; rintro e w3 ⟨rfl, hb3⟩; rw [HK.out]; have hbk3 := blk_below (blk_set HBK.out 0 (.slice (some ⟨gb, ob + 2, none⟩) ks.length (c - 2))) hb3; replace hbk3 : w3.heap[g]? = some (.cells #[.slice (some ⟨gb, ob + 2, none⟩) ks.length (c - 2), .bool false, .bool true, .int .i64 0] 69 (0, 0)) := hbk3; obtain ⟨y0, y1, y2, y3⟩ : w3.cell? ⟨g, 0, none⟩ = some (.slice (some ⟨gb, ob + 2, none⟩) ks.length (c - 2)) ∧ w3.cell? ⟨g, 1, none⟩ = some (.bool false) ∧ w3.cell? ⟨g, 2, none⟩ = some (.bool true) ∧ w3.cell? ⟨g, 3, none⟩ = some (.int .i64 0) := ⟨(blk_cell hbk3 0).trans rfl, (blk_cell hbk3 1).trans rfl, (blk_cell hbk3 2).trans rfl, (blk_cell hbk3 3).trans rfl⟩; have HBK3 := Aside0.mk hbk3; have HB3 := Aside0.mk (below_step (below_set HB2.out HGS.out) hb3); clear hbk3 hb3; have x5 := pw_cell_below HB3.out HX2.out) | (go_at_call 60; refine (words_Signed.calls k x _ _ _ (HL.out.below HB3.out) HSG.out).mono ?_; rintro e w4 ⟨rfl, hb4⟩; have hbk4 := blk_below HBK3.out hb4; obtain ⟨u0, u1, u2, u3⟩ : w4.cell? ⟨g, 0, none⟩ = some (.slice (some ⟨gb, ob + 2, none⟩) ks.length (c - 2)) ∧ w4.cell? ⟨g, 1, none⟩ = some (.bool false) ∧ w4.cell? ⟨g, 2, none⟩ = some (.bool true) ∧ w4.cell? ⟨g, 3, none⟩ = some (.int .i64 0) := ⟨(blk_cell hbk4 0).trans rfl, (blk_cell hbk4 1).trans rfl, (blk_cell hbk4 2).trans rfl, (blk_cell hbk4 3).trans rfl⟩; have uf : ∀ i, w4.frozen? ⟨g, i, none⟩ = false := fun i => blk_frozen hbk4 i; have HB4 := Aside0.mk (below_step HB3.out hb4); clear hbk4 hb4) | (go_at_call 47; refine (parse_bad.calls _ _ _ _ rfl).mono ?_; rintro e w5 ⟨rfl, hd⟩; have HD := Aside0.mk hd; clear hd))
  go_ret2
  refine ⟨_, rfl, ?_, below_step (below_set HB4.out HGS.out) HD.out.below⟩
  rw [HXX.out]
  unfold getX
  rw [if_neg HNO.out]
  exact rfl
 | true =>
  go_wp2_with (first | (go_at_call 58; refine (ContainsFunc_walk _ _ ks _ (HL.out.below (below_set HB2.out HGS.out)) (Kd.F_now (Kd.F_below HF0.out (below_set HB2.out HGS.out)))).mono ?_; rintro e w3 ⟨rfl, hb3⟩; rw [HK.out]; have hbk3 := blk_below (blk_set HBK.out 0 (.slice (some ⟨gb, ob + 2, none⟩) ks.length (c - 2))) hb3; replace hbk3 : w3.heap[g]? = some (.cells #[.slice (some ⟨gb, ob + 2, none⟩) ks.length (c - 2), .bool false, .bool true, .int .i64 0] 69 (0, 0)) := hbk3; obtain ⟨y0, y1, y2, y3⟩ : w3.cell? ⟨g, 0, none⟩ = some (.slice (some ⟨gb, ob + 2, none⟩) ks.length (c - 2)) ∧ w3.cell? ⟨g, 1, none⟩ = some (.bool false) ∧ w3.cell? ⟨g, 2, none⟩ = some (.bool true) ∧ w3.cell? ⟨g, 3, none⟩ = some (.int .i64 0) := ⟨(blk_cell hbk3 0).trans rfl, (blk_cell hbk3 1).trans rfl, (blk_cell hbk3 2).trans rfl, (blk_cell hbk3 3).trans rfl⟩; have HBK3 := Aside0.mk hbk3; have HB3 := Aside0.mk (below_step (below_set HB2.out HGS.out) hb3); clear hbk3 hb3; have x5 := pw_cell_below HB3.out HX2.out) | (go_at_call 60; refine (words_Signed.calls k x _ _ _ (HL.out.below HB3.out) HSG.out).mono ?_; rintro e w4 ⟨rfl, hb4⟩; have hbk4 := blk_below HBK3.out hb4; obtain ⟨u0, u1, u2, u3⟩ : w4.cell? ⟨g, 0, none⟩ = some (.slice (some ⟨gb, ob + 2, none⟩) ks.length (c - 2)) ∧ w4.cell? ⟨g, 1, none⟩ = some (.bool false) ∧ w4.cell? ⟨g, 2, none⟩ = some (.bool true) ∧ w4.cell? ⟨g, 3, none⟩ = some (.int .i64 0) := ⟨(blk_cell hbk4 0).trans rfl, (blk_cell hbk4 1).trans rfl, (blk_cell hbk4 2).trans rfl, (blk_cell hbk4 3).trans rfl⟩; have uf : ∀ i, w4.frozen? ⟨g, i, none⟩ = false := fun i => blk_frozen hbk4 i; have HB4 := Aside0.mk (below_step HB3.out hb4); clear hbk4 hb4))
  go_ret2
  refine ⟨_, rfl, ?_, below_set HB4.out HGS.out⟩
  rw [HXX.out]
  unfold getX
  rw [if_neg HNO.out]
  exact ⟨_, _, rfl, ⟨HN.out, by have := H64.out; omega⟩, by have := HCC.out; simp at this; omega, Kd.F_below HF0.out (below_set HB4.out HGS.out)⟩
set_option maxHeartbeats 8000000 in
set_option maxRecDepth 100000 in
theorem get_gats_short (A : Option Addr) (c : Nat) (r : List ByteArray) (w : World) (HLD : LaidA w) (hr : Kd.C Kd.string w A (⟨#[103, 97, 116, 115]⟩ :: r).length (⟨#[103, 97, 116, 115]⟩ :: r)) (hcc : (⟨#[103, 97, 116, 115]⟩ :: r).length ≤ c) (hl : r.length < 2) :
  Calls Tryz.prog 48 #[.slice A (⟨#[103, 97, 116, 115]⟩ :: r).length c] w fun e w' => ∃ v, e = .returned (.tuple #[v, .int .i64 (-1)]) ∧ AnyR w' v (.pl (.bad ⟨#[69, 82, 82, 79, 82]⟩)) ∧ Below w.heap.size w w' := by
 have hus := Tryz.underlying22
 have hug := Tryz.underlying69
 have hmax := hr.2.1
 have HL := Aside0.mk HLD
 obtain ⟨gb, ob, hA, hcell⟩ := str_cells hr (by simp)
 have x0 := hcell 0 (by simp)
 have x1 : w.cell? ⟨gb, ob, none⟩ = some (.string ⟨#[103, 97, 116, 115]⟩) := x0
 subst hA
 have hlt : gb < w.heap.size := World.block_lt_of_cell? w _ x1
 have hne : ¬ gb = w.heap.size := by omega
 have HC := Aside0.mk hcell
 have HMX := Aside0.mk hmax
 clear HLD hr hcell x0
 go_enter Tryz.func48, Tryz.ntmps48
 go_wp2
 refine start_ (n := 23) (S := fun w' => w'.cell? ⟨gb, ob, none⟩ = some (.string ⟨#[103, 97, 116, 115]⟩)) (ds := [22]) gb0_ (by kernel_rfl) rfl rfl x1 (fun hHeld => ?_); refine with_tabW get_tab1 get_bits1 (fun HT_ HW_ => ?_)
 generalize hWd : w.drew = wd at hHeld ⊢
 refine pure_ (i := 0) (N := some 7) (v := ?_) (a' := ?_) gb1_ rfl rfl (any_of HT_.out (by kernel_rfl)) (fun _ _ _ h => h) (Or.inl ⟨by rfl, ?_⟩) ?_ ?_
 rotate_left
 ·intro w'
  go_simp
  with_reducible rfl
 rotate_left
 ·simp only [Act.put, List.setIfInBounds_toArray, List.set_cons_zero, List.set_cons_succ, i64_w, i32_w]
  rfl
 refine pure_ (i := 1) (N := some 8) (v := ?_) (a' := ?_) gb2_ rfl rfl (any_of HT_.out (by kernel_rfl)) (fun _ _ _ h => h) (Or.inl ⟨by rfl, ?_⟩) ?_ ?_
 rotate_left
 ·intro w'
  go_simp
  with_reducible rfl
 rotate_left
 ·simp only [Act.put, List.setIfInBounds_toArray, List.set_cons_zero, List.set_cons_succ, i64_w, i32_w]
  rfl
 refine take_ (i := 2) (N := some 9) (v := ?_) (a' := ?_) gb3_ rfl rfl (take_ofW HT_.out HW_.out (by kernel_rfl)) (fun _ _ _ h => h) (Or.inl ⟨by rfl, ?_⟩) hHeld ?_ ?_
 rotate_left
 ·rintro w' s0
  go_simp
  with_reducible rfl
 rotate_left
 ·simp only [Act.put, List.setIfInBounds_toArray, List.set_cons_zero, List.set_cons_succ, i64_w, i32_w]
  rfl
 refine pure_ (i := 3) (N := some 10) (v := ?_) (a' := ?_) gb4_ rfl rfl (any_of HT_.out (by kernel_rfl)) (fun _ _ _ h => h) (Or.inl ⟨by rfl, ?_⟩) ?_ ?_
 rotate_left
 ·intro w'
  go_simp
  with_reducible rfl
 rotate_left
 ·simp only [Act.put, List.setIfInBounds_toArray, List.set_cons_zero, List.set_cons_succ, i64_w, i32_w]
  rfl
 refine pure_ (i := 4) (N := some 11) (v := ?_) (a' := ?_) gb5_ rfl rfl (any_of HT_.out (by kernel_rfl)) (fun _ _ _ h => h) (Or.inl ⟨by rfl, ?_⟩) ?_ ?_
 rotate_left
 ·intro w'
  go_simp
  with_reducible rfl
 rotate_left
 ·simp only [Act.put, List.setIfInBounds_toArray, List.set_cons_zero, List.set_cons_succ, i64_w, i32_w]
  rfl
 refine pure_ (i := 5) (N := some 12) (v := ?_) (a' := ?_) gb6_ rfl rfl (any_of HT_.out (by kernel_rfl)) (fun _ _ _ h => h) (Or.inl ⟨by rfl, ?_⟩) ?_ ?_
 rotate_left
 ·intro w'
  go_simp
  with_reducible rfl
 rotate_left
 ·simp only [Act.put, List.setIfInBounds_toArray, List.set_cons_zero, List.set_cons_succ, i64_w, i32_w]
  rfl
 refine pure_ (i := 6) (N := some 13) (v := ?_) (a' := ?_) gb7_ rfl rfl (any_of HT_.out (by kernel_rfl)) (fun _ _ _ h => h) (Or.inl ⟨by rfl, ?_⟩) ?_ ?_
 rotate_left
 ·intro w'
  go_simp
  with_reducible rfl
 rotate_left
 ·simp only [Act.put, List.setIfInBounds_toArray, List.set_cons_zero, List.set_cons_succ, i64_w, i32_w]
  rfl
 refine take_ (i := 7) (N := some 14) (v := ?_) (a' := ?_) gb8_ rfl rfl (take_ofW HT_.out HW_.out (by kernel_rfl)) (fun _ _ _ h => h) (Or.inl ⟨by rfl, ?_⟩) hHeld ?_ ?_
 rotate_left
 ·rintro w' s0
  go_simp
  with_reducible rfl
 rotate_left
 ·simp only [Act.put, List.setIfInBounds_toArray, List.set_cons_zero, List.set_cons_succ, i64_w, i32_w]
  rfl
 refine pure_ (i := 8) (N := some 15) (v := ?_) (a' := ?_) gb9_ rfl rfl (any_of HT_.out (by kernel_rfl)) (fun _ _ _ h => h) (Or.inl ⟨by rfl, ?_⟩) ?_ ?_
 rotate_left
 ·intro w'
  go_simp
  with_reducible rfl
 rotate_left
 ·simp only [Act.put, List.setIfInBounds_toArray, List.set_cons_zero, List.set_cons_succ, i64_w, i32_w]
  rfl
 refine pure_ (i := 9) (N := some 16) (v := ?_) (a' := ?_) gb10_ rfl rfl (any_of HT_.out (by kernel_rfl)) (fun _ _ _ h => h) (Or.inl ⟨by rfl, ?_⟩) ?_ ?_
 rotate_left
 ·intro w'
  go_simp
  with_reducible rfl
 rotate_left
 ·simp only [Act.put, List.setIfInBounds_toArray, List.set_cons_zero, List.set_cons_succ, i64_w, i32_w]
  rfl
 refine pure_ (i := 10) (N := some 17) (v := ?_) (a' := ?_) gb11_ rfl rfl (any_of HT_.out (by kernel_rfl)) (fun _ _ _ h => h) (Or.inl ⟨by rfl, ?_⟩) ?_ ?_
 rotate_left
 ·intro w'
  go_simp
  with_reducible rfl
 rotate_left
 ·simp only [Act.put, List.setIfInBounds_toArray, List.set_cons_zero, List.set_cons_succ, i64_w, i32_w]
  rfl
 refine pure_ (i := 11) (N := some 18) (v := ?_) (a' := ?_) gb12_ rfl rfl (any_of HT_.out (by kernel_rfl)) (fun _ _ _ h => h) (Or.inl ⟨by rfl, ?_⟩) ?_ ?_
 rotate_left
 ·intro w'
  go_simp
  with_reducible rfl
 rotate_left
 ·simp only [Act.put, List.setIfInBounds_toArray, List.set_cons_zero, List.set_cons_succ, i64_w, i32_w]
  rfl
 refine take_ (i := 12) (N := some 19) (v := ?_) (a' := ?_) gb13_ rfl rfl (take_ofW HT_.out HW_.out (by kernel_rfl)) (fun _ _ _ h => h) (Or.inl ⟨by rfl, ?_⟩) hHeld ?_ ?_
 rotate_left
 ·rintro w' s0
  go_simp
  with_reducible rfl
 rotate_left
 ·simp only [Act.put, List.setIfInBounds_toArray, List.set_cons_zero, List.set_cons_succ, i64_w, i32_w]
  rfl
 refine pure_ (i := 13) (N := some 20) (v := ?_) (a' := ?_) gb14_ rfl rfl (any_of HT_.out (by kernel_rfl)) (fun _ _ _ h => h) (Or.inl ⟨by rfl, ?_⟩) ?_ ?_
 rotate_left
 ·intro w'
  go_simp
  with_reducible rfl
 rotate_left
 ·simp only [Act.put, List.setIfInBounds_toArray, List.set_cons_zero, List.set_cons_succ, i64_w, i32_w]
  rfl
 refine pure_ (i := 14) (N := some 21) (v := ?_) (a' := ?_) gb15_ rfl rfl (any_of HT_.out (by kernel_rfl)) (fun _ _ _ h => h) (Or.inl ⟨by rfl, ?_⟩) ?_ ?_
 rotate_left
 ·intro w'
  go_simp
  with_reducible rfl
 rotate_left
 ·simp only [Act.put, List.setIfInBounds_toArray, List.set_cons_zero, List.set_cons_succ, i64_w, i32_w]
  rfl
 refine pure_ (i := 15) (N := some 22) (v := ?_) (a' := ?_) gb16_ rfl rfl (any_of HT_.out (by kernel_rfl)) (fun _ _ _ h => h) (Or.inl ⟨by rfl, ?_⟩) ?_ ?_
 rotate_left
 ·intro w'
  go_simp
  with_reducible rfl
 rotate_left
 ·simp only [Act.put, List.setIfInBounds_toArray, List.set_cons_zero, List.set_cons_succ, i64_w, i32_w]
  rfl
 refine pure_ (i := 16) (N := some 23) (v := ?_) (a' := ?_) gb17_ rfl rfl (any_of HT_.out (by kernel_rfl)) (fun _ _ _ h => h) (Or.inl ⟨by rfl, ?_⟩) ?_ ?_
 rotate_left
 ·intro w'
  go_simp
  with_reducible rfl
 rotate_left
 ·simp only [Act.put, List.setIfInBounds_toArray, List.set_cons_zero, List.set_cons_succ, i64_w, i32_w]
  rfl
 refine take_ (i := 17) (N := some 24) (v := ?_) (a' := ?_) gb18_ rfl rfl (take_ofW HT_.out HW_.out (by kernel_rfl)) (fun _ _ _ h => h) (Or.inl ⟨by rfl, ?_⟩) hHeld ?_ ?_
 rotate_left
 ·rintro w' s0
  go_simp
  with_reducible rfl
 rotate_left
 ·simp only [Act.put, List.setIfInBounds_toArray, List.set_cons_zero, List.set_cons_succ, i64_w, i32_w]
  rfl
 refine pure_ (i := 18) (N := some 25) (v := ?_) (a' := ?_) gb19_ rfl rfl (any_of HT_.out (by kernel_rfl)) (fun _ _ _ h => h) (Or.inl ⟨by rfl, ?_⟩) ?_ ?_
 rotate_left
 ·intro w'
  go_simp
  with_reducible rfl
 rotate_left
 ·simp only [Act.put, List.setIfInBounds_toArray, List.set_cons_zero, List.set_cons_succ, i64_w, i32_w]
  rfl
 refine pure_ (i := 19) (N := some 26) (v := ?_) (a' := ?_) gb20_ rfl rfl (any_of HT_.out (by kernel_rfl)) (fun _ _ _ h => h) (Or.inl ⟨by rfl, ?_⟩) ?_ ?_
 rotate_left
 ·intro w'
  go_simp
  with_reducible rfl
 rotate_left
 ·simp only [Act.put, List.setIfInBounds_toArray, List.set_cons_zero, List.set_cons_succ, i64_w, i32_w]
  rfl
 refine pure_ (i := 20) (N := some 27) (v := ?_) (a' := ?_) gb21_ rfl rfl (any_of HT_.out (by kernel_rfl)) (fun _ _ _ h => h) (Or.inl ⟨by rfl, ?_⟩) ?_ ?_
 rotate_left
 ·intro w'
  go_simp
  with_reducible rfl
 rotate_left
 ·simp only [Act.put, List.setIfInBounds_toArray, List.set_cons_zero, List.set_cons_succ, i64_w, i32_w]
  rfl
 refine one_ (i := 21) (N := some 4) gb22_ rfl rfl (one_of HT_.out (by kernel_rfl)) (by decide) (fun K hK => ?_)
 refine box_step ?hg (N := 4) ?hd (cs := #[.slice none 0 0, .bool false, .bool false, .int .i64 0]) (t := 69) ?hr ?_; (case hd => rfl); (case hg => rfl); (case hr => first | (go_simp; done) | (go_simp; rfl))
 intro g hg w1 hbox hb
 have hb1 : Below w.heap.size w w1 := by
  rw [← hWd] at hb
  exact below_undrew hb
 have hgs : w.heap.size ≤ g := by rw [hg, ← hWd]; exact Nat.le_refl _
 have hgb : gb ≠ g := by omega
 have x2 := pw_cell_below hb1 x1
 clear hg hb
 refine hK.out _ _ x2 (fun hHeld2 => ?_)
 refine last_ (i := 22) (N := none) gb23_ rfl rfl (one_of HT_.out (by kernel_rfl)) (by decide) (fun K2 hK2 => ?_)
 obtain ⟨z0, z1, z2, z3⟩ : w1.cell? ⟨g, 0, none⟩ = some (.slice none 0 0) ∧ w1.cell? ⟨g, 1, none⟩ = some (.bool false) ∧ w1.cell? ⟨g, 2, none⟩ = some (.bool false) ∧ w1.cell? ⟨g, 3, none⟩ = some (.int .i64 0) := ⟨(blk_cell hbox 0).trans rfl, (blk_cell hbox 1).trans rfl, (blk_cell hbox 2).trans rfl, (blk_cell hbox 3).trans rfl⟩
 have zf : ∀ i, w1.frozen? ⟨g, i, none⟩ = false := fun i => blk_frozen hbox i
 refine skip_ (w1 := (((w1.setCell ⟨g, 0, none⟩ (.slice none 0 0)).setCell ⟨g, 1, none⟩ (.bool true)).setCell ⟨g, 2, none⟩ (.bool true)).setCell ⟨g, 3, none⟩ (.int .i64 0)) (by rfl) rfl ?hrun ?_
 case hrun => go_simp
 refine hK2.out _ _ (done_ (done_of HT_.out (by kernel_rfl)) ?_)
 have hbk := blk_set (blk_set (blk_set (blk_set hbox 0 (.slice none 0 0)) 1 (.bool true)) 2 (.bool true)) 3 (.int .i64 0)
 have hb2 := below_set (below_set (below_set (below_set hb1 hgs (j := 0) (v := .slice none 0 0)) hgs (j := 1) (v := .bool true)) hgs (j := 2) (v := .bool true)) hgs (j := 3) (v := .int .i64 0)
 clear hb1 hbox hK hK2 hHeld hHeld2 z0 z1 z2 z3 zf x2
 generalize World.setCell _ ⟨g, 3, none⟩ _ = W2 at hbk hb2 ⊢
 replace hbk : W2.heap[g]? = some (.cells #[.slice none 0 0, .bool true, .bool true, .int .i64 0] 69 (0, 0)) := hbk
 have HBK := Aside0.mk hbk
 have HB2 := Aside0.mk hb2
 obtain ⟨z0, z1, z2, z3⟩ : W2.cell? ⟨g, 0, none⟩ = some (.slice none 0 0) ∧ W2.cell? ⟨g, 1, none⟩ = some (.bool true) ∧ W2.cell? ⟨g, 2, none⟩ = some (.bool true) ∧ W2.cell? ⟨g, 3, none⟩ = some (.int .i64 0) := ⟨(blk_cell hbk 0).trans rfl, (blk_cell hbk 1).trans rfl, (blk_cell hbk 2).trans rfl, (blk_cell hbk 3).trans rfl⟩
 have zf : ∀ i, W2.frozen? ⟨g, i, none⟩ = false := fun i => blk_frozen hbk i
 have HGB := Aside0.mk hgb
 have HGS := Aside0.mk hgs
 have HX1 := Aside0.mk x1
 clear hbk hb2 hgb hgs x1 hWd
 have d1 : decide (((r.length + 1 : Nat) : Int) ≤ 2) = true := decide_eq_true (by omega)
 have d2 : decide (r.length + 1 ≤ 2) = true := decide_eq_true (by omega)
 have d3 : decide ((r.length : Int) + 1 ≤ 2) = true := decide_eq_true (by omega)
 clear hl
 go_wp2_with (go_at_call 47; refine (parse_bad.calls _ _ _ _ rfl).mono ?_; rintro e w3 ⟨rfl, hd⟩; have HD := Aside0.mk hd; clear hd)
 go_ret2
 exact ⟨_, rfl, rfl, below_step (by repeat (first | exact HB2.out | apply below_drew1 | apply below_alloc | apply pw_below_drewN)) HD.out.below⟩
set_option maxHeartbeats 8000000 in
set_option maxRecDepth 100000 in
theorem get_gats_full (A : Option Addr) (c : Nat) (ks : List ByteArray) (x : ByteArray) (w : World) (HLD : LaidA w) (hr : Kd.C Kd.string w A (⟨#[103, 97, 116, 115]⟩ :: x :: ks).length (⟨#[103, 97, 116, 115]⟩ :: x :: ks)) (hcc : (⟨#[103, 97, 116, 115]⟩ :: x :: ks).length ≤ c) (hn : 0 < ks.length) (k : Nat) (sg : Int × Bool) (hsg : words_Signed.f k x = some sg) :
  Calls Tryz.prog 48 #[.slice A (⟨#[103, 97, 116, 115]⟩ :: x :: ks).length c] w fun e w' => ∃ v, e = .returned (.tuple #[v, .int .i64 (-1)]) ∧ AnyR w' v (getX ks true true sg) ∧ Below w.heap.size w w' := by
 have hus := Tryz.underlying22
 have hug := Tryz.underlying69
 have hmax := hr.2.1
 have HL := Aside0.mk HLD
 obtain ⟨gb, ob, hA, hcell⟩ := str_cells hr (by simp)
 have x0 := hcell 0 (by simp)
 have x1 : w.cell? ⟨gb, ob, none⟩ = some (.string ⟨#[103, 97, 116, 115]⟩) := x0
 subst hA
 have hlt : gb < w.heap.size := World.block_lt_of_cell? w _ x1
 have hne : ¬ gb = w.heap.size := by omega
 have HC := Aside0.mk hcell
 have HMX := Aside0.mk hmax
 clear HLD hr hcell x0
 obtain ⟨sv, sk⟩ := sg
 obtain ⟨X, hX⟩ : ∃ X, X = getX ks true true (sv, sk) := ⟨_, rfl⟩
 rw [← hX]
 have HXX := Aside0.mk hX
 clear hX
 have hF0 : Kd.F Kd.string w (fun _ => True) (some ⟨gb, ob + 2, none⟩) ks.length ks := Kd.F_mono (Kd.C_F Kd.heap_string (str_drop (xs := ⟨#[103, 97, 116, 115]⟩ :: x :: ks) HMX.out HC.out 2 ks.length rfl)) (fun _ _ => trivial)
 have HF0 := Aside0.mk hF0
 have HN := Aside0.mk hn
 have HCC := Aside0.mk hcc
 have e3 : (ks.length + 2 ≤ c) = True := eq_true (by simp at hcc; omega)
 have e4 : ¬ c = 2 := by simp at hcc; omega
 have e5 : ¬ c = 0 := by simp at hcc; omega
 have d1 : decide (((ks.length + 2 : Nat) : Int) ≤ 2) = false := decide_eq_false (by omega)
 have d2 : decide (ks.length + 2 ≤ 2) = false := decide_eq_false (by omega)
 have d3 : decide ((ks.length : Int) + 2 ≤ 2) = false := decide_eq_false (by omega)
 have d5 : decide ((ks.length : Int) + 1 + 1 ≤ 2) = false := decide_eq_false (by omega)
 have e1 : (2 ≤ ks.length + 2) = True := eq_true (by omega)
 have e6 : ((2 : Int) ≤ (ks.length : Int) + 2) = True := eq_true (by omega)
 clear hF0 hn hcc
 have e7 : ((0 : Int) < (ks.length : Int) + 1 + 1) = True := eq_true (by omega)
 have e8 : ((1 : Int) < (ks.length : Int) + 1 + 1) = True := eq_true (by omega)
 have e9 : ((2 : Int) ≤ (ks.length : Int) + 1 + 1) = True := eq_true (by omega)
 have e10 : (ks.length + 1 + 1 ≤ c) = True := eq_true (by have := of_eq_true e3; omega)
 have x1b : w.cell? ⟨gb, ob + 1, none⟩ = some (.string x) := HC.out 1 (by simp)
 have HX2 := Aside0.mk x1b
 clear x1b
 have HSG := Aside0.mk hsg
 clear hsg
 go_enter Tryz.func48, Tryz.ntmps48
 go_wp2
 refine start_ (n := 23) (S := fun w' => w'.cell? ⟨gb, ob, none⟩ = some (.string ⟨#[103, 97, 116, 115]⟩)) (ds := [22]) gb0_ (by kernel_rfl) rfl rfl x1 (fun hHeld => ?_); refine with_tabW get_tab1 get_bits1 (fun HT_ HW_ => ?_)
 generalize hWd : w.drew = wd at hHeld ⊢
 refine pure_ (i := 0) (N := some 7) (v := ?_) (a' := ?_) gb1_ rfl rfl (any_of HT_.out (by kernel_rfl)) (fun _ _ _ h => h) (Or.inl ⟨by rfl, ?_⟩) ?_ ?_
 rotate_left
 ·intro w'
  go_simp
  with_reducible rfl
 rotate_left
 ·simp only [Act.put, List.setIfInBounds_toArray, List.set_cons_zero, List.set_cons_succ, i64_w, i32_w]
  rfl
 refine pure_ (i := 1) (N := some 8) (v := ?_) (a' := ?_) gb2_ rfl rfl (any_of HT_.out (by kernel_rfl)) (fun _ _ _ h => h) (Or.inl ⟨by rfl, ?_⟩) ?_ ?_
 rotate_left
 ·intro w'
  go_simp
  with_reducible rfl
 rotate_left
 ·simp only [Act.put, List.setIfInBounds_toArray, List.set_cons_zero, List.set_cons_succ, i64_w, i32_w]
  rfl
 refine take_ (i := 2) (N := some 9) (v := ?_) (a' := ?_) gb3_ rfl rfl (take_ofW HT_.out HW_.out (by kernel_rfl)) (fun _ _ _ h => h) (Or.inl ⟨by rfl, ?_⟩) hHeld ?_ ?_
 rotate_left
 ·rintro w' s0
  go_simp
  with_reducible rfl
 rotate_left
 ·simp only [Act.put, List.setIfInBounds_toArray, List.set_cons_zero, List.set_cons_succ, i64_w, i32_w]
  rfl
 refine pure_ (i := 3) (N := some 10) (v := ?_) (a' := ?_) gb4_ rfl rfl (any_of HT_.out (by kernel_rfl)) (fun _ _ _ h => h) (Or.inl ⟨by rfl, ?_⟩) ?_ ?_
 rotate_left
 ·intro w'
  go_simp
  with_reducible rfl
 rotate_left
 ·simp only [Act.put, List.setIfInBounds_toArray, List.set_cons_zero, List.set_cons_succ, i64_w, i32_w]
  rfl
 refine pure_ (i := 4) (N := some 11) (v := ?_) (a' := ?_) gb5_ rfl rfl (any_of HT_.out (by kernel_rfl)) (fun _ _ _ h => h) (Or.inl ⟨by rfl, ?_⟩) ?_ ?_
 rotate_left
 ·intro w'
  go_simp
  with_reducible rfl
 rotate_left
 ·simp only [Act.put, List.setIfInBounds_toArray, List.set_cons_zero, List.set_cons_succ, i64_w, i32_w]
  rfl
 refine pure_ (i := 5) (N := some 12) (v := ?_) (a' := ?_) gb6_ rfl rfl (any_of HT_.out (by kernel_rfl)) (fun _ _ _ h => h) (Or.inl ⟨by rfl, ?_⟩) ?_ ?_
 rotate_left
 ·intro w'
  go_simp
  with_reducible rfl
 rotate_left
 ·simp only [Act.put, List.setIfInBounds_toArray, List.set_cons_zero, List.set_cons_succ, i64_w, i32_w]
  rfl
 refine pure_ (i := 6) (N := some 13) (v := ?_) (a' := ?_) gb7_ rfl rfl (any_of HT_.out (by kernel_rfl)) (fun _ _ _ h => h) (Or.inl ⟨by rfl, ?_⟩) ?_ ?_
 rotate_left
 ·intro w'
  go_simp
  with_reducible rfl
 rotate_left
 ·simp only [Act.put, List.setIfInBounds_toArray, List.set_cons_zero, List.set_cons_succ, i64_w, i32_w]
  rfl
 refine take_ (i := 7) (N := some 14) (v := ?_) (a' := ?_) gb8_ rfl rfl (take_ofW HT_.out HW_.out (by kernel_rfl)) (fun _ _ _ h => h) (Or.inl ⟨by rfl, ?_⟩) hHeld ?_ ?_
 rotate_left
 ·rintro w' s0
  go_simp
  with_reducible rfl
 rotate_left
 ·simp only [Act.put, List.setIfInBounds_toArray, List.set_cons_zero, List.set_cons_succ, i64_w, i32_w]
  rfl
 refine pure_ (i := 8) (N := some 15) (v := ?_) (a' := ?_) gb9_ rfl rfl (any_of HT_.out (by kernel_rfl)) (fun _ _ _ h => h) (Or.inl ⟨by rfl, ?_⟩) ?_ ?_
 rotate_left
 ·intro w'
  go_simp
  with_reducible rfl
 rotate_left
 ·simp only [Act.put, List.setIfInBounds_toArray, List.set_cons_zero, List.set_cons_succ, i64_w, i32_w]
  rfl
 refine pure_ (i := 9) (N := some 16) (v := ?_) (a' := ?_) gb10_ rfl rfl (any_of HT_.out (by kernel_rfl)) (fun _ _ _ h => h) (Or.inl ⟨by rfl, ?_⟩) ?_ ?_
 rotate_left
 ·intro w'
  go_simp
  with_reducible rfl
 rotate_left
 ·simp only [Act.put, List.setIfInBounds_toArray, List.set_cons_zero, List.set_cons_succ, i64_w, i32_w]
  rfl
 refine pure_ (i := 10) (N := some 17) (v := ?_) (a' := ?_) gb11_ rfl rfl (any_of HT_.out (by kernel_rfl)) (fun _ _ _ h => h) (Or.inl ⟨by rfl, ?_⟩) ?_ ?_
 rotate_left
 ·intro w'
  go_simp
  with_reducible rfl
 rotate_left
 ·simp only [Act.put, List.setIfInBounds_toArray, List.set_cons_zero, List.set_cons_succ, i64_w, i32_w]
  rfl
 refine pure_ (i := 11) (N := some 18) (v := ?_) (a' := ?_) gb12_ rfl rfl (any_of HT_.out (by kernel_rfl)) (fun _ _ _ h => h) (Or.inl ⟨by rfl, ?_⟩) ?_ ?_
 rotate_left
 ·intro w'
  go_simp
  with_reducible rfl
 rotate_left
 ·simp only [Act.put, List.setIfInBounds_toArray, List.set_cons_zero, List.set_cons_succ, i64_w, i32_w]
  rfl
 refine take_ (i := 12) (N := some 19) (v := ?_) (a' := ?_) gb13_ rfl rfl (take_ofW HT_.out HW_.out (by kernel_rfl)) (fun _ _ _ h => h) (Or.inl ⟨by rfl, ?_⟩) hHeld ?_ ?_
 rotate_left
 ·rintro w' s0
  go_simp
  with_reducible rfl
 rotate_left
 ·simp only [Act.put, List.setIfInBounds_toArray, List.set_cons_zero, List.set_cons_succ, i64_w, i32_w]
  rfl
 refine pure_ (i := 13) (N := some 20) (v := ?_) (a' := ?_) gb14_ rfl rfl (any_of HT_.out (by kernel_rfl)) (fun _ _ _ h => h) (Or.inl ⟨by rfl, ?_⟩) ?_ ?_
 rotate_left
 ·intro w'
  go_simp
  with_reducible rfl
 rotate_left
 ·simp only [Act.put, List.setIfInBounds_toArray, List.set_cons_zero, List.set_cons_succ, i64_w, i32_w]
  rfl
 refine pure_ (i := 14) (N := some 21) (v := ?_) (a' := ?_) gb15_ rfl rfl (any_of HT_.out (by kernel_rfl)) (fun _ _ _ h => h) (Or.inl ⟨by rfl, ?_⟩) ?_ ?_
 rotate_left
 ·intro w'
  go_simp
  with_reducible rfl
 rotate_left
 ·simp only [Act.put, List.setIfInBounds_toArray, List.set_cons_zero, List.set_cons_succ, i64_w, i32_w]
  rfl
 refine pure_ (i := 15) (N := some 22) (v := ?_) (a' := ?_) gb16_ rfl rfl (any_of HT_.out (by kernel_rfl)) (fun _ _ _ h => h) (Or.inl ⟨by rfl, ?_⟩) ?_ ?_
 rotate_left
 ·intro w'
  go_simp
  with_reducible rfl
 rotate_left
 ·simp only [Act.put, List.setIfInBounds_toArray, List.set_cons_zero, List.set_cons_succ, i64_w, i32_w]
  rfl
 refine pure_ (i := 16) (N := some 23) (v := ?_) (a' := ?_) gb17_ rfl rfl (any_of HT_.out (by kernel_rfl)) (fun _ _ _ h => h) (Or.inl ⟨by rfl, ?_⟩) ?_ ?_
 rotate_left
 ·intro w'
  go_simp
  with_reducible rfl
 rotate_left
 ·simp only [Act.put, List.setIfInBounds_toArray, List.set_cons_zero, List.set_cons_succ, i64_w, i32_w]
  rfl
 refine take_ (i := 17) (N := some 24) (v := ?_) (a' := ?_) gb18_ rfl rfl (take_ofW HT_.out HW_.out (by kernel_rfl)) (fun _ _ _ h => h) (Or.inl ⟨by rfl, ?_⟩) hHeld ?_ ?_
 rotate_left
 ·rintro w' s0
  go_simp
  with_reducible rfl
 rotate_left
 ·simp only [Act.put, List.setIfInBounds_toArray, List.set_cons_zero, List.set_cons_succ, i64_w, i32_w]
  rfl
 refine pure_ (i := 18) (N := some 25) (v := ?_) (a' := ?_) gb19_ rfl rfl (any_of HT_.out (by kernel_rfl)) (fun _ _ _ h => h) (Or.inl ⟨by rfl, ?_⟩) ?_ ?_
 rotate_left
 ·intro w'
  go_simp
  with_reducible rfl
 rotate_left
 ·simp only [Act.put, List.setIfInBounds_toArray, List.set_cons_zero, List.set_cons_succ, i64_w, i32_w]
  rfl
 refine pure_ (i := 19) (N := some 26) (v := ?_) (a' := ?_) gb20_ rfl rfl (any_of HT_.out (by kernel_rfl)) (fun _ _ _ h => h) (Or.inl ⟨by rfl, ?_⟩) ?_ ?_
 rotate_left
 ·intro w'
  go_simp
  with_reducible rfl
 rotate_left
 ·simp only [Act.put, List.setIfInBounds_toArray, List.set_cons_zero, List.set_cons_succ, i64_w, i32_w]
  rfl
 refine pure_ (i := 20) (N := some 27) (v := ?_) (a' := ?_) gb21_ rfl rfl (any_of HT_.out (by kernel_rfl)) (fun _ _ _ h => h) (Or.inl ⟨by rfl, ?_⟩) ?_ ?_
 rotate_left
 ·intro w'
  go_simp
  with_reducible rfl
 rotate_left
 ·simp only [Act.put, List.setIfInBounds_toArray, List.set_cons_zero, List.set_cons_succ, i64_w, i32_w]
  rfl
 refine one_ (i := 21) (N := some 4) gb22_ rfl rfl (one_of HT_.out (by kernel_rfl)) (by decide) (fun K hK => ?_)
 refine box_step ?hg (N := 4) ?hd (cs := #[.slice none 0 0, .bool false, .bool false, .int .i64 0]) (t := 69) ?hr ?_; (case hd => rfl); (case hg => rfl); (case hr => first | (go_simp; done) | (go_simp; rfl))
 intro g hg w1 hbox hb
 have hb1 : Below w.heap.size w w1 := by
  rw [← hWd] at hb
  exact below_undrew hb
 have hgs : w.heap.size ≤ g := by rw [hg, ← hWd]; exact Nat.le_refl _
 have hgb : gb ≠ g := by omega
 have x2 := pw_cell_below hb1 x1
 clear hg hb
 refine hK.out _ _ x2 (fun hHeld2 => ?_)
 refine last_ (i := 22) (N := none) gb23_ rfl rfl (one_of HT_.out (by kernel_rfl)) (by decide) (fun K2 hK2 => ?_)
 obtain ⟨z0, z1, z2, z3⟩ : w1.cell? ⟨g, 0, none⟩ = some (.slice none 0 0) ∧ w1.cell? ⟨g, 1, none⟩ = some (.bool false) ∧ w1.cell? ⟨g, 2, none⟩ = some (.bool false) ∧ w1.cell? ⟨g, 3, none⟩ = some (.int .i64 0) := ⟨(blk_cell hbox 0).trans rfl, (blk_cell hbox 1).trans rfl, (blk_cell hbox 2).trans rfl, (blk_cell hbox 3).trans rfl⟩
 have zf : ∀ i, w1.frozen? ⟨g, i, none⟩ = false := fun i => blk_frozen hbox i
 refine skip_ (w1 := (((w1.setCell ⟨g, 0, none⟩ (.slice none 0 0)).setCell ⟨g, 1, none⟩ (.bool true)).setCell ⟨g, 2, none⟩ (.bool true)).setCell ⟨g, 3, none⟩ (.int .i64 0)) (by rfl) rfl ?hrun ?_
 case hrun => go_simp
 refine hK2.out _ _ (done_ (done_of HT_.out (by kernel_rfl)) ?_)
 have hbk := blk_set (blk_set (blk_set (blk_set hbox 0 (.slice none 0 0)) 1 (.bool true)) 2 (.bool true)) 3 (.int .i64 0)
 have hb2 := below_set (below_set (below_set (below_set hb1 hgs (j := 0) (v := .slice none 0 0)) hgs (j := 1) (v := .bool true)) hgs (j := 2) (v := .bool true)) hgs (j := 3) (v := .int .i64 0)
 clear hb1 hbox hK hK2 hHeld hHeld2 z0 z1 z2 z3 zf x2
 generalize World.setCell _ ⟨g, 3, none⟩ _ = W2 at hbk hb2 ⊢
 replace hbk : W2.heap[g]? = some (.cells #[.slice none 0 0, .bool true, .bool true, .int .i64 0] 69 (0, 0)) := hbk
 have HBK := Aside0.mk hbk
 have HB2 := Aside0.mk hb2
 obtain ⟨z0, z1, z2, z3⟩ : W2.cell? ⟨g, 0, none⟩ = some (.slice none 0 0) ∧ W2.cell? ⟨g, 1, none⟩ = some (.bool true) ∧ W2.cell? ⟨g, 2, none⟩ = some (.bool true) ∧ W2.cell? ⟨g, 3, none⟩ = some (.int .i64 0) := ⟨(blk_cell hbk 0).trans rfl, (blk_cell hbk 1).trans rfl, (blk_cell hbk 2).trans rfl, (blk_cell hbk 3).trans rfl⟩
 have zf : ∀ i, W2.frozen? ⟨g, i, none⟩ = false := fun i => blk_frozen hbk i
 have HGB := Aside0.mk hgb
 have HGS := Aside0.mk hgs
 have HX1 := Aside0.mk x1
 clear hbk hb2 hgb hgs x1 hWd
 by_cases hk : ks.any (fun k => !keyF k) = true
 ·have HK := Aside0.mk hk
  clear hk
  go_wp2_with (first | (go_at_call 58; refine (ContainsFunc_walk _ _ ks _ (HL.out.below (below_set HB2.out HGS.out)) (Kd.F_now (Kd.F_below HF0.out (below_set HB2.out HGS.out)))).mono ?_; rintro e w3 ⟨rfl, hb3⟩; rw [HK.out]; have hbk3 := blk_below (blk_set HBK.out 0 (.slice (some ⟨gb, ob + 2, none⟩) ks.length (c - 2))) hb3; replace hbk3 : w3.heap[g]? = some (.cells #[.slice (some ⟨gb, ob + 2, none⟩) ks.length (c - 2), .bool true, .bool true, .int .i64 0] 69 (0, 0)) := hbk3; obtain ⟨y0, y1, y2, y3⟩ : w3.cell? ⟨g, 0, none⟩ = some (.slice (some ⟨gb, ob + 2, none⟩) ks.length (c - 2)) ∧ w3.cell? ⟨g, 1, none⟩ = some (.bool true) ∧ w3.cell? ⟨g, 2, none⟩ = some (.bool true) ∧ w3.cell? ⟨g, 3, none⟩ = some (.int .i64 0) := ⟨(blk_cell hbk3 0).trans rfl, (blk_cell hbk3 1).trans rfl, (blk_cell hbk3 2).trans rfl, (blk_cell hbk3 3).trans rfl⟩; have HBK3 := Aside0.mk hbk3; have HB3 := Aside0.mk (below_step (below_set HB2.out HGS.out) hb3); clear hbk3 hb3) | (go_at_call 47; refine (parse_bad.calls _ _ _ _ rfl).mono ?_; rintro e w4 ⟨rfl, hd⟩; have HD := Aside0.mk hd; clear hd))
  go_ret2
  refine ⟨_, rfl, ?_, below_step HB3.out HD.out.below⟩
  rw [HXX.out]
  unfold getX
  rw [if_pos (Or.inl HK.out)]
  exact rfl
 have HK := Aside0.mk (by simpa using hk : ks.any (fun k => !keyF k) = false)
 by_cases h64 : 64 < ks.length
 ·have H64 := Aside0.mk h64
  have f1 : decide ((64 : Int) < (ks.length : Int)) = true := decide_eq_true (by omega)
  have f2 : decide (64 < ks.length) = true := decide_eq_true (by omega)
  clear hk h64
  go_wp2_with (first | (go_at_call 58; refine (ContainsFunc_walk _ _ ks _ (HL.out.below (below_set HB2.out HGS.out)) (Kd.F_now (Kd.F_below HF0.out (below_set HB2.out HGS.out)))).mono ?_; rintro e w3 ⟨rfl, hb3⟩; rw [HK.out]; have hbk3 := blk_below (blk_set HBK.out 0 (.slice (some ⟨gb, ob + 2, none⟩) ks.length (c - 2))) hb3; replace hbk3 : w3.heap[g]? = some (.cells #[.slice (some ⟨gb, ob + 2, none⟩) ks.length (c - 2), .bool true, .bool true, .int .i64 0] 69 (0, 0)) := hbk3; obtain ⟨y0, y1, y2, y3⟩ : w3.cell? ⟨g, 0, none⟩ = some (.slice (some ⟨gb, ob + 2, none⟩) ks.length (c - 2)) ∧ w3.cell? ⟨g, 1, none⟩ = some (.bool true) ∧ w3.cell? ⟨g, 2, none⟩ = some (.bool true) ∧ w3.cell? ⟨g, 3, none⟩ = some (.int .i64 0) := ⟨(blk_cell hbk3 0).trans rfl, (blk_cell hbk3 1).trans rfl, (blk_cell hbk3 2).trans rfl, (blk_cell hbk3 3).trans rfl⟩; have HBK3 := Aside0.mk hbk3; have HB3 := Aside0.mk (below_step (below_set HB2.out HGS.out) hb3); clear hbk3 hb3) | (go_at_call 47; refine (parse_bad.calls _ _ _ _ rfl).mono ?_; rintro e w4 ⟨rfl, hd⟩; have HD := Aside0.mk hd; clear hd))
  go_ret2
  refine ⟨_, rfl, ?_, below_step HB3.out HD.out.below⟩
  rw [HXX.out]
  unfold getX
  rw [if_pos (Or.inr H64.out)]
  exact rfl
 have HNO := Aside0.mk (show ¬ (ks.any (fun k => !keyF k) = true ∨ 64 < ks.length) from by rintro (h | h); exact hk h; exact h64 h)
 have H64 := Aside0.mk h64
 have f1 : decide ((64 : Int) < (ks.length : Int)) = false := decide_eq_false (by omega)
 have f2 : decide (64 < ks.length) = false := decide_eq_false (by omega)
 clear hk h64
 cases sk with
 | false =>
  go_wp2_with (first | (go_at_call 58; refine (ContainsFunc_walk _ _ ks _ (HL.out.below (below_set HB2.out HGS.out)) (Kd.F_now (Kd.F_below HF0.out (below_set HB2.out HGS.out)))).mono ?_; rintro e w3 ⟨rfl, hb3⟩; rw [HK.out]; have hbk3 := blk_below (blk_set HBK.out 0 (.slice (some ⟨gb, ob + 2, none⟩) ks.length (c - 2))) hb3; replace hbk3 : w3.heap[g]? = some (.cells #[.slice (some ⟨gb, ob + 2, none⟩) ks.length (c - 2), .bool true, .bool true, .int .i64 0] 69 (0, 0)) := hbk3; obtain ⟨y0, y1, y2, y3⟩ : w3.cell? ⟨g, 0, none⟩ = some (.slice (some ⟨gb, ob + 2, none⟩) ks.length (c - 2)) ∧ w3.cell? ⟨g, 1, none⟩ = some (.bool true) ∧ w3.cell? ⟨g, 2, none⟩ = some (.bool true) ∧ w3.cell? ⟨g, 3, none⟩ = some (.int .i64 0) := ⟨(blk_cell hbk3 0).trans rfl, (blk_cell hbk3 1).trans rfl, (blk_cell hbk3 2).trans rfl, (blk_cell hbk3 3).trans rfl⟩; have HBK3 := Aside0.mk hbk3; have HB3 := Aside0.mk (below_step (below_set HB2.out HGS.out) hb3); clear hbk3 hb3; have x5 := pw_cell_below HB3.out HX2.out) | (go_at_call 60; refine (words_Signed.calls k x _ _ _ (HL.out.below HB3.out) HSG.out).mono ?_; rintro e w4 ⟨rfl, hb4⟩; have hbk4 := blk_below HBK3.out hb4; obtain ⟨u0, u1, u2, u3⟩ : w4.cell? ⟨g, 0, none⟩ = some (.slice (some ⟨gb, ob + 2, none⟩) ks.length (c - 2)) ∧ w4.cell? ⟨g, 1, none⟩ = some (.bool true) ∧ w4.cell? ⟨g, 2, none⟩ = some (.bool true) ∧ w4.cell? ⟨g, 3, none⟩ = some (.int .i64 0) := ⟨(blk_cell hbk4 0).trans rfl, (blk_cell hbk4 1).trans rfl, (blk_cell hbk4 2).trans rfl, (blk_cell hbk4 3).trans rfl⟩; have uf : ∀ i, w4.frozen? ⟨g, i, none⟩ = false := fun i => blk_frozen hbk4 i; have HB4 := Aside0.mk (below_step HB3.out hb4); clear hbk4 hb4) | (go_at_call 47; refine (parse_bad.calls _ _ _ _ rfl).mono ?_; rintro e w5 ⟨rfl, hd⟩; have HD := Aside0.mk hd; clear hd))
  go_ret2
  refine ⟨_, rfl, ?_, below_step (below_set HB4.out HGS.out) HD.out.below⟩
  rw [HXX.out]
  unfold getX
  rw [if_neg HNO.out]
  exact rfl
 | true =>
  go_wp2_with (first | (go_at_call 58; refine (ContainsFunc_walk _ _ ks _ (HL.out.below (below_set HB2.out HGS.out)) (Kd.F_now (Kd.F_below HF0.out (below_set HB2.out HGS.out)))).mono ?_; rintro e w3 ⟨rfl, hb3⟩; rw [HK.out]; have hbk3 := blk_below (blk_set HBK.out 0 (.slice (some ⟨gb, ob + 2, none⟩) ks.length (c - 2))) hb3; replace hbk3 : w3.heap[g]? = some (.cells #[.slice (some ⟨gb, ob + 2, none⟩) ks.length (c - 2), .bool true, .bool true, .int .i64 0] 69 (0, 0)) := hbk3; obtain ⟨y0, y1, y2, y3⟩ : w3.cell? ⟨g, 0, none⟩ = some (.slice (some ⟨gb, ob + 2, none⟩) ks.length (c - 2)) ∧ w3.cell? ⟨g, 1, none⟩ = some (.bool true) ∧ w3.cell? ⟨g, 2, none⟩ = some (.bool true) ∧ w3.cell? ⟨g, 3, none⟩ = some (.int .i64 0) := ⟨(blk_cell hbk3 0).trans rfl, (blk_cell hbk3 1).trans rfl, (blk_cell hbk3 2).trans rfl, (blk_cell hbk3 3).trans rfl⟩; have HBK3 := Aside0.mk hbk3; have HB3 := Aside0.mk (below_step (below_set HB2.out HGS.out) hb3); clear hbk3 hb3; have x5 := pw_cell_below HB3.out HX2.out) | (go_at_call 60; refine (words_Signed.calls k x _ _ _ (HL.out.below HB3.out) HSG.out).mono ?_; rintro e w4 ⟨rfl, hb4⟩; have hbk4 := blk_below HBK3.out hb4; obtain ⟨u0, u1, u2, u3⟩ : w4.cell? ⟨g, 0, none⟩ = some (.slice (some ⟨gb, ob + 2, none⟩) ks.length (c - 2)) ∧ w4.cell? ⟨g, 1, none⟩ = some (.bool true) ∧ w4.cell? ⟨g, 2, none⟩ = some (.bool true) ∧ w4.cell? ⟨g, 3, none⟩ = some (.int .i64 0) := ⟨(blk_cell hbk4 0).trans rfl, (blk_cell hbk4 1).trans rfl, (blk_cell hbk4 2).trans rfl, (blk_cell hbk4 3).trans rfl⟩; have uf : ∀ i, w4.frozen? ⟨g, i, none⟩ = false := fun i => blk_frozen hbk4 i; have HB4 := Aside0.mk (below_step HB3.out hb4); clear hbk4 hb4))
  go_ret2
  refine ⟨_, rfl, ?_, below_set HB4.out HGS.out⟩
  rw [HXX.out]
  unfold getX
  rw [if_neg HNO.out]
  exact ⟨_, _, rfl, ⟨HN.out, by have := H64.out; omega⟩, by have := HCC.out; simp at this; omega, Kd.F_below HF0.out (below_set HB4.out HGS.out)⟩
end Go.Proofs.YtfbhlbchmenloaaGreatDoor.H
end
section
namespace Go.Proofs.YtfbhlbchmenloaaGreatDoor.H
open Go.RowKit Go.Proofs.YtfbhlbchmenloaaGreatDoorW.PrintWords Go.Proofs.YtfbhlbchmenloaaGreatDoorW.PrintLast Go.Proofs.YtfbhlbchmenloaaGreatDoorW.PrintMore
set_option linter.unusedVariables false
set_option linter.unusedSimpArgs false
def badX : Cx := .pl (.bad ⟨#[69, 82, 82, 79, 82]⟩)
def get1 (ca : Bool) (r : List ByteArray) : Cx := if r.length < 1 then badX else getX r ca false (0, true)
def get2 (k : Nat) (ca : Bool) : List ByteArray → Option Cx
  | x :: y :: ks => (words_Signed.f k x).map fun sg => getX (y :: ks) ca true sg
  | _ => some badX
def isGet (w : ByteArray) : Bool := decide (w = ⟨#[103, 101, 116]⟩) || decide (w = ⟨#[103, 101, 116, 115]⟩) || decide (w = ⟨#[103, 97, 116]⟩) || decide (w = ⟨#[103, 97, 116, 115]⟩)
def getLine (k : Nat) (w : ByteArray) (r : List ByteArray) : Option Cx :=
  if w = ⟨#[103, 101, 116]⟩ then some (get1 false r) else if w = ⟨#[103, 101, 116, 115]⟩ then some (get1 true r) else if w = ⟨#[103, 97, 116]⟩ then get2 k false r else if w = ⟨#[103, 97, 116, 115]⟩ then get2 k true r else none
theorem get_get_all (k : Nat) (A : Option Addr) (c : Nat) (r : List ByteArray) (x : Cx) (w : World) (HLD : LaidA w) (hr : Kd.C Kd.string w A (⟨#[103, 101, 116]⟩ :: r).length (⟨#[103, 101, 116]⟩ :: r)) (hcc : (⟨#[103, 101, 116]⟩ :: r).length ≤ c) (h : some (get1 false r) = some x) :
    Calls Tryz.prog 48 #[.slice A (⟨#[103, 101, 116]⟩ :: r).length c] w fun e w' => ∃ v, e = .returned (.tuple #[v, .int .i64 (-1)]) ∧ AnyR w' v x ∧ Below w.heap.size w w' := by
  obtain rfl := Option.some.inj h
  unfold get1
  split
  case isTrue hl => exact get_get_short A c r w HLD hr hcc hl
  case isFalse hl => exact get_get_full A c r w HLD hr hcc (by omega)
set_option maxHeartbeats 8000000 in
set_option maxRecDepth 100000 in
theorem one_get (k : Nat) (s : ByteArray) (r : List ByteArray) (x : Cx) (hs : words_Split.f k s = some (⟨#[103, 101, 116]⟩ :: r)) (h : some (get1 false r) = some x) : OneIs s x (-1) := by
  intro w HLD
  have HL := Aside0.mk HLD
  have HS := Aside0.mk hs
  have HX := Aside0.mk h
  have hus := Tryz.underlying22
  have d1 : (((r.length + 1 : Nat) : Int) == 0) = false := by simp; omega
  have d2 : (((r.length : Nat) : Int) + 1 == 0) = false := by simp; omega
  have d3 : ((0 : Int) < (r.length : Int) + 1) = True := eq_true (by omega)
  have d4 : (0 < r.length + 1) = True := eq_true (by omega)
  have d5 : decide ((r.length : Int) + 1 = 0) = false := decide_eq_false (by omega)
  have d6 : ((r.length : Int) + 1 = 0) = False := eq_false (by omega)
  clear HLD hs h
  go_enter Tryz.func37, Tryz.ntmps37
  go_wp2_with (first
    | (go_at_call 46; refine (words_Split.calls k s _ _ HL.out HS.out).mono ?_; rintro e w1 ⟨v0, rfl, hr1, hb1⟩; obtain ⟨A1, c1, ev, hl1, hc1⟩ := Kd.R_reads hr1; subst ev; obtain ⟨gb, ob, hA, hcell⟩ := str_cells hc1 (by simp); subst hA; have x1 : w1.cell? ⟨gb, ob, none⟩ = some (.string ⟨#[103, 101, 116]⟩) := hcell 0 (by simp); have HC1 := Aside0.mk hc1; have HL1 := Aside0.mk hl1; have HB1 := Aside0.mk hb1; clear hr1 hb1 hc1 hl1 hcell)
    | (go_at_call 48; refine (get_get_all k _ c1 r x _ (HL.out.below HB1.out) HC1.out HL1.out HX.out).mono ?_; rintro e w2 ⟨v, rfl, ha, hb2⟩; have HA := Aside0.mk ha; have HB2 := Aside0.mk hb2; clear ha hb2))
  go_ret2
  exact ⟨_, rfl, HA.out, below_step HB1.out HB2.out⟩
theorem get_gets_all (k : Nat) (A : Option Addr) (c : Nat) (r : List ByteArray) (x : Cx) (w : World) (HLD : LaidA w) (hr : Kd.C Kd.string w A (⟨#[103, 101, 116, 115]⟩ :: r).length (⟨#[103, 101, 116, 115]⟩ :: r)) (hcc : (⟨#[103, 101, 116, 115]⟩ :: r).length ≤ c) (h : some (get1 true r) = some x) :
    Calls Tryz.prog 48 #[.slice A (⟨#[103, 101, 116, 115]⟩ :: r).length c] w fun e w' => ∃ v, e = .returned (.tuple #[v, .int .i64 (-1)]) ∧ AnyR w' v x ∧ Below w.heap.size w w' := by
  obtain rfl := Option.some.inj h
  unfold get1
  split
  case isTrue hl => exact get_gets_short A c r w HLD hr hcc hl
  case isFalse hl => exact get_gets_full A c r w HLD hr hcc (by omega)
set_option maxHeartbeats 8000000 in
set_option maxRecDepth 100000 in
theorem one_gets (k : Nat) (s : ByteArray) (r : List ByteArray) (x : Cx) (hs : words_Split.f k s = some (⟨#[103, 101, 116, 115]⟩ :: r)) (h : some (get1 true r) = some x) : OneIs s x (-1) := by
  intro w HLD
  have HL := Aside0.mk HLD
  have HS := Aside0.mk hs
  have HX := Aside0.mk h
  have hus := Tryz.underlying22
  have d1 : (((r.length + 1 : Nat) : Int) == 0) = false := by simp; omega
  have d2 : (((r.length : Nat) : Int) + 1 == 0) = false := by simp; omega
  have d3 : ((0 : Int) < (r.length : Int) + 1) = True := eq_true (by omega)
  have d4 : (0 < r.length + 1) = True := eq_true (by omega)
  have d5 : decide ((r.length : Int) + 1 = 0) = false := decide_eq_false (by omega)
  have d6 : ((r.length : Int) + 1 = 0) = False := eq_false (by omega)
  clear HLD hs h
  go_enter Tryz.func37, Tryz.ntmps37
  go_wp2_with (first
    | (go_at_call 46; refine (words_Split.calls k s _ _ HL.out HS.out).mono ?_; rintro e w1 ⟨v0, rfl, hr1, hb1⟩; obtain ⟨A1, c1, ev, hl1, hc1⟩ := Kd.R_reads hr1; subst ev; obtain ⟨gb, ob, hA, hcell⟩ := str_cells hc1 (by simp); subst hA; have x1 : w1.cell? ⟨gb, ob, none⟩ = some (.string ⟨#[103, 101, 116, 115]⟩) := hcell 0 (by simp); have HC1 := Aside0.mk hc1; have HL1 := Aside0.mk hl1; have HB1 := Aside0.mk hb1; clear hr1 hb1 hc1 hl1 hcell)
    | (go_at_call 48; refine (get_gets_all k _ c1 r x _ (HL.out.below HB1.out) HC1.out HL1.out HX.out).mono ?_; rintro e w2 ⟨v, rfl, ha, hb2⟩; have HA := Aside0.mk ha; have HB2 := Aside0.mk hb2; clear ha hb2))
  go_ret2
  exact ⟨_, rfl, HA.out, below_step HB1.out HB2.out⟩
theorem get_gat_all (k : Nat) (A : Option Addr) (c : Nat) (r : List ByteArray) (x : Cx) (w : World) (HLD : LaidA w) (hr : Kd.C Kd.string w A (⟨#[103, 97, 116]⟩ :: r).length (⟨#[103, 97, 116]⟩ :: r)) (hcc : (⟨#[103, 97, 116]⟩ :: r).length ≤ c) (h : get2 k false r = some x) :
    Calls Tryz.prog 48 #[.slice A (⟨#[103, 97, 116]⟩ :: r).length c] w fun e w' => ∃ v, e = .returned (.tuple #[v, .int .i64 (-1)]) ∧ AnyR w' v x ∧ Below w.heap.size w w' := by
  match r, hr, hcc, h with
  | [], hr, hcc, h => obtain rfl := Option.some.inj h; exact get_gat_short A c [] w HLD hr hcc (by decide)
  | [a], hr, hcc, h => obtain rfl := Option.some.inj h; exact get_gat_short A c [a] w HLD hr hcc (by simp)
  | a :: d :: ks, hr, hcc, h =>
    replace h : (words_Signed.f k a).map (fun sg => getX (d :: ks) false true sg) = some x := h
    cases hs : words_Signed.f k a with
    | none => rw [hs] at h; cases h
    | some sg =>
      rw [hs] at h
      obtain rfl := Option.some.inj h
      exact get_gat_full A c (d :: ks) a w HLD hr hcc (by simp) k sg hs
set_option maxHeartbeats 8000000 in
set_option maxRecDepth 100000 in
theorem one_gat (k : Nat) (s : ByteArray) (r : List ByteArray) (x : Cx) (hs : words_Split.f k s = some (⟨#[103, 97, 116]⟩ :: r)) (h : get2 k false r = some x) : OneIs s x (-1) := by
  intro w HLD
  have HL := Aside0.mk HLD
  have HS := Aside0.mk hs
  have HX := Aside0.mk h
  have hus := Tryz.underlying22
  have d1 : (((r.length + 1 : Nat) : Int) == 0) = false := by simp; omega
  have d2 : (((r.length : Nat) : Int) + 1 == 0) = false := by simp; omega
  have d3 : ((0 : Int) < (r.length : Int) + 1) = True := eq_true (by omega)
  have d4 : (0 < r.length + 1) = True := eq_true (by omega)
  have d5 : decide ((r.length : Int) + 1 = 0) = false := decide_eq_false (by omega)
  have d6 : ((r.length : Int) + 1 = 0) = False := eq_false (by omega)
  clear HLD hs h
  go_enter Tryz.func37, Tryz.ntmps37
  go_wp2_with (first
    | (go_at_call 46; refine (words_Split.calls k s _ _ HL.out HS.out).mono ?_; rintro e w1 ⟨v0, rfl, hr1, hb1⟩; obtain ⟨A1, c1, ev, hl1, hc1⟩ := Kd.R_reads hr1; subst ev; obtain ⟨gb, ob, hA, hcell⟩ := str_cells hc1 (by simp); subst hA; have x1 : w1.cell? ⟨gb, ob, none⟩ = some (.string ⟨#[103, 97, 116]⟩) := hcell 0 (by simp); have HC1 := Aside0.mk hc1; have HL1 := Aside0.mk hl1; have HB1 := Aside0.mk hb1; clear hr1 hb1 hc1 hl1 hcell)
    | (go_at_call 48; refine (get_gat_all k _ c1 r x _ (HL.out.below HB1.out) HC1.out HL1.out HX.out).mono ?_; rintro e w2 ⟨v, rfl, ha, hb2⟩; have HA := Aside0.mk ha; have HB2 := Aside0.mk hb2; clear ha hb2))
  go_ret2
  exact ⟨_, rfl, HA.out, below_step HB1.out HB2.out⟩
theorem get_gats_all (k : Nat) (A : Option Addr) (c : Nat) (r : List ByteArray) (x : Cx) (w : World) (HLD : LaidA w) (hr : Kd.C Kd.string w A (⟨#[103, 97, 116, 115]⟩ :: r).length (⟨#[103, 97, 116, 115]⟩ :: r)) (hcc : (⟨#[103, 97, 116, 115]⟩ :: r).length ≤ c) (h : get2 k true r = some x) :
    Calls Tryz.prog 48 #[.slice A (⟨#[103, 97, 116, 115]⟩ :: r).length c] w fun e w' => ∃ v, e = .returned (.tuple #[v, .int .i64 (-1)]) ∧ AnyR w' v x ∧ Below w.heap.size w w' := by
  match r, hr, hcc, h with
  | [], hr, hcc, h => obtain rfl := Option.some.inj h; exact get_gats_short A c [] w HLD hr hcc (by decide)
  | [a], hr, hcc, h => obtain rfl := Option.some.inj h; exact get_gats_short A c [a] w HLD hr hcc (by simp)
  | a :: d :: ks, hr, hcc, h =>
    replace h : (words_Signed.f k a).map (fun sg => getX (d :: ks) true true sg) = some x := h
    cases hs : words_Signed.f k a with
    | none => rw [hs] at h; cases h
    | some sg =>
      rw [hs] at h
      obtain rfl := Option.some.inj h
      exact get_gats_full A c (d :: ks) a w HLD hr hcc (by simp) k sg hs
set_option maxHeartbeats 8000000 in
set_option maxRecDepth 100000 in
theorem one_gats (k : Nat) (s : ByteArray) (r : List ByteArray) (x : Cx) (hs : words_Split.f k s = some (⟨#[103, 97, 116, 115]⟩ :: r)) (h : get2 k true r = some x) : OneIs s x (-1) := by
  intro w HLD
  have HL := Aside0.mk HLD
  have HS := Aside0.mk hs
  have HX := Aside0.mk h
  have hus := Tryz.underlying22
  have d1 : (((r.length + 1 : Nat) : Int) == 0) = false := by simp; omega
  have d2 : (((r.length : Nat) : Int) + 1 == 0) = false := by simp; omega
  have d3 : ((0 : Int) < (r.length : Int) + 1) = True := eq_true (by omega)
  have d4 : (0 < r.length + 1) = True := eq_true (by omega)
  have d5 : decide ((r.length : Int) + 1 = 0) = false := decide_eq_false (by omega)
  have d6 : ((r.length : Int) + 1 = 0) = False := eq_false (by omega)
  clear HLD hs h
  go_enter Tryz.func37, Tryz.ntmps37
  go_wp2_with (first
    | (go_at_call 46; refine (words_Split.calls k s _ _ HL.out HS.out).mono ?_; rintro e w1 ⟨v0, rfl, hr1, hb1⟩; obtain ⟨A1, c1, ev, hl1, hc1⟩ := Kd.R_reads hr1; subst ev; obtain ⟨gb, ob, hA, hcell⟩ := str_cells hc1 (by simp); subst hA; have x1 : w1.cell? ⟨gb, ob, none⟩ = some (.string ⟨#[103, 97, 116, 115]⟩) := hcell 0 (by simp); have HC1 := Aside0.mk hc1; have HL1 := Aside0.mk hl1; have HB1 := Aside0.mk hb1; clear hr1 hb1 hc1 hl1 hcell)
    | (go_at_call 48; refine (get_gats_all k _ c1 r x _ (HL.out.below HB1.out) HC1.out HL1.out HX.out).mono ?_; rintro e w2 ⟨v, rfl, ha, hb2⟩; have HA := Aside0.mk ha; have HB2 := Aside0.mk hb2; clear ha hb2))
  go_ret2
  exact ⟨_, rfl, HA.out, below_step HB1.out HB2.out⟩
/-- What parse.one tells of a line, a Get's as well. -/
def oneF (k : Nat) (s : ByteArray) : Option (Cx × Int) := (words_Split.f k s).bind fun t => match t with
  | [] => (parse_one.f k s).map fun p => (.pl p.1, p.2)
  | w :: r => if isGet w = true then (getLine k w r).map fun x => (x, -1) else (parse_one.f k s).map fun p => (.pl p.1, p.2)
theorem one_plain (k : Nat) (s : ByteArray) (x : Cx) (n : Int) (h : (parse_one.f k s).map (fun p => (Cx.pl p.1, p.2)) = some (x, n)) : OneIs s x n := by
  cases hf : parse_one.f k s with
  | none => rw [hf] at h; cases h
  | some p =>
    rw [hf] at h
    obtain ⟨c, m⟩ := p
    simp only [Option.map_some, Option.some.injEq, Prod.mk.injEq] at h
    obtain ⟨rfl, rfl⟩ := h
    intro w HLD
    refine (parse_one.calls k s c m w HLD hf).mono ?_
    rintro e w' ⟨rfl, hb⟩
    exact ⟨_, rfl, rfl, hb⟩
theorem one_all (k : Nat) (s : ByteArray) (x : Cx) (n : Int) (h : oneF k s = some (x, n)) : OneIs s x n := by
  unfold oneF at h
  cases hf : words_Split.f k s with
  | none => rw [hf] at h; cases h
  | some t =>
    rw [hf, Option.bind_some] at h
    match t, hf, h with
    | [], _, h => exact one_plain k s x n h
    | w :: r, hf, h =>
      by_cases hg : isGet w = true
      · simp only [hg, if_true] at h
        cases hx : getLine k w r with
        | none => rw [hx] at h; cases h
        | some y =>
          rw [hx] at h
          simp only [Option.map_some, Option.some.injEq, Prod.mk.injEq] at h
          obtain ⟨rfl, rfl⟩ := h
          unfold getLine at hx
          by_cases h1 : w = ⟨#[103, 101, 116]⟩
          · subst h1
            exact one_get k s r y hf (by simpa using hx)
          rw [if_neg h1] at hx
          by_cases h2 : w = ⟨#[103, 101, 116, 115]⟩
          · subst h2
            exact one_gets k s r y hf (by simpa using hx)
          rw [if_neg h2] at hx
          by_cases h3 : w = ⟨#[103, 97, 116]⟩
          · subst h3
            exact one_gat k s r y hf (by simpa using hx)
          rw [if_neg h3] at hx
          by_cases h4 : w = ⟨#[103, 97, 116, 115]⟩
          · subst h4
            exact one_gats k s r y hf (by simpa using hx)
          rw [if_neg h4] at hx
          cases hx
      · simp only [hg] at h
        exact one_plain k s x n (by simpa using h)
end Go.Proofs.YtfbhlbchmenloaaGreatDoor.H
end
section
namespace Go.Proofs.YtfbhlbchmenloaaGreatDoor.H
open Go.RowKit Go.Proofs.YtfbhlbchmenloaaGreatDoorW.PrintWords Go.Proofs.YtfbhlbchmenloaaGreatDoorW.PrintLast Go.Proofs.YtfbhlbchmenloaaGreatDoorW.PrintMore
set_option linter.unusedVariables false
set_option linter.unusedSimpArgs false
/-- A command's twelve fields. -/
abbrev C12 : Type := ByteArray × ByteArray × List ByteArray × ByteArray × Int × Int × Int × Int × Bool × Bool × Bool × Bool
abbrev C12P : Type := ByteArray × ByteArray × List ByteArray × ByteArray × Int × Int × Int × Int × Bool × Bool × Bool × Bool × Bool × PS
abbrev C12N : Type := ByteArray × ByteArray × List ByteArray × ByteArray × Int × Int × Int × Int × Bool × Bool × Bool × Bool × Int
def outN (d : Cd) (n : Int) : C12N := (d.what, d.verb, d.keys, d.data, d.flags, d.exp, d.cas, d.by_, d.withCas, d.withTouch, d.down, d.quiet, n)
def outP (d : Cd) (ok : Bool) (ps : PS) : C12P := (d.what, d.verb, d.keys, d.data, d.flags, d.exp, d.cas, d.by_, d.withCas, d.withTouch, d.down, d.quiet, ok, ps)
def parse_One.f (k : Nat) (s : ByteArray) : Option C12N := (oneF k s).bind fun p => some (outN (toX p.1) p.2)
def needsLine (ps : PS) : Bool := !decide (idx10 (psPass ps).2.b < 0) && !decide (2048 < (lineL (psPass ps).2).length)
def parse_Next.f (k : Nat) (ps : PS) : Option C12P :=
  (if needsLine ps = true then oneF k (strOfNums (lineL (psPass ps).2)) else some (.pl .nil, -1)).bind fun p => (psNext ps p.1 p.2).bind fun q => some (outP (toX q.1) q.2.1 q.2.2)
def parse_New.f : Option PS := some psNew
def parse_Feed.f (ps : PS) (l : List Int) : Option PS := if ps.b.length + l.length ≤ 140737488355328 then some (psFeed ps l) else none
def parse_Waits.f (ps : PS) : Option (Int × PS) := some ((ps.b.length : Int), ps)
theorem getLine_mono (k : Nat) (w : ByteArray) (r : List ByteArray) : LeO (getLine k w r) (getLine (k + 1) w r) := by
  unfold getLine
  have h2 : ∀ ca, LeO (get2 k ca r) (get2 (k + 1) ca r) := by
    intro ca
    match r with
    | [] => exact LeO.refl _
    | [a] => exact LeO.refl _
    | a :: b :: ks =>
      intro x hx
      replace hx : (words_Signed.f k a).map (fun sg => getX (b :: ks) ca true sg) = some x := hx
      show (words_Signed.f (k + 1) a).map (fun sg => getX (b :: ks) ca true sg) = some x
      cases hs : words_Signed.f k a with
      | none => rw [hs] at hx; cases hx
      | some sg =>
        rw [hs] at hx
        rw [words_Signed.mono a k sg hs]
        exact hx
  repeat' first
    | exact LeO.refl _
    | exact h2 _
    | refine LeO.ite ?_ ?_
theorem map_mono {α β : Type} {x y : Option α} (f : α → β) (h : LeO x y) : LeO (x.map f) (y.map f) := by
  intro r hr
  cases hx : x with
  | none => rw [hx] at hr; cases hr
  | some a => rw [hx] at hr; rw [h a hx]; exact hr
theorem oneF_mono (k : Nat) (s : ByteArray) : LeO (oneF k s) (oneF (k + 1) s) := by
  unfold oneF
  refine LeO.bind (words_Split.mono s k) (fun t => ?_)
  match t with
  | [] => exact map_mono _ (parse_one.mono s k)
  | w :: r =>
    refine LeO.ite (map_mono _ (getLine_mono k w r)) (map_mono _ (parse_one.mono s k))
theorem parse_Next.mono (ps : PS) (k : Nat) : LeO (parse_Next.f k ps) (parse_Next.f (k + 1) ps) := by
  unfold parse_Next.f
  refine LeO.bind (LeO.ite (oneF_mono k _) (LeO.refl _)) (fun _ => LeO.refl _)
theorem parse_One.mono (s : ByteArray) (k : Nat) : LeO (parse_One.f k s) (parse_One.f (k + 1) s) := by
  unfold parse_One.f
  exact LeO.bind (oneF_mono k s) (fun _ => LeO.refl _)
theorem oneF_plain {k : Nat} {s : ByteArray} {x : Cx} {n : Int} (h : oneF k s = some (x, n)) : n ≠ -1 → ∃ c, x = .pl c := by
  intro hn
  have hp : ∀ z : Option (Cm × Int), z.map (fun p => (Cx.pl p.1, p.2)) = some (x, n) → ∃ c, x = .pl c := by
    intro z hz
    cases z with
    | none => cases hz
    | some p =>
      simp only [Option.map_some, Option.some.injEq, Prod.mk.injEq] at hz
      exact ⟨_, hz.1.symm⟩
  unfold oneF at h
  cases hf : words_Split.f k s with
  | none => rw [hf] at h; cases h
  | some t =>
    rw [hf, Option.bind_some] at h
    match t, h with
    | [], h => exact hp _ h
    | w :: r, h =>
      by_cases hg : isGet w = true
      · simp only [hg, if_true] at h
        cases hx : getLine k w r with
        | none => rw [hx] at h; cases h
        | some y =>
          rw [hx] at h
          simp only [Option.map_some, Option.some.injEq, Prod.mk.injEq] at h
          exact absurd h.2.symm hn
      · simp only [hg] at h
        exact hp _ (by simpa using h)
set_option maxHeartbeats 4000000 in
set_option maxRecDepth 100000 in
theorem parse_One.calls (k : Nat) (s : ByteArray) (r1 r2 : ByteArray) (r3 : List ByteArray) (r4 : ByteArray) (r5 r6 r7 r8 : Int) (r9 r10 r11 r12 : Bool) (n : Int) (w : World) (HLD : LaidA w) (h : parse_One.f k s = some (r1, r2, r3, r4, r5, r6, r7, r8, r9, r10, r11, r12, n)) :
    Calls Tryz.prog 22 #[.string s] w fun e w' => ∃ v0_ : Value, e = .returned (.tuple #[.agg #[.string r1, .string r2, v0_, .string r4, .int .u32 r5, .int .i64 r6, .int .u64 r7, .int .u64 r8, .bool r9, .bool r10, .bool r11, .bool r12], .int .i64 n]) ∧ Kd.R Kd.string 9 w' w.heap.size (fun _ => True) v0_ r3 ∧ Below w.heap.size w w' := by
  unfold parse_One.f at h
  cases ho : oneF k s with
  | none => rw [ho] at h; cases h
  | some p =>
    obtain ⟨x, m⟩ := p
    rw [ho, Option.bind_some] at h
    have h := Option.some.inj h
    simp only [outN, Prod.mk.injEq] at h
    obtain ⟨rfl, rfl, rfl, rfl, rfl, rfl, rfl, rfl, rfl, rfl, rfl, rfl, rfl⟩ := h
    have HONE := Aside0.mk (one_all k s x m ho)
    have HL := Aside0.mk HLD
    clear HLD ho
    have hu := Tryz.underlying29
    go_enter Tryz.func22, Tryz.ntmps22
    go_wp2_with (first
      | (go_at_call 37; refine (HONE.out _ (by repeat (first | exact HL.out | apply LaidA.alloc | apply LaidA.drew))).mono ?_; rintro e w1 ⟨v, rfl, ha, hb1⟩; have hbr1 := blk_below (heap_alloc_new w _) hb1; have HA := Aside0.mk ha; have HB1 := Aside0.mk (below_step (below_alloc (Below.refl _ _) _) hb1); have HBR1 := Aside0.mk hbr1; clear ha hb1 hbr1)
      | (go_at_call 29; refine (To_any HA.out).mono ?_; rintro e w2 ⟨v2, rfl, hr2, hb2⟩; obtain ⟨Av, cv, ev⟩ := Kd.R_slice hr2; subst ev; unfold cdV; have hbr2 := blk_below HBR1.out hb2; obtain ⟨⟨y0, y1, y2, y3, y4, y5, y6, y7, y8, y9, y10, y11⟩, yf⟩ := cmdCells hbr2; have HR2 := Aside0.mk hr2; have HB2 := Aside0.mk hb2; have HBR2 := Aside0.mk hbr2; clear hr2 hb2 hbr2))
    have hbr := HBR2.out
    refine bodyPost_ret (results_ct rfl _ _ w.heap.size 29 #[.string (toX x).what, .string (toX x).verb, .slice Av (toX x).keys.length cv, .string (toX x).data, .int .u32 (toX x).flags, .int .i64 (toX x).exp, .int .u64 (toX x).cas, .int .u64 (toX x).by_, .bool (toX x).withCas, .bool (toX x).withTouch, .bool (toX x).down, .bool (toX x).quiet] (0, 0) _ rfl (put12 hbr) Tryz.underlying29 rfl (by kernel_rfl)) rfl ?_
    refine ⟨.slice Av (toX x).keys.length cv, rfl, ?_, below12 (below_step HB1.out HB2.out) (Nat.le_refl _) _ _ _ _ _ _ _ _ _ _ _ _⟩
    have hR := Kd.R_types (Kd.R_lower HR2.out HB1.out.size) hbr (by decide)
    exact Kd.R_mono (Kd.R_step hR (fun k hk _ => far12 _ _ _ _ _ _ _ _ _ _ _ _ k hk.2)) (fun _ _ => trivial)
set_option maxHeartbeats 4000000 in
set_option maxRecDepth 100000 in
theorem Waits_walk (g : Nat) (ps : PS) (w0 W : World) (hI : IsS55 w0 W g ps) (hB : Below w0.heap.size w0 W) :
    Calls Tryz.prog 15 #[.pointer (some ⟨g, 0, none⟩)] W fun e w' => e = .returned (.int .i64 (ps.b.length : Int)) ∧ w' = W := by
  obtain ⟨hg, vb, hb, hq⟩ := hI
  have hu := Tryz.underlying55
  obtain ⟨A0, c0, rfl, hnc⟩ := q_slice hq
  have hc0 : W.cell? ⟨g, 0, none⟩ = some (.slice A0 ps.b.length c0) := (blk_cell hb 0).trans rfl
  clear hb hq hB
  go_enter Tryz.func15, Tryz.ntmps15
  go_wp2
  go_ret
  exact ⟨rfl, rfl⟩
theorem parse_Waits.calls (g : Nat) (ps : PS) (n : Int) (ps' : PS) (w0 W : World) (hI : IsS55 w0 W g ps) (hB : Below w0.heap.size w0 W) (HLD : LaidA W) (h : parse_Waits.f ps = some (n, ps')) :
    Calls Tryz.prog 15 #[.pointer (some ⟨g, 0, none⟩)] W fun e w' => e = .returned (.int .i64 n) ∧ IsS55 w0 w' g ps' ∧ Below w0.heap.size w0 w' ∧ KeepBut W w' g none := by
  simp only [parse_Waits.f, Option.some.injEq, Prod.mk.injEq] at h
  obtain ⟨rfl, rfl⟩ := h
  refine (Waits_walk g ps w0 W hI hB).mono ?_
  rintro e w' ⟨rfl, rfl⟩
  exact ⟨rfl, hI, hB, ⟨Nat.le_refl _, fun _ _ _ _ => rfl⟩⟩
theorem parse_New.calls (t : PS) (w0 W : World) (hB : Below w0.heap.size w0 W) (HLD : LaidA W) (h : parse_New.f = some t) :
    Calls Tryz.prog 12 #[] W fun e w' => ∃ g, e = .returned (.pointer (some ⟨g, 0, none⟩)) ∧ IsS55 w0 w' g t ∧ Below w0.heap.size w0 w' ∧ Below W.heap.size W w' := by
  obtain rfl := Option.some.inj h
  exact New_walk w0 W hB
theorem parse_Feed.calls (g : Nat) (ps : PS) (A : Option Addr) (c : Nat) (l : List Int) (ps' : PS) (w0 W : World) (hI : IsS55 w0 W g ps) (hB : Below w0.heap.size w0 W) (HLD : LaidA W) (hr : Kd.C (Kd.int .u8) W A l.length l) (hc : l.length ≤ c) (h : parse_Feed.f ps l = some ps') :
    Calls Tryz.prog 13 #[.pointer (some ⟨g, 0, none⟩), .slice A l.length c] W fun e w' => e = .returned (.tuple #[]) ∧ IsS55 w0 w' g ps' ∧ Below w0.heap.size w0 w' ∧ KeepRow W w' g := by
  unfold parse_Feed.f at h
  split at h
  case isFalse => cases h
  case isTrue hl =>
    obtain rfl := Option.some.inj h
    exact Feed_walk g ps A c l w0 W hI hB hr hc hl
theorem parse_Next.calls (k : Nat) (g : Nat) (ps : PS) (r1 r2 : ByteArray) (r3 : List ByteArray) (r4 : ByteArray) (r5 r6 r7 r8 : Int) (r9 r10 r11 r12 : Bool) (ok : Bool) (ps' : PS) (w0 W : World) (hI : IsS55 w0 W g ps) (hB : Below w0.heap.size w0 W) (HLD : LaidA W)
    (h : parse_Next.f k ps = some (r1, r2, r3, r4, r5, r6, r7, r8, r9, r10, r11, r12, ok, ps')) :
    Calls Tryz.prog 14 #[.pointer (some ⟨g, 0, none⟩)] W fun e w' => ∃ v, e = .returned (.tuple #[.agg #[.string r1, .string r2, v, .string r4, .int .u32 r5, .int .i64 r6, .int .u64 r7, .int .u64 r8, .bool r9, .bool r10, .bool r11, .bool r12], .bool ok]) ∧ Kd.R Kd.string 9 w' W.heap.size (fun _ => True) v r3 ∧ IsS55 w0 w' g ps' ∧ Below w0.heap.size w0 w' ∧ KeepBut W w' g none := by
  unfold parse_Next.f at h
  cases hp : (if needsLine ps = true then oneF k (strOfNums (lineL (psPass ps).2)) else some (.pl .nil, -1)) with
  | none => rw [hp] at h; cases h
  | some p =>
    rw [hp, Option.bind_some] at h
    obtain ⟨x, n⟩ := p
    cases hq : psNext ps x n with
    | none => rw [hq] at h; cases h
    | some q =>
      rw [hq, Option.bind_some] at h
      obtain ⟨y, b, ps2⟩ := q
      have h := Option.some.inj h
      simp only [outP, Prod.mk.injEq] at h
      obtain ⟨rfl, rfl, rfl, rfl, rfl, rfl, rfl, rfl, rfl, rfl, rfl, rfl, rfl, rfl⟩ := h
      by_cases hl : needsLine ps = true
      · rw [if_pos hl] at hp
        exact Next_walk g ps x n y b ps2 w0 W HLD hI hB (fun _ _ => one_all k _ x n hp) (oneF_plain hp) hq
      · rw [if_neg hl] at hp
        have hp := Option.some.inj hp
        simp only [Prod.mk.injEq] at hp
        obtain ⟨rfl, rfl⟩ := hp
        refine Next_walk g ps (.pl .nil) (-1) y b ps2 w0 W HLD hI hB (fun h1 h2 => ?_) (fun h => absurd rfl h) hq
        exact absurd (by unfold needsLine; simp [h1, h2]) hl
end Go.Proofs.YtfbhlbchmenloaaGreatDoor.H
end
section
namespace Go.Proofs.YtfbhlbchmenloaaGreatDoor.H
open Go.RowKit Go.Proofs.YtfbhlbchmenloaaGreatDoorW.PrintWords Go.Proofs.YtfbhlbchmenloaaGreatDoorW.PrintLast Go.Proofs.YtfbhlbchmenloaaGreatDoorW.PrintMore
set_option linter.unusedVariables false
theorem R_keepT {α : Type} {d : Kd α} {e base g : Nat} {ok : Nat → Prop} {w w1 : World} {v : Value} {xs : List α} (ht : ∀ q, q ∈ e :: d.E → q ≠ 5) (h : d.R e w base ok v xs) (hk : KeepRow w w1 g) (hok : ∀ k, ok k → k ≠ g) : d.R e w1 base ok v xs := by
  refine Kd.R_mono (Kd.R_move (Kd.R_bound h) (fun k hk' => ?_)) (fun _ hk => hk.1)
  obtain ⟨h1, _, h3, q, hq, cs, hcs⟩ := hk'
  refine hk.2 k h3 (hok k h1) fun cs' hc => ?_
  rw [hcs] at hc
  injection hc with hc
  injection hc with _ hc
  exact ht q hq hc
theorem S_keepT {α : Type} {d : Kd α} {e base g : Nat} {ok : Nat → Prop} {w w1 : World} {v : Value} {xs : List α} (ht : ∀ q, q ∈ e :: d.E → q ≠ 5) (h : d.S e w base ok v xs) (hk : KeepRow w w1 g) (hok : ∀ k, ok k → k ≠ g) : d.S e w1 base ok v xs := by
  obtain ⟨f, h⟩ := h
  exact ⟨f, R_keepT ht h hk hok⟩
theorem TypedAt.set {W : World} {k t : Nat} {p : Addr} {u : Value} (h : TypedAt W k t) : TypedAt (W.setCell p u) k t := by
  obtain ⟨cs, fr, h⟩ := h
  by_cases hk : k = p.block
  · subst hk
    by_cases hs : p.spot.isSome = true
    · exact ⟨cs, fr, by simp [World.setCell, Array.getElem?_modify, h, hs]⟩
    · exact ⟨cs.setIfInBounds p.off u, fr, by simp [World.setCell, Array.getElem?_modify, h, hs]⟩
  · exact ⟨cs, fr, (Below.heap_setCell W p u k hk).trans h⟩
theorem IsS55.grownT {w0 W W1 : World} {g e : Nat} {ps : PS} {row : Option Nat} (h : IsS55 w0 W g ps) (hg : W.grownBy W1 row) (hty : ∀ k, row = some k → ∃ cs, W.heap[k]? = some (.cells cs e (0, 0))) (h49 : e ≠ 55) (h5 : e ≠ 5) : IsS55 w0 W1 g ps := by
  obtain ⟨_, _, _, hb⟩ := h.cells
  refine h.move fun k hk hc => hg.block k hk fun er => ?_
  obtain ⟨cs, hcs⟩ := hty k er.symm
  rcases hc with rfl | ⟨cs', hcs'⟩
  · rw [hcs] at hb
    injection hb with hb
    injection hb with _ hb
    exact h49 hb
  · rw [hcs] at hcs'
    injection hcs' with hc
    injection hc with _ hc
    exact h5 hc
end Go.Proofs.YtfbhlbchmenloaaGreatDoor.H
end
section
namespace Go.Proofs.YtfbhlbchmenloaaGreatDoor.H
open Go.RowKit Go.Sort Go.Proofs.YtfbhlbchmenloaaGreatDoorW.PrintWords Go.Proofs.YtfbhlbchmenloaaGreatDoorW.PrintLast Go.Proofs.YtfbhlbchmenloaaGreatDoorW.PrintMore
set_option linter.unusedVariables false

/-! A conversion's row. -/
def convB.f (s : ByteArray) : Option (List Int) := if s.size ≤ 9223372036854775807 then some (bytesOf s) else none
theorem bytesWorld_Below (W : World) (e : TypeId) (s : ByteArray) : Below W.heap.size W (Lib.bytesWorld W e s) :=
  ⟨rfl, rfl, rfl, by rw [Lib.bytesWorld_size]; omega, fun i hi => Lib.bytesWorld_at_old W e s i hi⟩
theorem conv_event {P : Program} {ops : Array Oper} {o : Oper} {rest : List Oper} {a : Act} {Q : Exit → Act → World → Prop} {W : World} (hgd : o.guard = none) {N : Tmp} (hd : o.dst = some N) {x : Operand} (ts td e : TypeId)
    (ho : o.op = .convert ts td x) (hs : P.underlying ts = some .string) (ht : P.underlying td = some (.slice e)) (he : P.underlying e = some (.int .u8)) (s : ByteArray) (r : List Int) (hx : a.eval x = .string s) (h0 : convB.f s = some r)
    (h : ∀ v1 w1, Kd.V (Kd.int .u8) e w1 W.heap.size (fun k_ => W.heap.size ≤ k_) v1 r → Below W.heap.size W w1 → wpList P ops Q rest (a.put o.dst v1) w1) : wpList P ops Q (o :: rest) a W := by
  unfold convB.f at h0
  by_cases hc : s.size ≤ 9223372036854775807
  · rw [if_pos hc] at h0
    obtain rfl := Option.some.inj h0
    have hlen : (bytesOf s).length = s.size := bytesOf_length s
    refine Kd.event_run hgd (v := .slice (some ⟨W.heap.size, 0, none⟩) (bytesOf s).length (grownCap W s.size 0 e)) (w1 := Lib.bytesWorld W e s) ?_ (h _ _ (Kd.V_mk (by rw [hlen]; exact grownCap_ge _ _ _ _) ?_) (bytesWorld_Below W e s))
    · rw [hlen]
      simp [execOp, ho, hx, Lib.run_convert_string_bytes W ts td e s hs ht he]
    · intro W' hW
      have hb := hW W.heap.size (Nat.le_refl _) (by rw [Lib.bytesWorld_size]; omega)
      refine ⟨rfl, by rw [hlen]; exact hc, fun _ => ⟨_, rfl, fun j p hj => ⟨[.int .u8 p], rfl, rfl, fun i u hu => ?_⟩⟩⟩
      have hi : i = 0 := by
        cases i with
        | zero => rfl
        | succ n => simp at hu
      subst hi
      obtain rfl : Value.int .u8 p = u := by simpa using hu
      have hjs : j < s.size := by
        have := (List.getElem?_eq_some_iff.1 hj).1
        rwa [hlen] at this
      have hc2 : W'.cell? ⟨W.heap.size, j, none⟩ = (Lib.bytesWorld W e s).cell? ⟨W.heap.size, j, none⟩ := World.cell?_of_block hb
      have ha : (⟨W.heap.size, 0, none⟩ : Addr).add (j * 1 + 0) = ⟨W.heap.size, j, none⟩ := by unfold Addr.add; split <;> simp_all
      show W'.cell? ((⟨W.heap.size, 0, none⟩ : Addr).add (j * 1 + 0)) = _
      rw [ha, hc2, Lib.bytesWorld_cell W e s j hjs]
      have hp : p = ((s.data.toList.getD j 0).toNat : Int) := by
        have hj2 := hj
        unfold bytesOf at hj2
        rw [List.getElem?_map] at hj2
        have hl : j < s.data.toList.length := by rw [data_length]; exact hjs
        rw [List.getElem?_eq_getElem hl] at hj2
        rw [List.getD_eq_getElem?_getD, List.getElem?_eq_getElem hl]
        exact (Option.some.inj hj2).symm
      rw [hp]
  · rw [if_neg hc] at h0
    cases h0

/-! A constant's row: a literal, then the conversion to its own type, which marks the row. -/
def litB.f (l : List Int) : Option (List Int) := if l.length ≤ 9223372036854775807 then some l else none
def markW (W : World) (e : TypeId) (cells : Array Value) : World := (W.alloc (.cells cells e)).freeze ⟨W.heap.size, cells.size, none⟩ 1
theorem run_convert_mark {P : Program} (W : World) (t e : TypeId) (cells : Array Value) (n c : Nat) (ht : P.underlying t = some (.slice e)) (he : P.underlying e = some (.int .u8)) :
    (convert t t (.slice (some ⟨W.heap.size, 0, none⟩) n c)).run P (W.alloc (.cells cells e)) = .ok (.slice (some ⟨W.heap.size, 0, none⟩) n c) (markW W e cells) := by
  have hsh : (W.alloc (.cells cells e)).shape? W.heap.size = some (e, cells.size) := by
    simp [World.shape?, World.alloc, -World.alloc_eq]
  simp [convert, run_underlying ht, run_underlying he, markStringish, hsh, markW, Result.andThen]
theorem markW_at_old (w : World) (e : TypeId) (cells : Array Value) (j : Nat) (hj : j < w.heap.size) : (markW w e cells).heap[j]? = w.heap[j]? := by
  have h1 : w.heap.size ≠ j := by omega
  simp [markW, World.freeze, World.alloc, -World.alloc_eq, Array.getElem?_modify, Array.getElem?_push, h1, Ne.symm h1]
theorem markW_at_new (w : World) (e : TypeId) (cells : Array Value) : (markW w e cells).heap[w.heap.size]? = some (.cells cells e (cells.size, cells.size + 1)) := by
  simp [markW, World.freeze, World.alloc, -World.alloc_eq]
  rw [Array.getElem_modify_self]
  simp
theorem markW_size (w : World) (e : TypeId) (cells : Array Value) : (markW w e cells).heap.size = w.heap.size + 1 := by
  simp [markW, World.freeze, World.alloc, -World.alloc_eq]
theorem lit_event {P : Program} {ops : Array Oper} {o1 o2 : Oper} {rest : List Oper} {a : Act} {Q : Exit → Act → World → Prop} {W : World} (hg1 : o1.guard = none) (hg2 : o2.guard = none) {N : Tmp} (hd : o1.dst = some N) (t e : TypeId) (l r : List Int)
    (ho2 : o2.op = .convert t t (.tmp N)) (ht : P.underlying t = some (.slice e)) (he : P.underlying e = some (.int .u8)) (h0 : litB.f l = some r)
    (hr : (execOp a.eval o1).run P W = .ok (.value (.slice (some ⟨W.heap.size, 0, none⟩) l.length l.length)) (W.alloc (.cells (l.map fun z => Value.int .u8 z).toArray e)))
    (hp : ∀ v, (a.put o1.dst v).eval (.tmp N) = v)
    (h : ∀ v1 w1, Kd.V (Kd.int .u8) e w1 W.heap.size (fun k_ => W.heap.size ≤ k_) v1 r → Below W.heap.size W w1 → wpList P ops Q rest ((a.put o1.dst v1).put o2.dst v1) w1) : wpList P ops Q (o1 :: o2 :: rest) a W := by
  obtain ⟨hl, rfl⟩ : l.length ≤ 9223372036854775807 ∧ l = r := by
    unfold litB.f at h0
    by_cases hc : l.length ≤ 9223372036854775807
    · rw [if_pos hc] at h0
      exact ⟨hc, Option.some.inj h0⟩
    · rw [if_neg hc] at h0; cases h0
  refine Kd.event_run hg1 hr ?_
  refine Kd.event_run hg2 (v := .slice (some ⟨W.heap.size, 0, none⟩) l.length l.length) (w1 := markW W e (l.map fun z => Value.int .u8 z).toArray) ?_ (h _ _ (Kd.V_mk (Nat.le_refl _) ?_) ?_)
  · simp [execOp, ho2, hp, run_convert_mark W t e _ _ _ ht he]
  · intro W' hW
    have hb := hW W.heap.size (Nat.le_refl _) (by rw [markW_size]; omega)
    refine ⟨rfl, hl, fun _ => ⟨_, rfl, fun j p hj => ⟨[.int .u8 p], rfl, rfl, fun i u hu => ?_⟩⟩⟩
    have hi : i = 0 := by
      cases i with
      | zero => rfl
      | succ n => simp at hu
    subst hi
    obtain rfl : Value.int .u8 p = u := by simpa using hu
    have ha : (⟨W.heap.size, 0, none⟩ : Addr).add (j * 1 + 0) = ⟨W.heap.size, j, none⟩ := by unfold Addr.add; split <;> simp_all
    show W'.cell? ((⟨W.heap.size, 0, none⟩ : Addr).add (j * 1 + 0)) = _
    rw [ha, World.cell?_of_block (w := markW W e (l.map fun z => Value.int .u8 z).toArray) (a := ⟨W.heap.size, j, none⟩) hb, cell_of_row _ W.heap.size j _ e _ (markW_at_new W e _)]
    simp [hj]
  · exact ⟨rfl, rfl, rfl, by rw [markW_size]; omega, fun i hi => markW_at_old W e _ i hi⟩

theorem V_string {P : Program} {w : World} {base : Nat} {e' src dst e : TypeId} {ok : Nat → Prop} {v : Value} {xs : List Int} (hs : P.underlying src = some (.slice e)) (he : P.underlying e = some (.int .u8)) (hd : P.underlying dst = some .string)
    (h : Kd.V (Kd.int .u8) e' w base ok v xs) : (convert src dst v).run P w = .ok (.string (strOfNums xs)) w := by
  obtain ⟨A, c, rfl, hl, hF⟩ := h
  exact Kd.C_string hs he hd (Kd.F_now hF)
theorem R_keepU {α : Type} {d : Kd α} {e base g : Nat} {ok : Nat → Prop} {w w1 : World} {v : Value} {xs : List α} (h : d.R e w base ok v xs) (hk : KeepRow w w1 g) (hok : ∀ k, ok k → k ≠ g) (ht : ∀ q, q ∈ e :: d.E → q ≠ 5) : d.R e w1 base ok v xs := R_keepT ht h hk hok
theorem S_keepU {α : Type} {d : Kd α} {e base g : Nat} {ok : Nat → Prop} {w w1 : World} {v : Value} {xs : List α} (h : d.S e w base ok v xs) (hk : KeepRow w w1 g) (hok : ∀ k, ok k → k ≠ g) (ht : ∀ q, q ∈ e :: d.E → q ≠ 5) : d.S e w1 base ok v xs := S_keepT ht h hk hok
/-! Behind the twelve stores of a command. -/
theorem R_far12 {α : Type} {d : Kd α} {e base : Nat} {ok : Nat → Prop} {W : World} {v : Value} {xs : List α} (g : Nat) (h : Kd.R d e W base (fun k => ok k ∧ k ≠ g) v xs) (v0 v1 v2 v3 v4 v5 v6 v7 v8 v9 v10 v11 : Value) :
    Kd.R d e ((((((((((((W.setCell ⟨g, 0, none⟩ v0).setCell ⟨g, 1, none⟩ v1).setCell ⟨g, 2, none⟩ v2).setCell ⟨g, 3, none⟩ v3).setCell ⟨g, 4, none⟩ v4).setCell ⟨g, 5, none⟩ v5).setCell ⟨g, 6, none⟩ v6).setCell ⟨g, 7, none⟩ v7).setCell ⟨g, 8, none⟩ v8).setCell ⟨g, 9, none⟩ v9).setCell ⟨g, 10, none⟩ v10).setCell ⟨g, 11, none⟩ v11) base (fun k => ok k ∧ k ≠ g) v xs :=
  Kd.R_far (p := ⟨g, 11, none⟩) (Kd.R_far (p := ⟨g, 10, none⟩) (Kd.R_far (p := ⟨g, 9, none⟩) (Kd.R_far (p := ⟨g, 8, none⟩) (Kd.R_far (p := ⟨g, 7, none⟩) (Kd.R_far (p := ⟨g, 6, none⟩) (Kd.R_far (p := ⟨g, 5, none⟩) (Kd.R_far (p := ⟨g, 4, none⟩) (Kd.R_far (p := ⟨g, 3, none⟩) (Kd.R_far (p := ⟨g, 2, none⟩) (Kd.R_far (p := ⟨g, 1, none⟩) (Kd.R_far (p := ⟨g, 0, none⟩) h (fun _ hk => hk.2) v0) (fun _ hk => hk.2) v1) (fun _ hk => hk.2) v2) (fun _ hk => hk.2) v3) (fun _ hk => hk.2) v4) (fun _ hk => hk.2) v5) (fun _ hk => hk.2) v6) (fun _ hk => hk.2) v7) (fun _ hk => hk.2) v8) (fun _ hk => hk.2) v9) (fun _ hk => hk.2) v10) (fun _ hk => hk.2) v11
theorem S_far12 {α : Type} {d : Kd α} {e base : Nat} {ok : Nat → Prop} {W : World} {v : Value} {xs : List α} (g : Nat) (h : Kd.S d e W base (fun k => ok k ∧ k ≠ g) v xs) (v0 v1 v2 v3 v4 v5 v6 v7 v8 v9 v10 v11 : Value) :
    Kd.S d e ((((((((((((W.setCell ⟨g, 0, none⟩ v0).setCell ⟨g, 1, none⟩ v1).setCell ⟨g, 2, none⟩ v2).setCell ⟨g, 3, none⟩ v3).setCell ⟨g, 4, none⟩ v4).setCell ⟨g, 5, none⟩ v5).setCell ⟨g, 6, none⟩ v6).setCell ⟨g, 7, none⟩ v7).setCell ⟨g, 8, none⟩ v8).setCell ⟨g, 9, none⟩ v9).setCell ⟨g, 10, none⟩ v10).setCell ⟨g, 11, none⟩ v11) base (fun k => ok k ∧ k ≠ g) v xs :=
  Kd.S_far (p := ⟨g, 11, none⟩) (Kd.S_far (p := ⟨g, 10, none⟩) (Kd.S_far (p := ⟨g, 9, none⟩) (Kd.S_far (p := ⟨g, 8, none⟩) (Kd.S_far (p := ⟨g, 7, none⟩) (Kd.S_far (p := ⟨g, 6, none⟩) (Kd.S_far (p := ⟨g, 5, none⟩) (Kd.S_far (p := ⟨g, 4, none⟩) (Kd.S_far (p := ⟨g, 3, none⟩) (Kd.S_far (p := ⟨g, 2, none⟩) (Kd.S_far (p := ⟨g, 1, none⟩) (Kd.S_far (p := ⟨g, 0, none⟩) h (fun _ hk => hk.2) v0) (fun _ hk => hk.2) v1) (fun _ hk => hk.2) v2) (fun _ hk => hk.2) v3) (fun _ hk => hk.2) v4) (fun _ hk => hk.2) v5) (fun _ hk => hk.2) v6) (fun _ hk => hk.2) v7) (fun _ hk => hk.2) v8) (fun _ hk => hk.2) v9) (fun _ hk => hk.2) v10) (fun _ hk => hk.2) v11
theorem V_far12 {α : Type} {d : Kd α} {e base : Nat} {ok : Nat → Prop} {W : World} {v : Value} {xs : List α} (g : Nat) (h : Kd.V d e W base (fun k => ok k ∧ k ≠ g) v xs) (v0 v1 v2 v3 v4 v5 v6 v7 v8 v9 v10 v11 : Value) :
    Kd.V d e ((((((((((((W.setCell ⟨g, 0, none⟩ v0).setCell ⟨g, 1, none⟩ v1).setCell ⟨g, 2, none⟩ v2).setCell ⟨g, 3, none⟩ v3).setCell ⟨g, 4, none⟩ v4).setCell ⟨g, 5, none⟩ v5).setCell ⟨g, 6, none⟩ v6).setCell ⟨g, 7, none⟩ v7).setCell ⟨g, 8, none⟩ v8).setCell ⟨g, 9, none⟩ v9).setCell ⟨g, 10, none⟩ v10).setCell ⟨g, 11, none⟩ v11) base (fun k => ok k ∧ k ≠ g) v xs :=
  Kd.V_far (p := ⟨g, 11, none⟩) (Kd.V_far (p := ⟨g, 10, none⟩) (Kd.V_far (p := ⟨g, 9, none⟩) (Kd.V_far (p := ⟨g, 8, none⟩) (Kd.V_far (p := ⟨g, 7, none⟩) (Kd.V_far (p := ⟨g, 6, none⟩) (Kd.V_far (p := ⟨g, 5, none⟩) (Kd.V_far (p := ⟨g, 4, none⟩) (Kd.V_far (p := ⟨g, 3, none⟩) (Kd.V_far (p := ⟨g, 2, none⟩) (Kd.V_far (p := ⟨g, 1, none⟩) (Kd.V_far (p := ⟨g, 0, none⟩) h (fun _ hk => hk.2) v0) (fun _ hk => hk.2) v1) (fun _ hk => hk.2) v2) (fun _ hk => hk.2) v3) (fun _ hk => hk.2) v4) (fun _ hk => hk.2) v5) (fun _ hk => hk.2) v6) (fun _ hk => hk.2) v7) (fun _ hk => hk.2) v8) (fun _ hk => hk.2) v9) (fun _ hk => hk.2) v10) (fun _ hk => hk.2) v11
theorem IsS55.farK {w0 W W0 : World} {g t : Nat} {ps : PS} {p : Addr} {cs : Array Value} {fr : Nat × Nat} (h : IsS55 w0 W g ps) (hne : g ≠ p.block) (bk : Aside0 (W0.heap[p.block]? = some (.cells cs t fr))) (u : Value) (ht : TypedAt W p.block t := by repeat (first | exact TypedAt.of (Aside0.out (by assumption)) | apply TypedAt.set | apply TypedAt.alloc | apply TypedAt.drewN | apply TypedAt.drew)) (h5 : t ≠ 5 := by decide) : IsS55 w0 (W.setCell p u) g ps := h.farT hne ht h5 u
/-! Short names, for texts that would be too long. -/
section
variable {w0 W W1 : World} {g t k : Nat} {ps : PS}
theorem M0 {p : Prop} (h : p) : Aside0 p := Aside0.mk h
theorem tO {cs : Array Value} {fr : Nat × Nat} (h : W.heap[k]? = some (.cells cs t fr)) : TypedAt W k t := TypedAt.of h
theorem tS {p : Addr} {u : Value} (h : TypedAt W k t) : TypedAt (W.setCell p u) k t := h.set
theorem tA (h : TypedAt W k t) (o : Obj) : TypedAt (W.alloc o) k t := h.alloc o
theorem tN (h : TypedAt W k t) (m : Nat) : TypedAt (W.drewN m) k t := h
theorem tD (h : TypedAt W k t) : TypedAt W.drew k t := h
theorem sF {p : Addr} (h : IsS55 w0 W g ps) (hne : g ≠ p.block) (ht : TypedAt W p.block t) (u : Value) (h5 : t ≠ 5 := by decide) : IsS55 w0 (W.setCell p u) g ps := h.farT hne ht h5 u
theorem sA (h : IsS55 w0 W g ps) (o : Obj) : IsS55 w0 (W.alloc o) g ps := h.alloc o
theorem sN (h : IsS55 w0 W g ps) (m : Nat) : IsS55 w0 (W.drewN m) g ps := h
theorem sD (h : IsS55 w0 W g ps) : IsS55 w0 W.drew g ps := h
theorem bA {w : World} {g : Nat} {o : Obj} (h : w.heap[g]? = some o) (o' : Obj) : (w.alloc o').heap[g]? = some o := blk_alloc h o'
theorem bD {w : World} {g : Nat} {o : Obj} (h : w.heap[g]? = some o) : w.drew.heap[g]? = some o := h
theorem bN {w : World} {g : Nat} {o : Obj} (h : w.heap[g]? = some o) (n : Nat) : (w.drewN n).heap[g]? = some o := h
theorem wA {w W : World} (h : Below w.heap.size w W) (o : Obj) : Below w.heap.size w (W.alloc o) := below_alloc h o
theorem wN {B : Nat} {w W : World} (h : Below B w W) (n : Nat) : Below B w (W.drewN n) := pw_below_drewN h n
theorem wD {base : Nat} {w W : World} (h : Below base w W) : Below base w W.drew := below_drew1 h
theorem rA {α : Type} {d : Kd α} {e base : Nat} {ok : Nat → Prop} {w : World} {v : Value} {xs : List α} (h : d.R e w base ok v xs) (o : Obj) : d.R e (w.alloc o) base ok v xs := Kd.R_alloc h o
theorem rD {α : Type} {d : Kd α} {e base : Nat} {ok : Nat → Prop} {w : World} {v : Value} {xs : List α} (h : d.R e w base ok v xs) : d.R e w.drew base ok v xs := Kd.R_drew h
theorem rN {α : Type} {d : Kd α} {e base : Nat} {ok : Nat → Prop} {w : World} {v : Value} {xs : List α} (h : d.R e w base ok v xs) (m : Nat) : d.R e (w.drewN m) base ok v xs := Kd.R_drewN h m
end
theorem bF {W : World} {g k : Nat} {t : TypeId} {cs : Array Value} {v0 v1 v2 v3 v4 v5 v6 v7 v8 v9 v10 v11 : Value} (h : W.heap[g]? = some (.cells cs t (0, 0))) (hne : g ≠ k) : ((((((((((((W.setCell ⟨k, 0, none⟩ v0).setCell ⟨k, 1, none⟩ v1).setCell ⟨k, 2, none⟩ v2).setCell ⟨k, 3, none⟩ v3).setCell ⟨k, 4, none⟩ v4).setCell ⟨k, 5, none⟩ v5).setCell ⟨k, 6, none⟩ v6).setCell ⟨k, 7, none⟩ v7).setCell ⟨k, 8, none⟩ v8).setCell ⟨k, 9, none⟩ v9).setCell ⟨k, 10, none⟩ v10).setCell ⟨k, 11, none⟩ v11).heap[g]? = some (.cells cs t (0, 0)) := blk_far (p := ⟨k, 11, none⟩) (blk_far (p := ⟨k, 10, none⟩) (blk_far (p := ⟨k, 9, none⟩) (blk_far (p := ⟨k, 8, none⟩) (blk_far (p := ⟨k, 7, none⟩) (blk_far (p := ⟨k, 6, none⟩) (blk_far (p := ⟨k, 5, none⟩) (blk_far (p := ⟨k, 4, none⟩) (blk_far (p := ⟨k, 3, none⟩) (blk_far (p := ⟨k, 2, none⟩) (blk_far (p := ⟨k, 1, none⟩) (blk_far (p := ⟨k, 0, none⟩) h hne v0) hne v1) hne v2) hne v3) hne v4) hne v5) hne v6) hne v7) hne v8) hne v9) hne v10) hne v11
theorem celL {W : World} {g t : Nat} {c0 c1 c2 c3 c4 c5 c6 c7 c8 c9 c10 c11 : Value} (h : W.heap[g]? = some (.cells #[c0, c1, c2, c3, c4, c5, c6, c7, c8, c9, c10, c11] t (0, 0))) : W.cell? ⟨g, 0, none⟩ = some c0 ∧ W.cell? ⟨g, 1, none⟩ = some c1 ∧ W.cell? ⟨g, 2, none⟩ = some c2 ∧ W.cell? ⟨g, 3, none⟩ = some c3 ∧ W.cell? ⟨g, 4, none⟩ = some c4 ∧ W.cell? ⟨g, 5, none⟩ = some c5 ∧ W.cell? ⟨g, 6, none⟩ = some c6 ∧ W.cell? ⟨g, 7, none⟩ = some c7 ∧ W.cell? ⟨g, 8, none⟩ = some c8 ∧ W.cell? ⟨g, 9, none⟩ = some c9 ∧ W.cell? ⟨g, 10, none⟩ = some c10 ∧ W.cell? ⟨g, 11, none⟩ = some c11 :=
  ⟨(blk_cell h 0).trans rfl, (blk_cell h 1).trans rfl, (blk_cell h 2).trans rfl, (blk_cell h 3).trans rfl, (blk_cell h 4).trans rfl, (blk_cell h 5).trans rfl, (blk_cell h 6).trans rfl, (blk_cell h 7).trans rfl, (blk_cell h 8).trans rfl, (blk_cell h 9).trans rfl, (blk_cell h 10).trans rfl, (blk_cell h 11).trans rfl⟩
theorem froZ {W : World} {g t : Nat} {cs : Array Value} (h : W.heap[g]? = some (.cells cs t (0, 0))) : W.frozen? ⟨g, 0, none⟩ = false ∧ W.frozen? ⟨g, 1, none⟩ = false ∧ W.frozen? ⟨g, 2, none⟩ = false ∧ W.frozen? ⟨g, 3, none⟩ = false ∧ W.frozen? ⟨g, 4, none⟩ = false ∧ W.frozen? ⟨g, 5, none⟩ = false ∧ W.frozen? ⟨g, 6, none⟩ = false ∧ W.frozen? ⟨g, 7, none⟩ = false ∧ W.frozen? ⟨g, 8, none⟩ = false ∧ W.frozen? ⟨g, 9, none⟩ = false ∧ W.frozen? ⟨g, 10, none⟩ = false ∧ W.frozen? ⟨g, 11, none⟩ = false :=
  ⟨blk_frozen h 0, blk_frozen h 1, blk_frozen h 2, blk_frozen h 3, blk_frozen h 4, blk_frozen h 5, blk_frozen h 6, blk_frozen h 7, blk_frozen h 8, blk_frozen h 9, blk_frozen h 10, blk_frozen h 11⟩
end Go.Proofs.YtfbhlbchmenloaaGreatDoor.H
end
section
namespace Go.Proofs.YtfbhlbchmenloaaGreatDoor.H
open Go.RowKit Go.Proofs.YtfbhlbchmenloaaGreatDoorW.PrintWords Go.Proofs.YtfbhlbchmenloaaGreatDoorW.PrintLast Go.Proofs.YtfbhlbchmenloaaGreatDoorW.PrintMore
attribute [local go_sem] max2_int min2_int max_two min_two max_three min_three max_four min_four   -- for this text's walks alone
set_option linter.unusedVariables false
set_option linter.unusedSimpArgs false



/-! #### struct type 55 -/
structure S55 where
  f0 : ByteArray
def z55 : S55 := ⟨(⟨#[]⟩ : ByteArray)⟩
def k55 : Kd S55 := Kd.iso Kd.string (fun x : S55 => x.f0)
theorem k55_open {w : World} {x : S55} {cs : List Value} (h : k55.K w x cs) : cs = [.string x.f0] := by
  obtain rfl := h
  exact rfl
theorem k55_openM {w : World} {base : Nat} {ok : Nat → Prop} {x : S55} {cs : List Value} (h : k55.M w base ok x cs) : cs = [.string x.f0] := by
  obtain rfl := h
  exact rfl
theorem k55_mk (w : World) (x : S55)  : k55.K w x [.string x.f0] := rfl
theorem k55_mkM (w : World) (base : Nat) (ok : Nat → Prop) (x : S55)  : k55.M w base ok x [.string x.f0] := rfl
theorem k55_mkF (W : World) (ok : Nat → Prop) (x : S55) : Kd.FK k55 W ok x [.string x.f0] := fun W2 _ => k55_mk W2 x
def rd_T55 (xs : List S55) (i : Int) : S55 := xs.getD i.toNat z55
theorem at_T55 {w : World} {A : Option Addr} {n : Nat} {xs : List S55} (h : Kd.C k55 w A n xs) (i : Int) (h0 : 0 ≤ i) (h1 : i < n) : ∃ ad , A = some ad ∧ w.cell? (ad.add i.toNat) = some (.string (rd_T55 xs i).f0) := by
  obtain ⟨ad, c, e, _, hK, hc0⟩ := Kd.C_get h z55 i h0 h1
  have hc : ∀ j u, c[j]? = some u → w.cell? (ad.add (i.toNat * 1 + j)) = some u := hc0
  obtain rfl := k55_open hK
  exact ⟨ad, e, by have hq := hc 0 _ rfl; rwa [Nat.mul_one, Nat.add_zero] at hq⟩

def rd_L3 (xs : List (List Int)) (i : Int) : (List Int) := xs.getD i.toNat ([] : List Int)
theorem at_L3 {w : World} {A : Option Addr} {n : Nat} {xs : List (List Int)} (h : Kd.C (Kd.slice 5 (Kd.int .u8)) w A n xs) (i : Int) (h0 : 0 ≤ i) (h1 : i < n) : ∃ ad A0 c0, A = some ad ∧ w.cell? (ad.add i.toNat) = some (.slice A0 (rd_L3 xs i).length c0) ∧ (rd_L3 xs i).length ≤ c0 ∧ (Kd.int .u8).C w A0 (rd_L3 xs i).length (rd_L3 xs i) := by
  obtain ⟨ad, c, e, _, hK, hc0⟩ := Kd.C_get h ([] : List Int) i h0 h1
  have hc : ∀ j u, c[j]? = some u → w.cell? (ad.add (i.toNat * 1 + j)) = some u := hc0
  obtain ⟨A0, c0, rfl, l0, g0⟩ := hK
  exact ⟨ad, A0, c0, e, by have hq := hc 0 _ rfl; rwa [Nat.mul_one, Nat.add_zero] at hq, l0, g0⟩

def rd_L4 (xs : List (List ByteArray)) (i : Int) : (List ByteArray) := xs.getD i.toNat ([] : List ByteArray)
theorem at_L4 {w : World} {A : Option Addr} {n : Nat} {xs : List (List ByteArray)} (h : Kd.C (Kd.slice 9 Kd.string) w A n xs) (i : Int) (h0 : 0 ≤ i) (h1 : i < n) : ∃ ad A0 c0, A = some ad ∧ w.cell? (ad.add i.toNat) = some (.slice A0 (rd_L4 xs i).length c0) ∧ (rd_L4 xs i).length ≤ c0 ∧ Kd.string.C w A0 (rd_L4 xs i).length (rd_L4 xs i) := by
  obtain ⟨ad, c, e, _, hK, hc0⟩ := Kd.C_get h ([] : List ByteArray) i h0 h1
  have hc : ∀ j u, c[j]? = some u → w.cell? (ad.add (i.toNat * 1 + j)) = some u := hc0
  obtain ⟨A0, c0, rfl, l0, g0⟩ := hK
  exact ⟨ad, A0, c0, e, by have hq := hc 0 _ rfl; rwa [Nat.mul_one, Nat.add_zero] at hq, l0, g0⟩

/-! #### struct type 29 -/
structure S29 where
  f0 : ByteArray
  f1 : ByteArray
  f2 : (List ByteArray)
  f3 : ByteArray
  f4 : Int
  f5 : Int
  f6 : Int
  f7 : Int
  f8 : Bool
  f9 : Bool
  f10 : Bool
  f11 : Bool
def z29 : S29 := ⟨(⟨#[]⟩ : ByteArray), (⟨#[]⟩ : ByteArray), ([] : List ByteArray), (⟨#[]⟩ : ByteArray), (0 : Int), (0 : Int), (0 : Int), (0 : Int), false, false, false, false⟩
def k29 : Kd S29 := Kd.iso (Kd.pair Kd.string (Kd.pair Kd.string (Kd.pair (Kd.slice 9 Kd.string) (Kd.pair Kd.string (Kd.pair (Kd.int .u32) (Kd.pair (Kd.int .i64) (Kd.pair (Kd.int .u64) (Kd.pair (Kd.int .u64) (Kd.pair Kd.bool (Kd.pair Kd.bool (Kd.pair Kd.bool Kd.bool))))))))))) (fun x : S29 => (x.f0, x.f1, x.f2, x.f3, x.f4, x.f5, x.f6, x.f7, x.f8, x.f9, x.f10, x.f11))
theorem k29_open {w : World} {x : S29} {cs : List Value} (h : k29.K w x cs) : ∃ A2 c2, cs = [.string x.f0, .string x.f1, .slice A2 x.f2.length c2, .string x.f3, .int .u32 x.f4, .int .i64 x.f5, .int .u64 x.f6, .int .u64 x.f7, .bool x.f8, .bool x.f9, .bool x.f10, .bool x.f11] ∧ x.f2.length ≤ c2 ∧ Kd.string.C w A2 x.f2.length x.f2 := by
  obtain ⟨_, _, rfl, rfl, ⟨_, _, rfl, rfl, ⟨_, _, rfl, ⟨A2, c2, rfl, l2, g2⟩, ⟨_, _, rfl, rfl, ⟨_, _, rfl, rfl, ⟨_, _, rfl, rfl, ⟨_, _, rfl, rfl, ⟨_, _, rfl, rfl, ⟨_, _, rfl, rfl, ⟨_, _, rfl, rfl, ⟨_, _, rfl, rfl, rfl⟩⟩⟩⟩⟩⟩⟩⟩⟩⟩⟩ := h
  exact ⟨A2, c2, rfl, l2, g2⟩
theorem k29_openM {w : World} {base : Nat} {ok : Nat → Prop} {x : S29} {cs : List Value} (h : k29.M w base ok x cs) : ∃ v2, cs = [.string x.f0, .string x.f1, v2, .string x.f3, .int .u32 x.f4, .int .i64 x.f5, .int .u64 x.f6, .int .u64 x.f7, .bool x.f8, .bool x.f9, .bool x.f10, .bool x.f11] ∧ Kd.string.R 9 w base ok v2 x.f2 := by
  obtain ⟨_, _, rfl, rfl, ⟨_, _, rfl, rfl, ⟨_, _, rfl, ⟨v2, rfl, g2⟩, ⟨_, _, rfl, rfl, ⟨_, _, rfl, rfl, ⟨_, _, rfl, rfl, ⟨_, _, rfl, rfl, ⟨_, _, rfl, rfl, ⟨_, _, rfl, rfl, ⟨_, _, rfl, rfl, ⟨_, _, rfl, rfl, rfl⟩⟩⟩⟩⟩⟩⟩⟩⟩⟩⟩ := h
  exact ⟨v2, rfl, g2⟩
theorem k29_mk (w : World) (x : S29) {A2 : Option Addr} {c2 : Nat} (l2 : x.f2.length ≤ c2) (g2 : Kd.string.C w A2 x.f2.length x.f2) : k29.K w x [.string x.f0, .string x.f1, .slice A2 x.f2.length c2, .string x.f3, .int .u32 x.f4, .int .i64 x.f5, .int .u64 x.f6, .int .u64 x.f7, .bool x.f8, .bool x.f9, .bool x.f10, .bool x.f11] := ⟨[.string x.f0], [.string x.f1, .slice A2 x.f2.length c2, .string x.f3, .int .u32 x.f4, .int .i64 x.f5, .int .u64 x.f6, .int .u64 x.f7, .bool x.f8, .bool x.f9, .bool x.f10, .bool x.f11], rfl, rfl, ⟨[.string x.f1], [.slice A2 x.f2.length c2, .string x.f3, .int .u32 x.f4, .int .i64 x.f5, .int .u64 x.f6, .int .u64 x.f7, .bool x.f8, .bool x.f9, .bool x.f10, .bool x.f11], rfl, rfl, ⟨[.slice A2 x.f2.length c2], [.string x.f3, .int .u32 x.f4, .int .i64 x.f5, .int .u64 x.f6, .int .u64 x.f7, .bool x.f8, .bool x.f9, .bool x.f10, .bool x.f11], rfl, ⟨A2, c2, rfl, l2, g2⟩, ⟨[.string x.f3], [.int .u32 x.f4, .int .i64 x.f5, .int .u64 x.f6, .int .u64 x.f7, .bool x.f8, .bool x.f9, .bool x.f10, .bool x.f11], rfl, rfl, ⟨[.int .u32 x.f4], [.int .i64 x.f5, .int .u64 x.f6, .int .u64 x.f7, .bool x.f8, .bool x.f9, .bool x.f10, .bool x.f11], rfl, rfl, ⟨[.int .i64 x.f5], [.int .u64 x.f6, .int .u64 x.f7, .bool x.f8, .bool x.f9, .bool x.f10, .bool x.f11], rfl, rfl, ⟨[.int .u64 x.f6], [.int .u64 x.f7, .bool x.f8, .bool x.f9, .bool x.f10, .bool x.f11], rfl, rfl, ⟨[.int .u64 x.f7], [.bool x.f8, .bool x.f9, .bool x.f10, .bool x.f11], rfl, rfl, ⟨[.bool x.f8], [.bool x.f9, .bool x.f10, .bool x.f11], rfl, rfl, ⟨[.bool x.f9], [.bool x.f10, .bool x.f11], rfl, rfl, ⟨[.bool x.f10], [.bool x.f11], rfl, rfl, rfl⟩⟩⟩⟩⟩⟩⟩⟩⟩⟩⟩
theorem k29_mkM (w : World) (base : Nat) (ok : Nat → Prop) (x : S29) {v2 : Value} (g2 : Kd.string.R 9 w base ok v2 x.f2) : k29.M w base ok x [.string x.f0, .string x.f1, v2, .string x.f3, .int .u32 x.f4, .int .i64 x.f5, .int .u64 x.f6, .int .u64 x.f7, .bool x.f8, .bool x.f9, .bool x.f10, .bool x.f11] := ⟨[.string x.f0], [.string x.f1, v2, .string x.f3, .int .u32 x.f4, .int .i64 x.f5, .int .u64 x.f6, .int .u64 x.f7, .bool x.f8, .bool x.f9, .bool x.f10, .bool x.f11], rfl, rfl, ⟨[.string x.f1], [v2, .string x.f3, .int .u32 x.f4, .int .i64 x.f5, .int .u64 x.f6, .int .u64 x.f7, .bool x.f8, .bool x.f9, .bool x.f10, .bool x.f11], rfl, rfl, ⟨[v2], [.string x.f3, .int .u32 x.f4, .int .i64 x.f5, .int .u64 x.f6, .int .u64 x.f7, .bool x.f8, .bool x.f9, .bool x.f10, .bool x.f11], rfl, ⟨v2, rfl, g2⟩, ⟨[.string x.f3], [.int .u32 x.f4, .int .i64 x.f5, .int .u64 x.f6, .int .u64 x.f7, .bool x.f8, .bool x.f9, .bool x.f10, .bool x.f11], rfl, rfl, ⟨[.int .u32 x.f4], [.int .i64 x.f5, .int .u64 x.f6, .int .u64 x.f7, .bool x.f8, .bool x.f9, .bool x.f10, .bool x.f11], rfl, rfl, ⟨[.int .i64 x.f5], [.int .u64 x.f6, .int .u64 x.f7, .bool x.f8, .bool x.f9, .bool x.f10, .bool x.f11], rfl, rfl, ⟨[.int .u64 x.f6], [.int .u64 x.f7, .bool x.f8, .bool x.f9, .bool x.f10, .bool x.f11], rfl, rfl, ⟨[.int .u64 x.f7], [.bool x.f8, .bool x.f9, .bool x.f10, .bool x.f11], rfl, rfl, ⟨[.bool x.f8], [.bool x.f9, .bool x.f10, .bool x.f11], rfl, rfl, ⟨[.bool x.f9], [.bool x.f10, .bool x.f11], rfl, rfl, ⟨[.bool x.f10], [.bool x.f11], rfl, rfl, rfl⟩⟩⟩⟩⟩⟩⟩⟩⟩⟩⟩
theorem k29_openF {W : World} {ok : Nat → Prop} {x : S29} {cs : List Value} (h : Kd.FK k29 W ok x cs) : ∃ A2 c2, cs = [.string x.f0, .string x.f1, .slice A2 x.f2.length c2, .string x.f3, .int .u32 x.f4, .int .i64 x.f5, .int .u64 x.f6, .int .u64 x.f7, .bool x.f8, .bool x.f9, .bool x.f10, .bool x.f11] ∧ x.f2.length ≤ c2 ∧ Kd.F Kd.string W ok A2 x.f2.length x.f2 := by
  obtain ⟨A2, c2, rfl, l2, _⟩ := k29_open (Kd.FK_now h)
  exact ⟨A2, c2, rfl, l2, (fun W' hW => by obtain ⟨A2_, c2_, he, l2_, g2_⟩ := k29_open (h W' hW); injection (Option.some.inj (show some (Value.slice A2 x.f2.length c2) = some (Value.slice A2_ x.f2.length c2_) from congrArg (fun l => l[2]?) he)) with ha_ _ _; rw [ha_]; exact g2_)⟩
theorem k29_mkF (W : World) (ok : Nat → Prop) (x : S29) {A2 : Option Addr} {c2 : Nat} (l2 : x.f2.length ≤ c2) (g2 : Kd.F Kd.string W ok A2 x.f2.length x.f2) : Kd.FK k29 W ok x [.string x.f0, .string x.f1, .slice A2 x.f2.length c2, .string x.f3, .int .u32 x.f4, .int .i64 x.f5, .int .u64 x.f6, .int .u64 x.f7, .bool x.f8, .bool x.f9, .bool x.f10, .bool x.f11] := fun W2 hW => k29_mk W2 x l2 (g2 W2 hW)
def rd_T29 (xs : List S29) (i : Int) : S29 := xs.getD i.toNat z29
theorem at_T29 {w : World} {A : Option Addr} {n : Nat} {xs : List S29} (h : Kd.C k29 w A n xs) (i : Int) (h0 : 0 ≤ i) (h1 : i < n) : ∃ ad A2 c2, A = some ad ∧ w.cell? (ad.add (i.toNat * 12)) = some (.string (rd_T29 xs i).f0) ∧ w.cell? ⟨(ad.add (i.toNat * 12)).block, (ad.add (i.toNat * 12)).off + 1, none⟩ = some (.string (rd_T29 xs i).f1) ∧ w.cell? ⟨(ad.add (i.toNat * 12)).block, (ad.add (i.toNat * 12)).off + 2, none⟩ = some (.slice A2 (rd_T29 xs i).f2.length c2) ∧ w.cell? ⟨(ad.add (i.toNat * 12)).block, (ad.add (i.toNat * 12)).off + 3, none⟩ = some (.string (rd_T29 xs i).f3) ∧ w.cell? ⟨(ad.add (i.toNat * 12)).block, (ad.add (i.toNat * 12)).off + 4, none⟩ = some (.int .u32 (rd_T29 xs i).f4) ∧ w.cell? ⟨(ad.add (i.toNat * 12)).block, (ad.add (i.toNat * 12)).off + 5, none⟩ = some (.int .i64 (rd_T29 xs i).f5) ∧ w.cell? ⟨(ad.add (i.toNat * 12)).block, (ad.add (i.toNat * 12)).off + 6, none⟩ = some (.int .u64 (rd_T29 xs i).f6) ∧ w.cell? ⟨(ad.add (i.toNat * 12)).block, (ad.add (i.toNat * 12)).off + 7, none⟩ = some (.int .u64 (rd_T29 xs i).f7) ∧ w.cell? ⟨(ad.add (i.toNat * 12)).block, (ad.add (i.toNat * 12)).off + 8, none⟩ = some (.bool (rd_T29 xs i).f8) ∧ w.cell? ⟨(ad.add (i.toNat * 12)).block, (ad.add (i.toNat * 12)).off + 9, none⟩ = some (.bool (rd_T29 xs i).f9) ∧ w.cell? ⟨(ad.add (i.toNat * 12)).block, (ad.add (i.toNat * 12)).off + 10, none⟩ = some (.bool (rd_T29 xs i).f10) ∧ w.cell? ⟨(ad.add (i.toNat * 12)).block, (ad.add (i.toNat * 12)).off + 11, none⟩ = some (.bool (rd_T29 xs i).f11) ∧ (rd_T29 xs i).f2.length ≤ c2 ∧ Kd.string.C w A2 (rd_T29 xs i).f2.length (rd_T29 xs i).f2 := by
  obtain ⟨ad, c, e, _, hK, hc0⟩ := Kd.C_get h z29 i h0 h1
  have hc : ∀ j u, c[j]? = some u → w.cell? (ad.add (i.toNat * 12 + j)) = some u := hc0
  obtain ⟨A2, c2, rfl, l2, g2⟩ := k29_open hK
  exact ⟨ad, A2, c2, e, hc 0 _ rfl, by rw [← add_field _ _ 1 (by omega)]; exact hc 1 _ rfl, by rw [← add_field _ _ 2 (by omega)]; exact hc 2 _ rfl, by rw [← add_field _ _ 3 (by omega)]; exact hc 3 _ rfl, by rw [← add_field _ _ 4 (by omega)]; exact hc 4 _ rfl, by rw [← add_field _ _ 5 (by omega)]; exact hc 5 _ rfl, by rw [← add_field _ _ 6 (by omega)]; exact hc 6 _ rfl, by rw [← add_field _ _ 7 (by omega)]; exact hc 7 _ rfl, by rw [← add_field _ _ 8 (by omega)]; exact hc 8 _ rfl, by rw [← add_field _ _ 9 (by omega)]; exact hc 9 _ rfl, by rw [← add_field _ _ 10 (by omega)]; exact hc 10 _ rfl, by rw [← add_field _ _ 11 (by omega)]; exact hc 11 _ rfl, l2, g2⟩

end Go.Proofs.YtfbhlbchmenloaaGreatDoor.H
end
section
namespace Go.Proofs.YtfbhlbchmenloaaGreatDoor.L
open Go
set_option linter.unusedSimpArgs false
set_option linter.unusedVariables false

/-- The words of a line, acc ahead of it. -/
def wl (acc : List UInt8) : List UInt8 → List (List UInt8)
  | [] => if acc = [] then [] else [acc]
  | c :: r => if c = 32 then (if acc = [] then wl [] r else acc :: wl [] r) else wl (acc ++ [c]) r
/-- The pieces between blanks. -/
def pc (acc : List UInt8) : List UInt8 → List (List UInt8)
  | [] => [acc]
  | c :: r => if c = 32 then acc :: pc [] r else pc (acc ++ [c]) r

theorem wl_pc (l : List UInt8) : ∀ acc, wl acc l = (pc acc l).filter (fun w => w ≠ []) := by
  induction l with
  | nil => intro acc; by_cases h : acc = [] <;> simp [wl, pc, h]
  | cons c r ih =>
    intro acc
    by_cases hc : c = 32
    · by_cases h : acc = [] <;> simp [wl, pc, h, hc, ih]
    · simp [wl, pc, hc, ih]

theorem pc_none (l : List UInt8) : ∀ acc, (∀ c ∈ l, c ≠ 32) → pc acc l = [acc ++ l] := by
  induction l with
  | nil => intro acc _; simp [pc]
  | cons c r ih =>
    intro acc h
    have hc : c ≠ 32 := h c (by simp)
    simp only [pc, if_neg hc]
    rw [ih _ (fun d hd => h d (by simp [hd]))]
    simp
theorem pc_hit (l r : List UInt8) : ∀ acc, (∀ c ∈ l, c ≠ 32) → pc acc (l ++ 32 :: r) = (acc ++ l) :: pc [] r := by
  induction l with
  | nil => intro acc _; simp [pc]
  | cons c l ih =>
    intro acc h
    have hc : c ≠ 32 := h c (by simp)
    simp only [List.cons_append, pc, if_neg hc]
    rw [ih _ (fun d hd => h d (by simp [hd]))]
    simp
theorem wl_word (l : List UInt8) : ∀ acc, (∀ c ∈ l, c ≠ 32) → wl acc l = if acc ++ l = [] then [] else [acc ++ l] := by
  intro acc h
  rw [wl_pc, pc_none l acc h]
  by_cases e : acc ++ l = [] <;> simp [e]
theorem wl_app (l r : List UInt8) : ∀ acc, wl acc (l ++ 32 :: r) = wl acc l ++ wl [] r := by
  induction l with
  | nil => intro acc; by_cases h : acc = [] <;> simp [wl, h]
  | cons c l ih =>
    intro acc
    by_cases hc : c = 32
    · by_cases h : acc = [] <;> simp [wl, h, hc, ih]
    · simp [wl, hc, ih]
/-- Each word is one: not empty, without a blank. -/
theorem wl_ok (l : List UInt8) : ∀ acc, (∀ c ∈ acc, c ≠ 32) → ∀ w ∈ wl acc l, w ≠ [] ∧ ∀ c ∈ w, c ≠ 32 := by
  induction l with
  | nil =>
    intro acc h w hw
    by_cases e : acc = []
    · simp [wl, e] at hw
    · simp [wl, e] at hw; subst hw; exact ⟨e, h⟩
  | cons c r ih =>
    intro acc h w hw
    by_cases hc : c = 32
    · by_cases e : acc = []
      · simp only [wl, if_pos hc, if_pos e] at hw
        exact ih [] (by simp) w hw
      · simp only [wl, if_pos hc, if_neg e] at hw
        rcases List.mem_cons.1 hw with rfl | hw
        · exact ⟨e, h⟩
        · exact ih [] (by simp) w hw
    · simp only [wl, if_neg hc] at hw
      refine ih _ (fun d hd => ?_) w hw
      rcases List.mem_append.1 hd with hd | hd
      · exact h d hd
      · simp at hd; subst hd; exact hc
/-- Words put together by single blanks. -/
def joinW : List (List UInt8) → List UInt8
  | [] => []
  | [w] => w
  | w :: v :: r => w ++ 32 :: joinW (v :: r)
theorem wl_join : ∀ ws : List (List UInt8), (∀ w ∈ ws, w ≠ [] ∧ ∀ c ∈ w, c ≠ 32) → wl [] (joinW ws) = ws
  | [], _ => rfl
  | [w], h => by
    obtain ⟨h1, h2⟩ := h w (by simp)
    rw [joinW, wl_word w [] h2]
    simp [h1]
  | w :: v :: r, h => by
    obtain ⟨h1, h2⟩ := h w (by simp)
    rw [joinW, wl_app, wl_word w [] h2, wl_join (v :: r) (fun u hu => h u (by simp [hu]))]
    simp [h1]
theorem wl_len (l : List UInt8) : ∀ acc, (wl acc l).length ≤ acc.length + l.length := by
  induction l with
  | nil =>
    intro acc
    by_cases e : acc = []
    · simp [wl, e]
    · have := List.length_pos_iff.2 e
      simp [wl, e]; omega
  | cons c r ih =>
    intro acc
    by_cases hc : c = 32
    · by_cases e : acc = []
      · have := ih []
        simp [wl, hc, e] at this ⊢; omega
      · have := ih []
        have h1 := List.length_pos_iff.2 e
        simp [wl, hc, e] at this ⊢; omega
    · have := ih (acc ++ [c])
      simp [wl, hc] at this ⊢; omega
theorem pc_len (l : List UInt8) : ∀ acc, (pc acc l).length ≤ 1 + l.length := by
  induction l with
  | nil => intro acc; simp [pc]
  | cons c r ih =>
    intro acc
    by_cases hc : c = 32
    · have := ih []; simp [pc, hc]; omega
    · have := ih (acc ++ [c]); simp [pc, hc]; omega

/-! The library's split at a blank is these pieces. -/
def ba (l : List UInt8) : ByteArray := ⟨l.toArray⟩
theorem ba_toList (l : List UInt8) : (ba l).data.toList = l := by simp [ba]
theorem ba_of (s : ByteArray) : ba s.data.toList = s := by cases s; simp [ba]
def sp : ByteArray := ⟨#[32]⟩
theorem sp_list : sp.data.toList = [32] := rfl
theorem index_sp (s : ByteArray) : Lib.indexB s sp = Lib.indexByte s.data.toList 32 := Lib.index_one _ _
theorem split_pc : ∀ (n : Nat) (s : ByteArray), s.size ≤ n → Lib.splitB sp 0 (Lib.countB s sp) s = (pc [] s.data.toList).map ba
  | n, s, hn => by
    rcases Lib.indexB_cases s sp with hix | ⟨i, hix, hroom⟩
    · rw [Lib.countB_miss s sp hix, Lib.splitB_zero, pc_none]
      · simp [ba_of]
      · intro c hc e
        rw [index_sp] at hix
        obtain ⟨k, hk, hck⟩ := List.getElem_of_mem hc
        exact Lib.indexByte_none hix k (by rw [List.getElem?_eq_getElem hk, hck, e])
    · have hsz : sp.size = 1 := rfl
      rw [hsz] at hroom
      rw [Lib.countB_hit s sp i (by rw [hsz]; omega) hix, Nat.add_comm 1, Lib.splitB_hit sp 0 _ s i hix, hsz]
      have hl : s.data.toList.length = s.size := Array.length_toList
      obtain ⟨m, rfl⟩ : ∃ m, n = m + 1 := ⟨n - 1, by omega⟩
      rw [split_pc m (s.extract (i + 1) s.size) (by rw [ByteArray.size_extract]; omega)]
      rw [index_sp] at hix
      obtain ⟨h1, h2⟩ := Lib.indexByte_some hix
      have hdec : s.data.toList = s.data.toList.take i ++ 32 :: s.data.toList.drop (i + 1) := by
        have hi : i < s.data.toList.length := by omega
        rw [List.getElem?_eq_getElem hi] at h1
        rw [← Option.some.inj h1, ← List.drop_eq_getElem_cons hi, List.take_append_drop]
      have h3 : pc [] s.data.toList = s.data.toList.take i :: pc [] (s.data.toList.drop (i + 1)) := by
        conv => lhs; rw [hdec]
        rw [pc_hit]
        · simp
        · intro c hc e
          obtain ⟨k, hk, hck⟩ := List.getElem_of_mem hc
          rw [List.length_take] at hk
          rw [List.getElem_take] at hck
          exact h2 k (by omega) (by rw [List.getElem?_eq_getElem (by omega), hck, e])
      rw [h3, List.map_cons]
      congr 1
      · rw [← ba_of (s.extract 0 (i + 0)), Lib.extract_data]
        simp
      · congr 2
        rw [Lib.extract_to_end]
theorem len_eq (s : ByteArray) : s.data.toList.length = s.size := Array.length_toList
end Go.Proofs.YtfbhlbchmenloaaGreatDoor.L

namespace Go.Proofs.YtfbhlbchmenloaaGreatDoor.Pure
open Go Go.RowKit Go.Proofs.YtfbhlbchmenloaaGreatDoorW.PrintWords Go.Proofs.YtfbhlbchmenloaaGreatDoor.H Go.Proofs.YtfbhlbchmenloaaGreatDoor.L
set_option linter.unusedSimpArgs false
set_option linter.unusedVariables false

theorem wrap_next {i : Int} (h0 : 0 ≤ i) (h : i < 140737488355328) : wrap64 (i + 1) = i + 1 := by unfold wrap64; omega
theorem rdOf_at {α : Type} (d : α) (xs : List α) (i : Nat) (h : i < xs.length) : rdOf d xs (i : Int) = xs[i] := by
  unfold rdOf
  rw [Int.toNat_natCast, List.getD_eq_getElem?_getD, List.getElem?_eq_getElem h]
  rfl
theorem tl (s : ByteArray) : s.toList = s.data.toList := ByteArray.toList_eq s
theorem tl_ba (l : List UInt8) : (ba l).toList = l := by rw [tl, ba_toList]

theorem split_loop (xs : List ByteArray) (hxs : xs.length < 8000000000000) : ∀ (d i : Nat) (out : List ByteArray), i + d = xs.length → out.length ≤ i →
    Ev (fun k => words_Split.l0 k out xs (xs.length : Int) (i : Int)) (out ++ (xs.drop i).filter (fun s => decide (s.toList ≠ [])))
  | 0, i, out, hi, ho => by
    refine Ev.step (fun k => words_Split.l0.eq_2 _ _ _ _ _) ?_
    simp only [if_neg (show ¬ ((i : Int) < (xs.length : Int)) by omega)]
    rw [List.drop_of_length_le (by omega)]
    simpa using Ev.now _
  | d + 1, i, out, hi, ho => by
    have hlt : i < xs.length := by omega
    refine Ev.step (fun k => words_Split.l0.eq_2 _ _ _ _ _) ?_
    simp only [if_pos (show (i : Int) < (xs.length : Int) by omega), if_pos (show (0 : Int) ≤ (i : Int) by omega), rdOf_at ByteArray.empty xs i hlt, wrap_next (show (0 : Int) ≤ (i : Int) by omega) (by omega)]
    rw [List.drop_eq_getElem_cons hlt]
    by_cases he : xs[i].toList = []
    · simp only [if_pos he]
      have h := split_loop xs hxs d (i + 1) out (by omega) (by omega)
      rw [List.filter_cons, if_neg (by simp [he])]
      exact h
    · simp only [if_neg he, if_pos (show out.length < 8796093022208 by omega)]
      have h := split_loop xs hxs d (i + 1) (out ++ [xs[i]]) (by omega) (by simp; omega)
      rw [List.append_assoc, List.singleton_append] at h
      rw [List.filter_cons, if_pos (by simpa using he)]
      exact h
theorem evSplit (s : ByteArray) (hs : s.size < 4000000000) : Ev (fun k => words_Split.f k s) ((wl [] s.data.toList).map ba) := by
  have hp : strings_Split.f s ⟨#[32]⟩ = some ((pc [] s.data.toList).map ba) := by
    unfold strings_Split.f
    rw [if_pos ⟨by omega, by show 1 ≤ 1; omega⟩]
    exact congrArg some (split_pc s.size s (Nat.le_refl _))
  have hl : s.data.toList.length = s.size := Array.length_toList
  have hlen : ((pc [] s.data.toList).map ba).length < 8000000000000 := by
    have := pc_len s.data.toList []
    rw [List.length_map]; omega
  have h := split_loop _ hlen _ 0 [] (Nat.zero_add _) (Nat.le_refl _)
  unfold words_Split.f
  simp only [hp, Option.bind_some]
  rw [wl_pc]
  refine Ev.congr (fun k => rfl) ?_
  have e : ([] : List ByteArray) ++ (((pc [] s.data.toList).map ba).drop 0).filter (fun s => decide (s.toList ≠ [])) = ((pc [] s.data.toList).filter (fun w => decide (w ≠ []))).map ba := by
    rw [List.nil_append, List.drop_zero, List.filter_map]
    congr 1
    apply List.filter_congr
    intro w _
    simp [tl_ba]
  rw [e] at h
  exact h
def numG (acc : Nat) : List UInt8 → Int × Bool
  | [] => ((acc : Int), true)
  | c :: r => if 48 ≤ c.toNat ∧ c.toNat ≤ 57 then (if 1844674407370955161 < acc ∨ (acc = 1844674407370955161 ∧ 5 < c.toNat - 48) then (0, false) else numG (acc * 10 + (c.toNat - 48)) r) else (0, false)
theorem numG_bad : ∀ (l : List UInt8) (acc : Nat), l.all isDig ≠ true → numG acc l = (0, false)
  | [], acc, h => by simp at h
  | c :: r, acc, h => by
    unfold numG
    by_cases hc : 48 ≤ c.toNat ∧ c.toNat ≤ 57
    · rw [if_pos hc]
      by_cases ho : 1844674407370955161 < acc ∨ (acc = 1844674407370955161 ∧ 5 < c.toNat - 48)
      · rw [if_pos ho]
      · rw [if_neg ho]
        refine numG_bad r _ (fun e => h ?_)
        rw [List.all_cons, e]
        simp [isDig, hc.1, hc.2]
    · rw [if_neg hc]
theorem numG_parse : ∀ (l : List UInt8) (acc : Nat), l.all isDig = true → (match Lib.parseUintM (2 ^ 64 - 1) acc l with | .ok u => ((u : Int), true) | _ => (0, false)) = numG acc l
  | [], acc, _ => rfl
  | c :: r, acc, h => by
    rw [List.all_cons, Bool.and_eq_true] at h
    have hc : 48 ≤ c.toNat ∧ c.toNat ≤ 57 := by have := h.1; simp [isDig] at this; exact this
    unfold numG Lib.parseUintM
    rw [if_pos hc, if_pos hc]
    by_cases h1 : 1844674407370955162 ≤ acc
    · rw [if_pos h1, if_pos (by omega)]
    · rw [if_neg h1]
      by_cases h2 : 2 ^ 64 - 1 < acc * 10 + (c.toNat - 48)
      · rw [if_pos h2, if_pos (by omega)]
      · rw [if_neg h2, if_neg (by omega)]
        exact numG_parse r _ h.2
theorem numF_eq (l : List UInt8) : numF l = if l.length < 1 ∨ 20 < l.length then (0, false) else numG 0 l := by
  unfold numF
  by_cases h : l.length < 1 ∨ 20 < l.length
  · rw [if_pos h, if_pos h]
  · rw [if_neg h, if_neg h]
    by_cases hd : l.all isDig = true
    · rw [if_pos hd]
      unfold Lib.parseUintB
      rw [if_neg (by intro e; rw [e] at h; simp at h)]
      exact numG_parse l 0 hd
    · rw [if_neg hd, numG_bad l 0 hd]
theorem numG_range : ∀ (l : List UInt8) (acc : Nat), acc < 18446744073709551616 → 0 ≤ (numG acc l).1 ∧ (numG acc l).1 < 18446744073709551616
  | [], acc, h => by simp [numG]; omega
  | c :: r, acc, h => by
    unfold numG
    by_cases hc : 48 ≤ c.toNat ∧ c.toNat ≤ 57
    · rw [if_pos hc]
      by_cases ho : 1844674407370955161 < acc ∨ (acc = 1844674407370955161 ∧ 5 < c.toNat - 48)
      · rw [if_pos ho]; simp
      · rw [if_neg ho]; exact numG_range r _ (by omega)
    · rw [if_neg hc]; simp
theorem numF_range (l : List UInt8) : 0 ≤ (numF l).1 ∧ (numF l).1 < 18446744073709551616 := by
  rw [numF_eq]
  by_cases h : l.length < 1 ∨ 20 < l.length
  · rw [if_pos h]; simp
  · rw [if_neg h]; exact numG_range l 0 (by omega)

def negL : List UInt8 → Bool
  | c :: _ => c == 45
  | [] => false
def signF (l : List UInt8) : Int × Bool :=
  if negL l = true then (if (numF (l.drop 1)).2 = true ∧ (numF (l.drop 1)).1 ≤ 9223372036854775808 then (wrap64 (-(wrap64 (numF (l.drop 1)).1)), true) else (0, false))
  else (if (numF l).2 = true ∧ (numF l).1 < 9223372036854775808 then (wrap64 (numF l).1, true) else (0, false))
theorem hasPrefix_minus (s : ByteArray) : strings_HasPrefix.f s ⟨#[45]⟩ = some (negL s.data.toList) := by
  unfold strings_HasPrefix.f stringslite_HasPrefix.f
  have e1 : ((⟨#[45]⟩ : ByteArray).size : Int) = 1 := rfl
  simp only [e1]
  have hl := len_eq s
  by_cases h : 1 ≤ s.size
  · rw [if_pos (by omega), if_pos (by omega), if_pos (by omega), Option.bind_some]
    rw [tl, tl, Lib.extract_data]
    match hm : s.data.toList with
    | [] => rw [hm] at hl; simp at hl; omega
    | c :: r => simp [negL]
  · rw [if_neg (by omega), Option.bind_some]
    have : s.data.toList = [] := List.eq_nil_of_length_eq_zero (by omega)
    rw [this]
    rfl
theorem trimPrefix_minus (s : ByteArray) : strings_TrimPrefix.f s ⟨#[45]⟩ = some (if negL s.data.toList = true then s.extract 1 s.size else s) := by
  have hp := hasPrefix_minus s
  unfold strings_HasPrefix.f at hp
  have hp2 : stringslite_HasPrefix.f s ⟨#[45]⟩ = some (negL s.data.toList) := by
    cases h : stringslite_HasPrefix.f s ⟨#[45]⟩ with
    | none => rw [h] at hp; cases hp
    | some b => rw [h] at hp; exact hp
  unfold strings_TrimPrefix.f stringslite_TrimPrefix.f
  have e1 : ((⟨#[45]⟩ : ByteArray).size : Int) = 1 := rfl
  rw [hp2]
  simp only [Option.bind_some, e1]
  by_cases h : negL s.data.toList = true
  · have hl := len_eq s
    have : 1 ≤ s.size := by
      by_cases h0 : 1 ≤ s.size
      · exact h0
      · have e : s.data.toList = [] := List.eq_nil_of_length_eq_zero (by omega)
        rw [e] at h; cases h
    rw [if_pos h, if_pos h, if_pos (by omega), if_pos (by omega)]
    rfl
  · rw [if_neg h, if_neg h]
    rfl
theorem evSigned (s : ByteArray) : Ev (fun k => words_Signed.f k s) (signF s.data.toList) := by
  unfold words_Signed.f signF words_Number.f
  simp only [trimPrefix_minus, hasPrefix_minus, Option.bind_some]
  by_cases h : negL s.data.toList = true
  · simp only [if_pos h, Lib.extract_to_end]
    by_cases h1 : (numF (s.data.toList.drop 1)).2 = true
    · simp only [if_pos h1]
      refine Ev.step (fun k => words_Signed.j0.eq_2 _ _ _ _) ?_
      by_cases h2 : (numF (s.data.toList.drop 1)).1 ≤ 9223372036854775808
      · simp only [decide_eq_true h2, if_true, if_pos (And.intro h1 h2)]; exact Ev.now _
      · simp only [decide_eq_false h2, Bool.false_eq_true, if_false, hasPrefix_minus, Option.bind_some, if_pos h, if_neg (fun e : _ ∧ _ => h2 e.2)]; exact Ev.now _
    · simp only [if_neg h1, if_neg (fun e : _ ∧ _ => h1 e.1)]; exact Ev.now _
  · simp only [if_neg h]
    by_cases h1 : (numF s.data.toList).2 = true
    · simp only [if_pos h1]
      refine Ev.step (fun k => words_Signed.j0.eq_2 _ _ _ _) ?_
      simp only [Bool.false_eq_true, if_false, hasPrefix_minus, Option.bind_some, if_neg h]
      by_cases h2 : (numF s.data.toList).1 < 9223372036854775808
      · simp only [if_pos h2, if_pos (And.intro h1 h2)]; exact Ev.now _
      · simp only [if_neg h2, if_neg (fun e : _ ∧ _ => h2 e.2)]; exact Ev.now _
    · simp only [if_neg h1, if_neg (fun e : _ ∧ _ => h1 e.1)]; exact Ev.now _
end Go.Proofs.YtfbhlbchmenloaaGreatDoor.Pure
end
section
namespace Go.Proofs.YtfbhlbchmenloaaGreatDoor.Pure
open Go Go.RowKit Go.Proofs.YtfbhlbchmenloaaGreatDoorW.PrintWords Go.Proofs.YtfbhlbchmenloaaGreatDoor.H Go.Proofs.YtfbhlbchmenloaaGreatDoor.L
set_option linter.unusedSimpArgs false
set_option linter.unusedVariables false
theorem ba_ext {a b : ByteArray} (h : a.data.toList = b.data.toList) : a = b := by rw [← ba_of a, ← ba_of b, h]
theorem tl_inj (a b : ByteArray) : a.toList = b.toList ↔ a = b := by
 rw [tl, tl]
 exact ⟨ba_ext, fun h => by rw [h]⟩
theorem beq_tl (a b : ByteArray) (l : List UInt8) (hl : b.toList = l) : (a.toList == l) = decide (a = b) := by
 subst hl
 rw [Bool.eq_iff_iff, beq_iff_eq, decide_eq_true_iff, tl_inj]
theorem eq_tl (a b : ByteArray) (l : List UInt8) (hl : b.toList = l) : (a.toList = l) = (a = b) := by
 subst hl
 rw [tl_inj]
def memB (a : ByteArray) (xs : List ByteArray) : Bool := xs.any fun z => decide (a = z)
def at_ (ws : List ByteArray) (i : Nat) : ByteArray := ws.getD i ByteArray.empty
theorem evIndex (xs : List ByteArray) (a : ByteArray) (hxs : xs.length < 1000000) : ∀ (d i : Nat), i + d = xs.length →
  ∃ r, Ev (fun k => slices_Index_string_string.l0 k xs a (xs.length : Int) (i : Int)) r ∧ decide (r ≥ 0) = memB a (xs.drop i)
 | 0, i, hi => by
  refine ⟨-1, Ev.step (fun k => slices_Index_string_string.l0.eq_2 _ _ _ _ _) ?_, ?_⟩
  ·simp only [if_neg (show ¬ (i : Int) < (xs.length : Int) by omega)]; exact Ev.now _
  ·rw [List.drop_of_length_le (by omega)]; rfl
 | d + 1, i, hi => by
  have hlt : i < xs.length := by omega
  by_cases he : a = xs[i]
  ·refine ⟨(i : Int), Ev.step (fun k => slices_Index_string_string.l0.eq_2 _ _ _ _ _) ?_, ?_⟩
   ·simp only [if_pos (show (i : Int) < (xs.length : Int) by omega), if_pos (show (0 : Int) ≤ (i : Int) by omega), rdOf_at ByteArray.empty xs i hlt, tl_inj, if_pos he]; exact Ev.now _
   ·rw [List.drop_eq_getElem_cons hlt]
    unfold memB
    rw [List.any_cons, decide_eq_true he, Bool.true_or]
    exact decide_eq_true (by omega)
  ·obtain ⟨r, h1, h2⟩ := evIndex xs a hxs d (i + 1) (by omega)
   refine ⟨r, Ev.step (fun k => slices_Index_string_string.l0.eq_2 _ _ _ _ _) ?_, ?_⟩
   ·simp only [if_pos (show (i : Int) < (xs.length : Int) by omega), if_pos (show (0 : Int) ≤ (i : Int) by omega), rdOf_at ByteArray.empty xs i hlt, tl_inj, if_neg he, wrap_next (show (0 : Int) ≤ (i : Int) by omega) (by omega)]
    exact h1
   ·rw [h2, List.drop_eq_getElem_cons hlt]
    unfold memB
    rw [List.any_cons, decide_eq_false he, Bool.false_or]
theorem evContains (xs : List ByteArray) (a : ByteArray) (hxs : xs.length < 1000000) : Ev (fun k => slices_Contains_string_string.f k xs a) (memB a xs) := by
 obtain ⟨r, h1, h2⟩ := evIndex xs a hxs xs.length 0 (by omega)
 unfold slices_Contains_string_string.f slices_Index_string_string.f
 rw [List.drop_zero] at h2
 rw [← h2]
 exact Ev.bind h1 (Ev.now _)
@[reducible] def noreplyW : ByteArray := ⟨#[110, 111, 114, 101, 112, 108, 121]⟩
@[reducible] def noughtW : ByteArray := ⟨#[48]⟩
def endsR (ws : List ByteArray) (n : Nat) (more : List ByteArray) : Bool × Bool :=
 if ws.length = n then (false, true) else if ws.length = n + 1 ∧ memB (at_ ws n) more = true then (decide (at_ ws n = noreplyW), true) else (false, false)
theorem endsR_len {ws : List ByteArray} {n : Nat} {more : List ByteArray} (h : (endsR ws n more).2 = true) : ws.length = n ∨ ws.length = n + 1 := by
 unfold endsR at h
 by_cases h1 : ws.length = n
 ·exact .inl h1
 ·rw [if_neg h1] at h
  by_cases h2 : ws.length = n + 1 ∧ memB (at_ ws n) more = true
  ·exact .inr h2.1
  ·rw [if_neg h2] at h; cases h
theorem rdOf_at_ (ws : List ByteArray) (n : Nat) (h : n < ws.length) : rdOf ByteArray.empty ws (n : Int) = at_ ws n := by
 rw [rdOf_at _ _ _ h]
 unfold at_
 rw [List.getD_eq_getElem?_getD, List.getElem?_eq_getElem h]
 rfl
theorem evEnds (ws : List ByteArray) (n : Nat) (a : Int) (ha : a = (n : Int)) (hn : n < 1000) (more : List ByteArray) (hm : more.length < 1000000) : Ev (fun k => parse_ends.f k ws a more) (endsR ws n more) := by
 subst ha
 unfold parse_ends.f endsR
 have hw : wrap64 ((n : Int) + 1) = ((n + 1 : Nat) : Int) := by unfold wrap64; omega
 by_cases h1 : ws.length = n
 ·simp only [h1, if_true]
  exact Ev.now _
 ·simp only [if_neg (show ¬ (ws.length : Int) = (n : Int) by omega), if_neg h1, hw]
  by_cases h2 : ws.length = n + 1
  ·have e2 : (ws.length = n + 1 ∧ memB (at_ ws n) more = true) = (memB (at_ ws n) more = true) := propext ⟨fun z => z.2, fun z => ⟨h2, z⟩⟩
   simp only [if_pos (show (ws.length : Int) = ((n + 1 : Nat) : Int) by omega), if_pos (show (0 : Int) ≤ (n : Int) by omega), if_pos (show (n : Int) < (ws.length : Int) by omega), rdOf_at_ ws n (by omega), e2]
   refine Ev.bind (evContains more _ hm) ?_
   by_cases h3 : memB (at_ ws n) more = true
   ·simp only [if_pos h3]
    rw [beq_tl (at_ ws n) noreplyW _ (tl _)]
    exact Ev.now _
   ·simp only [if_neg h3]
    exact Ev.now _
  ·simp only [if_neg (show ¬ (ws.length : Int) = ((n + 1 : Nat) : Int) by omega), if_neg (fun e : _ ∧ _ => h2 e.1)]
   exact Ev.now _
@[reducible] def getW : ByteArray := ⟨#[103, 101, 116]⟩
@[reducible] def getsW : ByteArray := ⟨#[103, 101, 116, 115]⟩
@[reducible] def gatW : ByteArray := ⟨#[103, 97, 116]⟩
@[reducible] def gatsW : ByteArray := ⟨#[103, 97, 116, 115]⟩
@[reducible] def setW : ByteArray := ⟨#[115, 101, 116]⟩
@[reducible] def addW : ByteArray := ⟨#[97, 100, 100]⟩
@[reducible] def replaceW : ByteArray := ⟨#[114, 101, 112, 108, 97, 99, 101]⟩
@[reducible] def appendW : ByteArray := ⟨#[97, 112, 112, 101, 110, 100]⟩
@[reducible] def prependW : ByteArray := ⟨#[112, 114, 101, 112, 101, 110, 100]⟩
@[reducible] def casW : ByteArray := ⟨#[99, 97, 115]⟩
@[reducible] def incrW : ByteArray := ⟨#[105, 110, 99, 114]⟩
@[reducible] def decrW : ByteArray := ⟨#[100, 101, 99, 114]⟩
@[reducible] def touchW : ByteArray := ⟨#[116, 111, 117, 99, 104]⟩
@[reducible] def deleteW : ByteArray := ⟨#[100, 101, 108, 101, 116, 101]⟩
@[reducible] def flushW : ByteArray := ⟨#[102, 108, 117, 115, 104, 95, 97, 108, 108]⟩
@[reducible] def versionW : ByteArray := ⟨#[118, 101, 114, 115, 105, 111, 110]⟩
@[reducible] def quitW : ByteArray := ⟨#[113, 117, 105, 116]⟩
@[reducible] def errT : ByteArray := ⟨#[69, 82, 82, 79, 82]⟩
@[reducible] def formT : ByteArray := ⟨#[67, 76, 73, 69, 78, 84, 95, 69, 82, 82, 79, 82, 32, 98, 97, 100, 32, 99, 111, 109, 109, 97, 110, 100, 32, 108, 105, 110, 101, 32, 102, 111, 114, 109, 97, 116]⟩
@[reducible] def deltaT : ByteArray := ⟨#[67, 76, 73, 69, 78, 84, 95, 69, 82, 82, 79, 82, 32, 105, 110, 118, 97, 108, 105, 100, 32, 110, 117, 109, 101, 114, 105, 99, 32, 100, 101, 108, 116, 97, 32, 97, 114, 103, 117, 109, 101, 110, 116]⟩
@[reducible] def timeT : ByteArray := ⟨#[67, 76, 73, 69, 78, 84, 95, 69, 82, 82, 79, 82, 32, 105, 110, 118, 97, 108, 105, 100, 32, 101, 120, 112, 116, 105, 109, 101, 32, 97, 114, 103, 117, 109, 101, 110, 116]⟩
@[reducible] def largeT : ByteArray := ⟨#[83, 69, 82, 86, 69, 82, 95, 69, 82, 82, 79, 82, 32, 111, 98, 106, 101, 99, 116, 32, 116, 111, 111, 32, 108, 97, 114, 103, 101, 32, 102, 111, 114, 32, 99, 97, 99, 104, 101]⟩
def storeP (ws : List ByteArray) (six : Bool) : Cm × Int :=
 let en := endsR ws (if six then 6 else 5) [noreplyW]
 let f := numF (at_ ws 2).data.toList
 let e := signF (at_ ws 3).data.toList
 let s := numF (at_ ws 4).data.toList
 let c := if six then numF (at_ ws 5).data.toList else (0, true)
 if en.2 = false then (.bad errT, -1)
 else if keyF (at_ ws 1) = false then (.bad formT, -1)
 else if f.2 = true ∧ e.2 = true ∧ s.2 = true ∧ c.2 = true ∧ f.1 ≤ 4294967295 ∧ s.1 ≤ 2147483647 then
  (if s.1 > 1024 then (.bad largeT, s.1) else (.store (at_ ws 0) (at_ ws 1) ⟨#[]⟩ (f.1 % 4294967296) e.1 c.1 en.1, s.1))
 else (.bad formT, -1)
theorem evStore2 (ws : List ByteArray) (hl : 5 ≤ ws.length) (q : Bool) (f e s c : Int) (hs : 0 ≤ s) (b : Bool) (hb : b = decide (s > 2147483647)) :
  Ev (fun k => parse_store.j2 k ws q f e s c b) (if s ≤ 2147483647 then (if s > 1024 then (.bad largeT, s) else (.store (at_ ws 0) (at_ ws 1) ⟨#[]⟩ (f % 4294967296) e c q, s)) else (.bad formT, -1)) := by
 refine Ev.step (fun k => parse_store.j2.eq_2 _ _ _ _ _ _ _ _) ?_
 subst hb
 by_cases h : s > 2147483647
 ·simp only [decide_eq_true h, if_true, if_neg (show ¬ s ≤ 2147483647 by omega), parse_bad.f, Option.bind_some]; exact Ev.now _
 ·have hw : wrap64 s = s := by unfold wrap64; omega
  simp only [decide_eq_false h, Bool.false_eq_true, if_false, if_pos (show s ≤ 2147483647 by omega), hw, if_pos (show 0 < (ws.length : Int) by omega), if_pos (show 1 < (ws.length : Int) by omega)]
  by_cases h1 : s > 1024
  ·simp only [if_pos h1]; exact Ev.now _
  ·simp only [if_neg h1]; exact Ev.now _
theorem evStore2t (ws : List ByteArray) (q : Bool) (f e s c : Int) : Ev (fun k => parse_store.j2 k ws q f e s c true) (.bad formT, -1) := by
 refine Ev.step (fun k => parse_store.j2.eq_2 _ _ _ _ _ _ _ _) ?_
 simp only [if_true, parse_bad.f, Option.bind_some]; exact Ev.now _
theorem evStore1 (ws : List ByteArray) (hl : 5 ≤ ws.length) (q : Bool) (f e s c : Int × Bool) (hs : 0 ≤ s.1) :
  Ev (fun k => parse_store.j1 k ws q f.1 f.2 e.1 e.2 s.1 s.2 c.1 c.2) (if f.2 = true ∧ e.2 = true ∧ s.2 = true ∧ c.2 = true ∧ f.1 ≤ 4294967295 ∧ s.1 ≤ 2147483647 then
  (if s.1 > 1024 then (.bad largeT, s.1) else (.store (at_ ws 0) (at_ ws 1) ⟨#[]⟩ (f.1 % 4294967296) e.1 c.1 q, s.1)) else (.bad formT, -1)) := by
 refine Ev.step (fun k => parse_store.j1.eq_2 _ _ _ _ _ _ _ _ _ _ _) ?_
 by_cases h1 : f.2 = true
 ·by_cases h2 : e.2 = true
  ·by_cases h3 : s.2 = true
   ·by_cases h4 : c.2 = true
    ·by_cases h5 : f.1 > 4294967295
     ·simp only [if_pos h1, if_pos h2, if_pos h3, if_pos h4, if_pos h5, if_neg (show ¬ (f.2 = true ∧ e.2 = true ∧ s.2 = true ∧ c.2 = true ∧ f.1 ≤ 4294967295 ∧ s.1 ≤ 2147483647) by omega)]
      exact evStore2t _ _ _ _ _ _
     ·simp only [if_pos h1, if_pos h2, if_pos h3, if_pos h4, if_neg h5]
      have h := evStore2 ws hl q f.1 e.1 s.1 c.1 hs _ rfl
      by_cases h6 : s.1 ≤ 2147483647
      ·rw [if_pos h6] at h
       rw [if_pos ⟨h1, h2, h3, h4, by omega, h6⟩]
       exact h
      ·rw [if_neg h6] at h
       rw [if_neg (fun z => h6 z.2.2.2.2.2)]
       exact h
    ·simp only [if_pos h1, if_pos h2, if_pos h3, if_neg h4, if_neg (fun z : _ ∧ _ ∧ _ ∧ _ ∧ _ ∧ _ => h4 z.2.2.2.1)]; exact evStore2t _ _ _ _ _ _
   ·simp only [if_pos h1, if_pos h2, if_neg h3, if_neg (fun z : _ ∧ _ ∧ _ ∧ _ ∧ _ ∧ _ => h3 z.2.2.1)]; exact evStore2t _ _ _ _ _ _
  ·simp only [if_pos h1, if_neg h2, if_neg (fun z : _ ∧ _ ∧ _ ∧ _ ∧ _ ∧ _ => h2 z.2.1)]; exact evStore2t _ _ _ _ _ _
 ·simp only [if_neg h1, if_neg (fun z : _ ∧ _ ∧ _ ∧ _ ∧ _ ∧ _ => h1 z.1)]; exact evStore2t _ _ _ _ _ _
theorem evStore0 (ws : List ByteArray) (six : Bool) (a : Int) (ha : a = if six = true then 6 else 5) : Ev (fun k => parse_store.j0 k ws a) (storeP ws six) := by
 refine Ev.step (fun k => parse_store.j0.eq_2 _ _ _) ?_
 unfold storeP
 refine Ev.bind (evEnds ws (if six = true then 6 else 5) a (by rw [ha]; cases six <;> rfl) (by cases six <;> decide) [noreplyW] (by decide)) ?_
 by_cases hen : (endsR ws (if six = true then 6 else 5) [noreplyW]).2 = true
 ·have hl := endsR_len hen
  have hl5 : 5 ≤ ws.length := by cases six <;> simp at hl <;> omega
  simp only [if_pos hen, hen, Bool.true_eq_false, if_false, if_pos (show 1 < (ws.length : Int) by omega), if_pos (show 2 < (ws.length : Int) by omega), if_pos (show 3 < (ws.length : Int) by omega), if_pos (show 4 < (ws.length : Int) by omega), words_Key.f, words_Number.f, Option.bind_some]
  have r1 : rdOf ByteArray.empty ws 1 = at_ ws 1 := rfl
  have r2 : rdOf ByteArray.empty ws 2 = at_ ws 2 := rfl
  have r3 : rdOf ByteArray.empty ws 3 = at_ ws 3 := rfl
  have r4 : rdOf ByteArray.empty ws 4 = at_ ws 4 := rfl
  have r5 : rdOf ByteArray.empty ws 5 = at_ ws 5 := rfl
  simp only [r1, r2, r3, r4, r5]
  by_cases hk : keyF (at_ ws 1) = true
  ·simp only [if_pos hk, hk, Bool.true_eq_false, if_false]
   refine Ev.bind (evSigned _) ?_
   cases six with
   | true =>
    simp only [if_true] at ha hl
    subst ha
    simp only [if_true, if_pos (show 5 < (ws.length : Int) by omega)]
    exact evStore1 ws hl5 _ _ _ _ _ (numF_range _).1
   | false =>
    simp only [Bool.false_eq_true, if_false] at ha
    subst ha
    simp only [show ¬ ((5 : Int) = 6) by decide, if_false, Bool.false_eq_true]
    have h := evStore1 ws hl5 (endsR ws 5 [noreplyW]).1 (numF (at_ ws 2).data.toList) (signF (at_ ws 3).data.toList) (numF (at_ ws 4).data.toList) (0, true) (numF_range _).1
    simp only [true_and] at h ⊢
    exact h
  ·have hk2 : keyF (at_ ws 1) = false := by simpa using hk
   simp only [hk2, Bool.false_eq_true, if_false, if_true, parse_bad.f, Option.bind_some]
   exact Ev.now _
 ·have hen2 := eq_false_of_ne_true hen
  simp only [hen2, Bool.false_eq_true, if_false, if_true, parse_bad.f, Option.bind_some]
  exact Ev.now _
def storeR (ws : List ByteArray) : Cm × Int := storeP ws (decide (at_ ws 0 = casW))
theorem evStore (ws : List ByteArray) (h : 0 < ws.length) : Ev (fun k => parse_store.f k ws) (storeR ws) := by
 unfold parse_store.f storeR
 have r0 : rdOf ByteArray.empty ws 0 = at_ ws 0 := rfl
 simp only [if_pos (show 0 < (ws.length : Int) by omega), r0, eq_tl (at_ ws 0) casW _ (tl _)]
 by_cases hc : at_ ws 0 = casW
 ·simp only [if_pos hc, decide_eq_true hc]; exact evStore0 ws true 6 rfl
 ·simp only [if_neg hc, decide_eq_false hc]; exact evStore0 ws false 5 rfl
def keyedR (ws : List ByteArray) : Cm × Int :=
 let en := endsR ws 3 [noreplyW]
 if en.2 = false then (.bad errT, -1)
 else if keyF (at_ ws 1) = false then (.bad formT, -1)
 else if at_ ws 0 = touchW then (if (signF (at_ ws 2).data.toList).2 = true then (.touch (at_ ws 1) (signF (at_ ws 2).data.toList).1 en.1, -1) else (.bad timeT, -1))
 else (if (numF (at_ ws 2).data.toList).2 = true then (.arith (at_ ws 1) (numF (at_ ws 2).data.toList).1 (decide (at_ ws 0 = decrW)) en.1, -1) else (.bad deltaT, -1))
theorem evKeyed (ws : List ByteArray) : Ev (fun k => parse_keyed.f k ws) (keyedR ws) := by
 unfold parse_keyed.f keyedR
 refine Ev.bind (evEnds ws 3 3 rfl (by decide) [noreplyW] (by decide)) ?_
 by_cases hen : (endsR ws 3 [noreplyW]).2 = true
 ·have hl := endsR_len hen
  have r0 : rdOf ByteArray.empty ws 0 = at_ ws 0 := rfl
  have r1 : rdOf ByteArray.empty ws 1 = at_ ws 1 := rfl
  have r2 : rdOf ByteArray.empty ws 2 = at_ ws 2 := rfl
  simp only [if_pos hen, hen, Bool.true_eq_false, if_false, if_pos (show 0 < (ws.length : Int) by omega), if_pos (show 1 < (ws.length : Int) by omega), if_pos (show 2 < (ws.length : Int) by omega), words_Key.f, words_Number.f, Option.bind_some, r0, r1, r2, eq_tl (at_ ws 0) touchW _ (tl _), beq_tl (at_ ws 0) decrW _ (tl _)]
  by_cases hk : keyF (at_ ws 1) = true
  ·simp only [if_pos hk, hk, Bool.true_eq_false, if_false]
   by_cases ht : at_ ws 0 = touchW
   ·simp only [if_pos ht]
    refine Ev.bind (evSigned _) ?_
    by_cases hs : (signF (at_ ws 2).data.toList).2 = true
    ·simp only [if_pos hs]; exact Ev.now _
    ·simp only [if_neg hs, parse_bad.f, Option.bind_some]; exact Ev.now _
   ·simp only [if_neg ht]
    by_cases hs : (numF (at_ ws 2).data.toList).2 = true
    ·simp only [if_pos hs]; exact Ev.now _
    ·simp only [if_neg hs, parse_bad.f, Option.bind_some]; exact Ev.now _
  ·have hk2 : keyF (at_ ws 1) = false := by simpa using hk
   simp only [hk2, Bool.false_eq_true, if_false, if_true, parse_bad.f, Option.bind_some]
   exact Ev.now _
 ·have hen2 := eq_false_of_ne_true hen
  simp only [hen2, Bool.false_eq_true, if_false, if_true, parse_bad.f, Option.bind_some]
  exact Ev.now _
def deleteR (ws : List ByteArray) : Cm × Int :=
 if (endsR ws 2 [noreplyW, noughtW]).2 = true then (if keyF (at_ ws 1) = true then (.delete (at_ ws 1) (endsR ws 2 [noreplyW, noughtW]).1, -1) else (.bad formT, -1)) else (.bad errT, -1)
def flushR (ws : List ByteArray) : Cm × Int :=
 if (endsR ws 1 [noreplyW, noughtW]).2 = true then (.flush (endsR ws 1 [noreplyW, noughtW]).1, -1) else (.bad errT, -1)
def wordR (ws : List ByteArray) : Cm × Int := if ws.length = 1 then (.word (at_ ws 0), -1) else (.bad errT, -1)
def isStoreW (w : ByteArray) : Prop := w = setW ∨ w = addW ∨ w = replaceW ∨ w = appendW ∨ w = prependW ∨ w = casW
instance (w : ByteArray) : Decidable (isStoreW w) := by unfold isStoreW; infer_instance
def isKeyedW (w : ByteArray) : Prop := w = incrW ∨ w = decrW ∨ w = touchW
instance (w : ByteArray) : Decidable (isKeyedW w) := by unfold isKeyedW; infer_instance
/-- A line that is no Get's. -/
def plainR (ws : List ByteArray) : Cm × Int :=
 if isStoreW (at_ ws 0) then storeR ws else if isKeyedW (at_ ws 0) then keyedR ws else if at_ ws 0 = deleteW then deleteR ws else if at_ ws 0 = flushW then flushR ws
 else if at_ ws 0 = versionW ∨ at_ ws 0 = quitW then wordR ws else (.bad errT, -1)
theorem evOne3 (ws : List ByteArray) (h : 0 < ws.length) (b : Bool) : Ev (fun k => parse_one.j3 k ws b) (if b = true then wordR ws else (.bad errT, -1)) := by
 refine Ev.step (fun k => parse_one.j3.eq_2 _ _ _) ?_
 have r0 : rdOf ByteArray.empty ws 0 = at_ ws 0 := rfl
 unfold wordR
 cases b with
 | true =>
  simp only [if_true, r0, if_pos (show 0 < (ws.length : Int) by omega)]
  by_cases h1 : ws.length = 1
  ·simp only [if_pos (show (ws.length : Int) = 1 by omega), if_pos h1]; exact Ev.now _
  ·simp only [if_neg (show ¬ (ws.length : Int) = 1 by omega), if_neg h1, parse_bad.f, Option.bind_some]; exact Ev.now _
 | false => simp only [Bool.false_eq_true, if_false, parse_bad.f, Option.bind_some]; exact Ev.now _
theorem evOne2 (ws : List ByteArray) (h : 0 < ws.length) (hs : ¬ isStoreW (at_ ws 0)) (b : Bool) (hb : b = decide (isKeyedW (at_ ws 0))) : Ev (fun k => parse_one.j2 k ws (at_ ws 0) b) (plainR ws) := by
 refine Ev.step (fun k => parse_one.j2.eq_2 _ _ _ _) ?_
 subst hb
 have r1 : rdOf ByteArray.empty ws 1 = at_ ws 1 := rfl
 unfold plainR
 rw [if_neg hs]
 by_cases hk : isKeyedW (at_ ws 0)
 ·simp only [if_pos hk, decide_eq_true hk, if_true]
  exact Ev.bind (evKeyed ws) (Ev.now _)
 ·simp only [if_neg hk, decide_eq_false hk, Bool.false_eq_true, if_false, eq_tl (at_ ws 0) deleteW _ (tl _), eq_tl (at_ ws 0) flushW _ (tl _), eq_tl (at_ ws 0) versionW _ (tl _), beq_tl (at_ ws 0) versionW _ (tl _), beq_tl (at_ ws 0) quitW _ (tl _)]
  by_cases hd : at_ ws 0 = deleteW
  ·simp only [if_pos hd, deleteR]
   refine Ev.bind (evEnds ws 2 2 rfl (by decide) [noreplyW, noughtW] (by decide)) ?_
   by_cases he : (endsR ws 2 [noreplyW, noughtW]).2 = true
   ·have hl := endsR_len he
    simp only [if_pos he, if_pos (show 1 < (ws.length : Int) by omega), words_Key.f, Option.bind_some, r1]
    by_cases hk : keyF (at_ ws 1) = true
    ·simp only [if_pos hk]; exact Ev.now _
    ·simp only [if_neg hk, parse_bad.f, Option.bind_some]; exact Ev.now _
   ·simp only [if_neg he, parse_bad.f, Option.bind_some]; exact Ev.now _
  ·simp only [if_neg hd]
   by_cases hf : at_ ws 0 = flushW
   ·simp only [if_pos hf, flushR]
    refine Ev.bind (evEnds ws 1 1 rfl (by decide) [noreplyW, noughtW] (by decide)) ?_
    by_cases he : (endsR ws 1 [noreplyW, noughtW]).2 = true
    ·simp only [if_pos he]; exact Ev.now _
    ·simp only [if_neg he, parse_bad.f, Option.bind_some]; exact Ev.now _
   ·simp only [if_neg hf]
    by_cases hv : at_ ws 0 = versionW
    ·simp only [if_pos hv, if_pos (show at_ ws 0 = versionW ∨ at_ ws 0 = quitW from .inl hv), decide_eq_true hv]
     exact evOne3 ws h true
    ·simp only [if_neg hv]
     have h3 := evOne3 ws h (decide (at_ ws 0 = quitW))
     by_cases hq : at_ ws 0 = quitW
     ·rw [if_pos (show at_ ws 0 = versionW ∨ at_ ws 0 = quitW from .inr hq)]
      rw [if_pos (decide_eq_true hq)] at h3
      exact h3
     ·rw [if_neg (show ¬ (at_ ws 0 = versionW ∨ at_ ws 0 = quitW) from fun z => z.elim hv hq)]
      rw [if_neg (by simpa using hq)] at h3
      exact h3
theorem evOne1 (ws : List ByteArray) (h : 0 < ws.length) (b : Bool) (hb : b = decide (isStoreW (at_ ws 0))) : Ev (fun k => parse_one.j1 k ws (at_ ws 0) b) (plainR ws) := by
 refine Ev.step (fun k => parse_one.j1.eq_2 _ _ _ _) ?_
 subst hb
 by_cases hs : isStoreW (at_ ws 0)
 ·simp only [decide_eq_true hs, if_true]
  unfold plainR
  rw [if_pos hs]
  exact Ev.bind (evStore ws h) (Ev.now _)
 ·simp only [decide_eq_false hs, Bool.false_eq_true, if_false, eq_tl (at_ ws 0) incrW _ (tl _), eq_tl (at_ ws 0) decrW _ (tl _), beq_tl (at_ ws 0) incrW _ (tl _), beq_tl (at_ ws 0) decrW _ (tl _), beq_tl (at_ ws 0) touchW _ (tl _)]
  by_cases h1 : at_ ws 0 = incrW
  ·simp only [if_pos h1]; exact evOne2 ws h hs _ (decide_eq_decide.2 ⟨fun z => .inl z, fun _ => h1⟩)
  ·simp only [if_neg h1]
   by_cases h2 : at_ ws 0 = decrW
   ·simp only [if_pos h2]; exact evOne2 ws h hs _ (decide_eq_decide.2 ⟨fun z => .inr (.inl z), fun _ => h2⟩)
   ·simp only [if_neg h2]; exact evOne2 ws h hs _ (decide_eq_decide.2 ⟨fun z => .inr (.inr z), fun z => z.elim (fun e => absurd e h1) fun z => z.elim (fun e => absurd e h2) id⟩)
theorem evOne0 (ws : List ByteArray) (h : 0 < ws.length) : Ev (fun k => parse_one.j0 k ws (at_ ws 0) false) (plainR ws) := by
 refine Ev.step (fun k => parse_one.j0.eq_2 _ _ _ _) ?_
 simp only [Bool.false_eq_true, if_false, eq_tl (at_ ws 0) setW _ (tl _), eq_tl (at_ ws 0) addW _ (tl _), eq_tl (at_ ws 0) replaceW _ (tl _), eq_tl (at_ ws 0) appendW _ (tl _), eq_tl (at_ ws 0) prependW _ (tl _), beq_tl (at_ ws 0) setW _ (tl _), beq_tl (at_ ws 0) addW _ (tl _), beq_tl (at_ ws 0) replaceW _ (tl _), beq_tl (at_ ws 0) appendW _ (tl _), beq_tl (at_ ws 0) prependW _ (tl _), beq_tl (at_ ws 0) casW _ (tl _)]
 by_cases h1 : at_ ws 0 = setW
 ·simp only [if_pos h1]; exact evOne1 ws h _ (decide_eq_decide.2 ⟨fun z => .inl z, fun _ => h1⟩)
 ·simp only [if_neg h1]
  by_cases h2 : at_ ws 0 = addW
  ·simp only [if_pos h2]; exact evOne1 ws h _ (decide_eq_decide.2 ⟨fun z => .inr (.inl z), fun _ => h2⟩)
  ·simp only [if_neg h2]
   by_cases h3 : at_ ws 0 = replaceW
   ·simp only [if_pos h3]; exact evOne1 ws h _ (decide_eq_decide.2 ⟨fun z => .inr (.inr (.inl z)), fun _ => h3⟩)
   ·simp only [if_neg h3]
    by_cases h4 : at_ ws 0 = appendW
    ·simp only [if_pos h4]; exact evOne1 ws h _ (decide_eq_decide.2 ⟨fun z => .inr (.inr (.inr (.inl z))), fun _ => h4⟩)
    ·simp only [if_neg h4]
     by_cases h5 : at_ ws 0 = prependW
     ·simp only [if_pos h5]; exact evOne1 ws h _ (decide_eq_decide.2 ⟨fun z => .inr (.inr (.inr (.inr (.inl z)))), fun _ => h5⟩)
     ·simp only [if_neg h5]; exact evOne1 ws h _ (decide_eq_decide.2 ⟨fun z => .inr (.inr (.inr (.inr (.inr z)))), fun z => z.elim (fun e => absurd e h1) fun z => z.elim (fun e => absurd e h2) fun z => z.elim (fun e => absurd e h3) fun z => z.elim (fun e => absurd e h4) fun z => z.elim (fun e => absurd e h5) id⟩)
/-- What a line's words tell. -/
def lineX (ws : List ByteArray) : Cx × Int :=
 match ws with
 | [] => (.pl (.bad errT), -1)
 | w :: r =>
  if w = getW then (get1 false r, -1) else if w = getsW then (get1 true r, -1)
  else if w = gatW then (match r with | x :: y :: ks => (getX (y :: ks) false true (signF x.data.toList), -1) | _ => (badX, -1))
  else if w = gatsW then (match r with | x :: y :: ks => (getX (y :: ks) true true (signF x.data.toList), -1) | _ => (badX, -1))
  else (.pl (plainR (w :: r)).1, (plainR (w :: r)).2)
theorem evMap {α β : Type} {g : Nat → Option α} {a : α} (f : α → β) (h : Ev g a) : Ev (fun k => (g k).map f) (f a) := by
 obtain ⟨K, hK⟩ := h
 exact ⟨K, fun k hk => by show (g k).map f = _; rw [hK k hk]; rfl⟩
theorem ev_get2 (ca : Bool) (r : List ByteArray) : Ev (fun k => get2 k ca r) (match r with | x :: y :: ks => getX (y :: ks) ca true (signF x.data.toList) | _ => badX) := by
 match r with
 | [] => exact Ev.now _
 | [a] => exact Ev.now _
 | a :: b :: ks => exact evMap (fun sg => getX (b :: ks) ca true sg) (evSigned a)
theorem evPlain (s : ByteArray) (hs : s.size < 4000000000) (ws : List ByteArray) (hws : (wl [] s.data.toList).map ba = ws) (h : 0 < ws.length) (hg : isGet (at_ ws 0) ≠ true) : Ev (fun k => parse_one.f k s) (plainR ws) := by
 unfold parse_one.f
 refine Ev.bind (hws ▸ evSplit s hs) ?_
 unfold isGet at hg
 simp only [ne_eq, Bool.or_eq_true, decide_eq_true_iff, not_or] at hg
 obtain ⟨⟨⟨g1, g2⟩, g3⟩, g4⟩ := hg
 have r0 : rdOf ByteArray.empty ws 0 = at_ ws 0 := rfl
 simp only [if_neg (show ¬ (ws.length : Int) = 0 by omega), if_pos (show 0 < (ws.length : Int) by omega), r0, eq_tl (at_ ws 0) getW _ (tl _), eq_tl (at_ ws 0) getsW _ (tl _), eq_tl (at_ ws 0) gatW _ (tl _), beq_tl (at_ ws 0) gatsW _ (tl _), if_neg g1, if_neg g2, if_neg g3, decide_eq_false g4]
 exact evOne0 ws h
theorem evOneF (s : ByteArray) (hs : s.size < 4000000000) : Ev (fun k => oneF k s) (lineX ((wl [] s.data.toList).map ba)) := by
 generalize hws : (wl [] s.data.toList).map ba = ws
 unfold oneF
 refine Ev.bind (hws ▸ evSplit s hs) ?_
 match ws, hws with
 | [], hws =>
  have hp : Ev (fun k => parse_one.f k s) (Cm.bad errT, (-1 : Int)) := by
   unfold parse_one.f
   refine Ev.bind (hws ▸ evSplit s hs) ?_
   simp only [List.length_nil, Int.natCast_zero, if_true, parse_bad.f, Option.bind_some]
   exact Ev.now _
  exact evMap (fun p : Cm × Int => (Cx.pl p.1, p.2)) hp
 | w :: r, hws =>
  by_cases hg : isGet w = true
  ·simp only [if_pos hg, lineX, getLine]
   unfold isGet at hg
   simp only [Bool.or_eq_true, decide_eq_true_iff] at hg
   by_cases g1 : w = getW
   ·simp only [if_pos g1]; exact evMap (fun x : Cx => (x, (-1 : Int))) (Ev.now _)
   ·simp only [if_neg g1]
    by_cases g2 : w = getsW
    ·simp only [if_pos g2]; exact evMap (fun x : Cx => (x, (-1 : Int))) (Ev.now _)
    ·simp only [if_neg g2]
     by_cases g3 : w = gatW
     ·simp only [if_pos g3]
      have h := evMap (fun x : Cx => (x, (-1 : Int))) (ev_get2 false r)
      match r, h with
      | [], h => exact h
      | [a], h => exact h
      | a :: b :: ks, h => exact h
     ·simp only [if_neg g3]
      have g4 : w = gatsW := by
       rcases hg with ((h | h) | h) | h
       ·exact absurd h g1
       ·exact absurd h g2
       ·exact absurd h g3
       ·exact h
      simp only [if_pos g4]
      have h := evMap (fun x : Cx => (x, (-1 : Int))) (ev_get2 true r)
      match r, h with
      | [], h => exact h
      | [a], h => exact h
      | a :: b :: ks, h => exact h
  ·simp only [if_neg hg, lineX]
   have hg2 := hg
   unfold isGet at hg2
   simp only [Bool.or_eq_true, decide_eq_true_iff, not_or] at hg2
   obtain ⟨⟨⟨g1, g2⟩, g3⟩, g4⟩ := hg2
   rw [if_neg g1, if_neg g2, if_neg g3, if_neg g4]
   exact evMap (fun p : Cm × Int => (Cx.pl p.1, p.2)) (evPlain s hs (w :: r) hws (by simp) hg)
end Go.Proofs.YtfbhlbchmenloaaGreatDoor.Pure
end
section
namespace Go.Proofs.YtfbhlbchmenloaaGreatDoor.H
open Go.RowKit Go.Proofs.YtfbhlbchmenloaaGreatDoorW.PrintWords Go.Proofs.YtfbhlbchmenloaaGreatDoorW.PrintLast Go.Proofs.YtfbhlbchmenloaaGreatDoorW.PrintMore
attribute [local go_sem] max2_int min2_int max_two min_two max_three min_three max_four min_four   -- for this text's walks alone
set_option linter.unusedVariables false
set_option linter.unusedSimpArgs false

/-! ### cellaretref1_Split: function 30 -/
def cellaretref1_Split.l0 : Nat → ByteArray → List ByteArray → ByteArray → Int → Option (List ByteArray)
  | 0, _, _, _, _ => none
  | k + 1, x0, x3, x4, x5 => if x5 < (x0.size : Int) then (if 0 ≤ x5 then (if (bt x0 x5) = 32 then (if x4.toList = ([] : List UInt8) then (cellaretref1_Split.l0 k x0 x3 x4 (wrap64 (x5 + 1))) else (if x3.length < 8796093022208 then (cellaretref1_Split.l0 k x0 (x3 ++ [x4]) (⟨#[]⟩ : ByteArray) (wrap64 (x5 + 1))) else (none))) else (if x5 ≤ (wrap64 (x5 + 1)) then (if (wrap64 (x5 + 1)) ≤ (x0.size : Int) then (if x4.size + (x0.extract (x5 : Int).toNat ((wrap64 (x5 + 1)) : Int).toNat).size ≤ 9223372036854775807 then (cellaretref1_Split.l0 k x0 x3 (x4 ++ (x0.extract (x5 : Int).toNat ((wrap64 (x5 + 1)) : Int).toNat)) (wrap64 (x5 + 1))) else (none)) else (none)) else (none))) else (none)) else (if x4.toList = ([] : List UInt8) then (some x3) else (if x3.length < 8796093022208 then (some (x3 ++ [x4])) else (none)))
def cellaretref1_Split.f (k : Nat) (a0 : ByteArray) : Option (List ByteArray) := if 0 ≤ 17592186044416 then (cellaretref1_Split.l0 k a0 (List.replicate 0 (⟨#[]⟩ : ByteArray)) (⟨#[]⟩ : ByteArray) 0) else (none)
theorem cellaretref1_Split.mono_l : ∀ k, (∀ y0 y1 y2 y3, LeO (cellaretref1_Split.l0 k y0 y1 y2 y3) (cellaretref1_Split.l0 (k + 1) y0 y1 y2 y3))
  | 0 => fun _ _ _ _ r h => by simp [cellaretref1_Split.l0] at h
  | k + 1 => by
    have ih0 := cellaretref1_Split.mono_l k
    · intro y0 y1 y2 y3
      unfold cellaretref1_Split.l0
      repeat' first
      | (with_reducible exact ih0 _ _ _ _)
      | (with_reducible exact LeO.refl _)
      | (with_reducible exact LeO.none _)
      | (with_reducible refine LeO.ite ?_ ?_)
      | (with_reducible refine LeO.bind ?_ (fun _ => ?_))
      | exact ih0 _ _ _ _
      | exact LeO.none _
      | refine LeO.ite ?_ ?_
      | refine LeO.bind ?_ (fun _ => ?_)
theorem cellaretref1_Split.mono : ∀ a0 k, LeO (cellaretref1_Split.f k a0) (cellaretref1_Split.f (k + 1) a0) := by
  intro a0 k
  have ih0 := cellaretref1_Split.mono_l k
  unfold cellaretref1_Split.f
  repeat' first
      | (with_reducible exact ih0 _ _ _ _)
      | (with_reducible exact LeO.refl _)
      | (with_reducible exact LeO.none _)
      | (with_reducible refine LeO.ite ?_ ?_)
      | (with_reducible refine LeO.bind ?_ (fun _ => ?_))
      | exact ih0 _ _ _ _
      | exact LeO.none _
      | refine LeO.ite ?_ ?_
      | refine LeO.bind ?_ (fun _ => ?_)
theorem bBY21 {B : Nat} {w W : World} (h : Below B w W := by repeat (first | (with_reducible first | exact HB.out | apply wA | apply wN | apply wD) | exact HB.out)) : Below B w W := h
set_option maxHeartbeats 8000000 in
set_option maxRecDepth 100000 in
theorem cellaretref1_Split.calls (k : Nat) (a0 : ByteArray) (r : List ByteArray) (w : World) (h : cellaretref1_Split.f k a0 = some r) :
  Calls Tryz.prog 30 #[.string a0] w fun e w' => ∃ v0_ : Value, e = .returned (v0_) ∧ Kd.R Kd.string 9 w' w.heap.size (fun _ => True) v0_ r ∧ Below w.heap.size w w' := by
 have HB := M0 (Below.refl w.heap.size w)
 have H : (if 0 ≤ 17592186044416 then (cellaretref1_Split.l0 k a0 (List.replicate 0 (⟨#[]⟩ : ByteArray)) (⟨#[]⟩ : ByteArray) 0) else (none)) = some r := h
 clear h
 by_cases c2 : 0 ≤ 17592186044416
 ·rw [if_pos c2] at H
  have c2b0 := eq_true c2
  have c2b1 : decide (0 ≤ 17592186044416) = true := decide_eq_true c2
  clear c2
  obtain ⟨y166, hy166⟩ : ∃ y_ : List ByteArray, y_ = (List.replicate 0 (⟨#[]⟩ : ByteArray)) := ⟨_, rfl⟩
  replace H : (cellaretref1_Split.l0 k a0 y166 (⟨#[]⟩ : ByteArray) 0) = some r := by first | (rw [hy166]; with_reducible exact H) | (have H2_ := (Option.bind_some _ _).symm.trans H; rw [hy166]; with_reducible exact H2_) | (have H2_ := (Option.bind_some _ _).symm.trans H; with_reducible exact H2_) | with_reducible exact H | (rw [hy166]; exact H) | exact H
  have qA := M0 hy166
  clear hy166
  have H' := M0 H
  clear H
  go_enter Tryz.func30, Tryz.ntmps30
  go_wp2_with (first | ((with_reducible refine gate_dst (N := 6) rfl ?_); refine Kd.R_make Kd.string _ 9 rfl (N := 6) rfl 22 _ _ rfl 0 rfl rfl Tryz.underlying22 (.string ⟨#[]⟩) 16 info9 rfl (by decide) (by omega) (⟨#[]⟩ : ByteArray) (ok := fun _ => True) (okp := fun _ => True) rfl (fun _ hk => hk) trivial (by omega) (by omega) (Below.refl _ _) (Nat.le_refl _) ?_; intro v167 w3 ho4 hb hg_ hnew_; clear hg_ hnew_; (first | rw [← qA.out] at ho4 | (simp only [Int.reduceToNat] at ho4; rw [← qA.out] at ho4)); have n0_ := M0 (Kd.R_lower ho4 (below_size bBY21)); have n1_ := M0 (below_step bBY21 hb); clear HB; have qB := n0_; have HB := n1_; clear n0_ n1_; clear hb ho4))
  go_loopg [3, 4, 5] k (fun kq v3 v4 v5 w' => ∃ (x3_1 : List ByteArray) (x4_1 : ByteArray) (x5_1 : Int), v4 = .string x4_1 ∧ v5 = .int .i64 x5_1 ∧ Aside0 (cellaretref1_Split.l0 kq a0 x3_1 x4_1 x5_1 = some r) ∧ Aside0 (kq ≤ k) ∧ Aside0 (Kd.R Kd.string 9 w' w.heap.size (fun _ => True) v3 x3_1) ∧ Aside0 (Below w.heap.size w w'))
  case atStart => exact ⟨(y166), ((⟨#[]⟩ : ByteArray)), (0), (by first | rfl | (simp; done) | (simp [*]; done)), (by first | rfl | (simp; done) | (simp [*]; done)), H', ⟨Nat.le_refl _⟩, ⟨by (with_reducible repeat (first | apply rA | apply rN | apply rD)); exact qB.out⟩, ⟨bBY21⟩⟩
  case round =>
   clear H'
   try clear c2
   try clear c2b0
   try clear c2b1
   try clear p2
   try clear c3
   obtain ⟨x3_1, x4_1, x5_1, rfl, rfl, HA, HK1, HO_3, HB⟩ := hrel
   cases gk with
   | zero => exact absurd HA.out (by simp [cellaretref1_Split.l0])
   | succ k1 =>
    have H := HA.out
    clear HA
    simp only [cellaretref1_Split.l0] at H
    by_cases c5 : x5_1 < (a0.size : Int)
    ·rw [if_pos c5] at H
     have c5b0 : decide (x5_1 < (a0.size : Int)) = true := decide_eq_true c5
     clear c5
     by_cases c6 : 0 ≤ x5_1
     ·rw [if_pos c6] at H
      have c6b0 : decide (0 ≤ x5_1) = true := decide_eq_true c6
      clear c6
      by_cases c8 : (bt a0 x5_1) = 32
      ·rw [if_pos c8] at H
       have c8b0 : ((bt a0 x5_1) == 32) = true := beq_iff_eq.mpr c8
       have c8b1 : ((bt a0 x5_1) != 32) = false := bne_eq_false_iff_eq.mpr c8
       clear c8
       by_cases c9 : x4_1.toList = ([] : List UInt8)
       ·rw [if_pos c9] at H
        have c9b0 : (x4_1.toList == ([] : List UInt8)) = true := beq_iff_eq.mpr c9
        have c9b1 : (x4_1.toList != ([] : List UInt8)) = false := bne_eq_false_iff_eq.mpr c9
        clear c9
        have H' := M0 H
        clear H
        have p7 : 0 ≤ (x5_1 : Int) := of_decide_eq_true (by first | (with_reducible assumption) | assumption)
        have q7 : x5_1 < (a0.size : Int) := of_decide_eq_true (by first | (with_reducible assumption) | assumption)
        have qI := bt_at a0 x5_1
        replace p7 := eq_true p7
        replace q7 := eq_true q7
        go_wp2
        go_roundg k1
        case measure => have := HK1.out; omega
        case rel => exact ⟨(x3_1), (x4_1), (wrap64 (x5_1 + 1)), (by first | rfl | (simp; done) | (simp [*]; done)), (by first | rfl | (simp; done) | (simp [*]; done)), H', ⟨by have := HK1.out; omega⟩, ⟨by (with_reducible repeat (first | apply rA | apply rN | apply rD)); exact HO_3.out⟩, ⟨bBY21⟩⟩
       ·rw [if_neg c9] at H
        have c9b0 : (x4_1.toList == ([] : List UInt8)) = false := beq_eq_false_iff_ne.mpr c9
        have c9b1 : (x4_1.toList != ([] : List UInt8)) = true := bne_iff_ne.mpr c9
        by_cases c10 : x3_1.length < 8796093022208
        ·rw [if_pos c10] at H
         have qC := M0 c10
         clear c10
         obtain ⟨y172, hy172⟩ : ∃ y_ : List ByteArray, y_ = (x3_1 ++ [x4_1]) := ⟨_, rfl⟩
         replace H : (cellaretref1_Split.l0 k1 a0 y172 (⟨#[]⟩ : ByteArray) (wrap64 (x5_1 + 1))) = some r := by first | (rw [hy172]; with_reducible exact H) | (have H2_ := (Option.bind_some _ _).symm.trans H; rw [hy172]; with_reducible exact H2_) | (have H2_ := (Option.bind_some _ _).symm.trans H; with_reducible exact H2_) | with_reducible exact H | (rw [hy172]; exact H) | exact H
         have qD := M0 hy172
         clear hy172
         have H' := M0 H
         clear H
         have p7 : 0 ≤ (x5_1 : Int) := of_decide_eq_true (by first | (with_reducible assumption) | assumption)
         have q7 : x5_1 < (a0.size : Int) := of_decide_eq_true (by first | (with_reducible assumption) | assumption)
         have qI := bt_at a0 x5_1
         replace p7 := eq_true p7
         replace q7 := eq_true q7
         go_wp2_with (first | ((with_reducible refine gate_builtin (b := .append) (xs := #[.tmp 26, .tmp 28]) rfl ?_); at_builtin; refine Kd.R_append Kd.string (w0 := w) w.heap.size rfl (.tmp 26) (.tmp 28) 22 9 (.string ⟨#[]⟩) 16 rfl Tryz.underlying22 info9 rfl (by decide) (by omega) u3 x3_1 x4_1 [.string x4_1] (fun _ => True) (fun _ => False) rfl rfl ?aP (fun _ hk => hk.elim) ?aF ?aO ?aB ?aS ?aL ?_; (case aP => exact rfl); (case aB => exact bBY21); (case aF => exact (fun _ _ => trivial)); (case aO => exact (by (with_reducible repeat (first | apply rA | apply rN | apply rD)); exact HO_3.out)); (case aS => exact (below_size bBY21)); (case aL => have := qC.out; omega); intro v173 w11 ho hb hg hat; rw [← qD.out] at ho; have n0_ := M0 (hb); have n1_ := M0 (ho); clear HB; clear HO_3; have HB := n0_; have qE := n1_; clear n0_ n1_; clear ho hb hg hat))
         go_roundg k1
         case measure => have := HK1.out; omega
         case rel => exact ⟨(y172), ((⟨#[]⟩ : ByteArray)), (wrap64 (x5_1 + 1)), (by first | rfl | (simp; done) | (simp [*]; done)), (by first | rfl | (simp; done) | (simp [*]; done)), H', ⟨by have := HK1.out; omega⟩, ⟨by (with_reducible repeat (first | apply rA | apply rN | apply rD)); exact qE.out⟩, ⟨bBY21⟩⟩
        ·rw [if_neg c10] at H
         exact absurd H (by simp)
      ·rw [if_neg c8] at H
       have c8b0 : ((bt a0 x5_1) == 32) = false := beq_eq_false_iff_ne.mpr c8
       have c8b1 : ((bt a0 x5_1) != 32) = true := bne_iff_ne.mpr c8
       have c12b0 := eq_true (of_decide_eq_true (by first | (with_reducible assumption) | assumption) : 0 ≤ x5_1)
       by_cases c13 : x5_1 ≤ (wrap64 (x5_1 + 1))
       ·rw [if_pos c13] at H
        have c13b0 := eq_true c13
        have c13b1 : decide (x5_1 ≤ (wrap64 (x5_1 + 1))) = true := decide_eq_true c13
        by_cases c14 : (wrap64 (x5_1 + 1)) ≤ (a0.size : Int)
        ·rw [if_pos c14] at H
         have c14b0 := eq_true c14
         have c14b1 : decide ((wrap64 (x5_1 + 1)) ≤ (a0.size : Int)) = true := decide_eq_true c14
         by_cases c15 : x4_1.size + (a0.extract (x5_1 : Int).toNat ((wrap64 (x5_1 + 1)) : Int).toNat).size ≤ 9223372036854775807
         ·rw [if_pos c15] at H
          have c15b0 := eq_true c15
          have c15b1 : decide (x4_1.size + (a0.extract (x5_1 : Int).toNat ((wrap64 (x5_1 + 1)) : Int).toNat).size ≤ 9223372036854775807) = true := decide_eq_true c15
          try have c15b2 : (9223372036854775807 < x4_1.size + (a0.extract (x5_1 : Int).toNat ((wrap64 (x5_1 + 1)) : Int).toNat).size) = False := eq_false (Nat.not_lt.2 c15)
          have H' := M0 H
          clear H
          have p7 : 0 ≤ (x5_1 : Int) := of_decide_eq_true (by first | (with_reducible assumption) | assumption)
          have q7 : x5_1 < (a0.size : Int) := of_decide_eq_true (by first | (with_reducible assumption) | assumption)
          have qI := bt_at a0 x5_1
          replace p7 := eq_true p7
          replace q7 := eq_true q7
          go_wp2
          go_roundg k1
          case measure => have := HK1.out; omega
          case rel => exact ⟨(x3_1), (x4_1 ++ (a0.extract (x5_1 : Int).toNat ((wrap64 (x5_1 + 1)) : Int).toNat)), (wrap64 (x5_1 + 1)), (by first | rfl | (simp; done) | (simp [*]; done)), (by first | rfl | (simp; done) | (simp [*]; done)), H', ⟨by have := HK1.out; omega⟩, ⟨by (with_reducible repeat (first | apply rA | apply rN | apply rD)); exact HO_3.out⟩, ⟨bBY21⟩⟩
         ·rw [if_neg c15] at H
          exact absurd H (by simp)
        ·rw [if_neg c14] at H
         exact absurd H (by simp)
       ·rw [if_neg c13] at H
        exact absurd H (by simp)
     ·rw [if_neg c6] at H
      exact absurd H (by simp)
    ·rw [if_neg c5] at H
     have c5b0 : decide (x5_1 < (a0.size : Int)) = false := decide_eq_false c5
     clear c5
     by_cases c16 : x4_1.toList = ([] : List UInt8)
     ·rw [if_pos c16] at H
      have c16b0 : (x4_1.toList == ([] : List UInt8)) = true := beq_iff_eq.mpr c16
      have c16b1 : (x4_1.toList != ([] : List UInt8)) = false := bne_eq_false_iff_eq.mpr c16
      clear c16
      obtain rfl := Option.some.inj H
      go_wp2
      go_ret
      exact ⟨_, by first | rfl | (simp [errW_none, errW_some] <;> rfl) | (simp [*, errW_none, errW_some] <;> rfl), by (with_reducible repeat (first | apply rA | apply rN | apply rD)); exact HO_3.out, bBY21⟩
     ·rw [if_neg c16] at H
      have c16b0 : (x4_1.toList == ([] : List UInt8)) = false := beq_eq_false_iff_ne.mpr c16
      have c16b1 : (x4_1.toList != ([] : List UInt8)) = true := bne_iff_ne.mpr c16
      by_cases c17 : x3_1.length < 8796093022208
      ·rw [if_pos c17] at H
       have qF := M0 c17
       clear c17
       obtain ⟨y169, hy169⟩ : ∃ y_ : List ByteArray, y_ = (x3_1 ++ [x4_1]) := ⟨_, rfl⟩
       replace H : (some y169) = some r := by first | (rw [hy169]; with_reducible exact H) | (have H2_ := (Option.bind_some _ _).symm.trans H; rw [hy169]; with_reducible exact H2_) | (have H2_ := (Option.bind_some _ _).symm.trans H; with_reducible exact H2_) | with_reducible exact H | (rw [hy169]; exact H) | exact H
       have qG := M0 hy169
       clear hy169
       obtain rfl := Option.some.inj H
       go_wp2_with (first | ((with_reducible refine gate_builtin (b := .append) (xs := #[.tmp 32, .tmp 34]) rfl ?_); at_builtin; refine Kd.R_append Kd.string (w0 := w) w.heap.size rfl (.tmp 32) (.tmp 34) 22 9 (.string ⟨#[]⟩) 16 rfl Tryz.underlying22 info9 rfl (by decide) (by omega) u3 x3_1 x4_1 [.string x4_1] (fun _ => True) (fun _ => False) rfl rfl ?aP (fun _ hk => hk.elim) ?aF ?aO ?aB ?aS ?aL ?_; (case aP => exact rfl); (case aB => exact bBY21); (case aF => exact (fun _ _ => trivial)); (case aO => exact (by (with_reducible repeat (first | apply rA | apply rN | apply rD)); exact HO_3.out)); (case aS => exact (below_size bBY21)); (case aL => have := qF.out; omega); intro v170 w18 ho hb hg hat; rw [← qG.out] at ho; have n0_ := M0 (hb); have n1_ := M0 (ho); clear HB; clear HO_3; have HB := n0_; have qH := n1_; clear n0_ n1_; clear ho hb hg hat))
       go_ret
       exact ⟨_, by first | rfl | (simp [errW_none, errW_some] <;> rfl) | (simp [*, errW_none, errW_some] <;> rfl), by (with_reducible repeat (first | apply rA | apply rN | apply rD)); exact qH.out, bBY21⟩
      ·rw [if_neg c17] at H
       exact absurd H (by simp)
 ·rw [if_neg c2] at H
  exact absurd H (by simp)

end Go.Proofs.YtfbhlbchmenloaaGreatDoor.H
-- thinned
end
section
namespace Go.Proofs.YtfbhlbchmenloaaGreatDoor.H
open Go.RowKit Go.Proofs.YtfbhlbchmenloaaGreatDoorW.PrintWords Go.Proofs.YtfbhlbchmenloaaGreatDoorW.PrintLast Go.Proofs.YtfbhlbchmenloaaGreatDoorW.PrintMore
attribute [local go_sem] max2_int min2_int max_two min_two max_three min_three max_four min_four   -- for this text's walks alone
set_option linter.unusedVariables false
set_option linter.unusedSimpArgs false

/-! ### cellaretref1_rune1: function 38 -/
mutual
def cellaretref1_rune1.j2 : Nat → ByteArray → Int → Int → Int → Option (Int × Int)
  | 0, _, _, _, _ => none
  | k + 1, x0, x5, x6, x7 => if (x0.size : Int) < x5 then (some ((-1), 1)) else (cellaretref1_rune1.l0 k x0 x5 x6 x7 1)
def cellaretref1_rune1.l0 : Nat → ByteArray → Int → Int → Int → Int → Option (Int × Int)
  | 0, _, _, _, _, _ => none
  | k + 1, x0, x5, x6, x7, x8 => if x8 < x5 then (if 0 ≤ x8 then (if x8 < (x0.size : Int) then (if (Go.bits .and .u8 (bt x0 x8) 192) = 128 then (cellaretref1_rune1.l0 k x0 x5 x6 (Go.bits .or .i64 (wrap64 (x7 * 64)) (wrap64 (Go.bits .and .u8 (bt x0 x8) 63))) (wrap64 (x8 + 1))) else (some ((-1), 1))) else (none)) else (none)) else (if x7 < x6 then (some ((-1), 1)) else (if x7 > 1114111 then (some ((-1), 1)) else (if x7 ≥ 55296 then (if x7 < 57344 then (some ((-1), 1)) else (some (x7, x5))) else (some (x7, x5)))))
def cellaretref1_rune1.j0 : Nat → ByteArray → Int → Bool → Option (Int × Int)
  | 0, _, _, _ => none
  | k + 1, x0, x4, x16 => if x16 = true then (cellaretref1_rune1.j2 k x0 2 128 (Go.bits .and .i64 x4 31)) else (if x4 ≥ 224 then (cellaretref1_rune1.j1 k x0 x4 (decide (x4 < 240))) else (cellaretref1_rune1.j1 k x0 x4 false))
def cellaretref1_rune1.j1 : Nat → ByteArray → Int → Bool → Option (Int × Int)
  | 0, _, _, _ => none
  | k + 1, x0, x4, x25 => if x25 = true then (cellaretref1_rune1.j2 k x0 3 2048 (Go.bits .and .i64 x4 15)) else (if x4 ≥ 240 then (if x4 < 245 then (cellaretref1_rune1.j2 k x0 4 65536 (Go.bits .and .i64 x4 7)) else (some ((-1), 1))) else (some ((-1), 1)))
end
def cellaretref1_rune1.f (k : Nat) (a0 : ByteArray) : Option (Int × Int) := if 0 < (a0.size : Int) then (if (wrap64 (bt a0 0)) < 128 then (some (wrap64 (bt a0 0), 1)) else (if (wrap64 (bt a0 0)) ≥ 194 then (cellaretref1_rune1.j0 k a0 (wrap64 (bt a0 0)) (decide ((wrap64 (bt a0 0)) < 224))) else (cellaretref1_rune1.j0 k a0 (wrap64 (bt a0 0)) false))) else (none)
theorem cellaretref1_rune1.mono_l : ∀ k, (∀ y0 y1 y2 y3, LeO (cellaretref1_rune1.j2 k y0 y1 y2 y3) (cellaretref1_rune1.j2 (k + 1) y0 y1 y2 y3)) ∧ (∀ y0 y1 y2 y3 y4, LeO (cellaretref1_rune1.l0 k y0 y1 y2 y3 y4) (cellaretref1_rune1.l0 (k + 1) y0 y1 y2 y3 y4)) ∧ (∀ y0 y1 y2, LeO (cellaretref1_rune1.j0 k y0 y1 y2) (cellaretref1_rune1.j0 (k + 1) y0 y1 y2)) ∧ (∀ y0 y1 y2, LeO (cellaretref1_rune1.j1 k y0 y1 y2) (cellaretref1_rune1.j1 (k + 1) y0 y1 y2))
  | 0 => ⟨fun _ _ _ _ r h => by simp [cellaretref1_rune1.j2] at h, fun _ _ _ _ _ r h => by simp [cellaretref1_rune1.l0] at h, fun _ _ _ r h => by simp [cellaretref1_rune1.j0] at h, fun _ _ _ r h => by simp [cellaretref1_rune1.j1] at h⟩
  | k + 1 => by
    obtain ⟨ih0, ih1, ih2, ih3⟩ := cellaretref1_rune1.mono_l k
    refine ⟨?_, ?_, ?_, ?_⟩
    · intro y0 y1 y2 y3
      unfold cellaretref1_rune1.j2
      repeat' first
      | (with_reducible exact ih0 _ _ _ _)
      | (with_reducible exact ih1 _ _ _ _ _)
      | (with_reducible exact ih2 _ _ _)
      | (with_reducible exact ih3 _ _ _)
      | (with_reducible exact LeO.refl _)
      | (with_reducible exact LeO.none _)
      | (with_reducible refine LeO.ite ?_ ?_)
      | (with_reducible refine LeO.bind ?_ (fun _ => ?_))
      | exact ih0 _ _ _ _
      | exact ih1 _ _ _ _ _
      | exact ih2 _ _ _
      | exact ih3 _ _ _
      | exact LeO.none _
      | refine LeO.ite ?_ ?_
      | refine LeO.bind ?_ (fun _ => ?_)
    · intro y0 y1 y2 y3 y4
      unfold cellaretref1_rune1.l0
      repeat' first
      | (with_reducible exact ih0 _ _ _ _)
      | (with_reducible exact ih1 _ _ _ _ _)
      | (with_reducible exact ih2 _ _ _)
      | (with_reducible exact ih3 _ _ _)
      | (with_reducible exact LeO.refl _)
      | (with_reducible exact LeO.none _)
      | (with_reducible refine LeO.ite ?_ ?_)
      | (with_reducible refine LeO.bind ?_ (fun _ => ?_))
      | exact ih0 _ _ _ _
      | exact ih1 _ _ _ _ _
      | exact ih2 _ _ _
      | exact ih3 _ _ _
      | exact LeO.none _
      | refine LeO.ite ?_ ?_
      | refine LeO.bind ?_ (fun _ => ?_)
    · intro y0 y1 y2
      unfold cellaretref1_rune1.j0
      repeat' first
      | (with_reducible exact ih0 _ _ _ _)
      | (with_reducible exact ih1 _ _ _ _ _)
      | (with_reducible exact ih2 _ _ _)
      | (with_reducible exact ih3 _ _ _)
      | (with_reducible exact LeO.refl _)
      | (with_reducible exact LeO.none _)
      | (with_reducible refine LeO.ite ?_ ?_)
      | (with_reducible refine LeO.bind ?_ (fun _ => ?_))
      | exact ih0 _ _ _ _
      | exact ih1 _ _ _ _ _
      | exact ih2 _ _ _
      | exact ih3 _ _ _
      | exact LeO.none _
      | refine LeO.ite ?_ ?_
      | refine LeO.bind ?_ (fun _ => ?_)
    · intro y0 y1 y2
      unfold cellaretref1_rune1.j1
      repeat' first
      | (with_reducible exact ih0 _ _ _ _)
      | (with_reducible exact ih1 _ _ _ _ _)
      | (with_reducible exact ih2 _ _ _)
      | (with_reducible exact ih3 _ _ _)
      | (with_reducible exact LeO.refl _)
      | (with_reducible exact LeO.none _)
      | (with_reducible refine LeO.ite ?_ ?_)
      | (with_reducible refine LeO.bind ?_ (fun _ => ?_))
      | exact ih0 _ _ _ _
      | exact ih1 _ _ _ _ _
      | exact ih2 _ _ _
      | exact ih3 _ _ _
      | exact LeO.none _
      | refine LeO.ite ?_ ?_
      | refine LeO.bind ?_ (fun _ => ?_)
theorem cellaretref1_rune1.mono : ∀ a0 k, LeO (cellaretref1_rune1.f k a0) (cellaretref1_rune1.f (k + 1) a0) := by
  intro a0 k
  obtain ⟨ih0, ih1, ih2, ih3⟩ := cellaretref1_rune1.mono_l k
  unfold cellaretref1_rune1.f
  repeat' first
      | (with_reducible exact ih0 _ _ _ _)
      | (with_reducible exact ih1 _ _ _ _ _)
      | (with_reducible exact ih2 _ _ _)
      | (with_reducible exact ih3 _ _ _)
      | (with_reducible exact LeO.refl _)
      | (with_reducible exact LeO.none _)
      | (with_reducible refine LeO.ite ?_ ?_)
      | (with_reducible refine LeO.bind ?_ (fun _ => ?_))
      | exact ih0 _ _ _ _
      | exact ih1 _ _ _ _ _
      | exact ih2 _ _ _
      | exact ih3 _ _ _
      | exact LeO.none _
      | refine LeO.ite ?_ ?_
      | refine LeO.bind ?_ (fun _ => ?_)
set_option maxHeartbeats 8000000 in
set_option maxRecDepth 100000 in
theorem cellaretref1_rune1.calls (k : Nat) (a0 : ByteArray) (r1 : Int) (r2 : Int) (w : World) (h : cellaretref1_rune1.f k a0 = some (r1, r2)) :
  Calls Tryz.prog 38 #[.string a0] w fun e w' => e = .returned (.tuple #[.int .i64 r1, .int .i64 r2]) ∧ Drawn0 w w' := by
 have H : (if 0 < (a0.size : Int) then (if (wrap64 (bt a0 0)) < 128 then (some (wrap64 (bt a0 0), 1)) else (if (wrap64 (bt a0 0)) ≥ 194 then (cellaretref1_rune1.j0 k a0 (wrap64 (bt a0 0)) (decide ((wrap64 (bt a0 0)) < 224))) else (cellaretref1_rune1.j0 k a0 (wrap64 (bt a0 0)) false))) else (none)) = some (r1, r2) := h
 clear h
 by_cases c2 : 0 < (a0.size : Int)
 ·rw [if_pos c2] at H
  have c2b0 : decide (0 < (a0.size : Int)) = true := decide_eq_true c2
  have c2b1 : decide (0 < a0.size) = true := decide_eq_true (by omega)
  clear c2
  have HC4 := M0 H
  clear H
  have p3 : 0 ≤ (0 : Int) := (by omega)
  have q3 : 0 < a0.size := (by have : (0 : Int) < (a0.size : Int) := of_decide_eq_true (by first | (with_reducible assumption) | assumption); omega)
  have qA : ∀ h : 0 < a0.size, ((a0[0]'h).toNat : Int) = bt a0 0 := bt_at a0 0
  clear p3
  have qi3 : (0 < (a0.size : Int)) = True := eq_true (of_decide_eq_true (by first | (with_reducible assumption) | assumption))
  replace q3 := eq_true q3
  go_enter Tryz.func38, Tryz.ntmps38
  go_upto_block 0 with (fail)
  go_cut [5, 6, 7] (fun v5 v6 v7 wc => ∃ (kq : Nat) (x5_3 : Int) (x6_3 : Int) (x7_3 : Int), v5 = .int .i64 x5_3 ∧ v6 = .int .i64 x6_3 ∧ v7 = .int .i64 x7_3 ∧ Aside0 (cellaretref1_rune1.j2 kq a0 x5_3 x6_3 x7_3 = some (r1, r2)) ∧ Aside0 (kq ≤ k) ∧ Drawn0 w wc)
  case first =>
   have H := HC4.out
   clear HC4
   by_cases c5 : (wrap64 (bt a0 0)) < 128
   ·rw [if_pos c5] at H
    have c5b0 : decide ((wrap64 (bt a0 0)) < 128) = true := decide_eq_true c5
    clear c5
    (first | rw [c5b0] | (simp only [i64_w, i32_w]; rw [c5b0]) | skip)
    simp only [Option.some.injEq, Prod.mk.injEq] at H
    obtain ⟨rfl, rfl⟩ := H
    go_wp2
    go_ret2
    exact ⟨by first | rfl | (simp; done) | (simp [*]; done), by repeat (first | exact Drawn0.refl _ | apply Drawn0.step)⟩
   ·rw [if_neg c5] at H
    have c5b0 : decide ((wrap64 (bt a0 0)) < 128) = false := decide_eq_false c5
    clear c5
    (first | rw [c5b0] | (simp only [i64_w, i32_w]; rw [c5b0]) | skip)
    have HC6 := M0 H
    clear H
    go_upto_region 6 with (fail)
    go_cut [16] (fun v16 wc => ∃ (kq : Nat) (x16_5 : Bool), v16 = .bool x16_5 ∧ Aside0 (cellaretref1_rune1.j0 kq a0 (wrap64 (bt a0 0)) x16_5 = some (r1, r2)) ∧ Aside0 (kq ≤ k) ∧ Drawn0 w wc)
    case first =>
     have H := HC6.out
     clear HC6
     by_cases c7 : (wrap64 (bt a0 0)) ≥ 194
     ·rw [if_pos c7] at H
      have c7b0 : decide (194 ≤ (wrap64 (bt a0 0))) = true := decide_eq_true c7
      clear c7
      (first | rw [c7b0] | (simp only [i64_w, i32_w]; rw [c7b0]) | skip)
      have H' := M0 H
      clear H
      go_wp2
      go_meet
      case rel => exact ⟨_, (decide ((wrap64 (bt a0 0)) < 224)), (by first | rfl | (simp; done) | (simp [*]; done)), H', ⟨by first | omega | exact Nat.le_refl _⟩, by repeat (first | exact Drawn0.refl _ | apply Drawn0.step)⟩
     ·rw [if_neg c7] at H
      have c7b0 : decide (194 ≤ (wrap64 (bt a0 0))) = false := decide_eq_false c7
      clear c7
      (first | rw [c7b0] | (simp only [i64_w, i32_w]; rw [c7b0]) | skip)
      have H' := M0 H
      clear H
      go_wp2
      go_meet
      case rel => exact ⟨_, (false), (by first | rfl | (simp; done) | (simp [*]; done)), H', ⟨by first | omega | exact Nat.le_refl _⟩, by repeat (first | exact Drawn0.refl _ | apply Drawn0.step)⟩
    case rest =>
     clear HC6
     try clear c2
     try clear c2b0
     try clear c2b1
     try clear p2
     try clear c3
     try clear p3
     try clear q3
     try clear qA
     try clear qi3
     try clear c5
     try clear c5b0
     try clear p6
     try clear c7
     try clear c7b0
     try clear p3
     try clear q3
     obtain ⟨kq, x16_5, rfl, HA, HJ5, ⟨mc5, rfl⟩⟩ := hcut
     cases kq with
     | zero => exact absurd HA.out (by simp [cellaretref1_rune1.j0])
     | succ kj5 =>
      have H := HA.out
      clear HA
      simp only [cellaretref1_rune1.j0] at H
      by_cases c8 : x16_5 = true
      ·subst c8
       have H1 : (cellaretref1_rune1.j2 kj5 a0 2 128 (Go.bits .and .i64 (wrap64 (bt a0 0)) 31)) = some (r1, r2) := by rw [if_pos rfl] at H; exact H
       clear H
       have H := H1
       clear H1
       have H' := M0 H
       clear H
       go_wp2
       go_meet
       case rel => exact ⟨_, (2), (128), (Go.bits .and .i64 (wrap64 (bt a0 0)) 31), (by first | rfl | (simp; done) | (simp [*]; done)), (by first | rfl | (simp; done) | (simp [*]; done)), (by first | rfl | (simp; done) | (simp [*]; done)), H', ⟨by have := HJ5.out; first | omega | exact Nat.le_refl _⟩, by repeat (first | exact Drawn0.refl _ | apply Drawn0.step)⟩
      ·replace c8 := Bool.eq_false_iff.mpr c8
       subst c8
       have H1 : (if (wrap64 (bt a0 0)) ≥ 224 then (cellaretref1_rune1.j1 kj5 a0 (wrap64 (bt a0 0)) (decide ((wrap64 (bt a0 0)) < 240))) else (cellaretref1_rune1.j1 kj5 a0 (wrap64 (bt a0 0)) false)) = some (r1, r2) := by rw [if_neg (show ¬ (false = true) by decide)] at H; exact H
       clear H
       have H := H1
       clear H1
       have HC9 := M0 H
       clear H
       go_upto_region 8 with (fail)
       go_cut [25] (fun v25 wc => ∃ (kq : Nat) (x25_8 : Bool), v25 = .bool x25_8 ∧ Aside0 (cellaretref1_rune1.j1 kq a0 (wrap64 (bt a0 0)) x25_8 = some (r1, r2)) ∧ Aside0 (kq ≤ kj5) ∧ Drawn0 w wc)
       case first =>
        have H := HC9.out
        clear HC9
        by_cases c10 : (wrap64 (bt a0 0)) ≥ 224
        ·rw [if_pos c10] at H
         have c10b0 : decide (224 ≤ (wrap64 (bt a0 0))) = true := decide_eq_true c10
         clear c10
         (first | rw [c10b0] | (simp only [i64_w, i32_w]; rw [c10b0]) | skip)
         have H' := M0 H
         clear H
         go_wp2
         go_meet
         case rel => exact ⟨_, (decide ((wrap64 (bt a0 0)) < 240)), (by first | rfl | (simp; done) | (simp [*]; done)), H', ⟨by have := HJ5.out; first | omega | exact Nat.le_refl _⟩, by repeat (first | exact Drawn0.refl _ | apply Drawn0.step)⟩
        ·rw [if_neg c10] at H
         have c10b0 : decide (224 ≤ (wrap64 (bt a0 0))) = false := decide_eq_false c10
         clear c10
         (first | rw [c10b0] | (simp only [i64_w, i32_w]; rw [c10b0]) | skip)
         have H' := M0 H
         clear H
         go_wp2
         go_meet
         case rel => exact ⟨_, (false), (by first | rfl | (simp; done) | (simp [*]; done)), H', ⟨by have := HJ5.out; first | omega | exact Nat.le_refl _⟩, by repeat (first | exact Drawn0.refl _ | apply Drawn0.step)⟩
       case rest =>
        clear HC9
        try clear c1
        try clear c2
        try clear c2b0
        try clear c2b1
        try clear p2
        try clear c3
        try clear p3
        try clear q3
        try clear qA
        try clear qi3
        try clear c5
        try clear c5b0
        try clear p6
        try clear c7
        try clear c7b0
        try clear c8
        try clear c10
        try clear c10b0
        try clear p2
        try clear p3
        try clear p6
        try clear q3
        obtain ⟨kq, x25_8, rfl, HA, HJ8, ⟨mc8, rfl⟩⟩ := hcut
        cases kq with
        | zero => exact absurd HA.out (by simp [cellaretref1_rune1.j1])
        | succ kj8 =>
         have H := HA.out
         clear HA
         simp only [cellaretref1_rune1.j1] at H
         by_cases c11 : x25_8 = true
         ·subst c11
          have H1 : (cellaretref1_rune1.j2 kj8 a0 3 2048 (Go.bits .and .i64 (wrap64 (bt a0 0)) 15)) = some (r1, r2) := by rw [if_pos rfl] at H; exact H
          clear H
          have H := H1
          clear H1
          have H' := M0 H
          clear H
          go_wp2
          go_meet
          case rel => exact ⟨_, (3), (2048), (Go.bits .and .i64 (wrap64 (bt a0 0)) 15), (by first | rfl | (simp; done) | (simp [*]; done)), (by first | rfl | (simp; done) | (simp [*]; done)), (by first | rfl | (simp; done) | (simp [*]; done)), H', ⟨by have := HJ5.out; have := HJ8.out; first | omega | exact Nat.le_refl _⟩, by repeat (first | exact Drawn0.refl _ | apply Drawn0.step)⟩
         ·replace c11 := Bool.eq_false_iff.mpr c11
          subst c11
          have H1 : (if (wrap64 (bt a0 0)) ≥ 240 then (if (wrap64 (bt a0 0)) < 245 then (cellaretref1_rune1.j2 kj8 a0 4 65536 (Go.bits .and .i64 (wrap64 (bt a0 0)) 7)) else (some ((-1), 1))) else (some ((-1), 1))) = some (r1, r2) := by rw [if_neg (show ¬ (false = true) by decide)] at H; exact H
          clear H
          have H := H1
          clear H1
          by_cases c12 : (wrap64 (bt a0 0)) ≥ 240
          ·rw [if_pos c12] at H
           have c12b0 : decide (240 ≤ (wrap64 (bt a0 0))) = true := decide_eq_true c12
           clear c12
           by_cases c13 : (wrap64 (bt a0 0)) < 245
           ·rw [if_pos c13] at H
            have c13b0 : decide ((wrap64 (bt a0 0)) < 245) = true := decide_eq_true c13
            clear c13
            have H' := M0 H
            clear H
            go_wp2
            go_meet
            case rel => exact ⟨_, (4), (65536), (Go.bits .and .i64 (wrap64 (bt a0 0)) 7), (by first | rfl | (simp; done) | (simp [*]; done)), (by first | rfl | (simp; done) | (simp [*]; done)), (by first | rfl | (simp; done) | (simp [*]; done)), H', ⟨by have := HJ5.out; have := HJ8.out; first | omega | exact Nat.le_refl _⟩, by repeat (first | exact Drawn0.refl _ | apply Drawn0.step)⟩
           ·rw [if_neg c13] at H
            have c13b0 : decide ((wrap64 (bt a0 0)) < 245) = false := decide_eq_false c13
            clear c13
            simp only [Option.some.injEq, Prod.mk.injEq] at H
            obtain ⟨rfl, rfl⟩ := H
            go_wp2
            go_ret2
            exact ⟨by first | rfl | (simp; done) | (simp [*]; done), by repeat (first | exact Drawn0.refl _ | apply Drawn0.step)⟩
          ·rw [if_neg c12] at H
           have c12b0 : decide (240 ≤ (wrap64 (bt a0 0))) = false := decide_eq_false c12
           clear c12
           simp only [Option.some.injEq, Prod.mk.injEq] at H
           obtain ⟨rfl, rfl⟩ := H
           go_wp2
           go_ret2
           exact ⟨by first | rfl | (simp; done) | (simp [*]; done), by repeat (first | exact Drawn0.refl _ | apply Drawn0.step)⟩
  case rest =>
   clear HC4
   try clear c1
   try clear c2
   try clear c2b0
   try clear c2b1
   try clear p2
   try clear c3
   try clear p3
   try clear q3
   try clear qA
   try clear qi3
   try clear c5
   try clear c5b0
   try clear p6
   try clear c7
   try clear c7b0
   try clear c8
   try clear c10
   try clear c10b0
   try clear c11
   try clear c12
   try clear c12b0
   try clear c13
   try clear c13b0
   try clear p2
   try clear p3
   try clear p6
   try clear q3
   obtain ⟨kq, x5_3, x6_3, x7_3, rfl, rfl, rfl, HA, HJ3, ⟨mc3, rfl⟩⟩ := hcut
   cases kq with
   | zero => exact absurd HA.out (by simp [cellaretref1_rune1.j2])
   | succ kj3 =>
    have H := HA.out
    clear HA
    simp only [cellaretref1_rune1.j2] at H
    by_cases c14 : (a0.size : Int) < x5_3
    ·rw [if_pos c14] at H
     have c14b0 : decide ((a0.size : Int) < x5_3) = true := decide_eq_true c14
     clear c14
     simp only [Option.some.injEq, Prod.mk.injEq] at H
     obtain ⟨rfl, rfl⟩ := H
     go_wp2
     go_ret2
     exact ⟨by first | rfl | (simp; done) | (simp [*]; done), by repeat (first | exact Drawn0.refl _ | apply Drawn0.step)⟩
    ·rw [if_neg c14] at H
     have c14b0 : decide ((a0.size : Int) < x5_3) = false := decide_eq_false c14
     clear c14
     have H' := M0 H
     clear H
     go_wp2
     go_loopg [7, 8] kj3 (fun kq v7 v8 w' => ∃ (x7_2 : Int) (x8_2 : Int), v7 = .int .i64 x7_2 ∧ v8 = .int .i64 x8_2 ∧ Aside0 (cellaretref1_rune1.l0 kq a0 x5_3 x6_3 x7_2 x8_2 = some (r1, r2)) ∧ Aside0 (kq ≤ kj3) ∧ Drawn0 w w')
     case atStart => exact ⟨(x7_3), (1), (by first | rfl | (simp; done) | (simp [*]; done)), (by first | rfl | (simp; done) | (simp [*]; done)), H', ⟨Nat.le_refl _⟩, by repeat (first | exact Drawn0.refl _ | apply Drawn0.step)⟩
     case round =>
      clear H'
      try clear c1
      try clear c2
      try clear c2b0
      try clear c2b1
      try clear p2
      try clear c3
      try clear p3
      try clear q3
      try clear qA
      try clear qi3
      try clear c5
      try clear c5b0
      try clear p6
      try clear c7
      try clear c7b0
      try clear c8
      try clear c10
      try clear c10b0
      try clear c11
      try clear c12
      try clear c12b0
      try clear c13
      try clear c13b0
      try clear c14
      try clear c14b0
      try clear p2
      try clear p3
      try clear p6
      try clear q3
      obtain ⟨x7_2, x8_2, rfl, rfl, HA, HK2, ⟨m2, rfl⟩⟩ := hrel
      cases gk with
      | zero => exact absurd HA.out (by simp [cellaretref1_rune1.l0])
      | succ k2 =>
       have H := HA.out
       clear HA
       simp only [cellaretref1_rune1.l0] at H
       by_cases c15 : x8_2 < x5_3
       ·rw [if_pos c15] at H
        have c15b0 : decide (x8_2 < x5_3) = true := decide_eq_true c15
        clear c15
        by_cases c16 : 0 ≤ x8_2
        ·rw [if_pos c16] at H
         have c16b0 : decide (0 ≤ x8_2) = true := decide_eq_true c16
         clear c16
         by_cases c17 : x8_2 < (a0.size : Int)
         ·rw [if_pos c17] at H
          have c17b0 : decide (x8_2 < (a0.size : Int)) = true := decide_eq_true c17
          clear c17
          by_cases c19 : (Go.bits .and .u8 (bt a0 x8_2) 192) = 128
          ·rw [if_pos c19] at H
           have c19b0 : ((Go.bits .and .u8 (bt a0 x8_2) 192) == 128) = true := beq_iff_eq.mpr c19
           have c19b1 : ((Go.bits .and .u8 (bt a0 x8_2) 192) != 128) = false := bne_eq_false_iff_eq.mpr c19
           clear c19
           have H' := M0 H
           clear H
           have p18 : 0 ≤ (x8_2 : Int) := of_decide_eq_true (by first | (with_reducible assumption) | assumption)
           have q18 : x8_2 < (a0.size : Int) := of_decide_eq_true (by first | (with_reducible assumption) | assumption)
           have qB := bt_at a0 x8_2
           replace p18 := eq_true p18
           replace q18 := eq_true q18
           have p20 : 0 ≤ (x8_2 : Int) := of_decide_eq_true (by first | (with_reducible assumption) | assumption)
           have q20 : x8_2 < (a0.size : Int) := of_decide_eq_true (by first | (with_reducible assumption) | assumption)
           have qC := bt_at a0 x8_2
           replace p20 := eq_true p20
           replace q20 := eq_true q20
           go_wp2
           go_roundg k2
           case measure => have := HJ3.out; have := HK2.out; omega
           case rel => exact ⟨(Go.bits .or .i64 (wrap64 (x7_2 * 64)) (wrap64 (Go.bits .and .u8 (bt a0 x8_2) 63))), (wrap64 (x8_2 + 1)), (by first | rfl | (simp; done) | (simp [*]; done)), (by first | rfl | (simp; done) | (simp [*]; done)), H', ⟨by have := HJ3.out; have := HK2.out; omega⟩, by repeat (first | exact Drawn0.refl _ | apply Drawn0.step)⟩
          ·rw [if_neg c19] at H
           have c19b0 : ((Go.bits .and .u8 (bt a0 x8_2) 192) == 128) = false := beq_eq_false_iff_ne.mpr c19
           have c19b1 : ((Go.bits .and .u8 (bt a0 x8_2) 192) != 128) = true := bne_iff_ne.mpr c19
           simp only [Option.some.injEq, Prod.mk.injEq] at H
           obtain ⟨rfl, rfl⟩ := H
           have p18 : 0 ≤ (x8_2 : Int) := of_decide_eq_true (by first | (with_reducible assumption) | assumption)
           have q18 : x8_2 < (a0.size : Int) := of_decide_eq_true (by first | (with_reducible assumption) | assumption)
           have qB := bt_at a0 x8_2
           replace p18 := eq_true p18
           replace q18 := eq_true q18
           go_wp2
           go_ret2
           exact ⟨by first | rfl | (simp; done) | (simp [*]; done), by repeat (first | exact Drawn0.refl _ | apply Drawn0.step)⟩
         ·rw [if_neg c17] at H
          exact absurd H (by simp)
        ·rw [if_neg c16] at H
         exact absurd H (by simp)
       ·rw [if_neg c15] at H
        have c15b0 : decide (x8_2 < x5_3) = false := decide_eq_false c15
        clear c15
        by_cases c21 : x7_2 < x6_3
        ·rw [if_pos c21] at H
         have c21b0 : decide (x7_2 < x6_3) = true := decide_eq_true c21
         clear c21
         simp only [Option.some.injEq, Prod.mk.injEq] at H
         obtain ⟨rfl, rfl⟩ := H
         go_wp2
         go_ret2
         exact ⟨by first | rfl | (simp; done) | (simp [*]; done), by repeat (first | exact Drawn0.refl _ | apply Drawn0.step)⟩
        ·rw [if_neg c21] at H
         have c21b0 : decide (x7_2 < x6_3) = false := decide_eq_false c21
         clear c21
         by_cases c22 : x7_2 > 1114111
         ·rw [if_pos c22] at H
          have c22b0 : decide (1114111 < x7_2) = true := decide_eq_true c22
          clear c22
          simp only [Option.some.injEq, Prod.mk.injEq] at H
          obtain ⟨rfl, rfl⟩ := H
          go_wp2
          go_ret2
          exact ⟨by first | rfl | (simp; done) | (simp [*]; done), by repeat (first | exact Drawn0.refl _ | apply Drawn0.step)⟩
         ·rw [if_neg c22] at H
          have c22b0 : decide (1114111 < x7_2) = false := decide_eq_false c22
          clear c22
          by_cases c23 : x7_2 ≥ 55296
          ·rw [if_pos c23] at H
           have c23b0 : decide (55296 ≤ x7_2) = true := decide_eq_true c23
           clear c23
           by_cases c24 : x7_2 < 57344
           ·rw [if_pos c24] at H
            have c24b0 : decide (x7_2 < 57344) = true := decide_eq_true c24
            clear c24
            simp only [Option.some.injEq, Prod.mk.injEq] at H
            obtain ⟨rfl, rfl⟩ := H
            go_wp2
            go_ret2
            exact ⟨by first | rfl | (simp; done) | (simp [*]; done), by repeat (first | exact Drawn0.refl _ | apply Drawn0.step)⟩
           ·rw [if_neg c24] at H
            have c24b0 : decide (x7_2 < 57344) = false := decide_eq_false c24
            clear c24
            simp only [Option.some.injEq, Prod.mk.injEq] at H
            obtain ⟨rfl, rfl⟩ := H
            go_wp2
            go_ret2
            exact ⟨by first | rfl | (simp; done) | (simp [*]; done), by repeat (first | exact Drawn0.refl _ | apply Drawn0.step)⟩
          ·rw [if_neg c23] at H
           have c23b0 : decide (55296 ≤ x7_2) = false := decide_eq_false c23
           clear c23
           simp only [Option.some.injEq, Prod.mk.injEq] at H
           obtain ⟨rfl, rfl⟩ := H
           go_wp2
           go_ret2
           exact ⟨by first | rfl | (simp; done) | (simp [*]; done), by repeat (first | exact Drawn0.refl _ | apply Drawn0.step)⟩
 ·rw [if_neg c2] at H
  exact absurd H (by simp)

end Go.Proofs.YtfbhlbchmenloaaGreatDoor.H
-- thinned
end
