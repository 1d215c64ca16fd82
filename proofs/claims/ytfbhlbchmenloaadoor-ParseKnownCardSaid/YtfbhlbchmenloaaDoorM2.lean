/-
  Contracts of Go functions at this seat, and plain lemmas, that the laws' proofs use. Their conditions stand in each head.
-/
import Derived.Test.YtfbhlbchmenloaaDoorM0
import Derived.Test.YtfbhlbchmenloaaDoorM1
import Derived.Lib.ConvBytes
import Derived.Test.YtfbhlbchmenloaaDoorProg
import Derived.Below
import Derived.Deep.Draws
import Derived.Deep.AppendLies
import Derived.Maps.AppendAt
import Derived.OwnWalk
import Derived.Laws.BytesArg
import Derived.Laws.MakeOwn
import Derived.Laws.OwnMore
import Derived.Deep.OwnRows
import Derived.Tactics
import Derived.Laws.Slices
import Derived.WalkKit
import Derived.KernelRfl
import Derived.RowKit3
import Derived.Deep.LoopGhost
import Derived.Deep.QuietTactic
import Derived.BigQuiet
import Derived.WideLaws
import Derived.Deep.DeepCutAuto
import Derived.Deep.CutBlock
import Derived.Deep.RegionHeld3
import Derived.Laws.Rows
import Derived.Lib.AppendStr
import Derived.ArgAppend
import Derived.Laws.IdiomCopy
import Derived.OrdersHeld
import Derived.Laws.BitsLemmas
import Derived.RowKit
import Derived.Test.YtfbhlbchmenloaaDoorMW0
section
namespace Go.Proofs.YtfbhlbchmenloaaDoor.H
open Go.RowKit Go.Proofs.YtfbhlbchmenloaaDoorW.PrintWords Go.Proofs.YtfbhlbchmenloaaDoorW.PrintLast Go.Proofs.YtfbhlbchmenloaaDoorW.PrintMore
set_option linter.unusedVariables false
set_option linter.unusedSimpArgs false
theorem str_drop {w : World} {gb ob : Nat} {xs : List ByteArray} (hmax : xs.length ≤ 9223372036854775807) (h : ∀ j, j < xs.length → w.cell? ⟨gb, ob + j, none⟩ = some (.string (xs.getD j ByteArray.empty))) (n m : Nat) (hm : (xs.drop n).length = m) : Kd.C Kd.string w (some ⟨gb, ob + n, none⟩) m (xs.drop n) := by
  refine ⟨hm, by rw [List.length_drop] at hm; omega, fun h0 => ⟨_, rfl, fun j p hj => ⟨[.string p], rfl, rfl, fun k u hu => ?_⟩⟩⟩
  have hjl := (List.getElem?_eq_some_iff.1 hj).1
  rw [List.length_drop] at hjl
  have hk : k = 0 := by
    have := (List.getElem?_eq_some_iff.1 hu).1
    simp at this
    omega
  subst hk
  obtain rfl := Option.some.inj hu
  rw [List.getElem?_drop] at hj
  have := h (n + j) (by omega)
  rw [List.getD_eq_getElem?_getD, hj] at this
  rw [add_at]
  have e : ob + n + (j * 1 + 0) = ob + (n + j) := by omega
  show w.cell? ⟨gb, ob + n + (j * 1 + 0), none⟩ = _
  rw [e]
  exact this
def get_T1 : Bool × List (List Nat × List Nat) := (true, [([], []), ([0], [0]), ([1], [1]), ([2], [2]), ([3], [3]), ([4], [4]), ([5, 4], [4, 5]), ([6, 4], [4, 6]), ([7, 4], [4, 7]), ([4, 8], [4, 8]), ([], []), ([10], [10]), ([11], [11]), ([12], [12]), ([13, 4], [13]), ([14], [14]), ([15, 14], [14, 15]), ([16, 14], [14, 16]), ([17, 14], [14, 17]), ([14, 18], [14, 18]), ([9, 19], [9, 19]), ([], []), ([21, 20, 14, 0, 1, 2, 3, 4, 5, 6, 7, 8, 9, 10, 11, 12, 13, 14, 15, 16, 17, 18, 19, 20, 21], [20, 21])])
def get_B1 : List Nat := [0, 1, 3, 7, 15, 31, 63, 127, 255, 511, 0, 1024, 3072, 7168, 15391, 31775, 64543, 130079, 261151, 523295, 1048575, 0, 4194303]
abbrev gb0_ : Array Bool := #[false, false, false, false, false, false, false, false, false, false, false, false, false, false, false, false, false, false, false, false, false, false, false]
abbrev gb1_ : Array Bool := #[true, false, false, false, false, false, false, false, false, false, false, false, false, false, false, false, false, false, false, false, false, false, false]
abbrev gb2_ : Array Bool := #[true, true, false, false, false, false, false, false, false, false, false, false, false, false, false, false, false, false, false, false, false, false, false]
abbrev gb3_ : Array Bool := #[true, true, true, false, false, false, false, false, false, false, false, false, false, false, false, false, false, false, false, false, false, false, false]
abbrev gb4_ : Array Bool := #[true, true, true, true, false, false, false, false, false, false, false, false, false, false, false, false, false, false, false, false, false, false, false]
abbrev gb5_ : Array Bool := #[true, true, true, true, true, false, false, false, false, false, false, false, false, false, false, false, false, false, false, false, false, false, false]
abbrev gb6_ : Array Bool := #[true, true, true, true, true, true, false, false, false, false, false, false, false, false, false, false, false, false, false, false, false, false, false]
abbrev gb7_ : Array Bool := #[true, true, true, true, true, true, true, false, false, false, false, false, false, false, false, false, false, false, false, false, false, false, false]
abbrev gb8_ : Array Bool := #[true, true, true, true, true, true, true, true, false, false, false, false, false, false, false, false, false, false, false, false, false, false, false]
abbrev gb9_ : Array Bool := #[true, true, true, true, true, true, true, true, true, false, false, false, false, false, false, false, false, false, false, false, false, false, false]
abbrev gb10_ : Array Bool := #[true, true, true, true, true, true, true, true, true, true, false, false, false, false, false, false, false, false, false, false, false, false, false]
abbrev gb11_ : Array Bool := #[true, true, true, true, true, true, true, true, true, true, true, false, false, false, false, false, false, false, false, false, false, false, false]
abbrev gb12_ : Array Bool := #[true, true, true, true, true, true, true, true, true, true, true, true, false, false, false, false, false, false, false, false, false, false, false]
abbrev gb13_ : Array Bool := #[true, true, true, true, true, true, true, true, true, true, true, true, true, false, false, false, false, false, false, false, false, false, false]
abbrev gb14_ : Array Bool := #[true, true, true, true, true, true, true, true, true, true, true, true, true, true, false, false, false, false, false, false, false, false, false]
abbrev gb15_ : Array Bool := #[true, true, true, true, true, true, true, true, true, true, true, true, true, true, true, false, false, false, false, false, false, false, false]
abbrev gb16_ : Array Bool := #[true, true, true, true, true, true, true, true, true, true, true, true, true, true, true, true, false, false, false, false, false, false, false]
abbrev gb17_ : Array Bool := #[true, true, true, true, true, true, true, true, true, true, true, true, true, true, true, true, true, false, false, false, false, false, false]
abbrev gb18_ : Array Bool := #[true, true, true, true, true, true, true, true, true, true, true, true, true, true, true, true, true, true, false, false, false, false, false]
abbrev gb19_ : Array Bool := #[true, true, true, true, true, true, true, true, true, true, true, true, true, true, true, true, true, true, true, false, false, false, false]
abbrev gb20_ : Array Bool := #[true, true, true, true, true, true, true, true, true, true, true, true, true, true, true, true, true, true, true, true, false, false, false]
abbrev gb21_ : Array Bool := #[true, true, true, true, true, true, true, true, true, true, true, true, true, true, true, true, true, true, true, true, true, false, false]
abbrev gb22_ : Array Bool := #[true, true, true, true, true, true, true, true, true, true, true, true, true, true, true, true, true, true, true, true, true, true, false]
abbrev gb23_ : Array Bool := #[true, true, true, true, true, true, true, true, true, true, true, true, true, true, true, true, true, true, true, true, true, true, true]
theorem get_tab1 : rtab .any (opsOf Tryd.f20 1) = get_T1 := by kernel_rfl
theorem get_bits1 : waitsOk get_T1.2 get_B1 = true := by kernel_rfl
/-- What a Get's words say, its keys told. -/
def getX (ks : List ByteArray) (ca t : Bool) (sg : Int × Bool) : Cx := if ks.any (fun k => !keyF k) = true ∨ 64 < ks.length then .pl (.bad ⟨#[67, 76, 73, 69, 78, 84, 95, 69, 82, 82, 79, 82, 32, 98, 97, 100, 32, 99, 111, 109, 109, 97, 110, 100, 32, 108, 105, 110, 101, 32, 102, 111, 114, 109, 97, 116]⟩) else match sg with
  | (e, true) => .get ks ca t e
  | (_, false) => .pl (.bad ⟨#[67, 76, 73, 69, 78, 84, 95, 69, 82, 82, 79, 82, 32, 105, 110, 118, 97, 108, 105, 100, 32, 101, 120, 112, 116, 105, 109, 101, 32, 97, 114, 103, 117, 109, 101, 110, 116]⟩)
set_option maxHeartbeats 8000000 in
set_option maxRecDepth 100000 in
theorem get_get_short (A : Option Addr) (c : Nat) (r : List ByteArray) (w : World) (HLD : LaidA w) (hr : Kd.C Kd.string w A (⟨#[103, 101, 116]⟩ :: r).length (⟨#[103, 101, 116]⟩ :: r)) (hcc : (⟨#[103, 101, 116]⟩ :: r).length ≤ c) (hl : r.length < 1) :
    Calls Tryd.prog 20 #[.slice A (⟨#[103, 101, 116]⟩ :: r).length c] w fun e w' => ∃ v, e = .returned (.tuple #[v, .int .i64 (-1)]) ∧ AnyR w' v (.pl (.bad ⟨#[69, 82, 82, 79, 82]⟩)) ∧ Below w.heap.size w w' := by
  have hus := Tryd.underlying23
  have hug := Tryd.underlying64
  have hmax := hr.2.1
  have HL := Aside0.mk HLD
  obtain ⟨gb, ob, hA, hcell⟩ := str_cells hr (by simp)
  have x0 := hcell 0 (by simp)
  have x1 : w.cell? ⟨gb, ob, none⟩ = some (.string ⟨#[103, 101, 116]⟩) := x0
  subst hA
  have hlt : gb < w.heap.size := World.block_lt_of_cell? w _ x1
  have hne : ¬ gb = w.heap.size := by omega
  have HC := Aside0.mk hcell
  have HMX := Aside0.mk hmax
  clear HLD hr hcell x0
  go_enter Tryd.func20, Tryd.ntmps20
  go_wp2
  refine start_ (n := 23) (S := fun w' => w'.cell? ⟨gb, ob, none⟩ = some (.string ⟨#[103, 101, 116]⟩)) (ds := [22]) gb0_ (by kernel_rfl) rfl rfl x1 (fun hHeld => ?_); refine with_tabW get_tab1 get_bits1 (fun HT_ HW_ => ?_)
  generalize hWd : w.drew = wd at hHeld ⊢
  refine pure_ (i := 0) (N := some 7) (v := ?_) (a' := ?_) gb1_ rfl rfl (any_of HT_.out (by kernel_rfl)) (fun _ _ _ h => h) (Or.inl ⟨by rfl, ?_⟩) ?_ ?_
  rotate_left
  · intro w'
    go_simp
    with_reducible rfl
  rotate_left
  · simp only [Act.put, List.setIfInBounds_toArray, List.set_cons_zero, List.set_cons_succ, i64_w, i32_w]
    rfl
  refine pure_ (i := 1) (N := some 8) (v := ?_) (a' := ?_) gb2_ rfl rfl (any_of HT_.out (by kernel_rfl)) (fun _ _ _ h => h) (Or.inl ⟨by rfl, ?_⟩) ?_ ?_
  rotate_left
  · intro w'
    go_simp
    with_reducible rfl
  rotate_left
  · simp only [Act.put, List.setIfInBounds_toArray, List.set_cons_zero, List.set_cons_succ, i64_w, i32_w]
    rfl
  refine take_ (i := 2) (N := some 9) (v := ?_) (a' := ?_) gb3_ rfl rfl (take_ofW HT_.out HW_.out (by kernel_rfl)) (fun _ _ _ h => h) (Or.inl ⟨by rfl, ?_⟩) hHeld ?_ ?_
  rotate_left
  · rintro w' s0
    go_simp
    with_reducible rfl
  rotate_left
  · simp only [Act.put, List.setIfInBounds_toArray, List.set_cons_zero, List.set_cons_succ, i64_w, i32_w]
    rfl
  refine pure_ (i := 3) (N := some 10) (v := ?_) (a' := ?_) gb4_ rfl rfl (any_of HT_.out (by kernel_rfl)) (fun _ _ _ h => h) (Or.inl ⟨by rfl, ?_⟩) ?_ ?_
  rotate_left
  · intro w'
    go_simp
    with_reducible rfl
  rotate_left
  · simp only [Act.put, List.setIfInBounds_toArray, List.set_cons_zero, List.set_cons_succ, i64_w, i32_w]
    rfl
  refine pure_ (i := 4) (N := some 11) (v := ?_) (a' := ?_) gb5_ rfl rfl (any_of HT_.out (by kernel_rfl)) (fun _ _ _ h => h) (Or.inl ⟨by rfl, ?_⟩) ?_ ?_
  rotate_left
  · intro w'
    go_simp
    with_reducible rfl
  rotate_left
  · simp only [Act.put, List.setIfInBounds_toArray, List.set_cons_zero, List.set_cons_succ, i64_w, i32_w]
    rfl
  refine pure_ (i := 5) (N := some 12) (v := ?_) (a' := ?_) gb6_ rfl rfl (any_of HT_.out (by kernel_rfl)) (fun _ _ _ h => h) (Or.inl ⟨by rfl, ?_⟩) ?_ ?_
  rotate_left
  · intro w'
    go_simp
    with_reducible rfl
  rotate_left
  · simp only [Act.put, List.setIfInBounds_toArray, List.set_cons_zero, List.set_cons_succ, i64_w, i32_w]
    rfl
  refine pure_ (i := 6) (N := some 13) (v := ?_) (a' := ?_) gb7_ rfl rfl (any_of HT_.out (by kernel_rfl)) (fun _ _ _ h => h) (Or.inl ⟨by rfl, ?_⟩) ?_ ?_
  rotate_left
  · intro w'
    go_simp
    with_reducible rfl
  rotate_left
  · simp only [Act.put, List.setIfInBounds_toArray, List.set_cons_zero, List.set_cons_succ, i64_w, i32_w]
    rfl
  refine take_ (i := 7) (N := some 14) (v := ?_) (a' := ?_) gb8_ rfl rfl (take_ofW HT_.out HW_.out (by kernel_rfl)) (fun _ _ _ h => h) (Or.inl ⟨by rfl, ?_⟩) hHeld ?_ ?_
  rotate_left
  · rintro w' s0
    go_simp
    with_reducible rfl
  rotate_left
  · simp only [Act.put, List.setIfInBounds_toArray, List.set_cons_zero, List.set_cons_succ, i64_w, i32_w]
    rfl
  refine pure_ (i := 8) (N := some 15) (v := ?_) (a' := ?_) gb9_ rfl rfl (any_of HT_.out (by kernel_rfl)) (fun _ _ _ h => h) (Or.inl ⟨by rfl, ?_⟩) ?_ ?_
  rotate_left
  · intro w'
    go_simp
    with_reducible rfl
  rotate_left
  · simp only [Act.put, List.setIfInBounds_toArray, List.set_cons_zero, List.set_cons_succ, i64_w, i32_w]
    rfl
  refine pure_ (i := 9) (N := some 16) (v := ?_) (a' := ?_) gb10_ rfl rfl (any_of HT_.out (by kernel_rfl)) (fun _ _ _ h => h) (Or.inl ⟨by rfl, ?_⟩) ?_ ?_
  rotate_left
  · intro w'
    go_simp
    with_reducible rfl
  rotate_left
  · simp only [Act.put, List.setIfInBounds_toArray, List.set_cons_zero, List.set_cons_succ, i64_w, i32_w]
    rfl
  refine pure_ (i := 10) (N := some 17) (v := ?_) (a' := ?_) gb11_ rfl rfl (any_of HT_.out (by kernel_rfl)) (fun _ _ _ h => h) (Or.inl ⟨by rfl, ?_⟩) ?_ ?_
  rotate_left
  · intro w'
    go_simp
    with_reducible rfl
  rotate_left
  · simp only [Act.put, List.setIfInBounds_toArray, List.set_cons_zero, List.set_cons_succ, i64_w, i32_w]
    rfl
  refine pure_ (i := 11) (N := some 18) (v := ?_) (a' := ?_) gb12_ rfl rfl (any_of HT_.out (by kernel_rfl)) (fun _ _ _ h => h) (Or.inl ⟨by rfl, ?_⟩) ?_ ?_
  rotate_left
  · intro w'
    go_simp
    with_reducible rfl
  rotate_left
  · simp only [Act.put, List.setIfInBounds_toArray, List.set_cons_zero, List.set_cons_succ, i64_w, i32_w]
    rfl
  refine take_ (i := 12) (N := some 19) (v := ?_) (a' := ?_) gb13_ rfl rfl (take_ofW HT_.out HW_.out (by kernel_rfl)) (fun _ _ _ h => h) (Or.inl ⟨by rfl, ?_⟩) hHeld ?_ ?_
  rotate_left
  · rintro w' s0
    go_simp
    with_reducible rfl
  rotate_left
  · simp only [Act.put, List.setIfInBounds_toArray, List.set_cons_zero, List.set_cons_succ, i64_w, i32_w]
    rfl
  refine pure_ (i := 13) (N := some 20) (v := ?_) (a' := ?_) gb14_ rfl rfl (any_of HT_.out (by kernel_rfl)) (fun _ _ _ h => h) (Or.inl ⟨by rfl, ?_⟩) ?_ ?_
  rotate_left
  · intro w'
    go_simp
    with_reducible rfl
  rotate_left
  · simp only [Act.put, List.setIfInBounds_toArray, List.set_cons_zero, List.set_cons_succ, i64_w, i32_w]
    rfl
  refine pure_ (i := 14) (N := some 21) (v := ?_) (a' := ?_) gb15_ rfl rfl (any_of HT_.out (by kernel_rfl)) (fun _ _ _ h => h) (Or.inl ⟨by rfl, ?_⟩) ?_ ?_
  rotate_left
  · intro w'
    go_simp
    with_reducible rfl
  rotate_left
  · simp only [Act.put, List.setIfInBounds_toArray, List.set_cons_zero, List.set_cons_succ, i64_w, i32_w]
    rfl
  refine pure_ (i := 15) (N := some 22) (v := ?_) (a' := ?_) gb16_ rfl rfl (any_of HT_.out (by kernel_rfl)) (fun _ _ _ h => h) (Or.inl ⟨by rfl, ?_⟩) ?_ ?_
  rotate_left
  · intro w'
    go_simp
    with_reducible rfl
  rotate_left
  · simp only [Act.put, List.setIfInBounds_toArray, List.set_cons_zero, List.set_cons_succ, i64_w, i32_w]
    rfl
  refine pure_ (i := 16) (N := some 23) (v := ?_) (a' := ?_) gb17_ rfl rfl (any_of HT_.out (by kernel_rfl)) (fun _ _ _ h => h) (Or.inl ⟨by rfl, ?_⟩) ?_ ?_
  rotate_left
  · intro w'
    go_simp
    with_reducible rfl
  rotate_left
  · simp only [Act.put, List.setIfInBounds_toArray, List.set_cons_zero, List.set_cons_succ, i64_w, i32_w]
    rfl
  refine take_ (i := 17) (N := some 24) (v := ?_) (a' := ?_) gb18_ rfl rfl (take_ofW HT_.out HW_.out (by kernel_rfl)) (fun _ _ _ h => h) (Or.inl ⟨by rfl, ?_⟩) hHeld ?_ ?_
  rotate_left
  · rintro w' s0
    go_simp
    with_reducible rfl
  rotate_left
  · simp only [Act.put, List.setIfInBounds_toArray, List.set_cons_zero, List.set_cons_succ, i64_w, i32_w]
    rfl
  refine pure_ (i := 18) (N := some 25) (v := ?_) (a' := ?_) gb19_ rfl rfl (any_of HT_.out (by kernel_rfl)) (fun _ _ _ h => h) (Or.inl ⟨by rfl, ?_⟩) ?_ ?_
  rotate_left
  · intro w'
    go_simp
    with_reducible rfl
  rotate_left
  · simp only [Act.put, List.setIfInBounds_toArray, List.set_cons_zero, List.set_cons_succ, i64_w, i32_w]
    rfl
  refine pure_ (i := 19) (N := some 26) (v := ?_) (a' := ?_) gb20_ rfl rfl (any_of HT_.out (by kernel_rfl)) (fun _ _ _ h => h) (Or.inl ⟨by rfl, ?_⟩) ?_ ?_
  rotate_left
  · intro w'
    go_simp
    with_reducible rfl
  rotate_left
  · simp only [Act.put, List.setIfInBounds_toArray, List.set_cons_zero, List.set_cons_succ, i64_w, i32_w]
    rfl
  refine pure_ (i := 20) (N := some 27) (v := ?_) (a' := ?_) gb21_ rfl rfl (any_of HT_.out (by kernel_rfl)) (fun _ _ _ h => h) (Or.inl ⟨by rfl, ?_⟩) ?_ ?_
  rotate_left
  · intro w'
    go_simp
    with_reducible rfl
  rotate_left
  · simp only [Act.put, List.setIfInBounds_toArray, List.set_cons_zero, List.set_cons_succ, i64_w, i32_w]
    rfl
  refine one_ (i := 21) (N := some 4) gb22_ rfl rfl (one_of HT_.out (by kernel_rfl)) (by decide) (fun K hK => ?_)
  refine box_step ?hg (N := 4) ?hd (cs := #[.slice none 0 0, .bool false, .bool false, .int .i64 0]) (t := 64) ?hr ?_; (case hd => rfl); (case hg => rfl); (case hr => first | (go_simp; done) | (go_simp; rfl))
  intro g hg w1 hbox hb
  have hb1 : Below w.heap.size w w1 := by
    rw [← hWd] at hb
    exact below_undrew hb
  have hgs : w.heap.size ≤ g := by rw [hg, ← hWd]; exact Nat.le_refl _
  have hgb : gb ≠ g := by omega
  have x2 := pw_cell_below hb1 x1
  clear hg hb
  refine hK.out _ _ x2 (fun hHeld2 => ?_)
  refine last_ (i := 22) (N := none) gb23_ rfl rfl (one_of HT_.out (by kernel_rfl)) (by decide) (fun K2 hK2 => ?_)
  obtain ⟨z0, z1, z2, z3⟩ : w1.cell? ⟨g, 0, none⟩ = some (.slice none 0 0) ∧ w1.cell? ⟨g, 1, none⟩ = some (.bool false) ∧ w1.cell? ⟨g, 2, none⟩ = some (.bool false) ∧ w1.cell? ⟨g, 3, none⟩ = some (.int .i64 0) := ⟨(blk_cell hbox 0).trans rfl, (blk_cell hbox 1).trans rfl, (blk_cell hbox 2).trans rfl, (blk_cell hbox 3).trans rfl⟩
  have zf : ∀ i, w1.frozen? ⟨g, i, none⟩ = false := fun i => blk_frozen hbox i
  refine skip_ (w1 := (((w1.setCell ⟨g, 0, none⟩ (.slice none 0 0)).setCell ⟨g, 1, none⟩ (.bool false)).setCell ⟨g, 2, none⟩ (.bool false)).setCell ⟨g, 3, none⟩ (.int .i64 0)) (by rfl) rfl ?hrun ?_
  case hrun => go_simp
  refine hK2.out _ _ (done_ (done_of HT_.out (by kernel_rfl)) ?_)
  have hbk := blk_set (blk_set (blk_set (blk_set hbox 0 (.slice none 0 0)) 1 (.bool false)) 2 (.bool false)) 3 (.int .i64 0)
  have hb2 := below_set (below_set (below_set (below_set hb1 hgs (j := 0) (v := .slice none 0 0)) hgs (j := 1) (v := .bool false)) hgs (j := 2) (v := .bool false)) hgs (j := 3) (v := .int .i64 0)
  clear hb1 hbox hK hK2 hHeld hHeld2 z0 z1 z2 z3 zf x2
  generalize World.setCell _ ⟨g, 3, none⟩ _ = W2 at hbk hb2 ⊢
  replace hbk : W2.heap[g]? = some (.cells #[.slice none 0 0, .bool false, .bool false, .int .i64 0] 64 (0, 0)) := hbk
  have HBK := Aside0.mk hbk
  have HB2 := Aside0.mk hb2
  obtain ⟨z0, z1, z2, z3⟩ : W2.cell? ⟨g, 0, none⟩ = some (.slice none 0 0) ∧ W2.cell? ⟨g, 1, none⟩ = some (.bool false) ∧ W2.cell? ⟨g, 2, none⟩ = some (.bool false) ∧ W2.cell? ⟨g, 3, none⟩ = some (.int .i64 0) := ⟨(blk_cell hbk 0).trans rfl, (blk_cell hbk 1).trans rfl, (blk_cell hbk 2).trans rfl, (blk_cell hbk 3).trans rfl⟩
  have zf : ∀ i, W2.frozen? ⟨g, i, none⟩ = false := fun i => blk_frozen hbk i
  have HGB := Aside0.mk hgb
  have HGS := Aside0.mk hgs
  have HX1 := Aside0.mk x1
  clear hbk hb2 hgb hgs x1 hWd
  have d1 : decide (((r.length + 1 : Nat) : Int) ≤ 1) = true := decide_eq_true (by omega)
  have d2 : decide (r.length + 1 ≤ 1) = true := decide_eq_true (by omega)
  have d3 : decide ((r.length : Int) + 1 ≤ 1) = true := decide_eq_true (by omega)
  clear hl
  go_wp2_with (go_at_call 19; refine (parse_bad.calls _ _ _ _ rfl).mono ?_; rintro e w3 ⟨rfl, hd⟩; have HD := Aside0.mk hd; clear hd)
  go_ret2
  exact ⟨_, rfl, rfl, below_step (by repeat (first | exact HB2.out | apply below_drew1 | apply below_alloc | apply pw_below_drewN)) HD.out.below⟩
set_option maxHeartbeats 8000000 in
set_option maxRecDepth 100000 in
theorem get_get_full (A : Option Addr) (c : Nat) (ks : List ByteArray) (w : World) (HLD : LaidA w) (hr : Kd.C Kd.string w A (⟨#[103, 101, 116]⟩ :: ks).length (⟨#[103, 101, 116]⟩ :: ks)) (hcc : (⟨#[103, 101, 116]⟩ :: ks).length ≤ c) (hn : 0 < ks.length) :
    Calls Tryd.prog 20 #[.slice A (⟨#[103, 101, 116]⟩ :: ks).length c] w fun e w' => ∃ v, e = .returned (.tuple #[v, .int .i64 (-1)]) ∧ AnyR w' v (getX ks false false (0, true)) ∧ Below w.heap.size w w' := by
  have hus := Tryd.underlying23
  have hug := Tryd.underlying64
  have hmax := hr.2.1
  have HL := Aside0.mk HLD
  obtain ⟨gb, ob, hA, hcell⟩ := str_cells hr (by simp)
  have x0 := hcell 0 (by simp)
  have x1 : w.cell? ⟨gb, ob, none⟩ = some (.string ⟨#[103, 101, 116]⟩) := x0
  subst hA
  have hlt : gb < w.heap.size := World.block_lt_of_cell? w _ x1
  have hne : ¬ gb = w.heap.size := by omega
  have HC := Aside0.mk hcell
  have HMX := Aside0.mk hmax
  clear HLD hr hcell x0
  obtain ⟨X, hX⟩ : ∃ X, X = getX ks false false (0, true) := ⟨_, rfl⟩
  rw [← hX]
  have HXX := Aside0.mk hX
  clear hX
  have hF0 : Kd.F Kd.string w (fun _ => True) (some ⟨gb, ob + 1, none⟩) ks.length ks := Kd.F_mono (Kd.C_F Kd.heap_string (str_drop (xs := ⟨#[103, 101, 116]⟩ :: ks) HMX.out HC.out 1 ks.length rfl)) (fun _ _ => trivial)
  have HF0 := Aside0.mk hF0
  have HN := Aside0.mk hn
  have HCC := Aside0.mk hcc
  have e3 : (ks.length + 1 ≤ c) = True := eq_true (by simp at hcc; omega)
  have e4 : ¬ c = 1 := by simp at hcc; omega
  have e5 : ¬ c = 0 := by simp at hcc; omega
  have d1 : decide (((ks.length + 1 : Nat) : Int) ≤ 1) = false := decide_eq_false (by omega)
  have d2 : decide (ks.length + 1 ≤ 1) = false := decide_eq_false (by omega)
  have d3 : decide ((ks.length : Int) + 1 ≤ 1) = false := decide_eq_false (by omega)
  have d5 : decide ((ks.length : Int) + 1 + 1 ≤ 1) = false := decide_eq_false (by omega)
  have e1 : (1 ≤ ks.length + 1) = True := eq_true (by omega)
  have e6 : ((1 : Int) ≤ (ks.length : Int) + 1) = True := eq_true (by omega)
  clear hF0 hn hcc
  go_enter Tryd.func20, Tryd.ntmps20
  go_wp2
  refine start_ (n := 23) (S := fun w' => w'.cell? ⟨gb, ob, none⟩ = some (.string ⟨#[103, 101, 116]⟩)) (ds := [22]) gb0_ (by kernel_rfl) rfl rfl x1 (fun hHeld => ?_); refine with_tabW get_tab1 get_bits1 (fun HT_ HW_ => ?_)
  generalize hWd : w.drew = wd at hHeld ⊢
  refine pure_ (i := 0) (N := some 7) (v := ?_) (a' := ?_) gb1_ rfl rfl (any_of HT_.out (by kernel_rfl)) (fun _ _ _ h => h) (Or.inl ⟨by rfl, ?_⟩) ?_ ?_
  rotate_left
  · intro w'
    go_simp
    with_reducible rfl
  rotate_left
  · simp only [Act.put, List.setIfInBounds_toArray, List.set_cons_zero, List.set_cons_succ, i64_w, i32_w]
    rfl
  refine pure_ (i := 1) (N := some 8) (v := ?_) (a' := ?_) gb2_ rfl rfl (any_of HT_.out (by kernel_rfl)) (fun _ _ _ h => h) (Or.inl ⟨by rfl, ?_⟩) ?_ ?_
  rotate_left
  · intro w'
    go_simp
    with_reducible rfl
  rotate_left
  · simp only [Act.put, List.setIfInBounds_toArray, List.set_cons_zero, List.set_cons_succ, i64_w, i32_w]
    rfl
  refine take_ (i := 2) (N := some 9) (v := ?_) (a' := ?_) gb3_ rfl rfl (take_ofW HT_.out HW_.out (by kernel_rfl)) (fun _ _ _ h => h) (Or.inl ⟨by rfl, ?_⟩) hHeld ?_ ?_
  rotate_left
  · rintro w' s0
    go_simp
    with_reducible rfl
  rotate_left
  · simp only [Act.put, List.setIfInBounds_toArray, List.set_cons_zero, List.set_cons_succ, i64_w, i32_w]
    rfl
  refine pure_ (i := 3) (N := some 10) (v := ?_) (a' := ?_) gb4_ rfl rfl (any_of HT_.out (by kernel_rfl)) (fun _ _ _ h => h) (Or.inl ⟨by rfl, ?_⟩) ?_ ?_
  rotate_left
  · intro w'
    go_simp
    with_reducible rfl
  rotate_left
  · simp only [Act.put, List.setIfInBounds_toArray, List.set_cons_zero, List.set_cons_succ, i64_w, i32_w]
    rfl
  refine pure_ (i := 4) (N := some 11) (v := ?_) (a' := ?_) gb5_ rfl rfl (any_of HT_.out (by kernel_rfl)) (fun _ _ _ h => h) (Or.inl ⟨by rfl, ?_⟩) ?_ ?_
  rotate_left
  · intro w'
    go_simp
    with_reducible rfl
  rotate_left
  · simp only [Act.put, List.setIfInBounds_toArray, List.set_cons_zero, List.set_cons_succ, i64_w, i32_w]
    rfl
  refine pure_ (i := 5) (N := some 12) (v := ?_) (a' := ?_) gb6_ rfl rfl (any_of HT_.out (by kernel_rfl)) (fun _ _ _ h => h) (Or.inl ⟨by rfl, ?_⟩) ?_ ?_
  rotate_left
  · intro w'
    go_simp
    with_reducible rfl
  rotate_left
  · simp only [Act.put, List.setIfInBounds_toArray, List.set_cons_zero, List.set_cons_succ, i64_w, i32_w]
    rfl
  refine pure_ (i := 6) (N := some 13) (v := ?_) (a' := ?_) gb7_ rfl rfl (any_of HT_.out (by kernel_rfl)) (fun _ _ _ h => h) (Or.inl ⟨by rfl, ?_⟩) ?_ ?_
  rotate_left
  · intro w'
    go_simp
    with_reducible rfl
  rotate_left
  · simp only [Act.put, List.setIfInBounds_toArray, List.set_cons_zero, List.set_cons_succ, i64_w, i32_w]
    rfl
  refine take_ (i := 7) (N := some 14) (v := ?_) (a' := ?_) gb8_ rfl rfl (take_ofW HT_.out HW_.out (by kernel_rfl)) (fun _ _ _ h => h) (Or.inl ⟨by rfl, ?_⟩) hHeld ?_ ?_
  rotate_left
  · rintro w' s0
    go_simp
    with_reducible rfl
  rotate_left
  · simp only [Act.put, List.setIfInBounds_toArray, List.set_cons_zero, List.set_cons_succ, i64_w, i32_w]
    rfl
  refine pure_ (i := 8) (N := some 15) (v := ?_) (a' := ?_) gb9_ rfl rfl (any_of HT_.out (by kernel_rfl)) (fun _ _ _ h => h) (Or.inl ⟨by rfl, ?_⟩) ?_ ?_
  rotate_left
  · intro w'
    go_simp
    with_reducible rfl
  rotate_left
  · simp only [Act.put, List.setIfInBounds_toArray, List.set_cons_zero, List.set_cons_succ, i64_w, i32_w]
    rfl
  refine pure_ (i := 9) (N := some 16) (v := ?_) (a' := ?_) gb10_ rfl rfl (any_of HT_.out (by kernel_rfl)) (fun _ _ _ h => h) (Or.inl ⟨by rfl, ?_⟩) ?_ ?_
  rotate_left
  · intro w'
    go_simp
    with_reducible rfl
  rotate_left
  · simp only [Act.put, List.setIfInBounds_toArray, List.set_cons_zero, List.set_cons_succ, i64_w, i32_w]
    rfl
  refine pure_ (i := 10) (N := some 17) (v := ?_) (a' := ?_) gb11_ rfl rfl (any_of HT_.out (by kernel_rfl)) (fun _ _ _ h => h) (Or.inl ⟨by rfl, ?_⟩) ?_ ?_
  rotate_left
  · intro w'
    go_simp
    with_reducible rfl
  rotate_left
  · simp only [Act.put, List.setIfInBounds_toArray, List.set_cons_zero, List.set_cons_succ, i64_w, i32_w]
    rfl
  refine pure_ (i := 11) (N := some 18) (v := ?_) (a' := ?_) gb12_ rfl rfl (any_of HT_.out (by kernel_rfl)) (fun _ _ _ h => h) (Or.inl ⟨by rfl, ?_⟩) ?_ ?_
  rotate_left
  · intro w'
    go_simp
    with_reducible rfl
  rotate_left
  · simp only [Act.put, List.setIfInBounds_toArray, List.set_cons_zero, List.set_cons_succ, i64_w, i32_w]
    rfl
  refine take_ (i := 12) (N := some 19) (v := ?_) (a' := ?_) gb13_ rfl rfl (take_ofW HT_.out HW_.out (by kernel_rfl)) (fun _ _ _ h => h) (Or.inl ⟨by rfl, ?_⟩) hHeld ?_ ?_
  rotate_left
  · rintro w' s0
    go_simp
    with_reducible rfl
  rotate_left
  · simp only [Act.put, List.setIfInBounds_toArray, List.set_cons_zero, List.set_cons_succ, i64_w, i32_w]
    rfl
  refine pure_ (i := 13) (N := some 20) (v := ?_) (a' := ?_) gb14_ rfl rfl (any_of HT_.out (by kernel_rfl)) (fun _ _ _ h => h) (Or.inl ⟨by rfl, ?_⟩) ?_ ?_
  rotate_left
  · intro w'
    go_simp
    with_reducible rfl
  rotate_left
  · simp only [Act.put, List.setIfInBounds_toArray, List.set_cons_zero, List.set_cons_succ, i64_w, i32_w]
    rfl
  refine pure_ (i := 14) (N := some 21) (v := ?_) (a' := ?_) gb15_ rfl rfl (any_of HT_.out (by kernel_rfl)) (fun _ _ _ h => h) (Or.inl ⟨by rfl, ?_⟩) ?_ ?_
  rotate_left
  · intro w'
    go_simp
    with_reducible rfl
  rotate_left
  · simp only [Act.put, List.setIfInBounds_toArray, List.set_cons_zero, List.set_cons_succ, i64_w, i32_w]
    rfl
  refine pure_ (i := 15) (N := some 22) (v := ?_) (a' := ?_) gb16_ rfl rfl (any_of HT_.out (by kernel_rfl)) (fun _ _ _ h => h) (Or.inl ⟨by rfl, ?_⟩) ?_ ?_
  rotate_left
  · intro w'
    go_simp
    with_reducible rfl
  rotate_left
  · simp only [Act.put, List.setIfInBounds_toArray, List.set_cons_zero, List.set_cons_succ, i64_w, i32_w]
    rfl
  refine pure_ (i := 16) (N := some 23) (v := ?_) (a' := ?_) gb17_ rfl rfl (any_of HT_.out (by kernel_rfl)) (fun _ _ _ h => h) (Or.inl ⟨by rfl, ?_⟩) ?_ ?_
  rotate_left
  · intro w'
    go_simp
    with_reducible rfl
  rotate_left
  · simp only [Act.put, List.setIfInBounds_toArray, List.set_cons_zero, List.set_cons_succ, i64_w, i32_w]
    rfl
  refine take_ (i := 17) (N := some 24) (v := ?_) (a' := ?_) gb18_ rfl rfl (take_ofW HT_.out HW_.out (by kernel_rfl)) (fun _ _ _ h => h) (Or.inl ⟨by rfl, ?_⟩) hHeld ?_ ?_
  rotate_left
  · rintro w' s0
    go_simp
    with_reducible rfl
  rotate_left
  · simp only [Act.put, List.setIfInBounds_toArray, List.set_cons_zero, List.set_cons_succ, i64_w, i32_w]
    rfl
  refine pure_ (i := 18) (N := some 25) (v := ?_) (a' := ?_) gb19_ rfl rfl (any_of HT_.out (by kernel_rfl)) (fun _ _ _ h => h) (Or.inl ⟨by rfl, ?_⟩) ?_ ?_
  rotate_left
  · intro w'
    go_simp
    with_reducible rfl
  rotate_left
  · simp only [Act.put, List.setIfInBounds_toArray, List.set_cons_zero, List.set_cons_succ, i64_w, i32_w]
    rfl
  refine pure_ (i := 19) (N := some 26) (v := ?_) (a' := ?_) gb20_ rfl rfl (any_of HT_.out (by kernel_rfl)) (fun _ _ _ h => h) (Or.inl ⟨by rfl, ?_⟩) ?_ ?_
  rotate_left
  · intro w'
    go_simp
    with_reducible rfl
  rotate_left
  · simp only [Act.put, List.setIfInBounds_toArray, List.set_cons_zero, List.set_cons_succ, i64_w, i32_w]
    rfl
  refine pure_ (i := 20) (N := some 27) (v := ?_) (a' := ?_) gb21_ rfl rfl (any_of HT_.out (by kernel_rfl)) (fun _ _ _ h => h) (Or.inl ⟨by rfl, ?_⟩) ?_ ?_
  rotate_left
  · intro w'
    go_simp
    with_reducible rfl
  rotate_left
  · simp only [Act.put, List.setIfInBounds_toArray, List.set_cons_zero, List.set_cons_succ, i64_w, i32_w]
    rfl
  refine one_ (i := 21) (N := some 4) gb22_ rfl rfl (one_of HT_.out (by kernel_rfl)) (by decide) (fun K hK => ?_)
  refine box_step ?hg (N := 4) ?hd (cs := #[.slice none 0 0, .bool false, .bool false, .int .i64 0]) (t := 64) ?hr ?_; (case hd => rfl); (case hg => rfl); (case hr => first | (go_simp; done) | (go_simp; rfl))
  intro g hg w1 hbox hb
  have hb1 : Below w.heap.size w w1 := by
    rw [← hWd] at hb
    exact below_undrew hb
  have hgs : w.heap.size ≤ g := by rw [hg, ← hWd]; exact Nat.le_refl _
  have hgb : gb ≠ g := by omega
  have x2 := pw_cell_below hb1 x1
  clear hg hb
  refine hK.out _ _ x2 (fun hHeld2 => ?_)
  refine last_ (i := 22) (N := none) gb23_ rfl rfl (one_of HT_.out (by kernel_rfl)) (by decide) (fun K2 hK2 => ?_)
  obtain ⟨z0, z1, z2, z3⟩ : w1.cell? ⟨g, 0, none⟩ = some (.slice none 0 0) ∧ w1.cell? ⟨g, 1, none⟩ = some (.bool false) ∧ w1.cell? ⟨g, 2, none⟩ = some (.bool false) ∧ w1.cell? ⟨g, 3, none⟩ = some (.int .i64 0) := ⟨(blk_cell hbox 0).trans rfl, (blk_cell hbox 1).trans rfl, (blk_cell hbox 2).trans rfl, (blk_cell hbox 3).trans rfl⟩
  have zf : ∀ i, w1.frozen? ⟨g, i, none⟩ = false := fun i => blk_frozen hbox i
  refine skip_ (w1 := (((w1.setCell ⟨g, 0, none⟩ (.slice none 0 0)).setCell ⟨g, 1, none⟩ (.bool false)).setCell ⟨g, 2, none⟩ (.bool false)).setCell ⟨g, 3, none⟩ (.int .i64 0)) (by rfl) rfl ?hrun ?_
  case hrun => go_simp
  refine hK2.out _ _ (done_ (done_of HT_.out (by kernel_rfl)) ?_)
  have hbk := blk_set (blk_set (blk_set (blk_set hbox 0 (.slice none 0 0)) 1 (.bool false)) 2 (.bool false)) 3 (.int .i64 0)
  have hb2 := below_set (below_set (below_set (below_set hb1 hgs (j := 0) (v := .slice none 0 0)) hgs (j := 1) (v := .bool false)) hgs (j := 2) (v := .bool false)) hgs (j := 3) (v := .int .i64 0)
  clear hb1 hbox hK hK2 hHeld hHeld2 z0 z1 z2 z3 zf x2
  generalize World.setCell _ ⟨g, 3, none⟩ _ = W2 at hbk hb2 ⊢
  replace hbk : W2.heap[g]? = some (.cells #[.slice none 0 0, .bool false, .bool false, .int .i64 0] 64 (0, 0)) := hbk
  have HBK := Aside0.mk hbk
  have HB2 := Aside0.mk hb2
  obtain ⟨z0, z1, z2, z3⟩ : W2.cell? ⟨g, 0, none⟩ = some (.slice none 0 0) ∧ W2.cell? ⟨g, 1, none⟩ = some (.bool false) ∧ W2.cell? ⟨g, 2, none⟩ = some (.bool false) ∧ W2.cell? ⟨g, 3, none⟩ = some (.int .i64 0) := ⟨(blk_cell hbk 0).trans rfl, (blk_cell hbk 1).trans rfl, (blk_cell hbk 2).trans rfl, (blk_cell hbk 3).trans rfl⟩
  have zf : ∀ i, W2.frozen? ⟨g, i, none⟩ = false := fun i => blk_frozen hbk i
  have HGB := Aside0.mk hgb
  have HGS := Aside0.mk hgs
  have HX1 := Aside0.mk x1
  clear hbk hb2 hgb hgs x1 hWd
  by_cases hk : ks.any (fun k => !keyF k) = true
  · have HK := Aside0.mk hk
    clear hk
    go_wp2_with (first | (go_at_call 30; refine (ContainsFunc_walk _ _ ks _ (HL.out.below (below_set HB2.out HGS.out)) (Kd.F_now (Kd.F_below HF0.out (below_set HB2.out HGS.out)))).mono ?_; rintro e w3 ⟨rfl, hb3⟩; rw [HK.out]; have hbk3 := blk_below (blk_set HBK.out 0 (.slice (some ⟨gb, ob + 1, none⟩) ks.length (c - 1))) hb3; replace hbk3 : w3.heap[g]? = some (.cells #[.slice (some ⟨gb, ob + 1, none⟩) ks.length (c - 1), .bool false, .bool false, .int .i64 0] 64 (0, 0)) := hbk3; obtain ⟨y0, y1, y2, y3⟩ : w3.cell? ⟨g, 0, none⟩ = some (.slice (some ⟨gb, ob + 1, none⟩) ks.length (c - 1)) ∧ w3.cell? ⟨g, 1, none⟩ = some (.bool false) ∧ w3.cell? ⟨g, 2, none⟩ = some (.bool false) ∧ w3.cell? ⟨g, 3, none⟩ = some (.int .i64 0) := ⟨(blk_cell hbk3 0).trans rfl, (blk_cell hbk3 1).trans rfl, (blk_cell hbk3 2).trans rfl, (blk_cell hbk3 3).trans rfl⟩; have HBK3 := Aside0.mk hbk3; have HB3 := Aside0.mk (below_step (below_set HB2.out HGS.out) hb3); clear hbk3 hb3) | (go_at_call 19; refine (parse_bad.calls _ _ _ _ rfl).mono ?_; rintro e w4 ⟨rfl, hd⟩; have HD := Aside0.mk hd; clear hd))
    go_ret2
    refine ⟨_, rfl, ?_, below_step HB3.out HD.out.below⟩
    rw [HXX.out]
    unfold getX
    rw [if_pos (Or.inl HK.out)]
    exact rfl
  have HK := Aside0.mk (by simpa using hk : ks.any (fun k => !keyF k) = false)
  by_cases h64 : 64 < ks.length
  · have H64 := Aside0.mk h64
    have f1 : decide ((64 : Int) < (ks.length : Int)) = true := decide_eq_true (by omega)
    have f2 : decide (64 < ks.length) = true := decide_eq_true (by omega)
    clear hk h64
    go_wp2_with (first | (go_at_call 30; refine (ContainsFunc_walk _ _ ks _ (HL.out.below (below_set HB2.out HGS.out)) (Kd.F_now (Kd.F_below HF0.out (below_set HB2.out HGS.out)))).mono ?_; rintro e w3 ⟨rfl, hb3⟩; rw [HK.out]; have hbk3 := blk_below (blk_set HBK.out 0 (.slice (some ⟨gb, ob + 1, none⟩) ks.length (c - 1))) hb3; replace hbk3 : w3.heap[g]? = some (.cells #[.slice (some ⟨gb, ob + 1, none⟩) ks.length (c - 1), .bool false, .bool false, .int .i64 0] 64 (0, 0)) := hbk3; obtain ⟨y0, y1, y2, y3⟩ : w3.cell? ⟨g, 0, none⟩ = some (.slice (some ⟨gb, ob + 1, none⟩) ks.length (c - 1)) ∧ w3.cell? ⟨g, 1, none⟩ = some (.bool false) ∧ w3.cell? ⟨g, 2, none⟩ = some (.bool false) ∧ w3.cell? ⟨g, 3, none⟩ = some (.int .i64 0) := ⟨(blk_cell hbk3 0).trans rfl, (blk_cell hbk3 1).trans rfl, (blk_cell hbk3 2).trans rfl, (blk_cell hbk3 3).trans rfl⟩; have HBK3 := Aside0.mk hbk3; have HB3 := Aside0.mk (below_step (below_set HB2.out HGS.out) hb3); clear hbk3 hb3) | (go_at_call 19; refine (parse_bad.calls _ _ _ _ rfl).mono ?_; rintro e w4 ⟨rfl, hd⟩; have HD := Aside0.mk hd; clear hd))
    go_ret2
    refine ⟨_, rfl, ?_, below_step HB3.out HD.out.below⟩
    rw [HXX.out]
    unfold getX
    rw [if_pos (Or.inr H64.out)]
    exact rfl
  have HNO := Aside0.mk (show ¬ (ks.any (fun k => !keyF k) = true ∨ 64 < ks.length) from by rintro (h | h); exact hk h; exact h64 h)
  have H64 := Aside0.mk h64
  have f1 : decide ((64 : Int) < (ks.length : Int)) = false := decide_eq_false (by omega)
  have f2 : decide (64 < ks.length) = false := decide_eq_false (by omega)
  clear hk h64
  go_wp2_with ((go_at_call 30; refine (ContainsFunc_walk _ _ ks _ (HL.out.below (below_set HB2.out HGS.out)) (Kd.F_now (Kd.F_below HF0.out (below_set HB2.out HGS.out)))).mono ?_; rintro e w3 ⟨rfl, hb3⟩; rw [HK.out]; have hbk3 := blk_below (blk_set HBK.out 0 (.slice (some ⟨gb, ob + 1, none⟩) ks.length (c - 1))) hb3; replace hbk3 : w3.heap[g]? = some (.cells #[.slice (some ⟨gb, ob + 1, none⟩) ks.length (c - 1), .bool false, .bool false, .int .i64 0] 64 (0, 0)) := hbk3; obtain ⟨y0, y1, y2, y3⟩ : w3.cell? ⟨g, 0, none⟩ = some (.slice (some ⟨gb, ob + 1, none⟩) ks.length (c - 1)) ∧ w3.cell? ⟨g, 1, none⟩ = some (.bool false) ∧ w3.cell? ⟨g, 2, none⟩ = some (.bool false) ∧ w3.cell? ⟨g, 3, none⟩ = some (.int .i64 0) := ⟨(blk_cell hbk3 0).trans rfl, (blk_cell hbk3 1).trans rfl, (blk_cell hbk3 2).trans rfl, (blk_cell hbk3 3).trans rfl⟩; have HBK3 := Aside0.mk hbk3; have HB3 := Aside0.mk (below_step (below_set HB2.out HGS.out) hb3); clear hbk3 hb3))
  go_ret2
  refine ⟨_, rfl, ?_, HB3.out⟩
  rw [HXX.out]
  unfold getX
  rw [if_neg HNO.out]
  exact ⟨_, _, rfl, ⟨HN.out, by have := H64.out; omega⟩, by have := HCC.out; simp at this; omega, Kd.F_below HF0.out HB3.out⟩
set_option maxHeartbeats 8000000 in
set_option maxRecDepth 100000 in
theorem get_gets_short (A : Option Addr) (c : Nat) (r : List ByteArray) (w : World) (HLD : LaidA w) (hr : Kd.C Kd.string w A (⟨#[103, 101, 116, 115]⟩ :: r).length (⟨#[103, 101, 116, 115]⟩ :: r)) (hcc : (⟨#[103, 101, 116, 115]⟩ :: r).length ≤ c) (hl : r.length < 1) :
    Calls Tryd.prog 20 #[.slice A (⟨#[103, 101, 116, 115]⟩ :: r).length c] w fun e w' => ∃ v, e = .returned (.tuple #[v, .int .i64 (-1)]) ∧ AnyR w' v (.pl (.bad ⟨#[69, 82, 82, 79, 82]⟩)) ∧ Below w.heap.size w w' := by
  have hus := Tryd.underlying23
  have hug := Tryd.underlying64
  have hmax := hr.2.1
  have HL := Aside0.mk HLD
  obtain ⟨gb, ob, hA, hcell⟩ := str_cells hr (by simp)
  have x0 := hcell 0 (by simp)
  have x1 : w.cell? ⟨gb, ob, none⟩ = some (.string ⟨#[103, 101, 116, 115]⟩) := x0
  subst hA
  have hlt : gb < w.heap.size := World.block_lt_of_cell? w _ x1
  have hne : ¬ gb = w.heap.size := by omega
  have HC := Aside0.mk hcell
  have HMX := Aside0.mk hmax
  clear HLD hr hcell x0
  go_enter Tryd.func20, Tryd.ntmps20
  go_wp2
  refine start_ (n := 23) (S := fun w' => w'.cell? ⟨gb, ob, none⟩ = some (.string ⟨#[103, 101, 116, 115]⟩)) (ds := [22]) gb0_ (by kernel_rfl) rfl rfl x1 (fun hHeld => ?_); refine with_tabW get_tab1 get_bits1 (fun HT_ HW_ => ?_)
  generalize hWd : w.drew = wd at hHeld ⊢
  refine pure_ (i := 0) (N := some 7) (v := ?_) (a' := ?_) gb1_ rfl rfl (any_of HT_.out (by kernel_rfl)) (fun _ _ _ h => h) (Or.inl ⟨by rfl, ?_⟩) ?_ ?_
  rotate_left
  · intro w'
    go_simp
    with_reducible rfl
  rotate_left
  · simp only [Act.put, List.setIfInBounds_toArray, List.set_cons_zero, List.set_cons_succ, i64_w, i32_w]
    rfl
  refine pure_ (i := 1) (N := some 8) (v := ?_) (a' := ?_) gb2_ rfl rfl (any_of HT_.out (by kernel_rfl)) (fun _ _ _ h => h) (Or.inl ⟨by rfl, ?_⟩) ?_ ?_
  rotate_left
  · intro w'
    go_simp
    with_reducible rfl
  rotate_left
  · simp only [Act.put, List.setIfInBounds_toArray, List.set_cons_zero, List.set_cons_succ, i64_w, i32_w]
    rfl
  refine take_ (i := 2) (N := some 9) (v := ?_) (a' := ?_) gb3_ rfl rfl (take_ofW HT_.out HW_.out (by kernel_rfl)) (fun _ _ _ h => h) (Or.inl ⟨by rfl, ?_⟩) hHeld ?_ ?_
  rotate_left
  · rintro w' s0
    go_simp
    with_reducible rfl
  rotate_left
  · simp only [Act.put, List.setIfInBounds_toArray, List.set_cons_zero, List.set_cons_succ, i64_w, i32_w]
    rfl
  refine pure_ (i := 3) (N := some 10) (v := ?_) (a' := ?_) gb4_ rfl rfl (any_of HT_.out (by kernel_rfl)) (fun _ _ _ h => h) (Or.inl ⟨by rfl, ?_⟩) ?_ ?_
  rotate_left
  · intro w'
    go_simp
    with_reducible rfl
  rotate_left
  · simp only [Act.put, List.setIfInBounds_toArray, List.set_cons_zero, List.set_cons_succ, i64_w, i32_w]
    rfl
  refine pure_ (i := 4) (N := some 11) (v := ?_) (a' := ?_) gb5_ rfl rfl (any_of HT_.out (by kernel_rfl)) (fun _ _ _ h => h) (Or.inl ⟨by rfl, ?_⟩) ?_ ?_
  rotate_left
  · intro w'
    go_simp
    with_reducible rfl
  rotate_left
  · simp only [Act.put, List.setIfInBounds_toArray, List.set_cons_zero, List.set_cons_succ, i64_w, i32_w]
    rfl
  refine pure_ (i := 5) (N := some 12) (v := undef) (a' := ?_) gb6_ rfl rfl (any_of HT_.out (by kernel_rfl)) (fun _ _ _ h => h) (Or.inr ⟨by rfl, rfl⟩) ?_ ?_
  rotate_left
  · simp only [Act.put, List.setIfInBounds_toArray, List.set_cons_zero, List.set_cons_succ, i64_w, i32_w]
    rfl
  refine pure_ (i := 6) (N := some 13) (v := undef) (a' := ?_) gb7_ rfl rfl (any_of HT_.out (by kernel_rfl)) (fun _ _ _ h => h) (Or.inr ⟨by rfl, rfl⟩) ?_ ?_
  rotate_left
  · simp only [Act.put, List.setIfInBounds_toArray, List.set_cons_zero, List.set_cons_succ, i64_w, i32_w]
    rfl
  refine pure_ (i := 7) (N := some 14) (v := undef) (a' := ?_) gb8_ rfl rfl (any_of HT_.out (by kernel_rfl)) (fun _ _ _ h => h) (Or.inr ⟨by rfl, rfl⟩) ?_ ?_
  rotate_left
  · simp only [Act.put, List.setIfInBounds_toArray, List.set_cons_zero, List.set_cons_succ, i64_w, i32_w]
    rfl
  refine pure_ (i := 8) (N := some 15) (v := undef) (a' := ?_) gb9_ rfl rfl (any_of HT_.out (by kernel_rfl)) (fun _ _ _ h => h) (Or.inr ⟨by rfl, rfl⟩) ?_ ?_
  rotate_left
  · simp only [Act.put, List.setIfInBounds_toArray, List.set_cons_zero, List.set_cons_succ, i64_w, i32_w]
    rfl
  refine pure_ (i := 9) (N := some 16) (v := ?_) (a' := ?_) gb10_ rfl rfl (any_of HT_.out (by kernel_rfl)) (fun _ _ _ h => h) (Or.inl ⟨by rfl, ?_⟩) ?_ ?_
  rotate_left
  · intro w'
    go_simp
    with_reducible rfl
  rotate_left
  · simp only [Act.put, List.setIfInBounds_toArray, List.set_cons_zero, List.set_cons_succ, i64_w, i32_w]
    rfl
  refine pure_ (i := 10) (N := some 17) (v := ?_) (a' := ?_) gb11_ rfl rfl (any_of HT_.out (by kernel_rfl)) (fun _ _ _ h => h) (Or.inl ⟨by rfl, ?_⟩) ?_ ?_
  rotate_left
  · intro w'
    go_simp
    with_reducible rfl
  rotate_left
  · simp only [Act.put, List.setIfInBounds_toArray, List.set_cons_zero, List.set_cons_succ, i64_w, i32_w]
    rfl
  refine pure_ (i := 11) (N := some 18) (v := ?_) (a' := ?_) gb12_ rfl rfl (any_of HT_.out (by kernel_rfl)) (fun _ _ _ h => h) (Or.inl ⟨by rfl, ?_⟩) ?_ ?_
  rotate_left
  · intro w'
    go_simp
    with_reducible rfl
  rotate_left
  · simp only [Act.put, List.setIfInBounds_toArray, List.set_cons_zero, List.set_cons_succ, i64_w, i32_w]
    rfl
  refine take_ (i := 12) (N := some 19) (v := ?_) (a' := ?_) gb13_ rfl rfl (take_ofW HT_.out HW_.out (by kernel_rfl)) (fun _ _ _ h => h) (Or.inl ⟨by rfl, ?_⟩) hHeld ?_ ?_
  rotate_left
  · rintro w' s0
    go_simp
    with_reducible rfl
  rotate_left
  · simp only [Act.put, List.setIfInBounds_toArray, List.set_cons_zero, List.set_cons_succ, i64_w, i32_w]
    rfl
  refine pure_ (i := 13) (N := some 20) (v := ?_) (a' := ?_) gb14_ rfl rfl (any_of HT_.out (by kernel_rfl)) (fun _ _ _ h => h) (Or.inl ⟨by rfl, ?_⟩) ?_ ?_
  rotate_left
  · intro w'
    go_simp
    with_reducible rfl
  rotate_left
  · simp only [Act.put, List.setIfInBounds_toArray, List.set_cons_zero, List.set_cons_succ, i64_w, i32_w]
    rfl
  refine pure_ (i := 14) (N := some 21) (v := ?_) (a' := ?_) gb15_ rfl rfl (any_of HT_.out (by kernel_rfl)) (fun _ _ _ h => h) (Or.inl ⟨by rfl, ?_⟩) ?_ ?_
  rotate_left
  · intro w'
    go_simp
    with_reducible rfl
  rotate_left
  · simp only [Act.put, List.setIfInBounds_toArray, List.set_cons_zero, List.set_cons_succ, i64_w, i32_w]
    rfl
  refine pure_ (i := 15) (N := some 22) (v := ?_) (a' := ?_) gb16_ rfl rfl (any_of HT_.out (by kernel_rfl)) (fun _ _ _ h => h) (Or.inl ⟨by rfl, ?_⟩) ?_ ?_
  rotate_left
  · intro w'
    go_simp
    with_reducible rfl
  rotate_left
  · simp only [Act.put, List.setIfInBounds_toArray, List.set_cons_zero, List.set_cons_succ, i64_w, i32_w]
    rfl
  refine pure_ (i := 16) (N := some 23) (v := ?_) (a' := ?_) gb17_ rfl rfl (any_of HT_.out (by kernel_rfl)) (fun _ _ _ h => h) (Or.inl ⟨by rfl, ?_⟩) ?_ ?_
  rotate_left
  · intro w'
    go_simp
    with_reducible rfl
  rotate_left
  · simp only [Act.put, List.setIfInBounds_toArray, List.set_cons_zero, List.set_cons_succ, i64_w, i32_w]
    rfl
  refine take_ (i := 17) (N := some 24) (v := ?_) (a' := ?_) gb18_ rfl rfl (take_ofW HT_.out HW_.out (by kernel_rfl)) (fun _ _ _ h => h) (Or.inl ⟨by rfl, ?_⟩) hHeld ?_ ?_
  rotate_left
  · rintro w' s0
    go_simp
    with_reducible rfl
  rotate_left
  · simp only [Act.put, List.setIfInBounds_toArray, List.set_cons_zero, List.set_cons_succ, i64_w, i32_w]
    rfl
  refine pure_ (i := 18) (N := some 25) (v := ?_) (a' := ?_) gb19_ rfl rfl (any_of HT_.out (by kernel_rfl)) (fun _ _ _ h => h) (Or.inl ⟨by rfl, ?_⟩) ?_ ?_
  rotate_left
  · intro w'
    go_simp
    with_reducible rfl
  rotate_left
  · simp only [Act.put, List.setIfInBounds_toArray, List.set_cons_zero, List.set_cons_succ, i64_w, i32_w]
    rfl
  refine pure_ (i := 19) (N := some 26) (v := ?_) (a' := ?_) gb20_ rfl rfl (any_of HT_.out (by kernel_rfl)) (fun _ _ _ h => h) (Or.inl ⟨by rfl, ?_⟩) ?_ ?_
  rotate_left
  · intro w'
    go_simp
    with_reducible rfl
  rotate_left
  · simp only [Act.put, List.setIfInBounds_toArray, List.set_cons_zero, List.set_cons_succ, i64_w, i32_w]
    rfl
  refine pure_ (i := 20) (N := some 27) (v := ?_) (a' := ?_) gb21_ rfl rfl (any_of HT_.out (by kernel_rfl)) (fun _ _ _ h => h) (Or.inl ⟨by rfl, ?_⟩) ?_ ?_
  rotate_left
  · intro w'
    go_simp
    with_reducible rfl
  rotate_left
  · simp only [Act.put, List.setIfInBounds_toArray, List.set_cons_zero, List.set_cons_succ, i64_w, i32_w]
    rfl
  refine one_ (i := 21) (N := some 4) gb22_ rfl rfl (one_of HT_.out (by kernel_rfl)) (by decide) (fun K hK => ?_)
  refine box_step ?hg (N := 4) ?hd (cs := #[.slice none 0 0, .bool false, .bool false, .int .i64 0]) (t := 64) ?hr ?_; (case hd => rfl); (case hg => rfl); (case hr => first | (go_simp; done) | (go_simp; rfl))
  intro g hg w1 hbox hb
  have hb1 : Below w.heap.size w w1 := by
    rw [← hWd] at hb
    exact below_undrew hb
  have hgs : w.heap.size ≤ g := by rw [hg, ← hWd]; exact Nat.le_refl _
  have hgb : gb ≠ g := by omega
  have x2 := pw_cell_below hb1 x1
  clear hg hb
  refine hK.out _ _ x2 (fun hHeld2 => ?_)
  refine last_ (i := 22) (N := none) gb23_ rfl rfl (one_of HT_.out (by kernel_rfl)) (by decide) (fun K2 hK2 => ?_)
  obtain ⟨z0, z1, z2, z3⟩ : w1.cell? ⟨g, 0, none⟩ = some (.slice none 0 0) ∧ w1.cell? ⟨g, 1, none⟩ = some (.bool false) ∧ w1.cell? ⟨g, 2, none⟩ = some (.bool false) ∧ w1.cell? ⟨g, 3, none⟩ = some (.int .i64 0) := ⟨(blk_cell hbox 0).trans rfl, (blk_cell hbox 1).trans rfl, (blk_cell hbox 2).trans rfl, (blk_cell hbox 3).trans rfl⟩
  have zf : ∀ i, w1.frozen? ⟨g, i, none⟩ = false := fun i => blk_frozen hbox i
  refine skip_ (w1 := (((w1.setCell ⟨g, 0, none⟩ (.slice none 0 0)).setCell ⟨g, 1, none⟩ (.bool true)).setCell ⟨g, 2, none⟩ (.bool false)).setCell ⟨g, 3, none⟩ (.int .i64 0)) (by rfl) rfl ?hrun ?_
  case hrun => go_simp
  refine hK2.out _ _ (done_ (done_of HT_.out (by kernel_rfl)) ?_)
  have hbk := blk_set (blk_set (blk_set (blk_set hbox 0 (.slice none 0 0)) 1 (.bool true)) 2 (.bool false)) 3 (.int .i64 0)
  have hb2 := below_set (below_set (below_set (below_set hb1 hgs (j := 0) (v := .slice none 0 0)) hgs (j := 1) (v := .bool true)) hgs (j := 2) (v := .bool false)) hgs (j := 3) (v := .int .i64 0)
  clear hb1 hbox hK hK2 hHeld hHeld2 z0 z1 z2 z3 zf x2
  generalize World.setCell _ ⟨g, 3, none⟩ _ = W2 at hbk hb2 ⊢
  replace hbk : W2.heap[g]? = some (.cells #[.slice none 0 0, .bool true, .bool false, .int .i64 0] 64 (0, 0)) := hbk
  have HBK := Aside0.mk hbk
  have HB2 := Aside0.mk hb2
  obtain ⟨z0, z1, z2, z3⟩ : W2.cell? ⟨g, 0, none⟩ = some (.slice none 0 0) ∧ W2.cell? ⟨g, 1, none⟩ = some (.bool true) ∧ W2.cell? ⟨g, 2, none⟩ = some (.bool false) ∧ W2.cell? ⟨g, 3, none⟩ = some (.int .i64 0) := ⟨(blk_cell hbk 0).trans rfl, (blk_cell hbk 1).trans rfl, (blk_cell hbk 2).trans rfl, (blk_cell hbk 3).trans rfl⟩
  have zf : ∀ i, W2.frozen? ⟨g, i, none⟩ = false := fun i => blk_frozen hbk i
  have HGB := Aside0.mk hgb
  have HGS := Aside0.mk hgs
  have HX1 := Aside0.mk x1
  clear hbk hb2 hgb hgs x1 hWd
  have d1 : decide (((r.length + 1 : Nat) : Int) ≤ 1) = true := decide_eq_true (by omega)
  have d2 : decide (r.length + 1 ≤ 1) = true := decide_eq_true (by omega)
  have d3 : decide ((r.length : Int) + 1 ≤ 1) = true := decide_eq_true (by omega)
  clear hl
  go_wp2_with (go_at_call 19; refine (parse_bad.calls _ _ _ _ rfl).mono ?_; rintro e w3 ⟨rfl, hd⟩; have HD := Aside0.mk hd; clear hd)
  go_ret2
  exact ⟨_, rfl, rfl, below_step (by repeat (first | exact HB2.out | apply below_drew1 | apply below_alloc | apply pw_below_drewN)) HD.out.below⟩
set_option maxHeartbeats 8000000 in
set_option maxRecDepth 100000 in
theorem get_gets_full (A : Option Addr) (c : Nat) (ks : List ByteArray) (w : World) (HLD : LaidA w) (hr : Kd.C Kd.string w A (⟨#[103, 101, 116, 115]⟩ :: ks).length (⟨#[103, 101, 116, 115]⟩ :: ks)) (hcc : (⟨#[103, 101, 116, 115]⟩ :: ks).length ≤ c) (hn : 0 < ks.length) :
    Calls Tryd.prog 20 #[.slice A (⟨#[103, 101, 116, 115]⟩ :: ks).length c] w fun e w' => ∃ v, e = .returned (.tuple #[v, .int .i64 (-1)]) ∧ AnyR w' v (getX ks true false (0, true)) ∧ Below w.heap.size w w' := by
  have hus := Tryd.underlying23
  have hug := Tryd.underlying64
  have hmax := hr.2.1
  have HL := Aside0.mk HLD
  obtain ⟨gb, ob, hA, hcell⟩ := str_cells hr (by simp)
  have x0 := hcell 0 (by simp)
  have x1 : w.cell? ⟨gb, ob, none⟩ = some (.string ⟨#[103, 101, 116, 115]⟩) := x0
  subst hA
  have hlt : gb < w.heap.size := World.block_lt_of_cell? w _ x1
  have hne : ¬ gb = w.heap.size := by omega
  have HC := Aside0.mk hcell
  have HMX := Aside0.mk hmax
  clear HLD hr hcell x0
  obtain ⟨X, hX⟩ : ∃ X, X = getX ks true false (0, true) := ⟨_, rfl⟩
  rw [← hX]
  have HXX := Aside0.mk hX
  clear hX
  have hF0 : Kd.F Kd.string w (fun _ => True) (some ⟨gb, ob + 1, none⟩) ks.length ks := Kd.F_mono (Kd.C_F Kd.heap_string (str_drop (xs := ⟨#[103, 101, 116, 115]⟩ :: ks) HMX.out HC.out 1 ks.length rfl)) (fun _ _ => trivial)
  have HF0 := Aside0.mk hF0
  have HN := Aside0.mk hn
  have HCC := Aside0.mk hcc
  have e3 : (ks.length + 1 ≤ c) = True := eq_true (by simp at hcc; omega)
  have e4 : ¬ c = 1 := by simp at hcc; omega
  have e5 : ¬ c = 0 := by simp at hcc; omega
  have d1 : decide (((ks.length + 1 : Nat) : Int) ≤ 1) = false := decide_eq_false (by omega)
  have d2 : decide (ks.length + 1 ≤ 1) = false := decide_eq_false (by omega)
  have d3 : decide ((ks.length : Int) + 1 ≤ 1) = false := decide_eq_false (by omega)
  have d5 : decide ((ks.length : Int) + 1 + 1 ≤ 1) = false := decide_eq_false (by omega)
  have e1 : (1 ≤ ks.length + 1) = True := eq_true (by omega)
  have e6 : ((1 : Int) ≤ (ks.length : Int) + 1) = True := eq_true (by omega)
  clear hF0 hn hcc
  go_enter Tryd.func20, Tryd.ntmps20
  go_wp2
  refine start_ (n := 23) (S := fun w' => w'.cell? ⟨gb, ob, none⟩ = some (.string ⟨#[103, 101, 116, 115]⟩)) (ds := [22]) gb0_ (by kernel_rfl) rfl rfl x1 (fun hHeld => ?_); refine with_tabW get_tab1 get_bits1 (fun HT_ HW_ => ?_)
  generalize hWd : w.drew = wd at hHeld ⊢
  refine pure_ (i := 0) (N := some 7) (v := ?_) (a' := ?_) gb1_ rfl rfl (any_of HT_.out (by kernel_rfl)) (fun _ _ _ h => h) (Or.inl ⟨by rfl, ?_⟩) ?_ ?_
  rotate_left
  · intro w'
    go_simp
    with_reducible rfl
  rotate_left
  · simp only [Act.put, List.setIfInBounds_toArray, List.set_cons_zero, List.set_cons_succ, i64_w, i32_w]
    rfl
  refine pure_ (i := 1) (N := some 8) (v := ?_) (a' := ?_) gb2_ rfl rfl (any_of HT_.out (by kernel_rfl)) (fun _ _ _ h => h) (Or.inl ⟨by rfl, ?_⟩) ?_ ?_
  rotate_left
  · intro w'
    go_simp
    with_reducible rfl
  rotate_left
  · simp only [Act.put, List.setIfInBounds_toArray, List.set_cons_zero, List.set_cons_succ, i64_w, i32_w]
    rfl
  refine take_ (i := 2) (N := some 9) (v := ?_) (a' := ?_) gb3_ rfl rfl (take_ofW HT_.out HW_.out (by kernel_rfl)) (fun _ _ _ h => h) (Or.inl ⟨by rfl, ?_⟩) hHeld ?_ ?_
  rotate_left
  · rintro w' s0
    go_simp
    with_reducible rfl
  rotate_left
  · simp only [Act.put, List.setIfInBounds_toArray, List.set_cons_zero, List.set_cons_succ, i64_w, i32_w]
    rfl
  refine pure_ (i := 3) (N := some 10) (v := ?_) (a' := ?_) gb4_ rfl rfl (any_of HT_.out (by kernel_rfl)) (fun _ _ _ h => h) (Or.inl ⟨by rfl, ?_⟩) ?_ ?_
  rotate_left
  · intro w'
    go_simp
    with_reducible rfl
  rotate_left
  · simp only [Act.put, List.setIfInBounds_toArray, List.set_cons_zero, List.set_cons_succ, i64_w, i32_w]
    rfl
  refine pure_ (i := 4) (N := some 11) (v := ?_) (a' := ?_) gb5_ rfl rfl (any_of HT_.out (by kernel_rfl)) (fun _ _ _ h => h) (Or.inl ⟨by rfl, ?_⟩) ?_ ?_
  rotate_left
  · intro w'
    go_simp
    with_reducible rfl
  rotate_left
  · simp only [Act.put, List.setIfInBounds_toArray, List.set_cons_zero, List.set_cons_succ, i64_w, i32_w]
    rfl
  refine pure_ (i := 5) (N := some 12) (v := undef) (a' := ?_) gb6_ rfl rfl (any_of HT_.out (by kernel_rfl)) (fun _ _ _ h => h) (Or.inr ⟨by rfl, rfl⟩) ?_ ?_
  rotate_left
  · simp only [Act.put, List.setIfInBounds_toArray, List.set_cons_zero, List.set_cons_succ, i64_w, i32_w]
    rfl
  refine pure_ (i := 6) (N := some 13) (v := undef) (a' := ?_) gb7_ rfl rfl (any_of HT_.out (by kernel_rfl)) (fun _ _ _ h => h) (Or.inr ⟨by rfl, rfl⟩) ?_ ?_
  rotate_left
  · simp only [Act.put, List.setIfInBounds_toArray, List.set_cons_zero, List.set_cons_succ, i64_w, i32_w]
    rfl
  refine pure_ (i := 7) (N := some 14) (v := undef) (a' := ?_) gb8_ rfl rfl (any_of HT_.out (by kernel_rfl)) (fun _ _ _ h => h) (Or.inr ⟨by rfl, rfl⟩) ?_ ?_
  rotate_left
  · simp only [Act.put, List.setIfInBounds_toArray, List.set_cons_zero, List.set_cons_succ, i64_w, i32_w]
    rfl
  refine pure_ (i := 8) (N := some 15) (v := undef) (a' := ?_) gb9_ rfl rfl (any_of HT_.out (by kernel_rfl)) (fun _ _ _ h => h) (Or.inr ⟨by rfl, rfl⟩) ?_ ?_
  rotate_left
  · simp only [Act.put, List.setIfInBounds_toArray, List.set_cons_zero, List.set_cons_succ, i64_w, i32_w]
    rfl
  refine pure_ (i := 9) (N := some 16) (v := ?_) (a' := ?_) gb10_ rfl rfl (any_of HT_.out (by kernel_rfl)) (fun _ _ _ h => h) (Or.inl ⟨by rfl, ?_⟩) ?_ ?_
  rotate_left
  · intro w'
    go_simp
    with_reducible rfl
  rotate_left
  · simp only [Act.put, List.setIfInBounds_toArray, List.set_cons_zero, List.set_cons_succ, i64_w, i32_w]
    rfl
  refine pure_ (i := 10) (N := some 17) (v := ?_) (a' := ?_) gb11_ rfl rfl (any_of HT_.out (by kernel_rfl)) (fun _ _ _ h => h) (Or.inl ⟨by rfl, ?_⟩) ?_ ?_
  rotate_left
  · intro w'
    go_simp
    with_reducible rfl
  rotate_left
  · simp only [Act.put, List.setIfInBounds_toArray, List.set_cons_zero, List.set_cons_succ, i64_w, i32_w]
    rfl
  refine pure_ (i := 11) (N := some 18) (v := ?_) (a' := ?_) gb12_ rfl rfl (any_of HT_.out (by kernel_rfl)) (fun _ _ _ h => h) (Or.inl ⟨by rfl, ?_⟩) ?_ ?_
  rotate_left
  · intro w'
    go_simp
    with_reducible rfl
  rotate_left
  · simp only [Act.put, List.setIfInBounds_toArray, List.set_cons_zero, List.set_cons_succ, i64_w, i32_w]
    rfl
  refine take_ (i := 12) (N := some 19) (v := ?_) (a' := ?_) gb13_ rfl rfl (take_ofW HT_.out HW_.out (by kernel_rfl)) (fun _ _ _ h => h) (Or.inl ⟨by rfl, ?_⟩) hHeld ?_ ?_
  rotate_left
  · rintro w' s0
    go_simp
    with_reducible rfl
  rotate_left
  · simp only [Act.put, List.setIfInBounds_toArray, List.set_cons_zero, List.set_cons_succ, i64_w, i32_w]
    rfl
  refine pure_ (i := 13) (N := some 20) (v := ?_) (a' := ?_) gb14_ rfl rfl (any_of HT_.out (by kernel_rfl)) (fun _ _ _ h => h) (Or.inl ⟨by rfl, ?_⟩) ?_ ?_
  rotate_left
  · intro w'
    go_simp
    with_reducible rfl
  rotate_left
  · simp only [Act.put, List.setIfInBounds_toArray, List.set_cons_zero, List.set_cons_succ, i64_w, i32_w]
    rfl
  refine pure_ (i := 14) (N := some 21) (v := ?_) (a' := ?_) gb15_ rfl rfl (any_of HT_.out (by kernel_rfl)) (fun _ _ _ h => h) (Or.inl ⟨by rfl, ?_⟩) ?_ ?_
  rotate_left
  · intro w'
    go_simp
    with_reducible rfl
  rotate_left
  · simp only [Act.put, List.setIfInBounds_toArray, List.set_cons_zero, List.set_cons_succ, i64_w, i32_w]
    rfl
  refine pure_ (i := 15) (N := some 22) (v := ?_) (a' := ?_) gb16_ rfl rfl (any_of HT_.out (by kernel_rfl)) (fun _ _ _ h => h) (Or.inl ⟨by rfl, ?_⟩) ?_ ?_
  rotate_left
  · intro w'
    go_simp
    with_reducible rfl
  rotate_left
  · simp only [Act.put, List.setIfInBounds_toArray, List.set_cons_zero, List.set_cons_succ, i64_w, i32_w]
    rfl
  refine pure_ (i := 16) (N := some 23) (v := ?_) (a' := ?_) gb17_ rfl rfl (any_of HT_.out (by kernel_rfl)) (fun _ _ _ h => h) (Or.inl ⟨by rfl, ?_⟩) ?_ ?_
  rotate_left
  · intro w'
    go_simp
    with_reducible rfl
  rotate_left
  · simp only [Act.put, List.setIfInBounds_toArray, List.set_cons_zero, List.set_cons_succ, i64_w, i32_w]
    rfl
  refine take_ (i := 17) (N := some 24) (v := ?_) (a' := ?_) gb18_ rfl rfl (take_ofW HT_.out HW_.out (by kernel_rfl)) (fun _ _ _ h => h) (Or.inl ⟨by rfl, ?_⟩) hHeld ?_ ?_
  rotate_left
  · rintro w' s0
    go_simp
    with_reducible rfl
  rotate_left
  · simp only [Act.put, List.setIfInBounds_toArray, List.set_cons_zero, List.set_cons_succ, i64_w, i32_w]
    rfl
  refine pure_ (i := 18) (N := some 25) (v := ?_) (a' := ?_) gb19_ rfl rfl (any_of HT_.out (by kernel_rfl)) (fun _ _ _ h => h) (Or.inl ⟨by rfl, ?_⟩) ?_ ?_
  rotate_left
  · intro w'
    go_simp
    with_reducible rfl
  rotate_left
  · simp only [Act.put, List.setIfInBounds_toArray, List.set_cons_zero, List.set_cons_succ, i64_w, i32_w]
    rfl
  refine pure_ (i := 19) (N := some 26) (v := ?_) (a' := ?_) gb20_ rfl rfl (any_of HT_.out (by kernel_rfl)) (fun _ _ _ h => h) (Or.inl ⟨by rfl, ?_⟩) ?_ ?_
  rotate_left
  · intro w'
    go_simp
    with_reducible rfl
  rotate_left
  · simp only [Act.put, List.setIfInBounds_toArray, List.set_cons_zero, List.set_cons_succ, i64_w, i32_w]
    rfl
  refine pure_ (i := 20) (N := some 27) (v := ?_) (a' := ?_) gb21_ rfl rfl (any_of HT_.out (by kernel_rfl)) (fun _ _ _ h => h) (Or.inl ⟨by rfl, ?_⟩) ?_ ?_
  rotate_left
  · intro w'
    go_simp
    with_reducible rfl
  rotate_left
  · simp only [Act.put, List.setIfInBounds_toArray, List.set_cons_zero, List.set_cons_succ, i64_w, i32_w]
    rfl
  refine one_ (i := 21) (N := some 4) gb22_ rfl rfl (one_of HT_.out (by kernel_rfl)) (by decide) (fun K hK => ?_)
  refine box_step ?hg (N := 4) ?hd (cs := #[.slice none 0 0, .bool false, .bool false, .int .i64 0]) (t := 64) ?hr ?_; (case hd => rfl); (case hg => rfl); (case hr => first | (go_simp; done) | (go_simp; rfl))
  intro g hg w1 hbox hb
  have hb1 : Below w.heap.size w w1 := by
    rw [← hWd] at hb
    exact below_undrew hb
  have hgs : w.heap.size ≤ g := by rw [hg, ← hWd]; exact Nat.le_refl _
  have hgb : gb ≠ g := by omega
  have x2 := pw_cell_below hb1 x1
  clear hg hb
  refine hK.out _ _ x2 (fun hHeld2 => ?_)
  refine last_ (i := 22) (N := none) gb23_ rfl rfl (one_of HT_.out (by kernel_rfl)) (by decide) (fun K2 hK2 => ?_)
  obtain ⟨z0, z1, z2, z3⟩ : w1.cell? ⟨g, 0, none⟩ = some (.slice none 0 0) ∧ w1.cell? ⟨g, 1, none⟩ = some (.bool false) ∧ w1.cell? ⟨g, 2, none⟩ = some (.bool false) ∧ w1.cell? ⟨g, 3, none⟩ = some (.int .i64 0) := ⟨(blk_cell hbox 0).trans rfl, (blk_cell hbox 1).trans rfl, (blk_cell hbox 2).trans rfl, (blk_cell hbox 3).trans rfl⟩
  have zf : ∀ i, w1.frozen? ⟨g, i, none⟩ = false := fun i => blk_frozen hbox i
  refine skip_ (w1 := (((w1.setCell ⟨g, 0, none⟩ (.slice none 0 0)).setCell ⟨g, 1, none⟩ (.bool true)).setCell ⟨g, 2, none⟩ (.bool false)).setCell ⟨g, 3, none⟩ (.int .i64 0)) (by rfl) rfl ?hrun ?_
  case hrun => go_simp
  refine hK2.out _ _ (done_ (done_of HT_.out (by kernel_rfl)) ?_)
  have hbk := blk_set (blk_set (blk_set (blk_set hbox 0 (.slice none 0 0)) 1 (.bool true)) 2 (.bool false)) 3 (.int .i64 0)
  have hb2 := below_set (below_set (below_set (below_set hb1 hgs (j := 0) (v := .slice none 0 0)) hgs (j := 1) (v := .bool true)) hgs (j := 2) (v := .bool false)) hgs (j := 3) (v := .int .i64 0)
  clear hb1 hbox hK hK2 hHeld hHeld2 z0 z1 z2 z3 zf x2
  generalize World.setCell _ ⟨g, 3, none⟩ _ = W2 at hbk hb2 ⊢
  replace hbk : W2.heap[g]? = some (.cells #[.slice none 0 0, .bool true, .bool false, .int .i64 0] 64 (0, 0)) := hbk
  have HBK := Aside0.mk hbk
  have HB2 := Aside0.mk hb2
  obtain ⟨z0, z1, z2, z3⟩ : W2.cell? ⟨g, 0, none⟩ = some (.slice none 0 0) ∧ W2.cell? ⟨g, 1, none⟩ = some (.bool true) ∧ W2.cell? ⟨g, 2, none⟩ = some (.bool false) ∧ W2.cell? ⟨g, 3, none⟩ = some (.int .i64 0) := ⟨(blk_cell hbk 0).trans rfl, (blk_cell hbk 1).trans rfl, (blk_cell hbk 2).trans rfl, (blk_cell hbk 3).trans rfl⟩
  have zf : ∀ i, W2.frozen? ⟨g, i, none⟩ = false := fun i => blk_frozen hbk i
  have HGB := Aside0.mk hgb
  have HGS := Aside0.mk hgs
  have HX1 := Aside0.mk x1
  clear hbk hb2 hgb hgs x1 hWd
  by_cases hk : ks.any (fun k => !keyF k) = true
  · have HK := Aside0.mk hk
    clear hk
    go_wp2_with (first | (go_at_call 30; refine (ContainsFunc_walk _ _ ks _ (HL.out.below (below_set HB2.out HGS.out)) (Kd.F_now (Kd.F_below HF0.out (below_set HB2.out HGS.out)))).mono ?_; rintro e w3 ⟨rfl, hb3⟩; rw [HK.out]; have hbk3 := blk_below (blk_set HBK.out 0 (.slice (some ⟨gb, ob + 1, none⟩) ks.length (c - 1))) hb3; replace hbk3 : w3.heap[g]? = some (.cells #[.slice (some ⟨gb, ob + 1, none⟩) ks.length (c - 1), .bool true, .bool false, .int .i64 0] 64 (0, 0)) := hbk3; obtain ⟨y0, y1, y2, y3⟩ : w3.cell? ⟨g, 0, none⟩ = some (.slice (some ⟨gb, ob + 1, none⟩) ks.length (c - 1)) ∧ w3.cell? ⟨g, 1, none⟩ = some (.bool true) ∧ w3.cell? ⟨g, 2, none⟩ = some (.bool false) ∧ w3.cell? ⟨g, 3, none⟩ = some (.int .i64 0) := ⟨(blk_cell hbk3 0).trans rfl, (blk_cell hbk3 1).trans rfl, (blk_cell hbk3 2).trans rfl, (blk_cell hbk3 3).trans rfl⟩; have HBK3 := Aside0.mk hbk3; have HB3 := Aside0.mk (below_step (below_set HB2.out HGS.out) hb3); clear hbk3 hb3) | (go_at_call 19; refine (parse_bad.calls _ _ _ _ rfl).mono ?_; rintro e w4 ⟨rfl, hd⟩; have HD := Aside0.mk hd; clear hd))
    go_ret2
    refine ⟨_, rfl, ?_, below_step HB3.out HD.out.below⟩
    rw [HXX.out]
    unfold getX
    rw [if_pos (Or.inl HK.out)]
    exact rfl
  have HK := Aside0.mk (by simpa using hk : ks.any (fun k => !keyF k) = false)
  by_cases h64 : 64 < ks.length
  · have H64 := Aside0.mk h64
    have f1 : decide ((64 : Int) < (ks.length : Int)) = true := decide_eq_true (by omega)
    have f2 : decide (64 < ks.length) = true := decide_eq_true (by omega)
    clear hk h64
    go_wp2_with (first | (go_at_call 30; refine (ContainsFunc_walk _ _ ks _ (HL.out.below (below_set HB2.out HGS.out)) (Kd.F_now (Kd.F_below HF0.out (below_set HB2.out HGS.out)))).mono ?_; rintro e w3 ⟨rfl, hb3⟩; rw [HK.out]; have hbk3 := blk_below (blk_set HBK.out 0 (.slice (some ⟨gb, ob + 1, none⟩) ks.length (c - 1))) hb3; replace hbk3 : w3.heap[g]? = some (.cells #[.slice (some ⟨gb, ob + 1, none⟩) ks.length (c - 1), .bool true, .bool false, .int .i64 0] 64 (0, 0)) := hbk3; obtain ⟨y0, y1, y2, y3⟩ : w3.cell? ⟨g, 0, none⟩ = some (.slice (some ⟨gb, ob + 1, none⟩) ks.length (c - 1)) ∧ w3.cell? ⟨g, 1, none⟩ = some (.bool true) ∧ w3.cell? ⟨g, 2, none⟩ = some (.bool false) ∧ w3.cell? ⟨g, 3, none⟩ = some (.int .i64 0) := ⟨(blk_cell hbk3 0).trans rfl, (blk_cell hbk3 1).trans rfl, (blk_cell hbk3 2).trans rfl, (blk_cell hbk3 3).trans rfl⟩; have HBK3 := Aside0.mk hbk3; have HB3 := Aside0.mk (below_step (below_set HB2.out HGS.out) hb3); clear hbk3 hb3) | (go_at_call 19; refine (parse_bad.calls _ _ _ _ rfl).mono ?_; rintro e w4 ⟨rfl, hd⟩; have HD := Aside0.mk hd; clear hd))
    go_ret2
    refine ⟨_, rfl, ?_, below_step HB3.out HD.out.below⟩
    rw [HXX.out]
    unfold getX
    rw [if_pos (Or.inr H64.out)]
    exact rfl
  have HNO := Aside0.mk (show ¬ (ks.any (fun k => !keyF k) = true ∨ 64 < ks.length) from by rintro (h | h); exact hk h; exact h64 h)
  have H64 := Aside0.mk h64
  have f1 : decide ((64 : Int) < (ks.length : Int)) = false := decide_eq_false (by omega)
  have f2 : decide (64 < ks.length) = false := decide_eq_false (by omega)
  clear hk h64
  go_wp2_with ((go_at_call 30; refine (ContainsFunc_walk _ _ ks _ (HL.out.below (below_set HB2.out HGS.out)) (Kd.F_now (Kd.F_below HF0.out (below_set HB2.out HGS.out)))).mono ?_; rintro e w3 ⟨rfl, hb3⟩; rw [HK.out]; have hbk3 := blk_below (blk_set HBK.out 0 (.slice (some ⟨gb, ob + 1, none⟩) ks.length (c - 1))) hb3; replace hbk3 : w3.heap[g]? = some (.cells #[.slice (some ⟨gb, ob + 1, none⟩) ks.length (c - 1), .bool true, .bool false, .int .i64 0] 64 (0, 0)) := hbk3; obtain ⟨y0, y1, y2, y3⟩ : w3.cell? ⟨g, 0, none⟩ = some (.slice (some ⟨gb, ob + 1, none⟩) ks.length (c - 1)) ∧ w3.cell? ⟨g, 1, none⟩ = some (.bool true) ∧ w3.cell? ⟨g, 2, none⟩ = some (.bool false) ∧ w3.cell? ⟨g, 3, none⟩ = some (.int .i64 0) := ⟨(blk_cell hbk3 0).trans rfl, (blk_cell hbk3 1).trans rfl, (blk_cell hbk3 2).trans rfl, (blk_cell hbk3 3).trans rfl⟩; have HBK3 := Aside0.mk hbk3; have HB3 := Aside0.mk (below_step (below_set HB2.out HGS.out) hb3); clear hbk3 hb3))
  go_ret2
  refine ⟨_, rfl, ?_, HB3.out⟩
  rw [HXX.out]
  unfold getX
  rw [if_neg HNO.out]
  exact ⟨_, _, rfl, ⟨HN.out, by have := H64.out; omega⟩, by have := HCC.out; simp at this; omega, Kd.F_below HF0.out HB3.out⟩
set_option maxHeartbeats 8000000 in
set_option maxRecDepth 100000 in
theorem get_gat_short (A : Option Addr) (c : Nat) (r : List ByteArray) (w : World) (HLD : LaidA w) (hr : Kd.C Kd.string w A (⟨#[103, 97, 116]⟩ :: r).length (⟨#[103, 97, 116]⟩ :: r)) (hcc : (⟨#[103, 97, 116]⟩ :: r).length ≤ c) (hl : r.length < 2) :
    Calls Tryd.prog 20 #[.slice A (⟨#[103, 97, 116]⟩ :: r).length c] w fun e w' => ∃ v, e = .returned (.tuple #[v, .int .i64 (-1)]) ∧ AnyR w' v (.pl (.bad ⟨#[69, 82, 82, 79, 82]⟩)) ∧ Below w.heap.size w w' := by
  have hus := Tryd.underlying23
  have hug := Tryd.underlying64
  have hmax := hr.2.1
  have HL := Aside0.mk HLD
  obtain ⟨gb, ob, hA, hcell⟩ := str_cells hr (by simp)
  have x0 := hcell 0 (by simp)
  have x1 : w.cell? ⟨gb, ob, none⟩ = some (.string ⟨#[103, 97, 116]⟩) := x0
  subst hA
  have hlt : gb < w.heap.size := World.block_lt_of_cell? w _ x1
  have hne : ¬ gb = w.heap.size := by omega
  have HC := Aside0.mk hcell
  have HMX := Aside0.mk hmax
  clear HLD hr hcell x0
  go_enter Tryd.func20, Tryd.ntmps20
  go_wp2
  refine start_ (n := 23) (S := fun w' => w'.cell? ⟨gb, ob, none⟩ = some (.string ⟨#[103, 97, 116]⟩)) (ds := [22]) gb0_ (by kernel_rfl) rfl rfl x1 (fun hHeld => ?_); refine with_tabW get_tab1 get_bits1 (fun HT_ HW_ => ?_)
  generalize hWd : w.drew = wd at hHeld ⊢
  refine pure_ (i := 0) (N := some 7) (v := ?_) (a' := ?_) gb1_ rfl rfl (any_of HT_.out (by kernel_rfl)) (fun _ _ _ h => h) (Or.inl ⟨by rfl, ?_⟩) ?_ ?_
  rotate_left
  · intro w'
    go_simp
    with_reducible rfl
  rotate_left
  · simp only [Act.put, List.setIfInBounds_toArray, List.set_cons_zero, List.set_cons_succ, i64_w, i32_w]
    rfl
  refine pure_ (i := 1) (N := some 8) (v := ?_) (a' := ?_) gb2_ rfl rfl (any_of HT_.out (by kernel_rfl)) (fun _ _ _ h => h) (Or.inl ⟨by rfl, ?_⟩) ?_ ?_
  rotate_left
  · intro w'
    go_simp
    with_reducible rfl
  rotate_left
  · simp only [Act.put, List.setIfInBounds_toArray, List.set_cons_zero, List.set_cons_succ, i64_w, i32_w]
    rfl
  refine take_ (i := 2) (N := some 9) (v := ?_) (a' := ?_) gb3_ rfl rfl (take_ofW HT_.out HW_.out (by kernel_rfl)) (fun _ _ _ h => h) (Or.inl ⟨by rfl, ?_⟩) hHeld ?_ ?_
  rotate_left
  · rintro w' s0
    go_simp
    with_reducible rfl
  rotate_left
  · simp only [Act.put, List.setIfInBounds_toArray, List.set_cons_zero, List.set_cons_succ, i64_w, i32_w]
    rfl
  refine pure_ (i := 3) (N := some 10) (v := ?_) (a' := ?_) gb4_ rfl rfl (any_of HT_.out (by kernel_rfl)) (fun _ _ _ h => h) (Or.inl ⟨by rfl, ?_⟩) ?_ ?_
  rotate_left
  · intro w'
    go_simp
    with_reducible rfl
  rotate_left
  · simp only [Act.put, List.setIfInBounds_toArray, List.set_cons_zero, List.set_cons_succ, i64_w, i32_w]
    rfl
  refine pure_ (i := 4) (N := some 11) (v := ?_) (a' := ?_) gb5_ rfl rfl (any_of HT_.out (by kernel_rfl)) (fun _ _ _ h => h) (Or.inl ⟨by rfl, ?_⟩) ?_ ?_
  rotate_left
  · intro w'
    go_simp
    with_reducible rfl
  rotate_left
  · simp only [Act.put, List.setIfInBounds_toArray, List.set_cons_zero, List.set_cons_succ, i64_w, i32_w]
    rfl
  refine pure_ (i := 5) (N := some 12) (v := ?_) (a' := ?_) gb6_ rfl rfl (any_of HT_.out (by kernel_rfl)) (fun _ _ _ h => h) (Or.inl ⟨by rfl, ?_⟩) ?_ ?_
  rotate_left
  · intro w'
    go_simp
    with_reducible rfl
  rotate_left
  · simp only [Act.put, List.setIfInBounds_toArray, List.set_cons_zero, List.set_cons_succ, i64_w, i32_w]
    rfl
  refine pure_ (i := 6) (N := some 13) (v := ?_) (a' := ?_) gb7_ rfl rfl (any_of HT_.out (by kernel_rfl)) (fun _ _ _ h => h) (Or.inl ⟨by rfl, ?_⟩) ?_ ?_
  rotate_left
  · intro w'
    go_simp
    with_reducible rfl
  rotate_left
  · simp only [Act.put, List.setIfInBounds_toArray, List.set_cons_zero, List.set_cons_succ, i64_w, i32_w]
    rfl
  refine take_ (i := 7) (N := some 14) (v := ?_) (a' := ?_) gb8_ rfl rfl (take_ofW HT_.out HW_.out (by kernel_rfl)) (fun _ _ _ h => h) (Or.inl ⟨by rfl, ?_⟩) hHeld ?_ ?_
  rotate_left
  · rintro w' s0
    go_simp
    with_reducible rfl
  rotate_left
  · simp only [Act.put, List.setIfInBounds_toArray, List.set_cons_zero, List.set_cons_succ, i64_w, i32_w]
    rfl
  refine pure_ (i := 8) (N := some 15) (v := ?_) (a' := ?_) gb9_ rfl rfl (any_of HT_.out (by kernel_rfl)) (fun _ _ _ h => h) (Or.inl ⟨by rfl, ?_⟩) ?_ ?_
  rotate_left
  · intro w'
    go_simp
    with_reducible rfl
  rotate_left
  · simp only [Act.put, List.setIfInBounds_toArray, List.set_cons_zero, List.set_cons_succ, i64_w, i32_w]
    rfl
  refine pure_ (i := 9) (N := some 16) (v := ?_) (a' := ?_) gb10_ rfl rfl (any_of HT_.out (by kernel_rfl)) (fun _ _ _ h => h) (Or.inl ⟨by rfl, ?_⟩) ?_ ?_
  rotate_left
  · intro w'
    go_simp
    with_reducible rfl
  rotate_left
  · simp only [Act.put, List.setIfInBounds_toArray, List.set_cons_zero, List.set_cons_succ, i64_w, i32_w]
    rfl
  refine pure_ (i := 10) (N := some 17) (v := ?_) (a' := ?_) gb11_ rfl rfl (any_of HT_.out (by kernel_rfl)) (fun _ _ _ h => h) (Or.inl ⟨by rfl, ?_⟩) ?_ ?_
  rotate_left
  · intro w'
    go_simp
    with_reducible rfl
  rotate_left
  · simp only [Act.put, List.setIfInBounds_toArray, List.set_cons_zero, List.set_cons_succ, i64_w, i32_w]
    rfl
  refine pure_ (i := 11) (N := some 18) (v := ?_) (a' := ?_) gb12_ rfl rfl (any_of HT_.out (by kernel_rfl)) (fun _ _ _ h => h) (Or.inl ⟨by rfl, ?_⟩) ?_ ?_
  rotate_left
  · intro w'
    go_simp
    with_reducible rfl
  rotate_left
  · simp only [Act.put, List.setIfInBounds_toArray, List.set_cons_zero, List.set_cons_succ, i64_w, i32_w]
    rfl
  refine take_ (i := 12) (N := some 19) (v := ?_) (a' := ?_) gb13_ rfl rfl (take_ofW HT_.out HW_.out (by kernel_rfl)) (fun _ _ _ h => h) (Or.inl ⟨by rfl, ?_⟩) hHeld ?_ ?_
  rotate_left
  · rintro w' s0
    go_simp
    with_reducible rfl
  rotate_left
  · simp only [Act.put, List.setIfInBounds_toArray, List.set_cons_zero, List.set_cons_succ, i64_w, i32_w]
    rfl
  refine pure_ (i := 13) (N := some 20) (v := ?_) (a' := ?_) gb14_ rfl rfl (any_of HT_.out (by kernel_rfl)) (fun _ _ _ h => h) (Or.inl ⟨by rfl, ?_⟩) ?_ ?_
  rotate_left
  · intro w'
    go_simp
    with_reducible rfl
  rotate_left
  · simp only [Act.put, List.setIfInBounds_toArray, List.set_cons_zero, List.set_cons_succ, i64_w, i32_w]
    rfl
  refine pure_ (i := 14) (N := some 21) (v := ?_) (a' := ?_) gb15_ rfl rfl (any_of HT_.out (by kernel_rfl)) (fun _ _ _ h => h) (Or.inl ⟨by rfl, ?_⟩) ?_ ?_
  rotate_left
  · intro w'
    go_simp
    with_reducible rfl
  rotate_left
  · simp only [Act.put, List.setIfInBounds_toArray, List.set_cons_zero, List.set_cons_succ, i64_w, i32_w]
    rfl
  refine pure_ (i := 15) (N := some 22) (v := undef) (a' := ?_) gb16_ rfl rfl (any_of HT_.out (by kernel_rfl)) (fun _ _ _ h => h) (Or.inr ⟨by rfl, rfl⟩) ?_ ?_
  rotate_left
  · simp only [Act.put, List.setIfInBounds_toArray, List.set_cons_zero, List.set_cons_succ, i64_w, i32_w]
    rfl
  refine pure_ (i := 16) (N := some 23) (v := undef) (a' := ?_) gb17_ rfl rfl (any_of HT_.out (by kernel_rfl)) (fun _ _ _ h => h) (Or.inr ⟨by rfl, rfl⟩) ?_ ?_
  rotate_left
  · simp only [Act.put, List.setIfInBounds_toArray, List.set_cons_zero, List.set_cons_succ, i64_w, i32_w]
    rfl
  refine pure_ (i := 17) (N := some 24) (v := undef) (a' := ?_) gb18_ rfl rfl (any_of HT_.out (by kernel_rfl)) (fun _ _ _ h => h) (Or.inr ⟨by rfl, rfl⟩) ?_ ?_
  rotate_left
  · simp only [Act.put, List.setIfInBounds_toArray, List.set_cons_zero, List.set_cons_succ, i64_w, i32_w]
    rfl
  refine pure_ (i := 18) (N := some 25) (v := undef) (a' := ?_) gb19_ rfl rfl (any_of HT_.out (by kernel_rfl)) (fun _ _ _ h => h) (Or.inr ⟨by rfl, rfl⟩) ?_ ?_
  rotate_left
  · simp only [Act.put, List.setIfInBounds_toArray, List.set_cons_zero, List.set_cons_succ, i64_w, i32_w]
    rfl
  refine pure_ (i := 19) (N := some 26) (v := ?_) (a' := ?_) gb20_ rfl rfl (any_of HT_.out (by kernel_rfl)) (fun _ _ _ h => h) (Or.inl ⟨by rfl, ?_⟩) ?_ ?_
  rotate_left
  · intro w'
    go_simp
    with_reducible rfl
  rotate_left
  · simp only [Act.put, List.setIfInBounds_toArray, List.set_cons_zero, List.set_cons_succ, i64_w, i32_w]
    rfl
  refine pure_ (i := 20) (N := some 27) (v := ?_) (a' := ?_) gb21_ rfl rfl (any_of HT_.out (by kernel_rfl)) (fun _ _ _ h => h) (Or.inl ⟨by rfl, ?_⟩) ?_ ?_
  rotate_left
  · intro w'
    go_simp
    with_reducible rfl
  rotate_left
  · simp only [Act.put, List.setIfInBounds_toArray, List.set_cons_zero, List.set_cons_succ, i64_w, i32_w]
    rfl
  refine one_ (i := 21) (N := some 4) gb22_ rfl rfl (one_of HT_.out (by kernel_rfl)) (by decide) (fun K hK => ?_)
  refine box_step ?hg (N := 4) ?hd (cs := #[.slice none 0 0, .bool false, .bool false, .int .i64 0]) (t := 64) ?hr ?_; (case hd => rfl); (case hg => rfl); (case hr => first | (go_simp; done) | (go_simp; rfl))
  intro g hg w1 hbox hb
  have hb1 : Below w.heap.size w w1 := by
    rw [← hWd] at hb
    exact below_undrew hb
  have hgs : w.heap.size ≤ g := by rw [hg, ← hWd]; exact Nat.le_refl _
  have hgb : gb ≠ g := by omega
  have x2 := pw_cell_below hb1 x1
  clear hg hb
  refine hK.out _ _ x2 (fun hHeld2 => ?_)
  refine last_ (i := 22) (N := none) gb23_ rfl rfl (one_of HT_.out (by kernel_rfl)) (by decide) (fun K2 hK2 => ?_)
  obtain ⟨z0, z1, z2, z3⟩ : w1.cell? ⟨g, 0, none⟩ = some (.slice none 0 0) ∧ w1.cell? ⟨g, 1, none⟩ = some (.bool false) ∧ w1.cell? ⟨g, 2, none⟩ = some (.bool false) ∧ w1.cell? ⟨g, 3, none⟩ = some (.int .i64 0) := ⟨(blk_cell hbox 0).trans rfl, (blk_cell hbox 1).trans rfl, (blk_cell hbox 2).trans rfl, (blk_cell hbox 3).trans rfl⟩
  have zf : ∀ i, w1.frozen? ⟨g, i, none⟩ = false := fun i => blk_frozen hbox i
  refine skip_ (w1 := (((w1.setCell ⟨g, 0, none⟩ (.slice none 0 0)).setCell ⟨g, 1, none⟩ (.bool false)).setCell ⟨g, 2, none⟩ (.bool true)).setCell ⟨g, 3, none⟩ (.int .i64 0)) (by rfl) rfl ?hrun ?_
  case hrun => go_simp
  refine hK2.out _ _ (done_ (done_of HT_.out (by kernel_rfl)) ?_)
  have hbk := blk_set (blk_set (blk_set (blk_set hbox 0 (.slice none 0 0)) 1 (.bool false)) 2 (.bool true)) 3 (.int .i64 0)
  have hb2 := below_set (below_set (below_set (below_set hb1 hgs (j := 0) (v := .slice none 0 0)) hgs (j := 1) (v := .bool false)) hgs (j := 2) (v := .bool true)) hgs (j := 3) (v := .int .i64 0)
  clear hb1 hbox hK hK2 hHeld hHeld2 z0 z1 z2 z3 zf x2
  generalize World.setCell _ ⟨g, 3, none⟩ _ = W2 at hbk hb2 ⊢
  replace hbk : W2.heap[g]? = some (.cells #[.slice none 0 0, .bool false, .bool true, .int .i64 0] 64 (0, 0)) := hbk
  have HBK := Aside0.mk hbk
  have HB2 := Aside0.mk hb2
  obtain ⟨z0, z1, z2, z3⟩ : W2.cell? ⟨g, 0, none⟩ = some (.slice none 0 0) ∧ W2.cell? ⟨g, 1, none⟩ = some (.bool false) ∧ W2.cell? ⟨g, 2, none⟩ = some (.bool true) ∧ W2.cell? ⟨g, 3, none⟩ = some (.int .i64 0) := ⟨(blk_cell hbk 0).trans rfl, (blk_cell hbk 1).trans rfl, (blk_cell hbk 2).trans rfl, (blk_cell hbk 3).trans rfl⟩
  have zf : ∀ i, W2.frozen? ⟨g, i, none⟩ = false := fun i => blk_frozen hbk i
  have HGB := Aside0.mk hgb
  have HGS := Aside0.mk hgs
  have HX1 := Aside0.mk x1
  clear hbk hb2 hgb hgs x1 hWd
  have d1 : decide (((r.length + 1 : Nat) : Int) ≤ 2) = true := decide_eq_true (by omega)
  have d2 : decide (r.length + 1 ≤ 2) = true := decide_eq_true (by omega)
  have d3 : decide ((r.length : Int) + 1 ≤ 2) = true := decide_eq_true (by omega)
  clear hl
  go_wp2_with (go_at_call 19; refine (parse_bad.calls _ _ _ _ rfl).mono ?_; rintro e w3 ⟨rfl, hd⟩; have HD := Aside0.mk hd; clear hd)
  go_ret2
  exact ⟨_, rfl, rfl, below_step (by repeat (first | exact HB2.out | apply below_drew1 | apply below_alloc | apply pw_below_drewN)) HD.out.below⟩
set_option maxHeartbeats 8000000 in
set_option maxRecDepth 100000 in
theorem get_gat_full (A : Option Addr) (c : Nat) (ks : List ByteArray) (x : ByteArray) (w : World) (HLD : LaidA w) (hr : Kd.C Kd.string w A (⟨#[103, 97, 116]⟩ :: x :: ks).length (⟨#[103, 97, 116]⟩ :: x :: ks)) (hcc : (⟨#[103, 97, 116]⟩ :: x :: ks).length ≤ c) (hn : 0 < ks.length) (k : Nat) (sg : Int × Bool) (hsg : words_Signed.f k x = some sg) :
    Calls Tryd.prog 20 #[.slice A (⟨#[103, 97, 116]⟩ :: x :: ks).length c] w fun e w' => ∃ v, e = .returned (.tuple #[v, .int .i64 (-1)]) ∧ AnyR w' v (getX ks false true sg) ∧ Below w.heap.size w w' := by
  have hus := Tryd.underlying23
  have hug := Tryd.underlying64
  have hmax := hr.2.1
  have HL := Aside0.mk HLD
  obtain ⟨gb, ob, hA, hcell⟩ := str_cells hr (by simp)
  have x0 := hcell 0 (by simp)
  have x1 : w.cell? ⟨gb, ob, none⟩ = some (.string ⟨#[103, 97, 116]⟩) := x0
  subst hA
  have hlt : gb < w.heap.size := World.block_lt_of_cell? w _ x1
  have hne : ¬ gb = w.heap.size := by omega
  have HC := Aside0.mk hcell
  have HMX := Aside0.mk hmax
  clear HLD hr hcell x0
  obtain ⟨sv, sk⟩ := sg
  obtain ⟨X, hX⟩ : ∃ X, X = getX ks false true (sv, sk) := ⟨_, rfl⟩
  rw [← hX]
  have HXX := Aside0.mk hX
  clear hX
  have hF0 : Kd.F Kd.string w (fun _ => True) (some ⟨gb, ob + 2, none⟩) ks.length ks := Kd.F_mono (Kd.C_F Kd.heap_string (str_drop (xs := ⟨#[103, 97, 116]⟩ :: x :: ks) HMX.out HC.out 2 ks.length rfl)) (fun _ _ => trivial)
  have HF0 := Aside0.mk hF0
  have HN := Aside0.mk hn
  have HCC := Aside0.mk hcc
  have e3 : (ks.length + 2 ≤ c) = True := eq_true (by simp at hcc; omega)
  have e4 : ¬ c = 2 := by simp at hcc; omega
  have e5 : ¬ c = 0 := by simp at hcc; omega
  have d1 : decide (((ks.length + 2 : Nat) : Int) ≤ 2) = false := decide_eq_false (by omega)
  have d2 : decide (ks.length + 2 ≤ 2) = false := decide_eq_false (by omega)
  have d3 : decide ((ks.length : Int) + 2 ≤ 2) = false := decide_eq_false (by omega)
  have d5 : decide ((ks.length : Int) + 1 + 1 ≤ 2) = false := decide_eq_false (by omega)
  have e1 : (2 ≤ ks.length + 2) = True := eq_true (by omega)
  have e6 : ((2 : Int) ≤ (ks.length : Int) + 2) = True := eq_true (by omega)
  clear hF0 hn hcc
  have e7 : ((0 : Int) < (ks.length : Int) + 1 + 1) = True := eq_true (by omega)
  have e8 : ((1 : Int) < (ks.length : Int) + 1 + 1) = True := eq_true (by omega)
  have e9 : ((2 : Int) ≤ (ks.length : Int) + 1 + 1) = True := eq_true (by omega)
  have e10 : (ks.length + 1 + 1 ≤ c) = True := eq_true (by have := of_eq_true e3; omega)
  have x1b : w.cell? ⟨gb, ob + 1, none⟩ = some (.string x) := HC.out 1 (by simp)
  have HX2 := Aside0.mk x1b
  clear x1b
  have HSG := Aside0.mk hsg
  clear hsg
  go_enter Tryd.func20, Tryd.ntmps20
  go_wp2
  refine start_ (n := 23) (S := fun w' => w'.cell? ⟨gb, ob, none⟩ = some (.string ⟨#[103, 97, 116]⟩)) (ds := [22]) gb0_ (by kernel_rfl) rfl rfl x1 (fun hHeld => ?_); refine with_tabW get_tab1 get_bits1 (fun HT_ HW_ => ?_)
  generalize hWd : w.drew = wd at hHeld ⊢
  refine pure_ (i := 0) (N := some 7) (v := ?_) (a' := ?_) gb1_ rfl rfl (any_of HT_.out (by kernel_rfl)) (fun _ _ _ h => h) (Or.inl ⟨by rfl, ?_⟩) ?_ ?_
  rotate_left
  · intro w'
    go_simp
    with_reducible rfl
  rotate_left
  · simp only [Act.put, List.setIfInBounds_toArray, List.set_cons_zero, List.set_cons_succ, i64_w, i32_w]
    rfl
  refine pure_ (i := 1) (N := some 8) (v := ?_) (a' := ?_) gb2_ rfl rfl (any_of HT_.out (by kernel_rfl)) (fun _ _ _ h => h) (Or.inl ⟨by rfl, ?_⟩) ?_ ?_
  rotate_left
  · intro w'
    go_simp
    with_reducible rfl
  rotate_left
  · simp only [Act.put, List.setIfInBounds_toArray, List.set_cons_zero, List.set_cons_succ, i64_w, i32_w]
    rfl
  refine take_ (i := 2) (N := some 9) (v := ?_) (a' := ?_) gb3_ rfl rfl (take_ofW HT_.out HW_.out (by kernel_rfl)) (fun _ _ _ h => h) (Or.inl ⟨by rfl, ?_⟩) hHeld ?_ ?_
  rotate_left
  · rintro w' s0
    go_simp
    with_reducible rfl
  rotate_left
  · simp only [Act.put, List.setIfInBounds_toArray, List.set_cons_zero, List.set_cons_succ, i64_w, i32_w]
    rfl
  refine pure_ (i := 3) (N := some 10) (v := ?_) (a' := ?_) gb4_ rfl rfl (any_of HT_.out (by kernel_rfl)) (fun _ _ _ h => h) (Or.inl ⟨by rfl, ?_⟩) ?_ ?_
  rotate_left
  · intro w'
    go_simp
    with_reducible rfl
  rotate_left
  · simp only [Act.put, List.setIfInBounds_toArray, List.set_cons_zero, List.set_cons_succ, i64_w, i32_w]
    rfl
  refine pure_ (i := 4) (N := some 11) (v := ?_) (a' := ?_) gb5_ rfl rfl (any_of HT_.out (by kernel_rfl)) (fun _ _ _ h => h) (Or.inl ⟨by rfl, ?_⟩) ?_ ?_
  rotate_left
  · intro w'
    go_simp
    with_reducible rfl
  rotate_left
  · simp only [Act.put, List.setIfInBounds_toArray, List.set_cons_zero, List.set_cons_succ, i64_w, i32_w]
    rfl
  refine pure_ (i := 5) (N := some 12) (v := ?_) (a' := ?_) gb6_ rfl rfl (any_of HT_.out (by kernel_rfl)) (fun _ _ _ h => h) (Or.inl ⟨by rfl, ?_⟩) ?_ ?_
  rotate_left
  · intro w'
    go_simp
    with_reducible rfl
  rotate_left
  · simp only [Act.put, List.setIfInBounds_toArray, List.set_cons_zero, List.set_cons_succ, i64_w, i32_w]
    rfl
  refine pure_ (i := 6) (N := some 13) (v := ?_) (a' := ?_) gb7_ rfl rfl (any_of HT_.out (by kernel_rfl)) (fun _ _ _ h => h) (Or.inl ⟨by rfl, ?_⟩) ?_ ?_
  rotate_left
  · intro w'
    go_simp
    with_reducible rfl
  rotate_left
  · simp only [Act.put, List.setIfInBounds_toArray, List.set_cons_zero, List.set_cons_succ, i64_w, i32_w]
    rfl
  refine take_ (i := 7) (N := some 14) (v := ?_) (a' := ?_) gb8_ rfl rfl (take_ofW HT_.out HW_.out (by kernel_rfl)) (fun _ _ _ h => h) (Or.inl ⟨by rfl, ?_⟩) hHeld ?_ ?_
  rotate_left
  · rintro w' s0
    go_simp
    with_reducible rfl
  rotate_left
  · simp only [Act.put, List.setIfInBounds_toArray, List.set_cons_zero, List.set_cons_succ, i64_w, i32_w]
    rfl
  refine pure_ (i := 8) (N := some 15) (v := ?_) (a' := ?_) gb9_ rfl rfl (any_of HT_.out (by kernel_rfl)) (fun _ _ _ h => h) (Or.inl ⟨by rfl, ?_⟩) ?_ ?_
  rotate_left
  · intro w'
    go_simp
    with_reducible rfl
  rotate_left
  · simp only [Act.put, List.setIfInBounds_toArray, List.set_cons_zero, List.set_cons_succ, i64_w, i32_w]
    rfl
  refine pure_ (i := 9) (N := some 16) (v := ?_) (a' := ?_) gb10_ rfl rfl (any_of HT_.out (by kernel_rfl)) (fun _ _ _ h => h) (Or.inl ⟨by rfl, ?_⟩) ?_ ?_
  rotate_left
  · intro w'
    go_simp
    with_reducible rfl
  rotate_left
  · simp only [Act.put, List.setIfInBounds_toArray, List.set_cons_zero, List.set_cons_succ, i64_w, i32_w]
    rfl
  refine pure_ (i := 10) (N := some 17) (v := ?_) (a' := ?_) gb11_ rfl rfl (any_of HT_.out (by kernel_rfl)) (fun _ _ _ h => h) (Or.inl ⟨by rfl, ?_⟩) ?_ ?_
  rotate_left
  · intro w'
    go_simp
    with_reducible rfl
  rotate_left
  · simp only [Act.put, List.setIfInBounds_toArray, List.set_cons_zero, List.set_cons_succ, i64_w, i32_w]
    rfl
  refine pure_ (i := 11) (N := some 18) (v := ?_) (a' := ?_) gb12_ rfl rfl (any_of HT_.out (by kernel_rfl)) (fun _ _ _ h => h) (Or.inl ⟨by rfl, ?_⟩) ?_ ?_
  rotate_left
  · intro w'
    go_simp
    with_reducible rfl
  rotate_left
  · simp only [Act.put, List.setIfInBounds_toArray, List.set_cons_zero, List.set_cons_succ, i64_w, i32_w]
    rfl
  refine take_ (i := 12) (N := some 19) (v := ?_) (a' := ?_) gb13_ rfl rfl (take_ofW HT_.out HW_.out (by kernel_rfl)) (fun _ _ _ h => h) (Or.inl ⟨by rfl, ?_⟩) hHeld ?_ ?_
  rotate_left
  · rintro w' s0
    go_simp
    with_reducible rfl
  rotate_left
  · simp only [Act.put, List.setIfInBounds_toArray, List.set_cons_zero, List.set_cons_succ, i64_w, i32_w]
    rfl
  refine pure_ (i := 13) (N := some 20) (v := ?_) (a' := ?_) gb14_ rfl rfl (any_of HT_.out (by kernel_rfl)) (fun _ _ _ h => h) (Or.inl ⟨by rfl, ?_⟩) ?_ ?_
  rotate_left
  · intro w'
    go_simp
    with_reducible rfl
  rotate_left
  · simp only [Act.put, List.setIfInBounds_toArray, List.set_cons_zero, List.set_cons_succ, i64_w, i32_w]
    rfl
  refine pure_ (i := 14) (N := some 21) (v := ?_) (a' := ?_) gb15_ rfl rfl (any_of HT_.out (by kernel_rfl)) (fun _ _ _ h => h) (Or.inl ⟨by rfl, ?_⟩) ?_ ?_
  rotate_left
  · intro w'
    go_simp
    with_reducible rfl
  rotate_left
  · simp only [Act.put, List.setIfInBounds_toArray, List.set_cons_zero, List.set_cons_succ, i64_w, i32_w]
    rfl
  refine pure_ (i := 15) (N := some 22) (v := undef) (a' := ?_) gb16_ rfl rfl (any_of HT_.out (by kernel_rfl)) (fun _ _ _ h => h) (Or.inr ⟨by rfl, rfl⟩) ?_ ?_
  rotate_left
  · simp only [Act.put, List.setIfInBounds_toArray, List.set_cons_zero, List.set_cons_succ, i64_w, i32_w]
    rfl
  refine pure_ (i := 16) (N := some 23) (v := undef) (a' := ?_) gb17_ rfl rfl (any_of HT_.out (by kernel_rfl)) (fun _ _ _ h => h) (Or.inr ⟨by rfl, rfl⟩) ?_ ?_
  rotate_left
  · simp only [Act.put, List.setIfInBounds_toArray, List.set_cons_zero, List.set_cons_succ, i64_w, i32_w]
    rfl
  refine pure_ (i := 17) (N := some 24) (v := undef) (a' := ?_) gb18_ rfl rfl (any_of HT_.out (by kernel_rfl)) (fun _ _ _ h => h) (Or.inr ⟨by rfl, rfl⟩) ?_ ?_
  rotate_left
  · simp only [Act.put, List.setIfInBounds_toArray, List.set_cons_zero, List.set_cons_succ, i64_w, i32_w]
    rfl
  refine pure_ (i := 18) (N := some 25) (v := undef) (a' := ?_) gb19_ rfl rfl (any_of HT_.out (by kernel_rfl)) (fun _ _ _ h => h) (Or.inr ⟨by rfl, rfl⟩) ?_ ?_
  rotate_left
  · simp only [Act.put, List.setIfInBounds_toArray, List.set_cons_zero, List.set_cons_succ, i64_w, i32_w]
    rfl
  refine pure_ (i := 19) (N := some 26) (v := ?_) (a' := ?_) gb20_ rfl rfl (any_of HT_.out (by kernel_rfl)) (fun _ _ _ h => h) (Or.inl ⟨by rfl, ?_⟩) ?_ ?_
  rotate_left
  · intro w'
    go_simp
    with_reducible rfl
  rotate_left
  · simp only [Act.put, List.setIfInBounds_toArray, List.set_cons_zero, List.set_cons_succ, i64_w, i32_w]
    rfl
  refine pure_ (i := 20) (N := some 27) (v := ?_) (a' := ?_) gb21_ rfl rfl (any_of HT_.out (by kernel_rfl)) (fun _ _ _ h => h) (Or.inl ⟨by rfl, ?_⟩) ?_ ?_
  rotate_left
  · intro w'
    go_simp
    with_reducible rfl
  rotate_left
  · simp only [Act.put, List.setIfInBounds_toArray, List.set_cons_zero, List.set_cons_succ, i64_w, i32_w]
    rfl
  refine one_ (i := 21) (N := some 4) gb22_ rfl rfl (one_of HT_.out (by kernel_rfl)) (by decide) (fun K hK => ?_)
  refine box_step ?hg (N := 4) ?hd (cs := #[.slice none 0 0, .bool false, .bool false, .int .i64 0]) (t := 64) ?hr ?_; (case hd => rfl); (case hg => rfl); (case hr => first | (go_simp; done) | (go_simp; rfl))
  intro g hg w1 hbox hb
  have hb1 : Below w.heap.size w w1 := by
    rw [← hWd] at hb
    exact below_undrew hb
  have hgs : w.heap.size ≤ g := by rw [hg, ← hWd]; exact Nat.le_refl _
  have hgb : gb ≠ g := by omega
  have x2 := pw_cell_below hb1 x1
  clear hg hb
  refine hK.out _ _ x2 (fun hHeld2 => ?_)
  refine last_ (i := 22) (N := none) gb23_ rfl rfl (one_of HT_.out (by kernel_rfl)) (by decide) (fun K2 hK2 => ?_)
  obtain ⟨z0, z1, z2, z3⟩ : w1.cell? ⟨g, 0, none⟩ = some (.slice none 0 0) ∧ w1.cell? ⟨g, 1, none⟩ = some (.bool false) ∧ w1.cell? ⟨g, 2, none⟩ = some (.bool false) ∧ w1.cell? ⟨g, 3, none⟩ = some (.int .i64 0) := ⟨(blk_cell hbox 0).trans rfl, (blk_cell hbox 1).trans rfl, (blk_cell hbox 2).trans rfl, (blk_cell hbox 3).trans rfl⟩
  have zf : ∀ i, w1.frozen? ⟨g, i, none⟩ = false := fun i => blk_frozen hbox i
  refine skip_ (w1 := (((w1.setCell ⟨g, 0, none⟩ (.slice none 0 0)).setCell ⟨g, 1, none⟩ (.bool false)).setCell ⟨g, 2, none⟩ (.bool true)).setCell ⟨g, 3, none⟩ (.int .i64 0)) (by rfl) rfl ?hrun ?_
  case hrun => go_simp
  refine hK2.out _ _ (done_ (done_of HT_.out (by kernel_rfl)) ?_)
  have hbk := blk_set (blk_set (blk_set (blk_set hbox 0 (.slice none 0 0)) 1 (.bool false)) 2 (.bool true)) 3 (.int .i64 0)
  have hb2 := below_set (below_set (below_set (below_set hb1 hgs (j := 0) (v := .slice none 0 0)) hgs (j := 1) (v := .bool false)) hgs (j := 2) (v := .bool true)) hgs (j := 3) (v := .int .i64 0)
  clear hb1 hbox hK hK2 hHeld hHeld2 z0 z1 z2 z3 zf x2
  generalize World.setCell _ ⟨g, 3, none⟩ _ = W2 at hbk hb2 ⊢
  replace hbk : W2.heap[g]? = some (.cells #[.slice none 0 0, .bool false, .bool true, .int .i64 0] 64 (0, 0)) := hbk
  have HBK := Aside0.mk hbk
  have HB2 := Aside0.mk hb2
  obtain ⟨z0, z1, z2, z3⟩ : W2.cell? ⟨g, 0, none⟩ = some (.slice none 0 0) ∧ W2.cell? ⟨g, 1, none⟩ = some (.bool false) ∧ W2.cell? ⟨g, 2, none⟩ = some (.bool true) ∧ W2.cell? ⟨g, 3, none⟩ = some (.int .i64 0) := ⟨(blk_cell hbk 0).trans rfl, (blk_cell hbk 1).trans rfl, (blk_cell hbk 2).trans rfl, (blk_cell hbk 3).trans rfl⟩
  have zf : ∀ i, W2.frozen? ⟨g, i, none⟩ = false := fun i => blk_frozen hbk i
  have HGB := Aside0.mk hgb
  have HGS := Aside0.mk hgs
  have HX1 := Aside0.mk x1
  clear hbk hb2 hgb hgs x1 hWd
  by_cases hk : ks.any (fun k => !keyF k) = true
  · have HK := Aside0.mk hk
    clear hk
    go_wp2_with (first | (go_at_call 30; refine (ContainsFunc_walk _ _ ks _ (HL.out.below (below_set HB2.out HGS.out)) (Kd.F_now (Kd.F_below HF0.out (below_set HB2.out HGS.out)))).mono ?_; rintro e w3 ⟨rfl, hb3⟩; rw [HK.out]; have hbk3 := blk_below (blk_set HBK.out 0 (.slice (some ⟨gb, ob + 2, none⟩) ks.length (c - 2))) hb3; replace hbk3 : w3.heap[g]? = some (.cells #[.slice (some ⟨gb, ob + 2, none⟩) ks.length (c - 2), .bool false, .bool true, .int .i64 0] 64 (0, 0)) := hbk3; obtain ⟨y0, y1, y2, y3⟩ : w3.cell? ⟨g, 0, none⟩ = some (.slice (some ⟨gb, ob + 2, none⟩) ks.length (c - 2)) ∧ w3.cell? ⟨g, 1, none⟩ = some (.bool false) ∧ w3.cell? ⟨g, 2, none⟩ = some (.bool true) ∧ w3.cell? ⟨g, 3, none⟩ = some (.int .i64 0) := ⟨(blk_cell hbk3 0).trans rfl, (blk_cell hbk3 1).trans rfl, (blk_cell hbk3 2).trans rfl, (blk_cell hbk3 3).trans rfl⟩; have HBK3 := Aside0.mk hbk3; have HB3 := Aside0.mk (below_step (below_set HB2.out HGS.out) hb3); clear hbk3 hb3) | (go_at_call 19; refine (parse_bad.calls _ _ _ _ rfl).mono ?_; rintro e w4 ⟨rfl, hd⟩; have HD := Aside0.mk hd; clear hd))
    go_ret2
    refine ⟨_, rfl, ?_, below_step HB3.out HD.out.below⟩
    rw [HXX.out]
    unfold getX
    rw [if_pos (Or.inl HK.out)]
    exact rfl
  have HK := Aside0.mk (by simpa using hk : ks.any (fun k => !keyF k) = false)
  by_cases h64 : 64 < ks.length
  · have H64 := Aside0.mk h64
    have f1 : decide ((64 : Int) < (ks.length : Int)) = true := decide_eq_true (by omega)
    have f2 : decide (64 < ks.length) = true := decide_eq_true (by omega)
    clear hk h64
    go_wp2_with (first | (go_at_call 30; refine (ContainsFunc_walk _ _ ks _ (HL.out.below (below_set HB2.out HGS.out)) (Kd.F_now (Kd.F_below HF0.out (below_set HB2.out HGS.out)))).mono ?_; rintro e w3 ⟨rfl, hb3⟩; rw [HK.out]; have hbk3 := blk_below (blk_set HBK.out 0 (.slice (some ⟨gb, ob + 2, none⟩) ks.length (c - 2))) hb3; replace hbk3 : w3.heap[g]? = some (.cells #[.slice (some ⟨gb, ob + 2, none⟩) ks.length (c - 2), .bool false, .bool true, .int .i64 0] 64 (0, 0)) := hbk3; obtain ⟨y0, y1, y2, y3⟩ : w3.cell? ⟨g, 0, none⟩ = some (.slice (some ⟨gb, ob + 2, none⟩) ks.length (c - 2)) ∧ w3.cell? ⟨g, 1, none⟩ = some (.bool false) ∧ w3.cell? ⟨g, 2, none⟩ = some (.bool true) ∧ w3.cell? ⟨g, 3, none⟩ = some (.int .i64 0) := ⟨(blk_cell hbk3 0).trans rfl, (blk_cell hbk3 1).trans rfl, (blk_cell hbk3 2).trans rfl, (blk_cell hbk3 3).trans rfl⟩; have HBK3 := Aside0.mk hbk3; have HB3 := Aside0.mk (below_step (below_set HB2.out HGS.out) hb3); clear hbk3 hb3) | (go_at_call 19; refine (parse_bad.calls _ _ _ _ rfl).mono ?_; rintro e w4 ⟨rfl, hd⟩; have HD := Aside0.mk hd; clear hd))
    go_ret2
    refine ⟨_, rfl, ?_, below_step HB3.out HD.out.below⟩
    rw [HXX.out]
    unfold getX
    rw [if_pos (Or.inr H64.out)]
    exact rfl
  have HNO := Aside0.mk (show ¬ (ks.any (fun k => !keyF k) = true ∨ 64 < ks.length) from by rintro (h | h); exact hk h; exact h64 h)
  have H64 := Aside0.mk h64
  have f1 : decide ((64 : Int) < (ks.length : Int)) = false := decide_eq_false (by omega)
  have f2 : decide (64 < ks.length) = false := decide_eq_false (by omega)
  clear hk h64
  cases sk with
  | false =>
    go_wp2_with (first | (go_at_call 30; refine (ContainsFunc_walk _ _ ks _ (HL.out.below (below_set HB2.out HGS.out)) (Kd.F_now (Kd.F_below HF0.out (below_set HB2.out HGS.out)))).mono ?_; rintro e w3 ⟨rfl, hb3⟩; rw [HK.out]; have hbk3 := blk_below (blk_set HBK.out 0 (.slice (some ⟨gb, ob + 2, none⟩) ks.length (c - 2))) hb3; replace hbk3 : w3.heap[g]? = some (.cells #[.slice (some ⟨gb, ob + 2, none⟩) ks.length (c - 2), .bool false, .bool true, .int .i64 0] 64 (0, 0)) := hbk3; obtain ⟨y0, y1, y2, y3⟩ : w3.cell? ⟨g, 0, none⟩ = some (.slice (some ⟨gb, ob + 2, none⟩) ks.length (c - 2)) ∧ w3.cell? ⟨g, 1, none⟩ = some (.bool false) ∧ w3.cell? ⟨g, 2, none⟩ = some (.bool true) ∧ w3.cell? ⟨g, 3, none⟩ = some (.int .i64 0) := ⟨(blk_cell hbk3 0).trans rfl, (blk_cell hbk3 1).trans rfl, (blk_cell hbk3 2).trans rfl, (blk_cell hbk3 3).trans rfl⟩; have HBK3 := Aside0.mk hbk3; have HB3 := Aside0.mk (below_step (below_set HB2.out HGS.out) hb3); clear hbk3 hb3; have x5 := pw_cell_below HB3.out HX2.out) | (go_at_call 32; refine (words_Signed.calls k x _ _ _ (HL.out.below HB3.out) HSG.out).mono ?_; rintro e w4 ⟨rfl, hb4⟩; have hbk4 := blk_below HBK3.out hb4; obtain ⟨u0, u1, u2, u3⟩ : w4.cell? ⟨g, 0, none⟩ = some (.slice (some ⟨gb, ob + 2, none⟩) ks.length (c - 2)) ∧ w4.cell? ⟨g, 1, none⟩ = some (.bool false) ∧ w4.cell? ⟨g, 2, none⟩ = some (.bool true) ∧ w4.cell? ⟨g, 3, none⟩ = some (.int .i64 0) := ⟨(blk_cell hbk4 0).trans rfl, (blk_cell hbk4 1).trans rfl, (blk_cell hbk4 2).trans rfl, (blk_cell hbk4 3).trans rfl⟩; have uf : ∀ i, w4.frozen? ⟨g, i, none⟩ = false := fun i => blk_frozen hbk4 i; have HB4 := Aside0.mk (below_step HB3.out hb4); clear hbk4 hb4) | (go_at_call 19; refine (parse_bad.calls _ _ _ _ rfl).mono ?_; rintro e w5 ⟨rfl, hd⟩; have HD := Aside0.mk hd; clear hd))
    go_ret2
    refine ⟨_, rfl, ?_, below_step (below_set HB4.out HGS.out) HD.out.below⟩
    rw [HXX.out]
    unfold getX
    rw [if_neg HNO.out]
    exact rfl
  | true =>
    go_wp2_with (first | (go_at_call 30; refine (ContainsFunc_walk _ _ ks _ (HL.out.below (below_set HB2.out HGS.out)) (Kd.F_now (Kd.F_below HF0.out (below_set HB2.out HGS.out)))).mono ?_; rintro e w3 ⟨rfl, hb3⟩; rw [HK.out]; have hbk3 := blk_below (blk_set HBK.out 0 (.slice (some ⟨gb, ob + 2, none⟩) ks.length (c - 2))) hb3; replace hbk3 : w3.heap[g]? = some (.cells #[.slice (some ⟨gb, ob + 2, none⟩) ks.length (c - 2), .bool false, .bool true, .int .i64 0] 64 (0, 0)) := hbk3; obtain ⟨y0, y1, y2, y3⟩ : w3.cell? ⟨g, 0, none⟩ = some (.slice (some ⟨gb, ob + 2, none⟩) ks.length (c - 2)) ∧ w3.cell? ⟨g, 1, none⟩ = some (.bool false) ∧ w3.cell? ⟨g, 2, none⟩ = some (.bool true) ∧ w3.cell? ⟨g, 3, none⟩ = some (.int .i64 0) := ⟨(blk_cell hbk3 0).trans rfl, (blk_cell hbk3 1).trans rfl, (blk_cell hbk3 2).trans rfl, (blk_cell hbk3 3).trans rfl⟩; have HBK3 := Aside0.mk hbk3; have HB3 := Aside0.mk (below_step (below_set HB2.out HGS.out) hb3); clear hbk3 hb3; have x5 := pw_cell_below HB3.out HX2.out) | (go_at_call 32; refine (words_Signed.calls k x _ _ _ (HL.out.below HB3.out) HSG.out).mono ?_; rintro e w4 ⟨rfl, hb4⟩; have hbk4 := blk_below HBK3.out hb4; obtain ⟨u0, u1, u2, u3⟩ : w4.cell? ⟨g, 0, none⟩ = some (.slice (some ⟨gb, ob + 2, none⟩) ks.length (c - 2)) ∧ w4.cell? ⟨g, 1, none⟩ = some (.bool false) ∧ w4.cell? ⟨g, 2, none⟩ = some (.bool true) ∧ w4.cell? ⟨g, 3, none⟩ = some (.int .i64 0) := ⟨(blk_cell hbk4 0).trans rfl, (blk_cell hbk4 1).trans rfl, (blk_cell hbk4 2).trans rfl, (blk_cell hbk4 3).trans rfl⟩; have uf : ∀ i, w4.frozen? ⟨g, i, none⟩ = false := fun i => blk_frozen hbk4 i; have HB4 := Aside0.mk (below_step HB3.out hb4); clear hbk4 hb4))
    go_ret2
    refine ⟨_, rfl, ?_, below_set HB4.out HGS.out⟩
    rw [HXX.out]
    unfold getX
    rw [if_neg HNO.out]
    exact ⟨_, _, rfl, ⟨HN.out, by have := H64.out; omega⟩, by have := HCC.out; simp at this; omega, Kd.F_below HF0.out (below_set HB4.out HGS.out)⟩
set_option maxHeartbeats 8000000 in
set_option maxRecDepth 100000 in
theorem get_gats_short (A : Option Addr) (c : Nat) (r : List ByteArray) (w : World) (HLD : LaidA w) (hr : Kd.C Kd.string w A (⟨#[103, 97, 116, 115]⟩ :: r).length (⟨#[103, 97, 116, 115]⟩ :: r)) (hcc : (⟨#[103, 97, 116, 115]⟩ :: r).length ≤ c) (hl : r.length < 2) :
    Calls Tryd.prog 20 #[.slice A (⟨#[103, 97, 116, 115]⟩ :: r).length c] w fun e w' => ∃ v, e = .returned (.tuple #[v, .int .i64 (-1)]) ∧ AnyR w' v (.pl (.bad ⟨#[69, 82, 82, 79, 82]⟩)) ∧ Below w.heap.size w w' := by
  have hus := Tryd.underlying23
  have hug := Tryd.underlying64
  have hmax := hr.2.1
  have HL := Aside0.mk HLD
  obtain ⟨gb, ob, hA, hcell⟩ := str_cells hr (by simp)
  have x0 := hcell 0 (by simp)
  have x1 : w.cell? ⟨gb, ob, none⟩ = some (.string ⟨#[103, 97, 116, 115]⟩) := x0
  subst hA
  have hlt : gb < w.heap.size := World.block_lt_of_cell? w _ x1
  have hne : ¬ gb = w.heap.size := by omega
  have HC := Aside0.mk hcell
  have HMX := Aside0.mk hmax
  clear HLD hr hcell x0
  go_enter Tryd.func20, Tryd.ntmps20
  go_wp2
  refine start_ (n := 23) (S := fun w' => w'.cell? ⟨gb, ob, none⟩ = some (.string ⟨#[103, 97, 116, 115]⟩)) (ds := [22]) gb0_ (by kernel_rfl) rfl rfl x1 (fun hHeld => ?_); refine with_tabW get_tab1 get_bits1 (fun HT_ HW_ => ?_)
  generalize hWd : w.drew = wd at hHeld ⊢
  refine pure_ (i := 0) (N := some 7) (v := ?_) (a' := ?_) gb1_ rfl rfl (any_of HT_.out (by kernel_rfl)) (fun _ _ _ h => h) (Or.inl ⟨by rfl, ?_⟩) ?_ ?_
  rotate_left
  · intro w'
    go_simp
    with_reducible rfl
  rotate_left
  · simp only [Act.put, List.setIfInBounds_toArray, List.set_cons_zero, List.set_cons_succ, i64_w, i32_w]
    rfl
  refine pure_ (i := 1) (N := some 8) (v := ?_) (a' := ?_) gb2_ rfl rfl (any_of HT_.out (by kernel_rfl)) (fun _ _ _ h => h) (Or.inl ⟨by rfl, ?_⟩) ?_ ?_
  rotate_left
  · intro w'
    go_simp
    with_reducible rfl
  rotate_left
  · simp only [Act.put, List.setIfInBounds_toArray, List.set_cons_zero, List.set_cons_succ, i64_w, i32_w]
    rfl
  refine take_ (i := 2) (N := some 9) (v := ?_) (a' := ?_) gb3_ rfl rfl (take_ofW HT_.out HW_.out (by kernel_rfl)) (fun _ _ _ h => h) (Or.inl ⟨by rfl, ?_⟩) hHeld ?_ ?_
  rotate_left
  · rintro w' s0
    go_simp
    with_reducible rfl
  rotate_left
  · simp only [Act.put, List.setIfInBounds_toArray, List.set_cons_zero, List.set_cons_succ, i64_w, i32_w]
    rfl
  refine pure_ (i := 3) (N := some 10) (v := ?_) (a' := ?_) gb4_ rfl rfl (any_of HT_.out (by kernel_rfl)) (fun _ _ _ h => h) (Or.inl ⟨by rfl, ?_⟩) ?_ ?_
  rotate_left
  · intro w'
    go_simp
    with_reducible rfl
  rotate_left
  · simp only [Act.put, List.setIfInBounds_toArray, List.set_cons_zero, List.set_cons_succ, i64_w, i32_w]
    rfl
  refine pure_ (i := 4) (N := some 11) (v := ?_) (a' := ?_) gb5_ rfl rfl (any_of HT_.out (by kernel_rfl)) (fun _ _ _ h => h) (Or.inl ⟨by rfl, ?_⟩) ?_ ?_
  rotate_left
  · intro w'
    go_simp
    with_reducible rfl
  rotate_left
  · simp only [Act.put, List.setIfInBounds_toArray, List.set_cons_zero, List.set_cons_succ, i64_w, i32_w]
    rfl
  refine pure_ (i := 5) (N := some 12) (v := ?_) (a' := ?_) gb6_ rfl rfl (any_of HT_.out (by kernel_rfl)) (fun _ _ _ h => h) (Or.inl ⟨by rfl, ?_⟩) ?_ ?_
  rotate_left
  · intro w'
    go_simp
    with_reducible rfl
  rotate_left
  · simp only [Act.put, List.setIfInBounds_toArray, List.set_cons_zero, List.set_cons_succ, i64_w, i32_w]
    rfl
  refine pure_ (i := 6) (N := some 13) (v := ?_) (a' := ?_) gb7_ rfl rfl (any_of HT_.out (by kernel_rfl)) (fun _ _ _ h => h) (Or.inl ⟨by rfl, ?_⟩) ?_ ?_
  rotate_left
  · intro w'
    go_simp
    with_reducible rfl
  rotate_left
  · simp only [Act.put, List.setIfInBounds_toArray, List.set_cons_zero, List.set_cons_succ, i64_w, i32_w]
    rfl
  refine take_ (i := 7) (N := some 14) (v := ?_) (a' := ?_) gb8_ rfl rfl (take_ofW HT_.out HW_.out (by kernel_rfl)) (fun _ _ _ h => h) (Or.inl ⟨by rfl, ?_⟩) hHeld ?_ ?_
  rotate_left
  · rintro w' s0
    go_simp
    with_reducible rfl
  rotate_left
  · simp only [Act.put, List.setIfInBounds_toArray, List.set_cons_zero, List.set_cons_succ, i64_w, i32_w]
    rfl
  refine pure_ (i := 8) (N := some 15) (v := ?_) (a' := ?_) gb9_ rfl rfl (any_of HT_.out (by kernel_rfl)) (fun _ _ _ h => h) (Or.inl ⟨by rfl, ?_⟩) ?_ ?_
  rotate_left
  · intro w'
    go_simp
    with_reducible rfl
  rotate_left
  · simp only [Act.put, List.setIfInBounds_toArray, List.set_cons_zero, List.set_cons_succ, i64_w, i32_w]
    rfl
  refine pure_ (i := 9) (N := some 16) (v := ?_) (a' := ?_) gb10_ rfl rfl (any_of HT_.out (by kernel_rfl)) (fun _ _ _ h => h) (Or.inl ⟨by rfl, ?_⟩) ?_ ?_
  rotate_left
  · intro w'
    go_simp
    with_reducible rfl
  rotate_left
  · simp only [Act.put, List.setIfInBounds_toArray, List.set_cons_zero, List.set_cons_succ, i64_w, i32_w]
    rfl
  refine pure_ (i := 10) (N := some 17) (v := ?_) (a' := ?_) gb11_ rfl rfl (any_of HT_.out (by kernel_rfl)) (fun _ _ _ h => h) (Or.inl ⟨by rfl, ?_⟩) ?_ ?_
  rotate_left
  · intro w'
    go_simp
    with_reducible rfl
  rotate_left
  · simp only [Act.put, List.setIfInBounds_toArray, List.set_cons_zero, List.set_cons_succ, i64_w, i32_w]
    rfl
  refine pure_ (i := 11) (N := some 18) (v := ?_) (a' := ?_) gb12_ rfl rfl (any_of HT_.out (by kernel_rfl)) (fun _ _ _ h => h) (Or.inl ⟨by rfl, ?_⟩) ?_ ?_
  rotate_left
  · intro w'
    go_simp
    with_reducible rfl
  rotate_left
  · simp only [Act.put, List.setIfInBounds_toArray, List.set_cons_zero, List.set_cons_succ, i64_w, i32_w]
    rfl
  refine take_ (i := 12) (N := some 19) (v := ?_) (a' := ?_) gb13_ rfl rfl (take_ofW HT_.out HW_.out (by kernel_rfl)) (fun _ _ _ h => h) (Or.inl ⟨by rfl, ?_⟩) hHeld ?_ ?_
  rotate_left
  · rintro w' s0
    go_simp
    with_reducible rfl
  rotate_left
  · simp only [Act.put, List.setIfInBounds_toArray, List.set_cons_zero, List.set_cons_succ, i64_w, i32_w]
    rfl
  refine pure_ (i := 13) (N := some 20) (v := ?_) (a' := ?_) gb14_ rfl rfl (any_of HT_.out (by kernel_rfl)) (fun _ _ _ h => h) (Or.inl ⟨by rfl, ?_⟩) ?_ ?_
  rotate_left
  · intro w'
    go_simp
    with_reducible rfl
  rotate_left
  · simp only [Act.put, List.setIfInBounds_toArray, List.set_cons_zero, List.set_cons_succ, i64_w, i32_w]
    rfl
  refine pure_ (i := 14) (N := some 21) (v := ?_) (a' := ?_) gb15_ rfl rfl (any_of HT_.out (by kernel_rfl)) (fun _ _ _ h => h) (Or.inl ⟨by rfl, ?_⟩) ?_ ?_
  rotate_left
  · intro w'
    go_simp
    with_reducible rfl
  rotate_left
  · simp only [Act.put, List.setIfInBounds_toArray, List.set_cons_zero, List.set_cons_succ, i64_w, i32_w]
    rfl
  refine pure_ (i := 15) (N := some 22) (v := ?_) (a' := ?_) gb16_ rfl rfl (any_of HT_.out (by kernel_rfl)) (fun _ _ _ h => h) (Or.inl ⟨by rfl, ?_⟩) ?_ ?_
  rotate_left
  · intro w'
    go_simp
    with_reducible rfl
  rotate_left
  · simp only [Act.put, List.setIfInBounds_toArray, List.set_cons_zero, List.set_cons_succ, i64_w, i32_w]
    rfl
  refine pure_ (i := 16) (N := some 23) (v := ?_) (a' := ?_) gb17_ rfl rfl (any_of HT_.out (by kernel_rfl)) (fun _ _ _ h => h) (Or.inl ⟨by rfl, ?_⟩) ?_ ?_
  rotate_left
  · intro w'
    go_simp
    with_reducible rfl
  rotate_left
  · simp only [Act.put, List.setIfInBounds_toArray, List.set_cons_zero, List.set_cons_succ, i64_w, i32_w]
    rfl
  refine take_ (i := 17) (N := some 24) (v := ?_) (a' := ?_) gb18_ rfl rfl (take_ofW HT_.out HW_.out (by kernel_rfl)) (fun _ _ _ h => h) (Or.inl ⟨by rfl, ?_⟩) hHeld ?_ ?_
  rotate_left
  · rintro w' s0
    go_simp
    with_reducible rfl
  rotate_left
  · simp only [Act.put, List.setIfInBounds_toArray, List.set_cons_zero, List.set_cons_succ, i64_w, i32_w]
    rfl
  refine pure_ (i := 18) (N := some 25) (v := ?_) (a' := ?_) gb19_ rfl rfl (any_of HT_.out (by kernel_rfl)) (fun _ _ _ h => h) (Or.inl ⟨by rfl, ?_⟩) ?_ ?_
  rotate_left
  · intro w'
    go_simp
    with_reducible rfl
  rotate_left
  · simp only [Act.put, List.setIfInBounds_toArray, List.set_cons_zero, List.set_cons_succ, i64_w, i32_w]
    rfl
  refine pure_ (i := 19) (N := some 26) (v := ?_) (a' := ?_) gb20_ rfl rfl (any_of HT_.out (by kernel_rfl)) (fun _ _ _ h => h) (Or.inl ⟨by rfl, ?_⟩) ?_ ?_
  rotate_left
  · intro w'
    go_simp
    with_reducible rfl
  rotate_left
  · simp only [Act.put, List.setIfInBounds_toArray, List.set_cons_zero, List.set_cons_succ, i64_w, i32_w]
    rfl
  refine pure_ (i := 20) (N := some 27) (v := ?_) (a' := ?_) gb21_ rfl rfl (any_of HT_.out (by kernel_rfl)) (fun _ _ _ h => h) (Or.inl ⟨by rfl, ?_⟩) ?_ ?_
  rotate_left
  · intro w'
    go_simp
    with_reducible rfl
  rotate_left
  · simp only [Act.put, List.setIfInBounds_toArray, List.set_cons_zero, List.set_cons_succ, i64_w, i32_w]
    rfl
  refine one_ (i := 21) (N := some 4) gb22_ rfl rfl (one_of HT_.out (by kernel_rfl)) (by decide) (fun K hK => ?_)
  refine box_step ?hg (N := 4) ?hd (cs := #[.slice none 0 0, .bool false, .bool false, .int .i64 0]) (t := 64) ?hr ?_; (case hd => rfl); (case hg => rfl); (case hr => first | (go_simp; done) | (go_simp; rfl))
  intro g hg w1 hbox hb
  have hb1 : Below w.heap.size w w1 := by
    rw [← hWd] at hb
    exact below_undrew hb
  have hgs : w.heap.size ≤ g := by rw [hg, ← hWd]; exact Nat.le_refl _
  have hgb : gb ≠ g := by omega
  have x2 := pw_cell_below hb1 x1
  clear hg hb
  refine hK.out _ _ x2 (fun hHeld2 => ?_)
  refine last_ (i := 22) (N := none) gb23_ rfl rfl (one_of HT_.out (by kernel_rfl)) (by decide) (fun K2 hK2 => ?_)
  obtain ⟨z0, z1, z2, z3⟩ : w1.cell? ⟨g, 0, none⟩ = some (.slice none 0 0) ∧ w1.cell? ⟨g, 1, none⟩ = some (.bool false) ∧ w1.cell? ⟨g, 2, none⟩ = some (.bool false) ∧ w1.cell? ⟨g, 3, none⟩ = some (.int .i64 0) := ⟨(blk_cell hbox 0).trans rfl, (blk_cell hbox 1).trans rfl, (blk_cell hbox 2).trans rfl, (blk_cell hbox 3).trans rfl⟩
  have zf : ∀ i, w1.frozen? ⟨g, i, none⟩ = false := fun i => blk_frozen hbox i
  refine skip_ (w1 := (((w1.setCell ⟨g, 0, none⟩ (.slice none 0 0)).setCell ⟨g, 1, none⟩ (.bool true)).setCell ⟨g, 2, none⟩ (.bool true)).setCell ⟨g, 3, none⟩ (.int .i64 0)) (by rfl) rfl ?hrun ?_
  case hrun => go_simp
  refine hK2.out _ _ (done_ (done_of HT_.out (by kernel_rfl)) ?_)
  have hbk := blk_set (blk_set (blk_set (blk_set hbox 0 (.slice none 0 0)) 1 (.bool true)) 2 (.bool true)) 3 (.int .i64 0)
  have hb2 := below_set (below_set (below_set (below_set hb1 hgs (j := 0) (v := .slice none 0 0)) hgs (j := 1) (v := .bool true)) hgs (j := 2) (v := .bool true)) hgs (j := 3) (v := .int .i64 0)
  clear hb1 hbox hK hK2 hHeld hHeld2 z0 z1 z2 z3 zf x2
  generalize World.setCell _ ⟨g, 3, none⟩ _ = W2 at hbk hb2 ⊢
  replace hbk : W2.heap[g]? = some (.cells #[.slice none 0 0, .bool true, .bool true, .int .i64 0] 64 (0, 0)) := hbk
  have HBK := Aside0.mk hbk
  have HB2 := Aside0.mk hb2
  obtain ⟨z0, z1, z2, z3⟩ : W2.cell? ⟨g, 0, none⟩ = some (.slice none 0 0) ∧ W2.cell? ⟨g, 1, none⟩ = some (.bool true) ∧ W2.cell? ⟨g, 2, none⟩ = some (.bool true) ∧ W2.cell? ⟨g, 3, none⟩ = some (.int .i64 0) := ⟨(blk_cell hbk 0).trans rfl, (blk_cell hbk 1).trans rfl, (blk_cell hbk 2).trans rfl, (blk_cell hbk 3).trans rfl⟩
  have zf : ∀ i, W2.frozen? ⟨g, i, none⟩ = false := fun i => blk_frozen hbk i
  have HGB := Aside0.mk hgb
  have HGS := Aside0.mk hgs
  have HX1 := Aside0.mk x1
  clear hbk hb2 hgb hgs x1 hWd
  have d1 : decide (((r.length + 1 : Nat) : Int) ≤ 2) = true := decide_eq_true (by omega)
  have d2 : decide (r.length + 1 ≤ 2) = true := decide_eq_true (by omega)
  have d3 : decide ((r.length : Int) + 1 ≤ 2) = true := decide_eq_true (by omega)
  clear hl
  go_wp2_with (go_at_call 19; refine (parse_bad.calls _ _ _ _ rfl).mono ?_; rintro e w3 ⟨rfl, hd⟩; have HD := Aside0.mk hd; clear hd)
  go_ret2
  exact ⟨_, rfl, rfl, below_step (by repeat (first | exact HB2.out | apply below_drew1 | apply below_alloc | apply pw_below_drewN)) HD.out.below⟩
set_option maxHeartbeats 8000000 in
set_option maxRecDepth 100000 in
theorem get_gats_full (A : Option Addr) (c : Nat) (ks : List ByteArray) (x : ByteArray) (w : World) (HLD : LaidA w) (hr : Kd.C Kd.string w A (⟨#[103, 97, 116, 115]⟩ :: x :: ks).length (⟨#[103, 97, 116, 115]⟩ :: x :: ks)) (hcc : (⟨#[103, 97, 116, 115]⟩ :: x :: ks).length ≤ c) (hn : 0 < ks.length) (k : Nat) (sg : Int × Bool) (hsg : words_Signed.f k x = some sg) :
    Calls Tryd.prog 20 #[.slice A (⟨#[103, 97, 116, 115]⟩ :: x :: ks).length c] w fun e w' => ∃ v, e = .returned (.tuple #[v, .int .i64 (-1)]) ∧ AnyR w' v (getX ks true true sg) ∧ Below w.heap.size w w' := by
  have hus := Tryd.underlying23
  have hug := Tryd.underlying64
  have hmax := hr.2.1
  have HL := Aside0.mk HLD
  obtain ⟨gb, ob, hA, hcell⟩ := str_cells hr (by simp)
  have x0 := hcell 0 (by simp)
  have x1 : w.cell? ⟨gb, ob, none⟩ = some (.string ⟨#[103, 97, 116, 115]⟩) := x0
  subst hA
  have hlt : gb < w.heap.size := World.block_lt_of_cell? w _ x1
  have hne : ¬ gb = w.heap.size := by omega
  have HC := Aside0.mk hcell
  have HMX := Aside0.mk hmax
  clear HLD hr hcell x0
  obtain ⟨sv, sk⟩ := sg
  obtain ⟨X, hX⟩ : ∃ X, X = getX ks true true (sv, sk) := ⟨_, rfl⟩
  rw [← hX]
  have HXX := Aside0.mk hX
  clear hX
  have hF0 : Kd.F Kd.string w (fun _ => True) (some ⟨gb, ob + 2, none⟩) ks.length ks := Kd.F_mono (Kd.C_F Kd.heap_string (str_drop (xs := ⟨#[103, 97, 116, 115]⟩ :: x :: ks) HMX.out HC.out 2 ks.length rfl)) (fun _ _ => trivial)
  have HF0 := Aside0.mk hF0
  have HN := Aside0.mk hn
  have HCC := Aside0.mk hcc
  have e3 : (ks.length + 2 ≤ c) = True := eq_true (by simp at hcc; omega)
  have e4 : ¬ c = 2 := by simp at hcc; omega
  have e5 : ¬ c = 0 := by simp at hcc; omega
  have d1 : decide (((ks.length + 2 : Nat) : Int) ≤ 2) = false := decide_eq_false (by omega)
  have d2 : decide (ks.length + 2 ≤ 2) = false := decide_eq_false (by omega)
  have d3 : decide ((ks.length : Int) + 2 ≤ 2) = false := decide_eq_false (by omega)
  have d5 : decide ((ks.length : Int) + 1 + 1 ≤ 2) = false := decide_eq_false (by omega)
  have e1 : (2 ≤ ks.length + 2) = True := eq_true (by omega)
  have e6 : ((2 : Int) ≤ (ks.length : Int) + 2) = True := eq_true (by omega)
  clear hF0 hn hcc
  have e7 : ((0 : Int) < (ks.length : Int) + 1 + 1) = True := eq_true (by omega)
  have e8 : ((1 : Int) < (ks.length : Int) + 1 + 1) = True := eq_true (by omega)
  have e9 : ((2 : Int) ≤ (ks.length : Int) + 1 + 1) = True := eq_true (by omega)
  have e10 : (ks.length + 1 + 1 ≤ c) = True := eq_true (by have := of_eq_true e3; omega)
  have x1b : w.cell? ⟨gb, ob + 1, none⟩ = some (.string x) := HC.out 1 (by simp)
  have HX2 := Aside0.mk x1b
  clear x1b
  have HSG := Aside0.mk hsg
  clear hsg
  go_enter Tryd.func20, Tryd.ntmps20
  go_wp2
  refine start_ (n := 23) (S := fun w' => w'.cell? ⟨gb, ob, none⟩ = some (.string ⟨#[103, 97, 116, 115]⟩)) (ds := [22]) gb0_ (by kernel_rfl) rfl rfl x1 (fun hHeld => ?_); refine with_tabW get_tab1 get_bits1 (fun HT_ HW_ => ?_)
  generalize hWd : w.drew = wd at hHeld ⊢
  refine pure_ (i := 0) (N := some 7) (v := ?_) (a' := ?_) gb1_ rfl rfl (any_of HT_.out (by kernel_rfl)) (fun _ _ _ h => h) (Or.inl ⟨by rfl, ?_⟩) ?_ ?_
  rotate_left
  · intro w'
    go_simp
    with_reducible rfl
  rotate_left
  · simp only [Act.put, List.setIfInBounds_toArray, List.set_cons_zero, List.set_cons_succ, i64_w, i32_w]
    rfl
  refine pure_ (i := 1) (N := some 8) (v := ?_) (a' := ?_) gb2_ rfl rfl (any_of HT_.out (by kernel_rfl)) (fun _ _ _ h => h) (Or.inl ⟨by rfl, ?_⟩) ?_ ?_
  rotate_left
  · intro w'
    go_simp
    with_reducible rfl
  rotate_left
  · simp only [Act.put, List.setIfInBounds_toArray, List.set_cons_zero, List.set_cons_succ, i64_w, i32_w]
    rfl
  refine take_ (i := 2) (N := some 9) (v := ?_) (a' := ?_) gb3_ rfl rfl (take_ofW HT_.out HW_.out (by kernel_rfl)) (fun _ _ _ h => h) (Or.inl ⟨by rfl, ?_⟩) hHeld ?_ ?_
  rotate_left
  · rintro w' s0
    go_simp
    with_reducible rfl
  rotate_left
  · simp only [Act.put, List.setIfInBounds_toArray, List.set_cons_zero, List.set_cons_succ, i64_w, i32_w]
    rfl
  refine pure_ (i := 3) (N := some 10) (v := ?_) (a' := ?_) gb4_ rfl rfl (any_of HT_.out (by kernel_rfl)) (fun _ _ _ h => h) (Or.inl ⟨by rfl, ?_⟩) ?_ ?_
  rotate_left
  · intro w'
    go_simp
    with_reducible rfl
  rotate_left
  · simp only [Act.put, List.setIfInBounds_toArray, List.set_cons_zero, List.set_cons_succ, i64_w, i32_w]
    rfl
  refine pure_ (i := 4) (N := some 11) (v := ?_) (a' := ?_) gb5_ rfl rfl (any_of HT_.out (by kernel_rfl)) (fun _ _ _ h => h) (Or.inl ⟨by rfl, ?_⟩) ?_ ?_
  rotate_left
  · intro w'
    go_simp
    with_reducible rfl
  rotate_left
  · simp only [Act.put, List.setIfInBounds_toArray, List.set_cons_zero, List.set_cons_succ, i64_w, i32_w]
    rfl
  refine pure_ (i := 5) (N := some 12) (v := ?_) (a' := ?_) gb6_ rfl rfl (any_of HT_.out (by kernel_rfl)) (fun _ _ _ h => h) (Or.inl ⟨by rfl, ?_⟩) ?_ ?_
  rotate_left
  · intro w'
    go_simp
    with_reducible rfl
  rotate_left
  · simp only [Act.put, List.setIfInBounds_toArray, List.set_cons_zero, List.set_cons_succ, i64_w, i32_w]
    rfl
  refine pure_ (i := 6) (N := some 13) (v := ?_) (a' := ?_) gb7_ rfl rfl (any_of HT_.out (by kernel_rfl)) (fun _ _ _ h => h) (Or.inl ⟨by rfl, ?_⟩) ?_ ?_
  rotate_left
  · intro w'
    go_simp
    with_reducible rfl
  rotate_left
  · simp only [Act.put, List.setIfInBounds_toArray, List.set_cons_zero, List.set_cons_succ, i64_w, i32_w]
    rfl
  refine take_ (i := 7) (N := some 14) (v := ?_) (a' := ?_) gb8_ rfl rfl (take_ofW HT_.out HW_.out (by kernel_rfl)) (fun _ _ _ h => h) (Or.inl ⟨by rfl, ?_⟩) hHeld ?_ ?_
  rotate_left
  · rintro w' s0
    go_simp
    with_reducible rfl
  rotate_left
  · simp only [Act.put, List.setIfInBounds_toArray, List.set_cons_zero, List.set_cons_succ, i64_w, i32_w]
    rfl
  refine pure_ (i := 8) (N := some 15) (v := ?_) (a' := ?_) gb9_ rfl rfl (any_of HT_.out (by kernel_rfl)) (fun _ _ _ h => h) (Or.inl ⟨by rfl, ?_⟩) ?_ ?_
  rotate_left
  · intro w'
    go_simp
    with_reducible rfl
  rotate_left
  · simp only [Act.put, List.setIfInBounds_toArray, List.set_cons_zero, List.set_cons_succ, i64_w, i32_w]
    rfl
  refine pure_ (i := 9) (N := some 16) (v := ?_) (a' := ?_) gb10_ rfl rfl (any_of HT_.out (by kernel_rfl)) (fun _ _ _ h => h) (Or.inl ⟨by rfl, ?_⟩) ?_ ?_
  rotate_left
  · intro w'
    go_simp
    with_reducible rfl
  rotate_left
  · simp only [Act.put, List.setIfInBounds_toArray, List.set_cons_zero, List.set_cons_succ, i64_w, i32_w]
    rfl
  refine pure_ (i := 10) (N := some 17) (v := ?_) (a' := ?_) gb11_ rfl rfl (any_of HT_.out (by kernel_rfl)) (fun _ _ _ h => h) (Or.inl ⟨by rfl, ?_⟩) ?_ ?_
  rotate_left
  · intro w'
    go_simp
    with_reducible rfl
  rotate_left
  · simp only [Act.put, List.setIfInBounds_toArray, List.set_cons_zero, List.set_cons_succ, i64_w, i32_w]
    rfl
  refine pure_ (i := 11) (N := some 18) (v := ?_) (a' := ?_) gb12_ rfl rfl (any_of HT_.out (by kernel_rfl)) (fun _ _ _ h => h) (Or.inl ⟨by rfl, ?_⟩) ?_ ?_
  rotate_left
  · intro w'
    go_simp
    with_reducible rfl
  rotate_left
  · simp only [Act.put, List.setIfInBounds_toArray, List.set_cons_zero, List.set_cons_succ, i64_w, i32_w]
    rfl
  refine take_ (i := 12) (N := some 19) (v := ?_) (a' := ?_) gb13_ rfl rfl (take_ofW HT_.out HW_.out (by kernel_rfl)) (fun _ _ _ h => h) (Or.inl ⟨by rfl, ?_⟩) hHeld ?_ ?_
  rotate_left
  · rintro w' s0
    go_simp
    with_reducible rfl
  rotate_left
  · simp only [Act.put, List.setIfInBounds_toArray, List.set_cons_zero, List.set_cons_succ, i64_w, i32_w]
    rfl
  refine pure_ (i := 13) (N := some 20) (v := ?_) (a' := ?_) gb14_ rfl rfl (any_of HT_.out (by kernel_rfl)) (fun _ _ _ h => h) (Or.inl ⟨by rfl, ?_⟩) ?_ ?_
  rotate_left
  · intro w'
    go_simp
    with_reducible rfl
  rotate_left
  · simp only [Act.put, List.setIfInBounds_toArray, List.set_cons_zero, List.set_cons_succ, i64_w, i32_w]
    rfl
  refine pure_ (i := 14) (N := some 21) (v := ?_) (a' := ?_) gb15_ rfl rfl (any_of HT_.out (by kernel_rfl)) (fun _ _ _ h => h) (Or.inl ⟨by rfl, ?_⟩) ?_ ?_
  rotate_left
  · intro w'
    go_simp
    with_reducible rfl
  rotate_left
  · simp only [Act.put, List.setIfInBounds_toArray, List.set_cons_zero, List.set_cons_succ, i64_w, i32_w]
    rfl
  refine pure_ (i := 15) (N := some 22) (v := ?_) (a' := ?_) gb16_ rfl rfl (any_of HT_.out (by kernel_rfl)) (fun _ _ _ h => h) (Or.inl ⟨by rfl, ?_⟩) ?_ ?_
  rotate_left
  · intro w'
    go_simp
    with_reducible rfl
  rotate_left
  · simp only [Act.put, List.setIfInBounds_toArray, List.set_cons_zero, List.set_cons_succ, i64_w, i32_w]
    rfl
  refine pure_ (i := 16) (N := some 23) (v := ?_) (a' := ?_) gb17_ rfl rfl (any_of HT_.out (by kernel_rfl)) (fun _ _ _ h => h) (Or.inl ⟨by rfl, ?_⟩) ?_ ?_
  rotate_left
  · intro w'
    go_simp
    with_reducible rfl
  rotate_left
  · simp only [Act.put, List.setIfInBounds_toArray, List.set_cons_zero, List.set_cons_succ, i64_w, i32_w]
    rfl
  refine take_ (i := 17) (N := some 24) (v := ?_) (a' := ?_) gb18_ rfl rfl (take_ofW HT_.out HW_.out (by kernel_rfl)) (fun _ _ _ h => h) (Or.inl ⟨by rfl, ?_⟩) hHeld ?_ ?_
  rotate_left
  · rintro w' s0
    go_simp
    with_reducible rfl
  rotate_left
  · simp only [Act.put, List.setIfInBounds_toArray, List.set_cons_zero, List.set_cons_succ, i64_w, i32_w]
    rfl
  refine pure_ (i := 18) (N := some 25) (v := ?_) (a' := ?_) gb19_ rfl rfl (any_of HT_.out (by kernel_rfl)) (fun _ _ _ h => h) (Or.inl ⟨by rfl, ?_⟩) ?_ ?_
  rotate_left
  · intro w'
    go_simp
    with_reducible rfl
  rotate_left
  · simp only [Act.put, List.setIfInBounds_toArray, List.set_cons_zero, List.set_cons_succ, i64_w, i32_w]
    rfl
  refine pure_ (i := 19) (N := some 26) (v := ?_) (a' := ?_) gb20_ rfl rfl (any_of HT_.out (by kernel_rfl)) (fun _ _ _ h => h) (Or.inl ⟨by rfl, ?_⟩) ?_ ?_
  rotate_left
  · intro w'
    go_simp
    with_reducible rfl
  rotate_left
  · simp only [Act.put, List.setIfInBounds_toArray, List.set_cons_zero, List.set_cons_succ, i64_w, i32_w]
    rfl
  refine pure_ (i := 20) (N := some 27) (v := ?_) (a' := ?_) gb21_ rfl rfl (any_of HT_.out (by kernel_rfl)) (fun _ _ _ h => h) (Or.inl ⟨by rfl, ?_⟩) ?_ ?_
  rotate_left
  · intro w'
    go_simp
    with_reducible rfl
  rotate_left
  · simp only [Act.put, List.setIfInBounds_toArray, List.set_cons_zero, List.set_cons_succ, i64_w, i32_w]
    rfl
  refine one_ (i := 21) (N := some 4) gb22_ rfl rfl (one_of HT_.out (by kernel_rfl)) (by decide) (fun K hK => ?_)
  refine box_step ?hg (N := 4) ?hd (cs := #[.slice none 0 0, .bool false, .bool false, .int .i64 0]) (t := 64) ?hr ?_; (case hd => rfl); (case hg => rfl); (case hr => first | (go_simp; done) | (go_simp; rfl))
  intro g hg w1 hbox hb
  have hb1 : Below w.heap.size w w1 := by
    rw [← hWd] at hb
    exact below_undrew hb
  have hgs : w.heap.size ≤ g := by rw [hg, ← hWd]; exact Nat.le_refl _
  have hgb : gb ≠ g := by omega
  have x2 := pw_cell_below hb1 x1
  clear hg hb
  refine hK.out _ _ x2 (fun hHeld2 => ?_)
  refine last_ (i := 22) (N := none) gb23_ rfl rfl (one_of HT_.out (by kernel_rfl)) (by decide) (fun K2 hK2 => ?_)
  obtain ⟨z0, z1, z2, z3⟩ : w1.cell? ⟨g, 0, none⟩ = some (.slice none 0 0) ∧ w1.cell? ⟨g, 1, none⟩ = some (.bool false) ∧ w1.cell? ⟨g, 2, none⟩ = some (.bool false) ∧ w1.cell? ⟨g, 3, none⟩ = some (.int .i64 0) := ⟨(blk_cell hbox 0).trans rfl, (blk_cell hbox 1).trans rfl, (blk_cell hbox 2).trans rfl, (blk_cell hbox 3).trans rfl⟩
  have zf : ∀ i, w1.frozen? ⟨g, i, none⟩ = false := fun i => blk_frozen hbox i
  refine skip_ (w1 := (((w1.setCell ⟨g, 0, none⟩ (.slice none 0 0)).setCell ⟨g, 1, none⟩ (.bool true)).setCell ⟨g, 2, none⟩ (.bool true)).setCell ⟨g, 3, none⟩ (.int .i64 0)) (by rfl) rfl ?hrun ?_
  case hrun => go_simp
  refine hK2.out _ _ (done_ (done_of HT_.out (by kernel_rfl)) ?_)
  have hbk := blk_set (blk_set (blk_set (blk_set hbox 0 (.slice none 0 0)) 1 (.bool true)) 2 (.bool true)) 3 (.int .i64 0)
  have hb2 := below_set (below_set (below_set (below_set hb1 hgs (j := 0) (v := .slice none 0 0)) hgs (j := 1) (v := .bool true)) hgs (j := 2) (v := .bool true)) hgs (j := 3) (v := .int .i64 0)
  clear hb1 hbox hK hK2 hHeld hHeld2 z0 z1 z2 z3 zf x2
  generalize World.setCell _ ⟨g, 3, none⟩ _ = W2 at hbk hb2 ⊢
  replace hbk : W2.heap[g]? = some (.cells #[.slice none 0 0, .bool true, .bool true, .int .i64 0] 64 (0, 0)) := hbk
  have HBK := Aside0.mk hbk
  have HB2 := Aside0.mk hb2
  obtain ⟨z0, z1, z2, z3⟩ : W2.cell? ⟨g, 0, none⟩ = some (.slice none 0 0) ∧ W2.cell? ⟨g, 1, none⟩ = some (.bool true) ∧ W2.cell? ⟨g, 2, none⟩ = some (.bool true) ∧ W2.cell? ⟨g, 3, none⟩ = some (.int .i64 0) := ⟨(blk_cell hbk 0).trans rfl, (blk_cell hbk 1).trans rfl, (blk_cell hbk 2).trans rfl, (blk_cell hbk 3).trans rfl⟩
  have zf : ∀ i, W2.frozen? ⟨g, i, none⟩ = false := fun i => blk_frozen hbk i
  have HGB := Aside0.mk hgb
  have HGS := Aside0.mk hgs
  have HX1 := Aside0.mk x1
  clear hbk hb2 hgb hgs x1 hWd
  by_cases hk : ks.any (fun k => !keyF k) = true
  · have HK := Aside0.mk hk
    clear hk
    go_wp2_with (first | (go_at_call 30; refine (ContainsFunc_walk _ _ ks _ (HL.out.below (below_set HB2.out HGS.out)) (Kd.F_now (Kd.F_below HF0.out (below_set HB2.out HGS.out)))).mono ?_; rintro e w3 ⟨rfl, hb3⟩; rw [HK.out]; have hbk3 := blk_below (blk_set HBK.out 0 (.slice (some ⟨gb, ob + 2, none⟩) ks.length (c - 2))) hb3; replace hbk3 : w3.heap[g]? = some (.cells #[.slice (some ⟨gb, ob + 2, none⟩) ks.length (c - 2), .bool true, .bool true, .int .i64 0] 64 (0, 0)) := hbk3; obtain ⟨y0, y1, y2, y3⟩ : w3.cell? ⟨g, 0, none⟩ = some (.slice (some ⟨gb, ob + 2, none⟩) ks.length (c - 2)) ∧ w3.cell? ⟨g, 1, none⟩ = some (.bool true) ∧ w3.cell? ⟨g, 2, none⟩ = some (.bool true) ∧ w3.cell? ⟨g, 3, none⟩ = some (.int .i64 0) := ⟨(blk_cell hbk3 0).trans rfl, (blk_cell hbk3 1).trans rfl, (blk_cell hbk3 2).trans rfl, (blk_cell hbk3 3).trans rfl⟩; have HBK3 := Aside0.mk hbk3; have HB3 := Aside0.mk (below_step (below_set HB2.out HGS.out) hb3); clear hbk3 hb3) | (go_at_call 19; refine (parse_bad.calls _ _ _ _ rfl).mono ?_; rintro e w4 ⟨rfl, hd⟩; have HD := Aside0.mk hd; clear hd))
    go_ret2
    refine ⟨_, rfl, ?_, below_step HB3.out HD.out.below⟩
    rw [HXX.out]
    unfold getX
    rw [if_pos (Or.inl HK.out)]
    exact rfl
  have HK := Aside0.mk (by simpa using hk : ks.any (fun k => !keyF k) = false)
  by_cases h64 : 64 < ks.length
  · have H64 := Aside0.mk h64
    have f1 : decide ((64 : Int) < (ks.length : Int)) = true := decide_eq_true (by omega)
    have f2 : decide (64 < ks.length) = true := decide_eq_true (by omega)
    clear hk h64
    go_wp2_with (first | (go_at_call 30; refine (ContainsFunc_walk _ _ ks _ (HL.out.below (below_set HB2.out HGS.out)) (Kd.F_now (Kd.F_below HF0.out (below_set HB2.out HGS.out)))).mono ?_; rintro e w3 ⟨rfl, hb3⟩; rw [HK.out]; have hbk3 := blk_below (blk_set HBK.out 0 (.slice (some ⟨gb, ob + 2, none⟩) ks.length (c - 2))) hb3; replace hbk3 : w3.heap[g]? = some (.cells #[.slice (some ⟨gb, ob + 2, none⟩) ks.length (c - 2), .bool true, .bool true, .int .i64 0] 64 (0, 0)) := hbk3; obtain ⟨y0, y1, y2, y3⟩ : w3.cell? ⟨g, 0, none⟩ = some (.slice (some ⟨gb, ob + 2, none⟩) ks.length (c - 2)) ∧ w3.cell? ⟨g, 1, none⟩ = some (.bool true) ∧ w3.cell? ⟨g, 2, none⟩ = some (.bool true) ∧ w3.cell? ⟨g, 3, none⟩ = some (.int .i64 0) := ⟨(blk_cell hbk3 0).trans rfl, (blk_cell hbk3 1).trans rfl, (blk_cell hbk3 2).trans rfl, (blk_cell hbk3 3).trans rfl⟩; have HBK3 := Aside0.mk hbk3; have HB3 := Aside0.mk (below_step (below_set HB2.out HGS.out) hb3); clear hbk3 hb3) | (go_at_call 19; refine (parse_bad.calls _ _ _ _ rfl).mono ?_; rintro e w4 ⟨rfl, hd⟩; have HD := Aside0.mk hd; clear hd))
    go_ret2
    refine ⟨_, rfl, ?_, below_step HB3.out HD.out.below⟩
    rw [HXX.out]
    unfold getX
    rw [if_pos (Or.inr H64.out)]
    exact rfl
  have HNO := Aside0.mk (show ¬ (ks.any (fun k => !keyF k) = true ∨ 64 < ks.length) from by rintro (h | h); exact hk h; exact h64 h)
  have H64 := Aside0.mk h64
  have f1 : decide ((64 : Int) < (ks.length : Int)) = false := decide_eq_false (by omega)
  have f2 : decide (64 < ks.length) = false := decide_eq_false (by omega)
  clear hk h64
  cases sk with
  | false =>
    go_wp2_with (first | (go_at_call 30; refine (ContainsFunc_walk _ _ ks _ (HL.out.below (below_set HB2.out HGS.out)) (Kd.F_now (Kd.F_below HF0.out (below_set HB2.out HGS.out)))).mono ?_; rintro e w3 ⟨rfl, hb3⟩; rw [HK.out]; have hbk3 := blk_below (blk_set HBK.out 0 (.slice (some ⟨gb, ob + 2, none⟩) ks.length (c - 2))) hb3; replace hbk3 : w3.heap[g]? = some (.cells #[.slice (some ⟨gb, ob + 2, none⟩) ks.length (c - 2), .bool true, .bool true, .int .i64 0] 64 (0, 0)) := hbk3; obtain ⟨y0, y1, y2, y3⟩ : w3.cell? ⟨g, 0, none⟩ = some (.slice (some ⟨gb, ob + 2, none⟩) ks.length (c - 2)) ∧ w3.cell? ⟨g, 1, none⟩ = some (.bool true) ∧ w3.cell? ⟨g, 2, none⟩ = some (.bool true) ∧ w3.cell? ⟨g, 3, none⟩ = some (.int .i64 0) := ⟨(blk_cell hbk3 0).trans rfl, (blk_cell hbk3 1).trans rfl, (blk_cell hbk3 2).trans rfl, (blk_cell hbk3 3).trans rfl⟩; have HBK3 := Aside0.mk hbk3; have HB3 := Aside0.mk (below_step (below_set HB2.out HGS.out) hb3); clear hbk3 hb3; have x5 := pw_cell_below HB3.out HX2.out) | (go_at_call 32; refine (words_Signed.calls k x _ _ _ (HL.out.below HB3.out) HSG.out).mono ?_; rintro e w4 ⟨rfl, hb4⟩; have hbk4 := blk_below HBK3.out hb4; obtain ⟨u0, u1, u2, u3⟩ : w4.cell? ⟨g, 0, none⟩ = some (.slice (some ⟨gb, ob + 2, none⟩) ks.length (c - 2)) ∧ w4.cell? ⟨g, 1, none⟩ = some (.bool true) ∧ w4.cell? ⟨g, 2, none⟩ = some (.bool true) ∧ w4.cell? ⟨g, 3, none⟩ = some (.int .i64 0) := ⟨(blk_cell hbk4 0).trans rfl, (blk_cell hbk4 1).trans rfl, (blk_cell hbk4 2).trans rfl, (blk_cell hbk4 3).trans rfl⟩; have uf : ∀ i, w4.frozen? ⟨g, i, none⟩ = false := fun i => blk_frozen hbk4 i; have HB4 := Aside0.mk (below_step HB3.out hb4); clear hbk4 hb4) | (go_at_call 19; refine (parse_bad.calls _ _ _ _ rfl).mono ?_; rintro e w5 ⟨rfl, hd⟩; have HD := Aside0.mk hd; clear hd))
    go_ret2
    refine ⟨_, rfl, ?_, below_step (below_set HB4.out HGS.out) HD.out.below⟩
    rw [HXX.out]
    unfold getX
    rw [if_neg HNO.out]
    exact rfl
  | true =>
    go_wp2_with (first | (go_at_call 30; refine (ContainsFunc_walk _ _ ks _ (HL.out.below (below_set HB2.out HGS.out)) (Kd.F_now (Kd.F_below HF0.out (below_set HB2.out HGS.out)))).mono ?_; rintro e w3 ⟨rfl, hb3⟩; rw [HK.out]; have hbk3 := blk_below (blk_set HBK.out 0 (.slice (some ⟨gb, ob + 2, none⟩) ks.length (c - 2))) hb3; replace hbk3 : w3.heap[g]? = some (.cells #[.slice (some ⟨gb, ob + 2, none⟩) ks.length (c - 2), .bool true, .bool true, .int .i64 0] 64 (0, 0)) := hbk3; obtain ⟨y0, y1, y2, y3⟩ : w3.cell? ⟨g, 0, none⟩ = some (.slice (some ⟨gb, ob + 2, none⟩) ks.length (c - 2)) ∧ w3.cell? ⟨g, 1, none⟩ = some (.bool true) ∧ w3.cell? ⟨g, 2, none⟩ = some (.bool true) ∧ w3.cell? ⟨g, 3, none⟩ = some (.int .i64 0) := ⟨(blk_cell hbk3 0).trans rfl, (blk_cell hbk3 1).trans rfl, (blk_cell hbk3 2).trans rfl, (blk_cell hbk3 3).trans rfl⟩; have HBK3 := Aside0.mk hbk3; have HB3 := Aside0.mk (below_step (below_set HB2.out HGS.out) hb3); clear hbk3 hb3; have x5 := pw_cell_below HB3.out HX2.out) | (go_at_call 32; refine (words_Signed.calls k x _ _ _ (HL.out.below HB3.out) HSG.out).mono ?_; rintro e w4 ⟨rfl, hb4⟩; have hbk4 := blk_below HBK3.out hb4; obtain ⟨u0, u1, u2, u3⟩ : w4.cell? ⟨g, 0, none⟩ = some (.slice (some ⟨gb, ob + 2, none⟩) ks.length (c - 2)) ∧ w4.cell? ⟨g, 1, none⟩ = some (.bool true) ∧ w4.cell? ⟨g, 2, none⟩ = some (.bool true) ∧ w4.cell? ⟨g, 3, none⟩ = some (.int .i64 0) := ⟨(blk_cell hbk4 0).trans rfl, (blk_cell hbk4 1).trans rfl, (blk_cell hbk4 2).trans rfl, (blk_cell hbk4 3).trans rfl⟩; have uf : ∀ i, w4.frozen? ⟨g, i, none⟩ = false := fun i => blk_frozen hbk4 i; have HB4 := Aside0.mk (below_step HB3.out hb4); clear hbk4 hb4))
    go_ret2
    refine ⟨_, rfl, ?_, below_set HB4.out HGS.out⟩
    rw [HXX.out]
    unfold getX
    rw [if_neg HNO.out]
    exact ⟨_, _, rfl, ⟨HN.out, by have := H64.out; omega⟩, by have := HCC.out; simp at this; omega, Kd.F_below HF0.out (below_set HB4.out HGS.out)⟩
end Go.Proofs.YtfbhlbchmenloaaDoor.H
end
section
namespace Go.Proofs.YtfbhlbchmenloaaDoor.H
open Go.RowKit Go.Proofs.YtfbhlbchmenloaaDoorW.PrintWords Go.Proofs.YtfbhlbchmenloaaDoorW.PrintLast Go.Proofs.YtfbhlbchmenloaaDoorW.PrintMore
set_option linter.unusedVariables false
set_option linter.unusedSimpArgs false
def badX : Cx := .pl (.bad ⟨#[69, 82, 82, 79, 82]⟩)
def get1 (ca : Bool) (r : List ByteArray) : Cx := if r.length < 1 then badX else getX r ca false (0, true)
def get2 (k : Nat) (ca : Bool) : List ByteArray → Option Cx
  | x :: y :: ks => (words_Signed.f k x).map fun sg => getX (y :: ks) ca true sg
  | _ => some badX
def isGet (w : ByteArray) : Bool := decide (w = ⟨#[103, 101, 116]⟩) || decide (w = ⟨#[103, 101, 116, 115]⟩) || decide (w = ⟨#[103, 97, 116]⟩) || decide (w = ⟨#[103, 97, 116, 115]⟩)
def getLine (k : Nat) (w : ByteArray) (r : List ByteArray) : Option Cx :=
  if w = ⟨#[103, 101, 116]⟩ then some (get1 false r) else if w = ⟨#[103, 101, 116, 115]⟩ then some (get1 true r) else if w = ⟨#[103, 97, 116]⟩ then get2 k false r else if w = ⟨#[103, 97, 116, 115]⟩ then get2 k true r else none
theorem get_get_all (k : Nat) (A : Option Addr) (c : Nat) (r : List ByteArray) (x : Cx) (w : World) (HLD : LaidA w) (hr : Kd.C Kd.string w A (⟨#[103, 101, 116]⟩ :: r).length (⟨#[103, 101, 116]⟩ :: r)) (hcc : (⟨#[103, 101, 116]⟩ :: r).length ≤ c) (h : some (get1 false r) = some x) :
    Calls Tryd.prog 20 #[.slice A (⟨#[103, 101, 116]⟩ :: r).length c] w fun e w' => ∃ v, e = .returned (.tuple #[v, .int .i64 (-1)]) ∧ AnyR w' v x ∧ Below w.heap.size w w' := by
  obtain rfl := Option.some.inj h
  unfold get1
  split
  case isTrue hl => exact get_get_short A c r w HLD hr hcc hl
  case isFalse hl => exact get_get_full A c r w HLD hr hcc (by omega)
set_option maxHeartbeats 8000000 in
set_option maxRecDepth 100000 in
theorem one_get (k : Nat) (s : ByteArray) (r : List ByteArray) (x : Cx) (hs : words_Split.f k s = some (⟨#[103, 101, 116]⟩ :: r)) (h : some (get1 false r) = some x) : OneIs s x (-1) := by
  intro w HLD
  have HL := Aside0.mk HLD
  have HS := Aside0.mk hs
  have HX := Aside0.mk h
  have hus := Tryd.underlying23
  have d1 : (((r.length + 1 : Nat) : Int) == 0) = false := by simp; omega
  have d2 : (((r.length : Nat) : Int) + 1 == 0) = false := by simp; omega
  have d3 : ((0 : Int) < (r.length : Int) + 1) = True := eq_true (by omega)
  have d4 : (0 < r.length + 1) = True := eq_true (by omega)
  have d5 : decide ((r.length : Int) + 1 = 0) = false := decide_eq_false (by omega)
  have d6 : ((r.length : Int) + 1 = 0) = False := eq_false (by omega)
  clear HLD hs h
  go_enter Tryd.func15, Tryd.ntmps15
  go_wp2_with (first
    | (go_at_call 18; refine (words_Split.calls k s _ _ HL.out HS.out).mono ?_; rintro e w1 ⟨v0, rfl, hr1, hb1⟩; obtain ⟨A1, c1, ev, hl1, hc1⟩ := Kd.R_reads hr1; subst ev; obtain ⟨gb, ob, hA, hcell⟩ := str_cells hc1 (by simp); subst hA; have x1 : w1.cell? ⟨gb, ob, none⟩ = some (.string ⟨#[103, 101, 116]⟩) := hcell 0 (by simp); have HC1 := Aside0.mk hc1; have HL1 := Aside0.mk hl1; have HB1 := Aside0.mk hb1; clear hr1 hb1 hc1 hl1 hcell)
    | (go_at_call 20; refine (get_get_all k _ c1 r x _ (HL.out.below HB1.out) HC1.out HL1.out HX.out).mono ?_; rintro e w2 ⟨v, rfl, ha, hb2⟩; have HA := Aside0.mk ha; have HB2 := Aside0.mk hb2; clear ha hb2))
  go_ret2
  exact ⟨_, rfl, HA.out, below_step HB1.out HB2.out⟩
theorem get_gets_all (k : Nat) (A : Option Addr) (c : Nat) (r : List ByteArray) (x : Cx) (w : World) (HLD : LaidA w) (hr : Kd.C Kd.string w A (⟨#[103, 101, 116, 115]⟩ :: r).length (⟨#[103, 101, 116, 115]⟩ :: r)) (hcc : (⟨#[103, 101, 116, 115]⟩ :: r).length ≤ c) (h : some (get1 true r) = some x) :
    Calls Tryd.prog 20 #[.slice A (⟨#[103, 101, 116, 115]⟩ :: r).length c] w fun e w' => ∃ v, e = .returned (.tuple #[v, .int .i64 (-1)]) ∧ AnyR w' v x ∧ Below w.heap.size w w' := by
  obtain rfl := Option.some.inj h
  unfold get1
  split
  case isTrue hl => exact get_gets_short A c r w HLD hr hcc hl
  case isFalse hl => exact get_gets_full A c r w HLD hr hcc (by omega)
set_option maxHeartbeats 8000000 in
set_option maxRecDepth 100000 in
theorem one_gets (k : Nat) (s : ByteArray) (r : List ByteArray) (x : Cx) (hs : words_Split.f k s = some (⟨#[103, 101, 116, 115]⟩ :: r)) (h : some (get1 true r) = some x) : OneIs s x (-1) := by
  intro w HLD
  have HL := Aside0.mk HLD
  have HS := Aside0.mk hs
  have HX := Aside0.mk h
  have hus := Tryd.underlying23
  have d1 : (((r.length + 1 : Nat) : Int) == 0) = false := by simp; omega
  have d2 : (((r.length : Nat) : Int) + 1 == 0) = false := by simp; omega
  have d3 : ((0 : Int) < (r.length : Int) + 1) = True := eq_true (by omega)
  have d4 : (0 < r.length + 1) = True := eq_true (by omega)
  have d5 : decide ((r.length : Int) + 1 = 0) = false := decide_eq_false (by omega)
  have d6 : ((r.length : Int) + 1 = 0) = False := eq_false (by omega)
  clear HLD hs h
  go_enter Tryd.func15, Tryd.ntmps15
  go_wp2_with (first
    | (go_at_call 18; refine (words_Split.calls k s _ _ HL.out HS.out).mono ?_; rintro e w1 ⟨v0, rfl, hr1, hb1⟩; obtain ⟨A1, c1, ev, hl1, hc1⟩ := Kd.R_reads hr1; subst ev; obtain ⟨gb, ob, hA, hcell⟩ := str_cells hc1 (by simp); subst hA; have x1 : w1.cell? ⟨gb, ob, none⟩ = some (.string ⟨#[103, 101, 116, 115]⟩) := hcell 0 (by simp); have HC1 := Aside0.mk hc1; have HL1 := Aside0.mk hl1; have HB1 := Aside0.mk hb1; clear hr1 hb1 hc1 hl1 hcell)
    | (go_at_call 20; refine (get_gets_all k _ c1 r x _ (HL.out.below HB1.out) HC1.out HL1.out HX.out).mono ?_; rintro e w2 ⟨v, rfl, ha, hb2⟩; have HA := Aside0.mk ha; have HB2 := Aside0.mk hb2; clear ha hb2))
  go_ret2
  exact ⟨_, rfl, HA.out, below_step HB1.out HB2.out⟩
theorem get_gat_all (k : Nat) (A : Option Addr) (c : Nat) (r : List ByteArray) (x : Cx) (w : World) (HLD : LaidA w) (hr : Kd.C Kd.string w A (⟨#[103, 97, 116]⟩ :: r).length (⟨#[103, 97, 116]⟩ :: r)) (hcc : (⟨#[103, 97, 116]⟩ :: r).length ≤ c) (h : get2 k false r = some x) :
    Calls Tryd.prog 20 #[.slice A (⟨#[103, 97, 116]⟩ :: r).length c] w fun e w' => ∃ v, e = .returned (.tuple #[v, .int .i64 (-1)]) ∧ AnyR w' v x ∧ Below w.heap.size w w' := by
  match r, hr, hcc, h with
  | [], hr, hcc, h => obtain rfl := Option.some.inj h; exact get_gat_short A c [] w HLD hr hcc (by decide)
  | [a], hr, hcc, h => obtain rfl := Option.some.inj h; exact get_gat_short A c [a] w HLD hr hcc (by simp)
  | a :: d :: ks, hr, hcc, h =>
    replace h : (words_Signed.f k a).map (fun sg => getX (d :: ks) false true sg) = some x := h
    cases hs : words_Signed.f k a with
    | none => rw [hs] at h; cases h
    | some sg =>
      rw [hs] at h
      obtain rfl := Option.some.inj h
      exact get_gat_full A c (d :: ks) a w HLD hr hcc (by simp) k sg hs
set_option maxHeartbeats 8000000 in
set_option maxRecDepth 100000 in
theorem one_gat (k : Nat) (s : ByteArray) (r : List ByteArray) (x : Cx) (hs : words_Split.f k s = some (⟨#[103, 97, 116]⟩ :: r)) (h : get2 k false r = some x) : OneIs s x (-1) := by
  intro w HLD
  have HL := Aside0.mk HLD
  have HS := Aside0.mk hs
  have HX := Aside0.mk h
  have hus := Tryd.underlying23
  have d1 : (((r.length + 1 : Nat) : Int) == 0) = false := by simp; omega
  have d2 : (((r.length : Nat) : Int) + 1 == 0) = false := by simp; omega
  have d3 : ((0 : Int) < (r.length : Int) + 1) = True := eq_true (by omega)
  have d4 : (0 < r.length + 1) = True := eq_true (by omega)
  have d5 : decide ((r.length : Int) + 1 = 0) = false := decide_eq_false (by omega)
  have d6 : ((r.length : Int) + 1 = 0) = False := eq_false (by omega)
  clear HLD hs h
  go_enter Tryd.func15, Tryd.ntmps15
  go_wp2_with (first
    | (go_at_call 18; refine (words_Split.calls k s _ _ HL.out HS.out).mono ?_; rintro e w1 ⟨v0, rfl, hr1, hb1⟩; obtain ⟨A1, c1, ev, hl1, hc1⟩ := Kd.R_reads hr1; subst ev; obtain ⟨gb, ob, hA, hcell⟩ := str_cells hc1 (by simp); subst hA; have x1 : w1.cell? ⟨gb, ob, none⟩ = some (.string ⟨#[103, 97, 116]⟩) := hcell 0 (by simp); have HC1 := Aside0.mk hc1; have HL1 := Aside0.mk hl1; have HB1 := Aside0.mk hb1; clear hr1 hb1 hc1 hl1 hcell)
    | (go_at_call 20; refine (get_gat_all k _ c1 r x _ (HL.out.below HB1.out) HC1.out HL1.out HX.out).mono ?_; rintro e w2 ⟨v, rfl, ha, hb2⟩; have HA := Aside0.mk ha; have HB2 := Aside0.mk hb2; clear ha hb2))
  go_ret2
  exact ⟨_, rfl, HA.out, below_step HB1.out HB2.out⟩
theorem get_gats_all (k : Nat) (A : Option Addr) (c : Nat) (r : List ByteArray) (x : Cx) (w : World) (HLD : LaidA w) (hr : Kd.C Kd.string w A (⟨#[103, 97, 116, 115]⟩ :: r).length (⟨#[103, 97, 116, 115]⟩ :: r)) (hcc : (⟨#[103, 97, 116, 115]⟩ :: r).length ≤ c) (h : get2 k true r = some x) :
    Calls Tryd.prog 20 #[.slice A (⟨#[103, 97, 116, 115]⟩ :: r).length c] w fun e w' => ∃ v, e = .returned (.tuple #[v, .int .i64 (-1)]) ∧ AnyR w' v x ∧ Below w.heap.size w w' := by
  match r, hr, hcc, h with
  | [], hr, hcc, h => obtain rfl := Option.some.inj h; exact get_gats_short A c [] w HLD hr hcc (by decide)
  | [a], hr, hcc, h => obtain rfl := Option.some.inj h; exact get_gats_short A c [a] w HLD hr hcc (by simp)
  | a :: d :: ks, hr, hcc, h =>
    replace h : (words_Signed.f k a).map (fun sg => getX (d :: ks) true true sg) = some x := h
    cases hs : words_Signed.f k a with
    | none => rw [hs] at h; cases h
    | some sg =>
      rw [hs] at h
      obtain rfl := Option.some.inj h
      exact get_gats_full A c (d :: ks) a w HLD hr hcc (by simp) k sg hs
set_option maxHeartbeats 8000000 in
set_option maxRecDepth 100000 in
theorem one_gats (k : Nat) (s : ByteArray) (r : List ByteArray) (x : Cx) (hs : words_Split.f k s = some (⟨#[103, 97, 116, 115]⟩ :: r)) (h : get2 k true r = some x) : OneIs s x (-1) := by
  intro w HLD
  have HL := Aside0.mk HLD
  have HS := Aside0.mk hs
  have HX := Aside0.mk h
  have hus := Tryd.underlying23
  have d1 : (((r.length + 1 : Nat) : Int) == 0) = false := by simp; omega
  have d2 : (((r.length : Nat) : Int) + 1 == 0) = false := by simp; omega
  have d3 : ((0 : Int) < (r.length : Int) + 1) = True := eq_true (by omega)
  have d4 : (0 < r.length + 1) = True := eq_true (by omega)
  have d5 : decide ((r.length : Int) + 1 = 0) = false := decide_eq_false (by omega)
  have d6 : ((r.length : Int) + 1 = 0) = False := eq_false (by omega)
  clear HLD hs h
  go_enter Tryd.func15, Tryd.ntmps15
  go_wp2_with (first
    | (go_at_call 18; refine (words_Split.calls k s _ _ HL.out HS.out).mono ?_; rintro e w1 ⟨v0, rfl, hr1, hb1⟩; obtain ⟨A1, c1, ev, hl1, hc1⟩ := Kd.R_reads hr1; subst ev; obtain ⟨gb, ob, hA, hcell⟩ := str_cells hc1 (by simp); subst hA; have x1 : w1.cell? ⟨gb, ob, none⟩ = some (.string ⟨#[103, 97, 116, 115]⟩) := hcell 0 (by simp); have HC1 := Aside0.mk hc1; have HL1 := Aside0.mk hl1; have HB1 := Aside0.mk hb1; clear hr1 hb1 hc1 hl1 hcell)
    | (go_at_call 20; refine (get_gats_all k _ c1 r x _ (HL.out.below HB1.out) HC1.out HL1.out HX.out).mono ?_; rintro e w2 ⟨v, rfl, ha, hb2⟩; have HA := Aside0.mk ha; have HB2 := Aside0.mk hb2; clear ha hb2))
  go_ret2
  exact ⟨_, rfl, HA.out, below_step HB1.out HB2.out⟩
/-- What parse.one tells of a line, a Get's as well. -/
def oneF (k : Nat) (s : ByteArray) : Option (Cx × Int) := (words_Split.f k s).bind fun t => match t with
  | [] => (parse_one.f k s).map fun p => (.pl p.1, p.2)
  | w :: r => if isGet w = true then (getLine k w r).map fun x => (x, -1) else (parse_one.f k s).map fun p => (.pl p.1, p.2)
theorem one_plain (k : Nat) (s : ByteArray) (x : Cx) (n : Int) (h : (parse_one.f k s).map (fun p => (Cx.pl p.1, p.2)) = some (x, n)) : OneIs s x n := by
  cases hf : parse_one.f k s with
  | none => rw [hf] at h; cases h
  | some p =>
    rw [hf] at h
    obtain ⟨c, m⟩ := p
    simp only [Option.map_some, Option.some.injEq, Prod.mk.injEq] at h
    obtain ⟨rfl, rfl⟩ := h
    intro w HLD
    refine (parse_one.calls k s c m w HLD hf).mono ?_
    rintro e w' ⟨rfl, hb⟩
    exact ⟨_, rfl, rfl, hb⟩
theorem one_all (k : Nat) (s : ByteArray) (x : Cx) (n : Int) (h : oneF k s = some (x, n)) : OneIs s x n := by
  unfold oneF at h
  cases hf : words_Split.f k s with
  | none => rw [hf] at h; cases h
  | some t =>
    rw [hf, Option.bind_some] at h
    match t, hf, h with
    | [], _, h => exact one_plain k s x n h
    | w :: r, hf, h =>
      by_cases hg : isGet w = true
      · simp only [hg, if_true] at h
        cases hx : getLine k w r with
        | none => rw [hx] at h; cases h
        | some y =>
          rw [hx] at h
          simp only [Option.map_some, Option.some.injEq, Prod.mk.injEq] at h
          obtain ⟨rfl, rfl⟩ := h
          unfold getLine at hx
          by_cases h1 : w = ⟨#[103, 101, 116]⟩
          · subst h1
            exact one_get k s r y hf (by simpa using hx)
          rw [if_neg h1] at hx
          by_cases h2 : w = ⟨#[103, 101, 116, 115]⟩
          · subst h2
            exact one_gets k s r y hf (by simpa using hx)
          rw [if_neg h2] at hx
          by_cases h3 : w = ⟨#[103, 97, 116]⟩
          · subst h3
            exact one_gat k s r y hf (by simpa using hx)
          rw [if_neg h3] at hx
          by_cases h4 : w = ⟨#[103, 97, 116, 115]⟩
          · subst h4
            exact one_gats k s r y hf (by simpa using hx)
          rw [if_neg h4] at hx
          cases hx
      · simp only [hg] at h
        exact one_plain k s x n (by simpa using h)
end Go.Proofs.YtfbhlbchmenloaaDoor.H
end
section
namespace Go.Proofs.YtfbhlbchmenloaaDoor.H
open Go.RowKit Go.Proofs.YtfbhlbchmenloaaDoorW.PrintWords Go.Proofs.YtfbhlbchmenloaaDoorW.PrintLast Go.Proofs.YtfbhlbchmenloaaDoorW.PrintMore
set_option linter.unusedVariables false
set_option linter.unusedSimpArgs false
/-- A command's twelve fields. -/
abbrev C12 : Type := ByteArray × ByteArray × List ByteArray × ByteArray × Int × Int × Int × Int × Bool × Bool × Bool × Bool
abbrev C12P : Type := ByteArray × ByteArray × List ByteArray × ByteArray × Int × Int × Int × Int × Bool × Bool × Bool × Bool × Bool × PS
abbrev C12N : Type := ByteArray × ByteArray × List ByteArray × ByteArray × Int × Int × Int × Int × Bool × Bool × Bool × Bool × Int
def outN (d : Cd) (n : Int) : C12N := (d.what, d.verb, d.keys, d.data, d.flags, d.exp, d.cas, d.by_, d.withCas, d.withTouch, d.down, d.quiet, n)
def outP (d : Cd) (ok : Bool) (ps : PS) : C12P := (d.what, d.verb, d.keys, d.data, d.flags, d.exp, d.cas, d.by_, d.withCas, d.withTouch, d.down, d.quiet, ok, ps)
def parse_One.f (k : Nat) (s : ByteArray) : Option C12N := (oneF k s).bind fun p => some (outN (toX p.1) p.2)
def needsLine (ps : PS) : Bool := !decide (idx10 (psPass ps).2.b < 0) && !decide (2048 < (lineL (psPass ps).2).length)
def parse_Next.f (k : Nat) (ps : PS) : Option C12P :=
  (if needsLine ps = true then oneF k (strOfNums (lineL (psPass ps).2)) else some (.pl .nil, -1)).bind fun p => (psNext ps p.1 p.2).bind fun q => some (outP (toX q.1) q.2.1 q.2.2)
def parse_New.f : Option PS := some psNew
def parse_Feed.f (ps : PS) (l : List Int) : Option PS := if ps.b.length + l.length ≤ 140737488355328 then some (psFeed ps l) else none
def parse_Waits.f (ps : PS) : Option (Int × PS) := some ((ps.b.length : Int), ps)
theorem getLine_mono (k : Nat) (w : ByteArray) (r : List ByteArray) : LeO (getLine k w r) (getLine (k + 1) w r) := by
  unfold getLine
  have h2 : ∀ ca, LeO (get2 k ca r) (get2 (k + 1) ca r) := by
    intro ca
    match r with
    | [] => exact LeO.refl _
    | [a] => exact LeO.refl _
    | a :: b :: ks =>
      intro x hx
      replace hx : (words_Signed.f k a).map (fun sg => getX (b :: ks) ca true sg) = some x := hx
      show (words_Signed.f (k + 1) a).map (fun sg => getX (b :: ks) ca true sg) = some x
      cases hs : words_Signed.f k a with
      | none => rw [hs] at hx; cases hx
      | some sg =>
        rw [hs] at hx
        rw [words_Signed.mono a k sg hs]
        exact hx
  repeat' first
    | exact LeO.refl _
    | exact h2 _
    | refine LeO.ite ?_ ?_
theorem map_mono {α β : Type} {x y : Option α} (f : α → β) (h : LeO x y) : LeO (x.map f) (y.map f) := by
  intro r hr
  cases hx : x with
  | none => rw [hx] at hr; cases hr
  | some a => rw [hx] at hr; rw [h a hx]; exact hr
theorem oneF_mono (k : Nat) (s : ByteArray) : LeO (oneF k s) (oneF (k + 1) s) := by
  unfold oneF
  refine LeO.bind (words_Split.mono s k) (fun t => ?_)
  match t with
  | [] => exact map_mono _ (parse_one.mono s k)
  | w :: r =>
    refine LeO.ite (map_mono _ (getLine_mono k w r)) (map_mono _ (parse_one.mono s k))
theorem parse_Next.mono (ps : PS) (k : Nat) : LeO (parse_Next.f k ps) (parse_Next.f (k + 1) ps) := by
  unfold parse_Next.f
  refine LeO.bind (LeO.ite (oneF_mono k _) (LeO.refl _)) (fun _ => LeO.refl _)
theorem parse_One.mono (s : ByteArray) (k : Nat) : LeO (parse_One.f k s) (parse_One.f (k + 1) s) := by
  unfold parse_One.f
  exact LeO.bind (oneF_mono k s) (fun _ => LeO.refl _)
theorem oneF_plain {k : Nat} {s : ByteArray} {x : Cx} {n : Int} (h : oneF k s = some (x, n)) : n ≠ -1 → ∃ c, x = .pl c := by
  intro hn
  have hp : ∀ z : Option (Cm × Int), z.map (fun p => (Cx.pl p.1, p.2)) = some (x, n) → ∃ c, x = .pl c := by
    intro z hz
    cases z with
    | none => cases hz
    | some p =>
      simp only [Option.map_some, Option.some.injEq, Prod.mk.injEq] at hz
      exact ⟨_, hz.1.symm⟩
  unfold oneF at h
  cases hf : words_Split.f k s with
  | none => rw [hf] at h; cases h
  | some t =>
    rw [hf, Option.bind_some] at h
    match t, h with
    | [], h => exact hp _ h
    | w :: r, h =>
      by_cases hg : isGet w = true
      · simp only [hg, if_true] at h
        cases hx : getLine k w r with
        | none => rw [hx] at h; cases h
        | some y =>
          rw [hx] at h
          simp only [Option.map_some, Option.some.injEq, Prod.mk.injEq] at h
          exact absurd h.2.symm hn
      · simp only [hg] at h
        exact hp _ (by simpa using h)
set_option maxHeartbeats 4000000 in
set_option maxRecDepth 100000 in
theorem parse_One.calls (k : Nat) (s : ByteArray) (r1 r2 : ByteArray) (r3 : List ByteArray) (r4 : ByteArray) (r5 r6 r7 r8 : Int) (r9 r10 r11 r12 : Bool) (n : Int) (w : World) (HLD : LaidA w) (h : parse_One.f k s = some (r1, r2, r3, r4, r5, r6, r7, r8, r9, r10, r11, r12, n)) :
    Calls Tryd.prog 7 #[.string s] w fun e w' => ∃ v0_ : Value, e = .returned (.tuple #[.agg #[.string r1, .string r2, v0_, .string r4, .int .u32 r5, .int .i64 r6, .int .u64 r7, .int .u64 r8, .bool r9, .bool r10, .bool r11, .bool r12], .int .i64 n]) ∧ Kd.R Kd.string 9 w' w.heap.size (fun _ => True) v0_ r3 ∧ Below w.heap.size w w' := by
  unfold parse_One.f at h
  cases ho : oneF k s with
  | none => rw [ho] at h; cases h
  | some p =>
    obtain ⟨x, m⟩ := p
    rw [ho, Option.bind_some] at h
    have h := Option.some.inj h
    simp only [outN, Prod.mk.injEq] at h
    obtain ⟨rfl, rfl, rfl, rfl, rfl, rfl, rfl, rfl, rfl, rfl, rfl, rfl, rfl⟩ := h
    have HONE := Aside0.mk (one_all k s x m ho)
    have HL := Aside0.mk HLD
    clear HLD ho
    have hu := Tryd.underlying27
    go_enter Tryd.func7, Tryd.ntmps7
    go_wp2_with (first
      | (go_at_call 15; refine (HONE.out _ (by repeat (first | exact HL.out | apply LaidA.alloc | apply LaidA.drew))).mono ?_; rintro e w1 ⟨v, rfl, ha, hb1⟩; have hbr1 := blk_below (heap_alloc_new w _) hb1; have HA := Aside0.mk ha; have HB1 := Aside0.mk (below_step (below_alloc (Below.refl _ _) _) hb1); have HBR1 := Aside0.mk hbr1; clear ha hb1 hbr1)
      | (go_at_call 16; refine (To_any HA.out).mono ?_; rintro e w2 ⟨v2, rfl, hr2, hb2⟩; obtain ⟨Av, cv, ev⟩ := Kd.R_slice hr2; subst ev; unfold cdV; have hbr2 := blk_below HBR1.out hb2; obtain ⟨⟨y0, y1, y2, y3, y4, y5, y6, y7, y8, y9, y10, y11⟩, yf⟩ := cmdCells hbr2; have HR2 := Aside0.mk hr2; have HB2 := Aside0.mk hb2; have HBR2 := Aside0.mk hbr2; clear hr2 hb2 hbr2))
    have hbr := HBR2.out
    refine bodyPost_ret (results_ct rfl _ _ w.heap.size 27 #[.string (toX x).what, .string (toX x).verb, .slice Av (toX x).keys.length cv, .string (toX x).data, .int .u32 (toX x).flags, .int .i64 (toX x).exp, .int .u64 (toX x).cas, .int .u64 (toX x).by_, .bool (toX x).withCas, .bool (toX x).withTouch, .bool (toX x).down, .bool (toX x).quiet] (0, 0) _ rfl (put12 hbr) Tryd.underlying27 rfl (by kernel_rfl)) rfl ?_
    refine ⟨.slice Av (toX x).keys.length cv, rfl, ?_, below12 (below_step HB1.out HB2.out) (Nat.le_refl _) _ _ _ _ _ _ _ _ _ _ _ _⟩
    have hR := Kd.R_types (Kd.R_lower HR2.out HB1.out.size) hbr (by decide)
    exact Kd.R_mono (Kd.R_step hR (fun k hk _ => far12 _ _ _ _ _ _ _ _ _ _ _ _ k hk.2)) (fun _ _ => trivial)
set_option maxHeartbeats 4000000 in
set_option maxRecDepth 100000 in
theorem Waits_walk (g : Nat) (ps : PS) (w0 W : World) (hI : IsS49 w0 W g ps) (hB : Below w0.heap.size w0 W) :
    Calls Tryd.prog 14 #[.pointer (some ⟨g, 0, none⟩)] W fun e w' => e = .returned (.int .i64 (ps.b.length : Int)) ∧ w' = W := by
  obtain ⟨hg, vb, hb, hq⟩ := hI
  have hu := Tryd.underlying49
  obtain ⟨A0, c0, rfl, hnc⟩ := q_slice hq
  have hc0 : W.cell? ⟨g, 0, none⟩ = some (.slice A0 ps.b.length c0) := (blk_cell hb 0).trans rfl
  clear hb hq hB
  go_enter Tryd.func14, Tryd.ntmps14
  go_wp2
  go_ret
  exact ⟨rfl, rfl⟩
theorem parse_Waits.calls (g : Nat) (ps : PS) (n : Int) (ps' : PS) (w0 W : World) (hI : IsS49 w0 W g ps) (hB : Below w0.heap.size w0 W) (HLD : LaidA W) (h : parse_Waits.f ps = some (n, ps')) :
    Calls Tryd.prog 14 #[.pointer (some ⟨g, 0, none⟩)] W fun e w' => e = .returned (.int .i64 n) ∧ IsS49 w0 w' g ps' ∧ Below w0.heap.size w0 w' ∧ KeepBut W w' g none := by
  simp only [parse_Waits.f, Option.some.injEq, Prod.mk.injEq] at h
  obtain ⟨rfl, rfl⟩ := h
  refine (Waits_walk g ps w0 W hI hB).mono ?_
  rintro e w' ⟨rfl, rfl⟩
  exact ⟨rfl, hI, hB, ⟨Nat.le_refl _, fun _ _ _ _ => rfl⟩⟩
theorem parse_New.calls (t : PS) (w0 W : World) (hB : Below w0.heap.size w0 W) (HLD : LaidA W) (h : parse_New.f = some t) :
    Calls Tryd.prog 11 #[] W fun e w' => ∃ g, e = .returned (.pointer (some ⟨g, 0, none⟩)) ∧ IsS49 w0 w' g t ∧ Below w0.heap.size w0 w' ∧ Below W.heap.size W w' := by
  obtain rfl := Option.some.inj h
  exact New_walk w0 W hB
theorem parse_Feed.calls (g : Nat) (ps : PS) (A : Option Addr) (c : Nat) (l : List Int) (ps' : PS) (w0 W : World) (hI : IsS49 w0 W g ps) (hB : Below w0.heap.size w0 W) (HLD : LaidA W) (hr : Kd.C (Kd.int .u8) W A l.length l) (hc : l.length ≤ c) (h : parse_Feed.f ps l = some ps') :
    Calls Tryd.prog 12 #[.pointer (some ⟨g, 0, none⟩), .slice A l.length c] W fun e w' => e = .returned (.tuple #[]) ∧ IsS49 w0 w' g ps' ∧ Below w0.heap.size w0 w' ∧ KeepRow W w' g := by
  unfold parse_Feed.f at h
  split at h
  case isFalse => cases h
  case isTrue hl =>
    obtain rfl := Option.some.inj h
    exact Feed_walk g ps A c l w0 W hI hB hr hc hl
theorem parse_Next.calls (k : Nat) (g : Nat) (ps : PS) (r1 r2 : ByteArray) (r3 : List ByteArray) (r4 : ByteArray) (r5 r6 r7 r8 : Int) (r9 r10 r11 r12 : Bool) (ok : Bool) (ps' : PS) (w0 W : World) (hI : IsS49 w0 W g ps) (hB : Below w0.heap.size w0 W) (HLD : LaidA W)
    (h : parse_Next.f k ps = some (r1, r2, r3, r4, r5, r6, r7, r8, r9, r10, r11, r12, ok, ps')) :
    Calls Tryd.prog 13 #[.pointer (some ⟨g, 0, none⟩)] W fun e w' => ∃ v, e = .returned (.tuple #[.agg #[.string r1, .string r2, v, .string r4, .int .u32 r5, .int .i64 r6, .int .u64 r7, .int .u64 r8, .bool r9, .bool r10, .bool r11, .bool r12], .bool ok]) ∧ Kd.R Kd.string 9 w' W.heap.size (fun _ => True) v r3 ∧ IsS49 w0 w' g ps' ∧ Below w0.heap.size w0 w' ∧ KeepBut W w' g none := by
  unfold parse_Next.f at h
  cases hp : (if needsLine ps = true then oneF k (strOfNums (lineL (psPass ps).2)) else some (.pl .nil, -1)) with
  | none => rw [hp] at h; cases h
  | some p =>
    rw [hp, Option.bind_some] at h
    obtain ⟨x, n⟩ := p
    cases hq : psNext ps x n with
    | none => rw [hq] at h; cases h
    | some q =>
      rw [hq, Option.bind_some] at h
      obtain ⟨y, b, ps2⟩ := q
      have h := Option.some.inj h
      simp only [outP, Prod.mk.injEq] at h
      obtain ⟨rfl, rfl, rfl, rfl, rfl, rfl, rfl, rfl, rfl, rfl, rfl, rfl, rfl, rfl⟩ := h
      by_cases hl : needsLine ps = true
      · rw [if_pos hl] at hp
        exact Next_walk g ps x n y b ps2 w0 W HLD hI hB (fun _ _ => one_all k _ x n hp) (oneF_plain hp) hq
      · rw [if_neg hl] at hp
        have hp := Option.some.inj hp
        simp only [Prod.mk.injEq] at hp
        obtain ⟨rfl, rfl⟩ := hp
        refine Next_walk g ps (.pl .nil) (-1) y b ps2 w0 W HLD hI hB (fun h1 h2 => ?_) (fun h => absurd rfl h) hq
        exact absurd (by unfold needsLine; simp [h1, h2]) hl
end Go.Proofs.YtfbhlbchmenloaaDoor.H
end
section
namespace Go.Proofs.YtfbhlbchmenloaaDoor.H
open Go.RowKit Go.Proofs.YtfbhlbchmenloaaDoorW.PrintWords Go.Proofs.YtfbhlbchmenloaaDoorW.PrintLast Go.Proofs.YtfbhlbchmenloaaDoorW.PrintMore
set_option linter.unusedVariables false
theorem R_keepT {α : Type} {d : Kd α} {e base g : Nat} {ok : Nat → Prop} {w w1 : World} {v : Value} {xs : List α} (ht : ∀ q, q ∈ e :: d.E → q ≠ 5) (h : d.R e w base ok v xs) (hk : KeepRow w w1 g) (hok : ∀ k, ok k → k ≠ g) : d.R e w1 base ok v xs := by
  refine Kd.R_mono (Kd.R_move (Kd.R_bound h) (fun k hk' => ?_)) (fun _ hk => hk.1)
  obtain ⟨h1, _, h3, q, hq, cs, hcs⟩ := hk'
  refine hk.2 k h3 (hok k h1) fun cs' hc => ?_
  rw [hcs] at hc
  injection hc with hc
  injection hc with _ hc
  exact ht q hq hc
theorem S_keepT {α : Type} {d : Kd α} {e base g : Nat} {ok : Nat → Prop} {w w1 : World} {v : Value} {xs : List α} (ht : ∀ q, q ∈ e :: d.E → q ≠ 5) (h : d.S e w base ok v xs) (hk : KeepRow w w1 g) (hok : ∀ k, ok k → k ≠ g) : d.S e w1 base ok v xs := by
  obtain ⟨f, h⟩ := h
  exact ⟨f, R_keepT ht h hk hok⟩
theorem TypedAt.set {W : World} {k t : Nat} {p : Addr} {u : Value} (h : TypedAt W k t) : TypedAt (W.setCell p u) k t := by
  obtain ⟨cs, fr, h⟩ := h
  by_cases hk : k = p.block
  · subst hk
    by_cases hs : p.spot.isSome = true
    · exact ⟨cs, fr, by simp [World.setCell, Array.getElem?_modify, h, hs]⟩
    · exact ⟨cs.setIfInBounds p.off u, fr, by simp [World.setCell, Array.getElem?_modify, h, hs]⟩
  · exact ⟨cs, fr, (Below.heap_setCell W p u k hk).trans h⟩
theorem IsS49.grownT {w0 W W1 : World} {g e : Nat} {ps : PS} {row : Option Nat} (h : IsS49 w0 W g ps) (hg : W.grownBy W1 row) (hty : ∀ k, row = some k → ∃ cs, W.heap[k]? = some (.cells cs e (0, 0))) (h49 : e ≠ 49) (h5 : e ≠ 5) : IsS49 w0 W1 g ps := by
  obtain ⟨_, _, _, hb⟩ := h.cells
  refine h.move fun k hk hc => hg.block k hk fun er => ?_
  obtain ⟨cs, hcs⟩ := hty k er.symm
  rcases hc with rfl | ⟨cs', hcs'⟩
  · rw [hcs] at hb
    injection hb with hb
    injection hb with _ hb
    exact h49 hb
  · rw [hcs] at hcs'
    injection hcs' with hc
    injection hc with _ hc
    exact h5 hc
end Go.Proofs.YtfbhlbchmenloaaDoor.H
end
section
namespace Go.Proofs.YtfbhlbchmenloaaDoor.H
open Go.RowKit Go.Sort Go.Proofs.YtfbhlbchmenloaaDoorW.PrintWords Go.Proofs.YtfbhlbchmenloaaDoorW.PrintLast Go.Proofs.YtfbhlbchmenloaaDoorW.PrintMore
set_option linter.unusedVariables false

/-! A conversion's row. -/
def convB.f (s : ByteArray) : Option (List Int) := if s.size ≤ 9223372036854775807 then some (bytesOf s) else none
theorem bytesWorld_Below (W : World) (e : TypeId) (s : ByteArray) : Below W.heap.size W (Lib.bytesWorld W e s) :=
  ⟨rfl, rfl, rfl, by rw [Lib.bytesWorld_size]; omega, fun i hi => Lib.bytesWorld_at_old W e s i hi⟩
theorem conv_event {P : Program} {ops : Array Oper} {o : Oper} {rest : List Oper} {a : Act} {Q : Exit → Act → World → Prop} {W : World} (hgd : o.guard = none) {N : Tmp} (hd : o.dst = some N) {x : Operand} (ts td e : TypeId)
    (ho : o.op = .convert ts td x) (hs : P.underlying ts = some .string) (ht : P.underlying td = some (.slice e)) (he : P.underlying e = some (.int .u8)) (s : ByteArray) (r : List Int) (hx : a.eval x = .string s) (h0 : convB.f s = some r)
    (h : ∀ v1 w1, Kd.V (Kd.int .u8) e w1 W.heap.size (fun k_ => W.heap.size ≤ k_) v1 r → Below W.heap.size W w1 → wpList P ops Q rest (a.put o.dst v1) w1) : wpList P ops Q (o :: rest) a W := by
  unfold convB.f at h0
  by_cases hc : s.size ≤ 9223372036854775807
  · rw [if_pos hc] at h0
    obtain rfl := Option.some.inj h0
    have hlen : (bytesOf s).length = s.size := bytesOf_length s
    refine Kd.event_run hgd (v := .slice (some ⟨W.heap.size, 0, none⟩) (bytesOf s).length (grownCap W s.size 0 e)) (w1 := Lib.bytesWorld W e s) ?_ (h _ _ (Kd.V_mk (by rw [hlen]; exact grownCap_ge _ _ _ _) ?_) (bytesWorld_Below W e s))
    · rw [hlen]
      simp [execOp, ho, hx, Lib.run_convert_string_bytes W ts td e s hs ht he]
    · intro W' hW
      have hb := hW W.heap.size (Nat.le_refl _) (by rw [Lib.bytesWorld_size]; omega)
      refine ⟨rfl, by rw [hlen]; exact hc, fun _ => ⟨_, rfl, fun j p hj => ⟨[.int .u8 p], rfl, rfl, fun i u hu => ?_⟩⟩⟩
      have hi : i = 0 := by
        cases i with
        | zero => rfl
        | succ n => simp at hu
      subst hi
      obtain rfl : Value.int .u8 p = u := by simpa using hu
      have hjs : j < s.size := by
        have := (List.getElem?_eq_some_iff.1 hj).1
        rwa [hlen] at this
      have hc2 : W'.cell? ⟨W.heap.size, j, none⟩ = (Lib.bytesWorld W e s).cell? ⟨W.heap.size, j, none⟩ := World.cell?_of_block hb
      have ha : (⟨W.heap.size, 0, none⟩ : Addr).add (j * 1 + 0) = ⟨W.heap.size, j, none⟩ := by unfold Addr.add; split <;> simp_all
      show W'.cell? ((⟨W.heap.size, 0, none⟩ : Addr).add (j * 1 + 0)) = _
      rw [ha, hc2, Lib.bytesWorld_cell W e s j hjs]
      have hp : p = ((s.data.toList.getD j 0).toNat : Int) := by
        have hj2 := hj
        unfold bytesOf at hj2
        rw [List.getElem?_map] at hj2
        have hl : j < s.data.toList.length := by rw [data_length]; exact hjs
        rw [List.getElem?_eq_getElem hl] at hj2
        rw [List.getD_eq_getElem?_getD, List.getElem?_eq_getElem hl]
        exact (Option.some.inj hj2).symm
      rw [hp]
  · rw [if_neg hc] at h0
    cases h0

/-! A constant's row: a literal, then the conversion to its own type, which marks the row. -/
def litB.f (l : List Int) : Option (List Int) := if l.length ≤ 9223372036854775807 then some l else none
def markW (W : World) (e : TypeId) (cells : Array Value) : World := (W.alloc (.cells cells e)).freeze ⟨W.heap.size, cells.size, none⟩ 1
theorem run_convert_mark {P : Program} (W : World) (t e : TypeId) (cells : Array Value) (n c : Nat) (ht : P.underlying t = some (.slice e)) (he : P.underlying e = some (.int .u8)) :
    (convert t t (.slice (some ⟨W.heap.size, 0, none⟩) n c)).run P (W.alloc (.cells cells e)) = .ok (.slice (some ⟨W.heap.size, 0, none⟩) n c) (markW W e cells) := by
  have hsh : (W.alloc (.cells cells e)).shape? W.heap.size = some (e, cells.size) := by
    simp [World.shape?, World.alloc, -World.alloc_eq]
  simp [convert, run_underlying ht, run_underlying he, markStringish, hsh, markW, Result.andThen]
theorem markW_at_old (w : World) (e : TypeId) (cells : Array Value) (j : Nat) (hj : j < w.heap.size) : (markW w e cells).heap[j]? = w.heap[j]? := by
  have h1 : w.heap.size ≠ j := by omega
  simp [markW, World.freeze, World.alloc, -World.alloc_eq, Array.getElem?_modify, Array.getElem?_push, h1, Ne.symm h1]
theorem markW_at_new (w : World) (e : TypeId) (cells : Array Value) : (markW w e cells).heap[w.heap.size]? = some (.cells cells e (cells.size, cells.size + 1)) := by
  simp [markW, World.freeze, World.alloc, -World.alloc_eq]
  rw [Array.getElem_modify_self]
  simp
theorem markW_size (w : World) (e : TypeId) (cells : Array Value) : (markW w e cells).heap.size = w.heap.size + 1 := by
  simp [markW, World.freeze, World.alloc, -World.alloc_eq]
theorem lit_event {P : Program} {ops : Array Oper} {o1 o2 : Oper} {rest : List Oper} {a : Act} {Q : Exit → Act → World → Prop} {W : World} (hg1 : o1.guard = none) (hg2 : o2.guard = none) {N : Tmp} (hd : o1.dst = some N) (t e : TypeId) (l r : List Int)
    (ho2 : o2.op = .convert t t (.tmp N)) (ht : P.underlying t = some (.slice e)) (he : P.underlying e = some (.int .u8)) (h0 : litB.f l = some r)
    (hr : (execOp a.eval o1).run P W = .ok (.value (.slice (some ⟨W.heap.size, 0, none⟩) l.length l.length)) (W.alloc (.cells (l.map fun z => Value.int .u8 z).toArray e)))
    (hp : ∀ v, (a.put o1.dst v).eval (.tmp N) = v)
    (h : ∀ v1 w1, Kd.V (Kd.int .u8) e w1 W.heap.size (fun k_ => W.heap.size ≤ k_) v1 r → Below W.heap.size W w1 → wpList P ops Q rest ((a.put o1.dst v1).put o2.dst v1) w1) : wpList P ops Q (o1 :: o2 :: rest) a W := by
  obtain ⟨hl, rfl⟩ : l.length ≤ 9223372036854775807 ∧ l = r := by
    unfold litB.f at h0
    by_cases hc : l.length ≤ 9223372036854775807
    · rw [if_pos hc] at h0
      exact ⟨hc, Option.some.inj h0⟩
    · rw [if_neg hc] at h0; cases h0
  refine Kd.event_run hg1 hr ?_
  refine Kd.event_run hg2 (v := .slice (some ⟨W.heap.size, 0, none⟩) l.length l.length) (w1 := markW W e (l.map fun z => Value.int .u8 z).toArray) ?_ (h _ _ (Kd.V_mk (Nat.le_refl _) ?_) ?_)
  · simp [execOp, ho2, hp, run_convert_mark W t e _ _ _ ht he]
  · intro W' hW
    have hb := hW W.heap.size (Nat.le_refl _) (by rw [markW_size]; omega)
    refine ⟨rfl, hl, fun _ => ⟨_, rfl, fun j p hj => ⟨[.int .u8 p], rfl, rfl, fun i u hu => ?_⟩⟩⟩
    have hi : i = 0 := by
      cases i with
      | zero => rfl
      | succ n => simp at hu
    subst hi
    obtain rfl : Value.int .u8 p = u := by simpa using hu
    have ha : (⟨W.heap.size, 0, none⟩ : Addr).add (j * 1 + 0) = ⟨W.heap.size, j, none⟩ := by unfold Addr.add; split <;> simp_all
    show W'.cell? ((⟨W.heap.size, 0, none⟩ : Addr).add (j * 1 + 0)) = _
    rw [ha, World.cell?_of_block (w := markW W e (l.map fun z => Value.int .u8 z).toArray) (a := ⟨W.heap.size, j, none⟩) hb, cell_of_row _ W.heap.size j _ e _ (markW_at_new W e _)]
    simp [hj]
  · exact ⟨rfl, rfl, rfl, by rw [markW_size]; omega, fun i hi => markW_at_old W e _ i hi⟩

theorem V_string {P : Program} {w : World} {base : Nat} {e' src dst e : TypeId} {ok : Nat → Prop} {v : Value} {xs : List Int} (hs : P.underlying src = some (.slice e)) (he : P.underlying e = some (.int .u8)) (hd : P.underlying dst = some .string)
    (h : Kd.V (Kd.int .u8) e' w base ok v xs) : (convert src dst v).run P w = .ok (.string (strOfNums xs)) w := by
  obtain ⟨A, c, rfl, hl, hF⟩ := h
  exact Kd.C_string hs he hd (Kd.F_now hF)
theorem R_keepU {α : Type} {d : Kd α} {e base g : Nat} {ok : Nat → Prop} {w w1 : World} {v : Value} {xs : List α} (h : d.R e w base ok v xs) (hk : KeepRow w w1 g) (hok : ∀ k, ok k → k ≠ g) (ht : ∀ q, q ∈ e :: d.E → q ≠ 5) : d.R e w1 base ok v xs := R_keepT ht h hk hok
theorem S_keepU {α : Type} {d : Kd α} {e base g : Nat} {ok : Nat → Prop} {w w1 : World} {v : Value} {xs : List α} (h : d.S e w base ok v xs) (hk : KeepRow w w1 g) (hok : ∀ k, ok k → k ≠ g) (ht : ∀ q, q ∈ e :: d.E → q ≠ 5) : d.S e w1 base ok v xs := S_keepT ht h hk hok
/-! Behind the twelve stores of a command. -/
theorem R_far12 {α : Type} {d : Kd α} {e base : Nat} {ok : Nat → Prop} {W : World} {v : Value} {xs : List α} (g : Nat) (h : Kd.R d e W base (fun k => ok k ∧ k ≠ g) v xs) (v0 v1 v2 v3 v4 v5 v6 v7 v8 v9 v10 v11 : Value) :
    Kd.R d e ((((((((((((W.setCell ⟨g, 0, none⟩ v0).setCell ⟨g, 1, none⟩ v1).setCell ⟨g, 2, none⟩ v2).setCell ⟨g, 3, none⟩ v3).setCell ⟨g, 4, none⟩ v4).setCell ⟨g, 5, none⟩ v5).setCell ⟨g, 6, none⟩ v6).setCell ⟨g, 7, none⟩ v7).setCell ⟨g, 8, none⟩ v8).setCell ⟨g, 9, none⟩ v9).setCell ⟨g, 10, none⟩ v10).setCell ⟨g, 11, none⟩ v11) base (fun k => ok k ∧ k ≠ g) v xs :=
  Kd.R_far (p := ⟨g, 11, none⟩) (Kd.R_far (p := ⟨g, 10, none⟩) (Kd.R_far (p := ⟨g, 9, none⟩) (Kd.R_far (p := ⟨g, 8, none⟩) (Kd.R_far (p := ⟨g, 7, none⟩) (Kd.R_far (p := ⟨g, 6, none⟩) (Kd.R_far (p := ⟨g, 5, none⟩) (Kd.R_far (p := ⟨g, 4, none⟩) (Kd.R_far (p := ⟨g, 3, none⟩) (Kd.R_far (p := ⟨g, 2, none⟩) (Kd.R_far (p := ⟨g, 1, none⟩) (Kd.R_far (p := ⟨g, 0, none⟩) h (fun _ hk => hk.2) v0) (fun _ hk => hk.2) v1) (fun _ hk => hk.2) v2) (fun _ hk => hk.2) v3) (fun _ hk => hk.2) v4) (fun _ hk => hk.2) v5) (fun _ hk => hk.2) v6) (fun _ hk => hk.2) v7) (fun _ hk => hk.2) v8) (fun _ hk => hk.2) v9) (fun _ hk => hk.2) v10) (fun _ hk => hk.2) v11
theorem S_far12 {α : Type} {d : Kd α} {e base : Nat} {ok : Nat → Prop} {W : World} {v : Value} {xs : List α} (g : Nat) (h : Kd.S d e W base (fun k => ok k ∧ k ≠ g) v xs) (v0 v1 v2 v3 v4 v5 v6 v7 v8 v9 v10 v11 : Value) :
    Kd.S d e ((((((((((((W.setCell ⟨g, 0, none⟩ v0).setCell ⟨g, 1, none⟩ v1).setCell ⟨g, 2, none⟩ v2).setCell ⟨g, 3, none⟩ v3).setCell ⟨g, 4, none⟩ v4).setCell ⟨g, 5, none⟩ v5).setCell ⟨g, 6, none⟩ v6).setCell ⟨g, 7, none⟩ v7).setCell ⟨g, 8, none⟩ v8).setCell ⟨g, 9, none⟩ v9).setCell ⟨g, 10, none⟩ v10).setCell ⟨g, 11, none⟩ v11) base (fun k => ok k ∧ k ≠ g) v xs :=
  Kd.S_far (p := ⟨g, 11, none⟩) (Kd.S_far (p := ⟨g, 10, none⟩) (Kd.S_far (p := ⟨g, 9, none⟩) (Kd.S_far (p := ⟨g, 8, none⟩) (Kd.S_far (p := ⟨g, 7, none⟩) (Kd.S_far (p := ⟨g, 6, none⟩) (Kd.S_far (p := ⟨g, 5, none⟩) (Kd.S_far (p := ⟨g, 4, none⟩) (Kd.S_far (p := ⟨g, 3, none⟩) (Kd.S_far (p := ⟨g, 2, none⟩) (Kd.S_far (p := ⟨g, 1, none⟩) (Kd.S_far (p := ⟨g, 0, none⟩) h (fun _ hk => hk.2) v0) (fun _ hk => hk.2) v1) (fun _ hk => hk.2) v2) (fun _ hk => hk.2) v3) (fun _ hk => hk.2) v4) (fun _ hk => hk.2) v5) (fun _ hk => hk.2) v6) (fun _ hk => hk.2) v7) (fun _ hk => hk.2) v8) (fun _ hk => hk.2) v9) (fun _ hk => hk.2) v10) (fun _ hk => hk.2) v11
theorem V_far12 {α : Type} {d : Kd α} {e base : Nat} {ok : Nat → Prop} {W : World} {v : Value} {xs : List α} (g : Nat) (h : Kd.V d e W base (fun k => ok k ∧ k ≠ g) v xs) (v0 v1 v2 v3 v4 v5 v6 v7 v8 v9 v10 v11 : Value) :
    Kd.V d e ((((((((((((W.setCell ⟨g, 0, none⟩ v0).setCell ⟨g, 1, none⟩ v1).setCell ⟨g, 2, none⟩ v2).setCell ⟨g, 3, none⟩ v3).setCell ⟨g, 4, none⟩ v4).setCell ⟨g, 5, none⟩ v5).setCell ⟨g, 6, none⟩ v6).setCell ⟨g, 7, none⟩ v7).setCell ⟨g, 8, none⟩ v8).setCell ⟨g, 9, none⟩ v9).setCell ⟨g, 10, none⟩ v10).setCell ⟨g, 11, none⟩ v11) base (fun k => ok k ∧ k ≠ g) v xs :=
  Kd.V_far (p := ⟨g, 11, none⟩) (Kd.V_far (p := ⟨g, 10, none⟩) (Kd.V_far (p := ⟨g, 9, none⟩) (Kd.V_far (p := ⟨g, 8, none⟩) (Kd.V_far (p := ⟨g, 7, none⟩) (Kd.V_far (p := ⟨g, 6, none⟩) (Kd.V_far (p := ⟨g, 5, none⟩) (Kd.V_far (p := ⟨g, 4, none⟩) (Kd.V_far (p := ⟨g, 3, none⟩) (Kd.V_far (p := ⟨g, 2, none⟩) (Kd.V_far (p := ⟨g, 1, none⟩) (Kd.V_far (p := ⟨g, 0, none⟩) h (fun _ hk => hk.2) v0) (fun _ hk => hk.2) v1) (fun _ hk => hk.2) v2) (fun _ hk => hk.2) v3) (fun _ hk => hk.2) v4) (fun _ hk => hk.2) v5) (fun _ hk => hk.2) v6) (fun _ hk => hk.2) v7) (fun _ hk => hk.2) v8) (fun _ hk => hk.2) v9) (fun _ hk => hk.2) v10) (fun _ hk => hk.2) v11
theorem IsS49.farK {w0 W W0 : World} {g t : Nat} {ps : PS} {p : Addr} {cs : Array Value} {fr : Nat × Nat} (h : IsS49 w0 W g ps) (hne : g ≠ p.block) (bk : Aside0 (W0.heap[p.block]? = some (.cells cs t fr))) (u : Value) (ht : TypedAt W p.block t := by repeat (first | exact TypedAt.of (Aside0.out (by assumption)) | apply TypedAt.set | apply TypedAt.alloc | apply TypedAt.drewN | apply TypedAt.drew)) (h5 : t ≠ 5 := by decide) : IsS49 w0 (W.setCell p u) g ps := h.farT hne ht h5 u
/-! Short names, for texts that would be too long. -/
section
variable {w0 W W1 : World} {g t k : Nat} {ps : PS}
theorem M0 {p : Prop} (h : p) : Aside0 p := Aside0.mk h
theorem tO {cs : Array Value} {fr : Nat × Nat} (h : W.heap[k]? = some (.cells cs t fr)) : TypedAt W k t := TypedAt.of h
theorem tS {p : Addr} {u : Value} (h : TypedAt W k t) : TypedAt (W.setCell p u) k t := h.set
theorem tA (h : TypedAt W k t) (o : Obj) : TypedAt (W.alloc o) k t := h.alloc o
theorem tN (h : TypedAt W k t) (m : Nat) : TypedAt (W.drewN m) k t := h
theorem tD (h : TypedAt W k t) : TypedAt W.drew k t := h
theorem sF {p : Addr} (h : IsS49 w0 W g ps) (hne : g ≠ p.block) (ht : TypedAt W p.block t) (u : Value) (h5 : t ≠ 5 := by decide) : IsS49 w0 (W.setCell p u) g ps := h.farT hne ht h5 u
theorem sA (h : IsS49 w0 W g ps) (o : Obj) : IsS49 w0 (W.alloc o) g ps := h.alloc o
theorem sN (h : IsS49 w0 W g ps) (m : Nat) : IsS49 w0 (W.drewN m) g ps := h
theorem sD (h : IsS49 w0 W g ps) : IsS49 w0 W.drew g ps := h
theorem bA {w : World} {g : Nat} {o : Obj} (h : w.heap[g]? = some o) (o' : Obj) : (w.alloc o').heap[g]? = some o := blk_alloc h o'
theorem bD {w : World} {g : Nat} {o : Obj} (h : w.heap[g]? = some o) : w.drew.heap[g]? = some o := h
theorem bN {w : World} {g : Nat} {o : Obj} (h : w.heap[g]? = some o) (n : Nat) : (w.drewN n).heap[g]? = some o := h
theorem wA {w W : World} (h : Below w.heap.size w W) (o : Obj) : Below w.heap.size w (W.alloc o) := below_alloc h o
theorem wN {B : Nat} {w W : World} (h : Below B w W) (n : Nat) : Below B w (W.drewN n) := pw_below_drewN h n
theorem wD {base : Nat} {w W : World} (h : Below base w W) : Below base w W.drew := below_drew1 h
theorem rA {α : Type} {d : Kd α} {e base : Nat} {ok : Nat → Prop} {w : World} {v : Value} {xs : List α} (h : d.R e w base ok v xs) (o : Obj) : d.R e (w.alloc o) base ok v xs := Kd.R_alloc h o
theorem rD {α : Type} {d : Kd α} {e base : Nat} {ok : Nat → Prop} {w : World} {v : Value} {xs : List α} (h : d.R e w base ok v xs) : d.R e w.drew base ok v xs := Kd.R_drew h
theorem rN {α : Type} {d : Kd α} {e base : Nat} {ok : Nat → Prop} {w : World} {v : Value} {xs : List α} (h : d.R e w base ok v xs) (m : Nat) : d.R e (w.drewN m) base ok v xs := Kd.R_drewN h m
end
theorem bF {W : World} {g k : Nat} {t : TypeId} {cs : Array Value} {v0 v1 v2 v3 v4 v5 v6 v7 v8 v9 v10 v11 : Value} (h : W.heap[g]? = some (.cells cs t (0, 0))) (hne : g ≠ k) : ((((((((((((W.setCell ⟨k, 0, none⟩ v0).setCell ⟨k, 1, none⟩ v1).setCell ⟨k, 2, none⟩ v2).setCell ⟨k, 3, none⟩ v3).setCell ⟨k, 4, none⟩ v4).setCell ⟨k, 5, none⟩ v5).setCell ⟨k, 6, none⟩ v6).setCell ⟨k, 7, none⟩ v7).setCell ⟨k, 8, none⟩ v8).setCell ⟨k, 9, none⟩ v9).setCell ⟨k, 10, none⟩ v10).setCell ⟨k, 11, none⟩ v11).heap[g]? = some (.cells cs t (0, 0)) := blk_far (p := ⟨k, 11, none⟩) (blk_far (p := ⟨k, 10, none⟩) (blk_far (p := ⟨k, 9, none⟩) (blk_far (p := ⟨k, 8, none⟩) (blk_far (p := ⟨k, 7, none⟩) (blk_far (p := ⟨k, 6, none⟩) (blk_far (p := ⟨k, 5, none⟩) (blk_far (p := ⟨k, 4, none⟩) (blk_far (p := ⟨k, 3, none⟩) (blk_far (p := ⟨k, 2, none⟩) (blk_far (p := ⟨k, 1, none⟩) (blk_far (p := ⟨k, 0, none⟩) h hne v0) hne v1) hne v2) hne v3) hne v4) hne v5) hne v6) hne v7) hne v8) hne v9) hne v10) hne v11
theorem celL {W : World} {g t : Nat} {c0 c1 c2 c3 c4 c5 c6 c7 c8 c9 c10 c11 : Value} (h : W.heap[g]? = some (.cells #[c0, c1, c2, c3, c4, c5, c6, c7, c8, c9, c10, c11] t (0, 0))) : W.cell? ⟨g, 0, none⟩ = some c0 ∧ W.cell? ⟨g, 1, none⟩ = some c1 ∧ W.cell? ⟨g, 2, none⟩ = some c2 ∧ W.cell? ⟨g, 3, none⟩ = some c3 ∧ W.cell? ⟨g, 4, none⟩ = some c4 ∧ W.cell? ⟨g, 5, none⟩ = some c5 ∧ W.cell? ⟨g, 6, none⟩ = some c6 ∧ W.cell? ⟨g, 7, none⟩ = some c7 ∧ W.cell? ⟨g, 8, none⟩ = some c8 ∧ W.cell? ⟨g, 9, none⟩ = some c9 ∧ W.cell? ⟨g, 10, none⟩ = some c10 ∧ W.cell? ⟨g, 11, none⟩ = some c11 :=
  ⟨(blk_cell h 0).trans rfl, (blk_cell h 1).trans rfl, (blk_cell h 2).trans rfl, (blk_cell h 3).trans rfl, (blk_cell h 4).trans rfl, (blk_cell h 5).trans rfl, (blk_cell h 6).trans rfl, (blk_cell h 7).trans rfl, (blk_cell h 8).trans rfl, (blk_cell h 9).trans rfl, (blk_cell h 10).trans rfl, (blk_cell h 11).trans rfl⟩
theorem froZ {W : World} {g t : Nat} {cs : Array Value} (h : W.heap[g]? = some (.cells cs t (0, 0))) : W.frozen? ⟨g, 0, none⟩ = false ∧ W.frozen? ⟨g, 1, none⟩ = false ∧ W.frozen? ⟨g, 2, none⟩ = false ∧ W.frozen? ⟨g, 3, none⟩ = false ∧ W.frozen? ⟨g, 4, none⟩ = false ∧ W.frozen? ⟨g, 5, none⟩ = false ∧ W.frozen? ⟨g, 6, none⟩ = false ∧ W.frozen? ⟨g, 7, none⟩ = false ∧ W.frozen? ⟨g, 8, none⟩ = false ∧ W.frozen? ⟨g, 9, none⟩ = false ∧ W.frozen? ⟨g, 10, none⟩ = false ∧ W.frozen? ⟨g, 11, none⟩ = false :=
  ⟨blk_frozen h 0, blk_frozen h 1, blk_frozen h 2, blk_frozen h 3, blk_frozen h 4, blk_frozen h 5, blk_frozen h 6, blk_frozen h 7, blk_frozen h 8, blk_frozen h 9, blk_frozen h 10, blk_frozen h 11⟩
end Go.Proofs.YtfbhlbchmenloaaDoor.H
end
section
namespace Go.Proofs.YtfbhlbchmenloaaDoor.H
open Go.RowKit Go.Proofs.YtfbhlbchmenloaaDoorW.PrintWords Go.Proofs.YtfbhlbchmenloaaDoorW.PrintLast Go.Proofs.YtfbhlbchmenloaaDoorW.PrintMore
attribute [local go_sem] max2_int min2_int max_two min_two max_three min_three max_four min_four   -- for this text's walks alone
set_option linter.unusedVariables false
set_option linter.unusedSimpArgs false



theorem info32 : (Tryd.prog.info? 32).map (fun i => (i.zero, i.size, i.bytes)) = some (some (.agg #[(.string ⟨#[]⟩), (.string ⟨#[]⟩), (.slice none 0 0), (.string ⟨#[]⟩), (.int .u32 0), (.int .i64 0), (.int .u64 0), (.int .u64 0), (.bool false), (.bool false), (.bool false), (.bool false)]), 12, 112) := by kernel_rfl
-- the values' own types
/-! #### struct type 27 -/
structure S27 where
  f0 : ByteArray
  f1 : ByteArray
  f2 : (List ByteArray)
  f3 : ByteArray
  f4 : Int
  f5 : Int
  f6 : Int
  f7 : Int
  f8 : Bool
  f9 : Bool
  f10 : Bool
  f11 : Bool
def z27 : S27 := ⟨(⟨#[]⟩ : ByteArray), (⟨#[]⟩ : ByteArray), ([] : List ByteArray), (⟨#[]⟩ : ByteArray), (0 : Int), (0 : Int), (0 : Int), (0 : Int), false, false, false, false⟩
def k27 : Kd S27 := Kd.iso (Kd.pair Kd.string (Kd.pair Kd.string (Kd.pair (Kd.slice 9 Kd.string) (Kd.pair Kd.string (Kd.pair (Kd.int .u32) (Kd.pair (Kd.int .i64) (Kd.pair (Kd.int .u64) (Kd.pair (Kd.int .u64) (Kd.pair Kd.bool (Kd.pair Kd.bool (Kd.pair Kd.bool Kd.bool))))))))))) (fun x : S27 => (x.f0, x.f1, x.f2, x.f3, x.f4, x.f5, x.f6, x.f7, x.f8, x.f9, x.f10, x.f11))
theorem k27_open {w : World} {x : S27} {cs : List Value} (h : k27.K w x cs) : ∃ A2 c2, cs = [.string x.f0, .string x.f1, .slice A2 x.f2.length c2, .string x.f3, .int .u32 x.f4, .int .i64 x.f5, .int .u64 x.f6, .int .u64 x.f7, .bool x.f8, .bool x.f9, .bool x.f10, .bool x.f11] ∧ x.f2.length ≤ c2 ∧ Kd.string.C w A2 x.f2.length x.f2 := by
  obtain ⟨_, _, rfl, rfl, ⟨_, _, rfl, rfl, ⟨_, _, rfl, ⟨A2, c2, rfl, l2, g2⟩, ⟨_, _, rfl, rfl, ⟨_, _, rfl, rfl, ⟨_, _, rfl, rfl, ⟨_, _, rfl, rfl, ⟨_, _, rfl, rfl, ⟨_, _, rfl, rfl, ⟨_, _, rfl, rfl, ⟨_, _, rfl, rfl, rfl⟩⟩⟩⟩⟩⟩⟩⟩⟩⟩⟩ := h
  exact ⟨A2, c2, rfl, l2, g2⟩
theorem k27_openM {w : World} {base : Nat} {ok : Nat → Prop} {x : S27} {cs : List Value} (h : k27.M w base ok x cs) : ∃ v2, cs = [.string x.f0, .string x.f1, v2, .string x.f3, .int .u32 x.f4, .int .i64 x.f5, .int .u64 x.f6, .int .u64 x.f7, .bool x.f8, .bool x.f9, .bool x.f10, .bool x.f11] ∧ Kd.string.R 9 w base ok v2 x.f2 := by
  obtain ⟨_, _, rfl, rfl, ⟨_, _, rfl, rfl, ⟨_, _, rfl, ⟨v2, rfl, g2⟩, ⟨_, _, rfl, rfl, ⟨_, _, rfl, rfl, ⟨_, _, rfl, rfl, ⟨_, _, rfl, rfl, ⟨_, _, rfl, rfl, ⟨_, _, rfl, rfl, ⟨_, _, rfl, rfl, ⟨_, _, rfl, rfl, rfl⟩⟩⟩⟩⟩⟩⟩⟩⟩⟩⟩ := h
  exact ⟨v2, rfl, g2⟩
theorem k27_mk (w : World) (x : S27) {A2 : Option Addr} {c2 : Nat} (l2 : x.f2.length ≤ c2) (g2 : Kd.string.C w A2 x.f2.length x.f2) : k27.K w x [.string x.f0, .string x.f1, .slice A2 x.f2.length c2, .string x.f3, .int .u32 x.f4, .int .i64 x.f5, .int .u64 x.f6, .int .u64 x.f7, .bool x.f8, .bool x.f9, .bool x.f10, .bool x.f11] := ⟨[.string x.f0], [.string x.f1, .slice A2 x.f2.length c2, .string x.f3, .int .u32 x.f4, .int .i64 x.f5, .int .u64 x.f6, .int .u64 x.f7, .bool x.f8, .bool x.f9, .bool x.f10, .bool x.f11], rfl, rfl, ⟨[.string x.f1], [.slice A2 x.f2.length c2, .string x.f3, .int .u32 x.f4, .int .i64 x.f5, .int .u64 x.f6, .int .u64 x.f7, .bool x.f8, .bool x.f9, .bool x.f10, .bool x.f11], rfl, rfl, ⟨[.slice A2 x.f2.length c2], [.string x.f3, .int .u32 x.f4, .int .i64 x.f5, .int .u64 x.f6, .int .u64 x.f7, .bool x.f8, .bool x.f9, .bool x.f10, .bool x.f11], rfl, ⟨A2, c2, rfl, l2, g2⟩, ⟨[.string x.f3], [.int .u32 x.f4, .int .i64 x.f5, .int .u64 x.f6, .int .u64 x.f7, .bool x.f8, .bool x.f9, .bool x.f10, .bool x.f11], rfl, rfl, ⟨[.int .u32 x.f4], [.int .i64 x.f5, .int .u64 x.f6, .int .u64 x.f7, .bool x.f8, .bool x.f9, .bool x.f10, .bool x.f11], rfl, rfl, ⟨[.int .i64 x.f5], [.int .u64 x.f6, .int .u64 x.f7, .bool x.f8, .bool x.f9, .bool x.f10, .bool x.f11], rfl, rfl, ⟨[.int .u64 x.f6], [.int .u64 x.f7, .bool x.f8, .bool x.f9, .bool x.f10, .bool x.f11], rfl, rfl, ⟨[.int .u64 x.f7], [.bool x.f8, .bool x.f9, .bool x.f10, .bool x.f11], rfl, rfl, ⟨[.bool x.f8], [.bool x.f9, .bool x.f10, .bool x.f11], rfl, rfl, ⟨[.bool x.f9], [.bool x.f10, .bool x.f11], rfl, rfl, ⟨[.bool x.f10], [.bool x.f11], rfl, rfl, rfl⟩⟩⟩⟩⟩⟩⟩⟩⟩⟩⟩
theorem k27_mkM (w : World) (base : Nat) (ok : Nat → Prop) (x : S27) {v2 : Value} (g2 : Kd.string.R 9 w base ok v2 x.f2) : k27.M w base ok x [.string x.f0, .string x.f1, v2, .string x.f3, .int .u32 x.f4, .int .i64 x.f5, .int .u64 x.f6, .int .u64 x.f7, .bool x.f8, .bool x.f9, .bool x.f10, .bool x.f11] := ⟨[.string x.f0], [.string x.f1, v2, .string x.f3, .int .u32 x.f4, .int .i64 x.f5, .int .u64 x.f6, .int .u64 x.f7, .bool x.f8, .bool x.f9, .bool x.f10, .bool x.f11], rfl, rfl, ⟨[.string x.f1], [v2, .string x.f3, .int .u32 x.f4, .int .i64 x.f5, .int .u64 x.f6, .int .u64 x.f7, .bool x.f8, .bool x.f9, .bool x.f10, .bool x.f11], rfl, rfl, ⟨[v2], [.string x.f3, .int .u32 x.f4, .int .i64 x.f5, .int .u64 x.f6, .int .u64 x.f7, .bool x.f8, .bool x.f9, .bool x.f10, .bool x.f11], rfl, ⟨v2, rfl, g2⟩, ⟨[.string x.f3], [.int .u32 x.f4, .int .i64 x.f5, .int .u64 x.f6, .int .u64 x.f7, .bool x.f8, .bool x.f9, .bool x.f10, .bool x.f11], rfl, rfl, ⟨[.int .u32 x.f4], [.int .i64 x.f5, .int .u64 x.f6, .int .u64 x.f7, .bool x.f8, .bool x.f9, .bool x.f10, .bool x.f11], rfl, rfl, ⟨[.int .i64 x.f5], [.int .u64 x.f6, .int .u64 x.f7, .bool x.f8, .bool x.f9, .bool x.f10, .bool x.f11], rfl, rfl, ⟨[.int .u64 x.f6], [.int .u64 x.f7, .bool x.f8, .bool x.f9, .bool x.f10, .bool x.f11], rfl, rfl, ⟨[.int .u64 x.f7], [.bool x.f8, .bool x.f9, .bool x.f10, .bool x.f11], rfl, rfl, ⟨[.bool x.f8], [.bool x.f9, .bool x.f10, .bool x.f11], rfl, rfl, ⟨[.bool x.f9], [.bool x.f10, .bool x.f11], rfl, rfl, ⟨[.bool x.f10], [.bool x.f11], rfl, rfl, rfl⟩⟩⟩⟩⟩⟩⟩⟩⟩⟩⟩
theorem k27_openF {W : World} {ok : Nat → Prop} {x : S27} {cs : List Value} (h : Kd.FK k27 W ok x cs) : ∃ A2 c2, cs = [.string x.f0, .string x.f1, .slice A2 x.f2.length c2, .string x.f3, .int .u32 x.f4, .int .i64 x.f5, .int .u64 x.f6, .int .u64 x.f7, .bool x.f8, .bool x.f9, .bool x.f10, .bool x.f11] ∧ x.f2.length ≤ c2 ∧ Kd.F Kd.string W ok A2 x.f2.length x.f2 := by
  obtain ⟨A2, c2, rfl, l2, _⟩ := k27_open (Kd.FK_now h)
  exact ⟨A2, c2, rfl, l2, (fun W' hW => by obtain ⟨A2_, c2_, he, l2_, g2_⟩ := k27_open (h W' hW); injection (Option.some.inj (show some (Value.slice A2 x.f2.length c2) = some (Value.slice A2_ x.f2.length c2_) from congrArg (fun l => l[2]?) he)) with ha_ _ _; rw [ha_]; exact g2_)⟩
theorem k27_mkF (W : World) (ok : Nat → Prop) (x : S27) {A2 : Option Addr} {c2 : Nat} (l2 : x.f2.length ≤ c2) (g2 : Kd.F Kd.string W ok A2 x.f2.length x.f2) : Kd.FK k27 W ok x [.string x.f0, .string x.f1, .slice A2 x.f2.length c2, .string x.f3, .int .u32 x.f4, .int .i64 x.f5, .int .u64 x.f6, .int .u64 x.f7, .bool x.f8, .bool x.f9, .bool x.f10, .bool x.f11] := fun W2 hW => k27_mk W2 x l2 (g2 W2 hW)
def rd_T27 (xs : List S27) (i : Int) : S27 := xs.getD i.toNat z27
theorem at_T27 {w : World} {A : Option Addr} {n : Nat} {xs : List S27} (h : Kd.C k27 w A n xs) (i : Int) (h0 : 0 ≤ i) (h1 : i < n) : ∃ ad A2 c2, A = some ad ∧ w.cell? (ad.add (i.toNat * 12)) = some (.string (rd_T27 xs i).f0) ∧ w.cell? ⟨(ad.add (i.toNat * 12)).block, (ad.add (i.toNat * 12)).off + 1, none⟩ = some (.string (rd_T27 xs i).f1) ∧ w.cell? ⟨(ad.add (i.toNat * 12)).block, (ad.add (i.toNat * 12)).off + 2, none⟩ = some (.slice A2 (rd_T27 xs i).f2.length c2) ∧ w.cell? ⟨(ad.add (i.toNat * 12)).block, (ad.add (i.toNat * 12)).off + 3, none⟩ = some (.string (rd_T27 xs i).f3) ∧ w.cell? ⟨(ad.add (i.toNat * 12)).block, (ad.add (i.toNat * 12)).off + 4, none⟩ = some (.int .u32 (rd_T27 xs i).f4) ∧ w.cell? ⟨(ad.add (i.toNat * 12)).block, (ad.add (i.toNat * 12)).off + 5, none⟩ = some (.int .i64 (rd_T27 xs i).f5) ∧ w.cell? ⟨(ad.add (i.toNat * 12)).block, (ad.add (i.toNat * 12)).off + 6, none⟩ = some (.int .u64 (rd_T27 xs i).f6) ∧ w.cell? ⟨(ad.add (i.toNat * 12)).block, (ad.add (i.toNat * 12)).off + 7, none⟩ = some (.int .u64 (rd_T27 xs i).f7) ∧ w.cell? ⟨(ad.add (i.toNat * 12)).block, (ad.add (i.toNat * 12)).off + 8, none⟩ = some (.bool (rd_T27 xs i).f8) ∧ w.cell? ⟨(ad.add (i.toNat * 12)).block, (ad.add (i.toNat * 12)).off + 9, none⟩ = some (.bool (rd_T27 xs i).f9) ∧ w.cell? ⟨(ad.add (i.toNat * 12)).block, (ad.add (i.toNat * 12)).off + 10, none⟩ = some (.bool (rd_T27 xs i).f10) ∧ w.cell? ⟨(ad.add (i.toNat * 12)).block, (ad.add (i.toNat * 12)).off + 11, none⟩ = some (.bool (rd_T27 xs i).f11) ∧ (rd_T27 xs i).f2.length ≤ c2 ∧ Kd.string.C w A2 (rd_T27 xs i).f2.length (rd_T27 xs i).f2 := by
  obtain ⟨ad, c, e, _, hK, hc0⟩ := Kd.C_get h z27 i h0 h1
  have hc : ∀ j u, c[j]? = some u → w.cell? (ad.add (i.toNat * 12 + j)) = some u := hc0
  obtain ⟨A2, c2, rfl, l2, g2⟩ := k27_open hK
  exact ⟨ad, A2, c2, e, hc 0 _ rfl, by rw [← add_field _ _ 1 (by omega)]; exact hc 1 _ rfl, by rw [← add_field _ _ 2 (by omega)]; exact hc 2 _ rfl, by rw [← add_field _ _ 3 (by omega)]; exact hc 3 _ rfl, by rw [← add_field _ _ 4 (by omega)]; exact hc 4 _ rfl, by rw [← add_field _ _ 5 (by omega)]; exact hc 5 _ rfl, by rw [← add_field _ _ 6 (by omega)]; exact hc 6 _ rfl, by rw [← add_field _ _ 7 (by omega)]; exact hc 7 _ rfl, by rw [← add_field _ _ 8 (by omega)]; exact hc 8 _ rfl, by rw [← add_field _ _ 9 (by omega)]; exact hc 9 _ rfl, by rw [← add_field _ _ 10 (by omega)]; exact hc 10 _ rfl, by rw [← add_field _ _ 11 (by omega)]; exact hc 11 _ rfl, l2, g2⟩

/-! #### struct type 49 -/
structure S49 where
  f0 : ByteArray
def z49 : S49 := ⟨(⟨#[]⟩ : ByteArray)⟩
def k49 : Kd S49 := Kd.iso Kd.string (fun x : S49 => x.f0)
theorem k49_open {w : World} {x : S49} {cs : List Value} (h : k49.K w x cs) : cs = [.string x.f0] := by
  obtain rfl := h
  exact rfl
theorem k49_openM {w : World} {base : Nat} {ok : Nat → Prop} {x : S49} {cs : List Value} (h : k49.M w base ok x cs) : cs = [.string x.f0] := by
  obtain rfl := h
  exact rfl
theorem k49_mk (w : World) (x : S49)  : k49.K w x [.string x.f0] := rfl
theorem k49_mkM (w : World) (base : Nat) (ok : Nat → Prop) (x : S49)  : k49.M w base ok x [.string x.f0] := rfl
theorem k49_mkF (W : World) (ok : Nat → Prop) (x : S49) : Kd.FK k49 W ok x [.string x.f0] := fun W2 _ => k49_mk W2 x
def rd_T49 (xs : List S49) (i : Int) : S49 := xs.getD i.toNat z49
theorem at_T49 {w : World} {A : Option Addr} {n : Nat} {xs : List S49} (h : Kd.C k49 w A n xs) (i : Int) (h0 : 0 ≤ i) (h1 : i < n) : ∃ ad , A = some ad ∧ w.cell? (ad.add i.toNat) = some (.string (rd_T49 xs i).f0) := by
  obtain ⟨ad, c, e, _, hK, hc0⟩ := Kd.C_get h z49 i h0 h1
  have hc : ∀ j u, c[j]? = some u → w.cell? (ad.add (i.toNat * 1 + j)) = some u := hc0
  obtain rfl := k49_open hK
  exact ⟨ad, e, by have hq := hc 0 _ rfl; rwa [Nat.mul_one, Nat.add_zero] at hq⟩

def rd_L9 (xs : List (List Int)) (i : Int) : (List Int) := xs.getD i.toNat ([] : List Int)
theorem at_L9 {w : World} {A : Option Addr} {n : Nat} {xs : List (List Int)} (h : Kd.C (Kd.slice 5 (Kd.int .u8)) w A n xs) (i : Int) (h0 : 0 ≤ i) (h1 : i < n) : ∃ ad A0 c0, A = some ad ∧ w.cell? (ad.add i.toNat) = some (.slice A0 (rd_L9 xs i).length c0) ∧ (rd_L9 xs i).length ≤ c0 ∧ (Kd.int .u8).C w A0 (rd_L9 xs i).length (rd_L9 xs i) := by
  obtain ⟨ad, c, e, _, hK, hc0⟩ := Kd.C_get h ([] : List Int) i h0 h1
  have hc : ∀ j u, c[j]? = some u → w.cell? (ad.add (i.toNat * 1 + j)) = some u := hc0
  obtain ⟨A0, c0, rfl, l0, g0⟩ := hK
  exact ⟨ad, A0, c0, e, by have hq := hc 0 _ rfl; rwa [Nat.mul_one, Nat.add_zero] at hq, l0, g0⟩

/-! #### struct type 32 -/
structure S32 where
  f0 : ByteArray
  f1 : ByteArray
  f2 : (List ByteArray)
  f3 : ByteArray
  f4 : Int
  f5 : Int
  f6 : Int
  f7 : Int
  f8 : Bool
  f9 : Bool
  f10 : Bool
  f11 : Bool
def z32 : S32 := ⟨(⟨#[]⟩ : ByteArray), (⟨#[]⟩ : ByteArray), ([] : List ByteArray), (⟨#[]⟩ : ByteArray), (0 : Int), (0 : Int), (0 : Int), (0 : Int), false, false, false, false⟩
def k32 : Kd S32 := Kd.iso (Kd.pair Kd.string (Kd.pair Kd.string (Kd.pair (Kd.slice 9 Kd.string) (Kd.pair Kd.string (Kd.pair (Kd.int .u32) (Kd.pair (Kd.int .i64) (Kd.pair (Kd.int .u64) (Kd.pair (Kd.int .u64) (Kd.pair Kd.bool (Kd.pair Kd.bool (Kd.pair Kd.bool Kd.bool))))))))))) (fun x : S32 => (x.f0, x.f1, x.f2, x.f3, x.f4, x.f5, x.f6, x.f7, x.f8, x.f9, x.f10, x.f11))
theorem k32_open {w : World} {x : S32} {cs : List Value} (h : k32.K w x cs) : ∃ A2 c2, cs = [.string x.f0, .string x.f1, .slice A2 x.f2.length c2, .string x.f3, .int .u32 x.f4, .int .i64 x.f5, .int .u64 x.f6, .int .u64 x.f7, .bool x.f8, .bool x.f9, .bool x.f10, .bool x.f11] ∧ x.f2.length ≤ c2 ∧ Kd.string.C w A2 x.f2.length x.f2 := by
  obtain ⟨_, _, rfl, rfl, ⟨_, _, rfl, rfl, ⟨_, _, rfl, ⟨A2, c2, rfl, l2, g2⟩, ⟨_, _, rfl, rfl, ⟨_, _, rfl, rfl, ⟨_, _, rfl, rfl, ⟨_, _, rfl, rfl, ⟨_, _, rfl, rfl, ⟨_, _, rfl, rfl, ⟨_, _, rfl, rfl, ⟨_, _, rfl, rfl, rfl⟩⟩⟩⟩⟩⟩⟩⟩⟩⟩⟩ := h
  exact ⟨A2, c2, rfl, l2, g2⟩
theorem k32_openM {w : World} {base : Nat} {ok : Nat → Prop} {x : S32} {cs : List Value} (h : k32.M w base ok x cs) : ∃ v2, cs = [.string x.f0, .string x.f1, v2, .string x.f3, .int .u32 x.f4, .int .i64 x.f5, .int .u64 x.f6, .int .u64 x.f7, .bool x.f8, .bool x.f9, .bool x.f10, .bool x.f11] ∧ Kd.string.R 9 w base ok v2 x.f2 := by
  obtain ⟨_, _, rfl, rfl, ⟨_, _, rfl, rfl, ⟨_, _, rfl, ⟨v2, rfl, g2⟩, ⟨_, _, rfl, rfl, ⟨_, _, rfl, rfl, ⟨_, _, rfl, rfl, ⟨_, _, rfl, rfl, ⟨_, _, rfl, rfl, ⟨_, _, rfl, rfl, ⟨_, _, rfl, rfl, ⟨_, _, rfl, rfl, rfl⟩⟩⟩⟩⟩⟩⟩⟩⟩⟩⟩ := h
  exact ⟨v2, rfl, g2⟩
theorem k32_mk (w : World) (x : S32) {A2 : Option Addr} {c2 : Nat} (l2 : x.f2.length ≤ c2) (g2 : Kd.string.C w A2 x.f2.length x.f2) : k32.K w x [.string x.f0, .string x.f1, .slice A2 x.f2.length c2, .string x.f3, .int .u32 x.f4, .int .i64 x.f5, .int .u64 x.f6, .int .u64 x.f7, .bool x.f8, .bool x.f9, .bool x.f10, .bool x.f11] := ⟨[.string x.f0], [.string x.f1, .slice A2 x.f2.length c2, .string x.f3, .int .u32 x.f4, .int .i64 x.f5, .int .u64 x.f6, .int .u64 x.f7, .bool x.f8, .bool x.f9, .bool x.f10, .bool x.f11], rfl, rfl, ⟨[.string x.f1], [.slice A2 x.f2.length c2, .string x.f3, .int .u32 x.f4, .int .i64 x.f5, .int .u64 x.f6, .int .u64 x.f7, .bool x.f8, .bool x.f9, .bool x.f10, .bool x.f11], rfl, rfl, ⟨[.slice A2 x.f2.length c2], [.string x.f3, .int .u32 x.f4, .int .i64 x.f5, .int .u64 x.f6, .int .u64 x.f7, .bool x.f8, .bool x.f9, .bool x.f10, .bool x.f11], rfl, ⟨A2, c2, rfl, l2, g2⟩, ⟨[.string x.f3], [.int .u32 x.f4, .int .i64 x.f5, .int .u64 x.f6, .int .u64 x.f7, .bool x.f8, .bool x.f9, .bool x.f10, .bool x.f11], rfl, rfl, ⟨[.int .u32 x.f4], [.int .i64 x.f5, .int .u64 x.f6, .int .u64 x.f7, .bool x.f8, .bool x.f9, .bool x.f10, .bool x.f11], rfl, rfl, ⟨[.int .i64 x.f5], [.int .u64 x.f6, .int .u64 x.f7, .bool x.f8, .bool x.f9, .bool x.f10, .bool x.f11], rfl, rfl, ⟨[.int .u64 x.f6], [.int .u64 x.f7, .bool x.f8, .bool x.f9, .bool x.f10, .bool x.f11], rfl, rfl, ⟨[.int .u64 x.f7], [.bool x.f8, .bool x.f9, .bool x.f10, .bool x.f11], rfl, rfl, ⟨[.bool x.f8], [.bool x.f9, .bool x.f10, .bool x.f11], rfl, rfl, ⟨[.bool x.f9], [.bool x.f10, .bool x.f11], rfl, rfl, ⟨[.bool x.f10], [.bool x.f11], rfl, rfl, rfl⟩⟩⟩⟩⟩⟩⟩⟩⟩⟩⟩
theorem k32_mkM (w : World) (base : Nat) (ok : Nat → Prop) (x : S32) {v2 : Value} (g2 : Kd.string.R 9 w base ok v2 x.f2) : k32.M w base ok x [.string x.f0, .string x.f1, v2, .string x.f3, .int .u32 x.f4, .int .i64 x.f5, .int .u64 x.f6, .int .u64 x.f7, .bool x.f8, .bool x.f9, .bool x.f10, .bool x.f11] := ⟨[.string x.f0], [.string x.f1, v2, .string x.f3, .int .u32 x.f4, .int .i64 x.f5, .int .u64 x.f6, .int .u64 x.f7, .bool x.f8, .bool x.f9, .bool x.f10, .bool x.f11], rfl, rfl, ⟨[.string x.f1], [v2, .string x.f3, .int .u32 x.f4, .int .i64 x.f5, .int .u64 x.f6, .int .u64 x.f7, .bool x.f8, .bool x.f9, .bool x.f10, .bool x.f11], rfl, rfl, ⟨[v2], [.string x.f3, .int .u32 x.f4, .int .i64 x.f5, .int .u64 x.f6, .int .u64 x.f7, .bool x.f8, .bool x.f9, .bool x.f10, .bool x.f11], rfl, ⟨v2, rfl, g2⟩, ⟨[.string x.f3], [.int .u32 x.f4, .int .i64 x.f5, .int .u64 x.f6, .int .u64 x.f7, .bool x.f8, .bool x.f9, .bool x.f10, .bool x.f11], rfl, rfl, ⟨[.int .u32 x.f4], [.int .i64 x.f5, .int .u64 x.f6, .int .u64 x.f7, .bool x.f8, .bool x.f9, .bool x.f10, .bool x.f11], rfl, rfl, ⟨[.int .i64 x.f5], [.int .u64 x.f6, .int .u64 x.f7, .bool x.f8, .bool x.f9, .bool x.f10, .bool x.f11], rfl, rfl, ⟨[.int .u64 x.f6], [.int .u64 x.f7, .bool x.f8, .bool x.f9, .bool x.f10, .bool x.f11], rfl, rfl, ⟨[.int .u64 x.f7], [.bool x.f8, .bool x.f9, .bool x.f10, .bool x.f11], rfl, rfl, ⟨[.bool x.f8], [.bool x.f9, .bool x.f10, .bool x.f11], rfl, rfl, ⟨[.bool x.f9], [.bool x.f10, .bool x.f11], rfl, rfl, ⟨[.bool x.f10], [.bool x.f11], rfl, rfl, rfl⟩⟩⟩⟩⟩⟩⟩⟩⟩⟩⟩
theorem k32_openF {W : World} {ok : Nat → Prop} {x : S32} {cs : List Value} (h : Kd.FK k32 W ok x cs) : ∃ A2 c2, cs = [.string x.f0, .string x.f1, .slice A2 x.f2.length c2, .string x.f3, .int .u32 x.f4, .int .i64 x.f5, .int .u64 x.f6, .int .u64 x.f7, .bool x.f8, .bool x.f9, .bool x.f10, .bool x.f11] ∧ x.f2.length ≤ c2 ∧ Kd.F Kd.string W ok A2 x.f2.length x.f2 := by
  obtain ⟨A2, c2, rfl, l2, _⟩ := k32_open (Kd.FK_now h)
  exact ⟨A2, c2, rfl, l2, (fun W' hW => by obtain ⟨A2_, c2_, he, l2_, g2_⟩ := k32_open (h W' hW); injection (Option.some.inj (show some (Value.slice A2 x.f2.length c2) = some (Value.slice A2_ x.f2.length c2_) from congrArg (fun l => l[2]?) he)) with ha_ _ _; rw [ha_]; exact g2_)⟩
theorem k32_mkF (W : World) (ok : Nat → Prop) (x : S32) {A2 : Option Addr} {c2 : Nat} (l2 : x.f2.length ≤ c2) (g2 : Kd.F Kd.string W ok A2 x.f2.length x.f2) : Kd.FK k32 W ok x [.string x.f0, .string x.f1, .slice A2 x.f2.length c2, .string x.f3, .int .u32 x.f4, .int .i64 x.f5, .int .u64 x.f6, .int .u64 x.f7, .bool x.f8, .bool x.f9, .bool x.f10, .bool x.f11] := fun W2 hW => k32_mk W2 x l2 (g2 W2 hW)
def rd_T32 (xs : List S32) (i : Int) : S32 := xs.getD i.toNat z32
theorem at_T32 {w : World} {A : Option Addr} {n : Nat} {xs : List S32} (h : Kd.C k32 w A n xs) (i : Int) (h0 : 0 ≤ i) (h1 : i < n) : ∃ ad A2 c2, A = some ad ∧ w.cell? (ad.add (i.toNat * 12)) = some (.string (rd_T32 xs i).f0) ∧ w.cell? ⟨(ad.add (i.toNat * 12)).block, (ad.add (i.toNat * 12)).off + 1, none⟩ = some (.string (rd_T32 xs i).f1) ∧ w.cell? ⟨(ad.add (i.toNat * 12)).block, (ad.add (i.toNat * 12)).off + 2, none⟩ = some (.slice A2 (rd_T32 xs i).f2.length c2) ∧ w.cell? ⟨(ad.add (i.toNat * 12)).block, (ad.add (i.toNat * 12)).off + 3, none⟩ = some (.string (rd_T32 xs i).f3) ∧ w.cell? ⟨(ad.add (i.toNat * 12)).block, (ad.add (i.toNat * 12)).off + 4, none⟩ = some (.int .u32 (rd_T32 xs i).f4) ∧ w.cell? ⟨(ad.add (i.toNat * 12)).block, (ad.add (i.toNat * 12)).off + 5, none⟩ = some (.int .i64 (rd_T32 xs i).f5) ∧ w.cell? ⟨(ad.add (i.toNat * 12)).block, (ad.add (i.toNat * 12)).off + 6, none⟩ = some (.int .u64 (rd_T32 xs i).f6) ∧ w.cell? ⟨(ad.add (i.toNat * 12)).block, (ad.add (i.toNat * 12)).off + 7, none⟩ = some (.int .u64 (rd_T32 xs i).f7) ∧ w.cell? ⟨(ad.add (i.toNat * 12)).block, (ad.add (i.toNat * 12)).off + 8, none⟩ = some (.bool (rd_T32 xs i).f8) ∧ w.cell? ⟨(ad.add (i.toNat * 12)).block, (ad.add (i.toNat * 12)).off + 9, none⟩ = some (.bool (rd_T32 xs i).f9) ∧ w.cell? ⟨(ad.add (i.toNat * 12)).block, (ad.add (i.toNat * 12)).off + 10, none⟩ = some (.bool (rd_T32 xs i).f10) ∧ w.cell? ⟨(ad.add (i.toNat * 12)).block, (ad.add (i.toNat * 12)).off + 11, none⟩ = some (.bool (rd_T32 xs i).f11) ∧ (rd_T32 xs i).f2.length ≤ c2 ∧ Kd.string.C w A2 (rd_T32 xs i).f2.length (rd_T32 xs i).f2 := by
  obtain ⟨ad, c, e, _, hK, hc0⟩ := Kd.C_get h z32 i h0 h1
  have hc : ∀ j u, c[j]? = some u → w.cell? (ad.add (i.toNat * 12 + j)) = some u := hc0
  obtain ⟨A2, c2, rfl, l2, g2⟩ := k32_open hK
  exact ⟨ad, A2, c2, e, hc 0 _ rfl, by rw [← add_field _ _ 1 (by omega)]; exact hc 1 _ rfl, by rw [← add_field _ _ 2 (by omega)]; exact hc 2 _ rfl, by rw [← add_field _ _ 3 (by omega)]; exact hc 3 _ rfl, by rw [← add_field _ _ 4 (by omega)]; exact hc 4 _ rfl, by rw [← add_field _ _ 5 (by omega)]; exact hc 5 _ rfl, by rw [← add_field _ _ 6 (by omega)]; exact hc 6 _ rfl, by rw [← add_field _ _ 7 (by omega)]; exact hc 7 _ rfl, by rw [← add_field _ _ 8 (by omega)]; exact hc 8 _ rfl, by rw [← add_field _ _ 9 (by omega)]; exact hc 9 _ rfl, by rw [← add_field _ _ 10 (by omega)]; exact hc 10 _ rfl, by rw [← add_field _ _ 11 (by omega)]; exact hc 11 _ rfl, l2, g2⟩

end Go.Proofs.YtfbhlbchmenloaaDoor.H
end
section
namespace Go.Proofs.YtfbhlbchmenloaaDoor.H
open Go.RowKit Go.Proofs.YtfbhlbchmenloaaDoorW.PrintWords Go.Proofs.YtfbhlbchmenloaaDoorW.PrintLast Go.Proofs.YtfbhlbchmenloaaDoorW.PrintMore
attribute [local go_sem] max2_int min2_int max_two min_two max_three min_three max_four min_four   -- for this text's walks alone
set_option linter.unusedVariables false
set_option linter.unusedSimpArgs false

/-! ### cellaretref17_Is: function 8 -/
def cellaretref17_Is.f (a0_0 : ByteArray) (a0_1 : ByteArray) (l0_2 : List ByteArray) (a0_3 : ByteArray) (a0_4 : Int) (a0_5 : Int) (a0_6 : Int) (a0_7 : Int) (a0_8 : Bool) (a0_9 : Bool) (a0_10 : Bool) (a0_11 : Bool) (a1 : ByteArray) (a2 : ByteArray) : Option (Bool) := if a0_0.toList = a1.toList then (if a0_1.toList = a2.toList then (some ((l0_2.length : Int) == 0)) else (some false)) else (some false)
set_option maxHeartbeats 8000000 in
set_option maxRecDepth 100000 in
theorem cellaretref17_Is.calls (a0_0 : ByteArray) (a0_1 : ByteArray) (A0_2 : Option Addr) (c0_2 : Nat) (l0_2 : List ByteArray) (a0_3 : ByteArray) (a0_4 : Int) (a0_5 : Int) (a0_6 : Int) (a0_7 : Int) (a0_8 : Bool) (a0_9 : Bool) (a0_10 : Bool) (a0_11 : Bool) (a1 : ByteArray) (a2 : ByteArray) (r : Bool) (w : World) (hr0_2 : Kd.C Kd.string w A0_2 l0_2.length l0_2) (hc0_2 : l0_2.length ≤ c0_2) (h : cellaretref17_Is.f a0_0 a0_1 l0_2 a0_3 a0_4 a0_5 a0_6 a0_7 a0_8 a0_9 a0_10 a0_11 a1 a2 = some r) :
    Calls Tryd.prog 8 #[.agg #[.string a0_0, .string a0_1, .slice A0_2 l0_2.length c0_2, .string a0_3, .int .u32 a0_4, .int .i64 a0_5, .int .u64 a0_6, .int .u64 a0_7, .bool a0_8, .bool a0_9, .bool a0_10, .bool a0_11], .string a1, .string a2] w fun e w' => e = .returned (.bool r) ∧ Below w.heap.size w w' := by
  have hu27 := Tryd.underlying27
  have HR0_2 := Aside0.mk hr0_2
  have HC0_2 := Aside0.mk hc0_2
  clear hr0_2 hc0_2
  have HB := Aside0.mk (Below.refl w.heap.size w)
  have H : (if a0_0.toList = a1.toList then (if a0_1.toList = a2.toList then (some ((l0_2.length : Int) == 0)) else (some false)) else (some false)) = some r := h
  clear h
  by_cases c4 : a0_0.toList = a1.toList
  · rw [if_pos c4] at H
    have c4b0 : (a0_0.toList == a1.toList) = true := beq_iff_eq.mpr c4
    have c4b1 : (a0_0.toList != a1.toList) = false := bne_eq_false_iff_eq.mpr c4
    clear c4
    by_cases c5 : a0_1.toList = a2.toList
    · rw [if_pos c5] at H
      have c5b0 : (a0_1.toList == a2.toList) = true := beq_iff_eq.mpr c5
      have c5b1 : (a0_1.toList != a2.toList) = false := bne_eq_false_iff_eq.mpr c5
      clear c5
      obtain rfl := Option.some.inj H
      go_enter Tryd.func8, Tryd.ntmps8
      go_wp2_with (first | ((with_reducible refine gate_dst (N := 3) rfl ?_); (try (refine gate_guard (by rfl) ?_; dsimp only)); refine box_event ?hg (N := 3) ?hd (cs := #[.string a0_0, .string a0_1, .slice A0_2 l0_2.length c0_2, .string a0_3, .int .u32 a0_4, .int .i64 a0_5, .int .u64 a0_6, .int .u64 a0_7, .bool a0_8, .bool a0_9, .bool a0_10, .bool a0_11]) (t := 27) ?hr ?_; (case hd => rfl); (case hg => rfl); (case hr => first | (go_simp; done) | (go_simp; rfl)); intro gb101 hg w6 hbox hb; have n0_ := Aside0.mk (below_step (by repeat (first | (with_reducible first | exact HB.out | apply below_alloc | apply pw_below_drewN | apply below_drew1) | exact HB.out)) hb); have n1_ := Aside0.mk (hbox); have n2_ := Aside0.mk ((by rw [hg]; exact (below_size (by repeat (first | (with_reducible first | exact HB.out | apply below_alloc | apply pw_below_drewN | apply below_drew1) | exact HB.out))) : w.heap.size ≤ gb101)); have n3_ := Aside0.mk ((by rw [hg]; exact (below_size (by repeat (first | (with_reducible first | exact HB.out | apply below_alloc | apply pw_below_drewN | apply below_drew1) | exact HB.out))) : w.heap.size ≤ gb101)); clear HB; have HB := n0_; have BK101 := n1_; have GW101 := n2_; have GE101 := n3_; clear n0_ n1_ n2_ n3_; clear hb hbox hg; have hcz7_0 : w6.cell? ⟨gb101, 0, none⟩ = some (.string a0_0) := (blk_cell BK101.out 0).trans rfl; have hcz7_1 : w6.cell? ⟨gb101, 1, none⟩ = some (.string a0_1) := (blk_cell BK101.out 1).trans rfl; have hcz7_2 : w6.cell? ⟨gb101, 2, none⟩ = some (.slice A0_2 l0_2.length c0_2) := (blk_cell BK101.out 2).trans rfl; have hcz7_3 : w6.cell? ⟨gb101, 3, none⟩ = some (.string a0_3) := (blk_cell BK101.out 3).trans rfl; have hcz7_4 : w6.cell? ⟨gb101, 4, none⟩ = some (.int .u32 a0_4) := (blk_cell BK101.out 4).trans rfl; have hcz7_5 : w6.cell? ⟨gb101, 5, none⟩ = some (.int .i64 a0_5) := (blk_cell BK101.out 5).trans rfl; have hcz7_6 : w6.cell? ⟨gb101, 6, none⟩ = some (.int .u64 a0_6) := (blk_cell BK101.out 6).trans rfl; have hcz7_7 : w6.cell? ⟨gb101, 7, none⟩ = some (.int .u64 a0_7) := (blk_cell BK101.out 7).trans rfl; have hcz7_8 : w6.cell? ⟨gb101, 8, none⟩ = some (.bool a0_8) := (blk_cell BK101.out 8).trans rfl; have hcz7_9 : w6.cell? ⟨gb101, 9, none⟩ = some (.bool a0_9) := (blk_cell BK101.out 9).trans rfl; have hcz7_10 : w6.cell? ⟨gb101, 10, none⟩ = some (.bool a0_10) := (blk_cell BK101.out 10).trans rfl; have hcz7_11 : w6.cell? ⟨gb101, 11, none⟩ = some (.bool a0_11) := (blk_cell BK101.out 11).trans rfl; have hfz7_0 := blk_frozen BK101.out 0; have hfz7_1 := blk_frozen BK101.out 1; have hfz7_2 := blk_frozen BK101.out 2; have hfz7_3 := blk_frozen BK101.out 3; have hfz7_4 := blk_frozen BK101.out 4; have hfz7_5 := blk_frozen BK101.out 5; have hfz7_6 := blk_frozen BK101.out 6; have hfz7_7 := blk_frozen BK101.out 7; have hfz7_8 := blk_frozen BK101.out 8; have hfz7_9 := blk_frozen BK101.out 9; have hfz7_10 := blk_frozen BK101.out 10; have hfz7_11 := blk_frozen BK101.out 11))
      go_ret
      exact ⟨by first | rfl | (simp [errW_none, errW_some] <;> rfl) | (simp [*, errW_none, errW_some] <;> rfl), by repeat (first | (with_reducible first | exact HB.out | apply below_alloc | apply pw_below_drewN | apply below_drew1 | refine below_set ?_ GE101.out) | exact HB.out)⟩
    · rw [if_neg c5] at H
      have c5b0 : (a0_1.toList == a2.toList) = false := beq_eq_false_iff_ne.mpr c5
      have c5b1 : (a0_1.toList != a2.toList) = true := bne_iff_ne.mpr c5
      obtain rfl := Option.some.inj H
      go_enter Tryd.func8, Tryd.ntmps8
      go_wp2_with (first | ((with_reducible refine gate_dst (N := 3) rfl ?_); (try (refine gate_guard (by rfl) ?_; dsimp only)); refine box_event ?hg (N := 3) ?hd (cs := #[.string a0_0, .string a0_1, .slice A0_2 l0_2.length c0_2, .string a0_3, .int .u32 a0_4, .int .i64 a0_5, .int .u64 a0_6, .int .u64 a0_7, .bool a0_8, .bool a0_9, .bool a0_10, .bool a0_11]) (t := 27) ?hr ?_; (case hd => rfl); (case hg => rfl); (case hr => first | (go_simp; done) | (go_simp; rfl)); intro gb101 hg w8 hbox hb; have n0_ := Aside0.mk (below_step (by repeat (first | (with_reducible first | exact HB.out | apply below_alloc | apply pw_below_drewN | apply below_drew1) | exact HB.out)) hb); have n1_ := Aside0.mk (hbox); have n2_ := Aside0.mk ((by rw [hg]; exact (below_size (by repeat (first | (with_reducible first | exact HB.out | apply below_alloc | apply pw_below_drewN | apply below_drew1) | exact HB.out))) : w.heap.size ≤ gb101)); have n3_ := Aside0.mk ((by rw [hg]; exact (below_size (by repeat (first | (with_reducible first | exact HB.out | apply below_alloc | apply pw_below_drewN | apply below_drew1) | exact HB.out))) : w.heap.size ≤ gb101)); clear HB; have HB := n0_; have BK101 := n1_; have GW101 := n2_; have GE101 := n3_; clear n0_ n1_ n2_ n3_; clear hb hbox hg; have hcz9_0 : w8.cell? ⟨gb101, 0, none⟩ = some (.string a0_0) := (blk_cell BK101.out 0).trans rfl; have hcz9_1 : w8.cell? ⟨gb101, 1, none⟩ = some (.string a0_1) := (blk_cell BK101.out 1).trans rfl; have hcz9_2 : w8.cell? ⟨gb101, 2, none⟩ = some (.slice A0_2 l0_2.length c0_2) := (blk_cell BK101.out 2).trans rfl; have hcz9_3 : w8.cell? ⟨gb101, 3, none⟩ = some (.string a0_3) := (blk_cell BK101.out 3).trans rfl; have hcz9_4 : w8.cell? ⟨gb101, 4, none⟩ = some (.int .u32 a0_4) := (blk_cell BK101.out 4).trans rfl; have hcz9_5 : w8.cell? ⟨gb101, 5, none⟩ = some (.int .i64 a0_5) := (blk_cell BK101.out 5).trans rfl; have hcz9_6 : w8.cell? ⟨gb101, 6, none⟩ = some (.int .u64 a0_6) := (blk_cell BK101.out 6).trans rfl; have hcz9_7 : w8.cell? ⟨gb101, 7, none⟩ = some (.int .u64 a0_7) := (blk_cell BK101.out 7).trans rfl; have hcz9_8 : w8.cell? ⟨gb101, 8, none⟩ = some (.bool a0_8) := (blk_cell BK101.out 8).trans rfl; have hcz9_9 : w8.cell? ⟨gb101, 9, none⟩ = some (.bool a0_9) := (blk_cell BK101.out 9).trans rfl; have hcz9_10 : w8.cell? ⟨gb101, 10, none⟩ = some (.bool a0_10) := (blk_cell BK101.out 10).trans rfl; have hcz9_11 : w8.cell? ⟨gb101, 11, none⟩ = some (.bool a0_11) := (blk_cell BK101.out 11).trans rfl; have hfz9_0 := blk_frozen BK101.out 0; have hfz9_1 := blk_frozen BK101.out 1; have hfz9_2 := blk_frozen BK101.out 2; have hfz9_3 := blk_frozen BK101.out 3; have hfz9_4 := blk_frozen BK101.out 4; have hfz9_5 := blk_frozen BK101.out 5; have hfz9_6 := blk_frozen BK101.out 6; have hfz9_7 := blk_frozen BK101.out 7; have hfz9_8 := blk_frozen BK101.out 8; have hfz9_9 := blk_frozen BK101.out 9; have hfz9_10 := blk_frozen BK101.out 10; have hfz9_11 := blk_frozen BK101.out 11))
      go_ret
      exact ⟨by first | rfl | (simp [errW_none, errW_some] <;> rfl) | (simp [*, errW_none, errW_some] <;> rfl), by repeat (first | (with_reducible first | exact HB.out | apply below_alloc | apply pw_below_drewN | apply below_drew1 | refine below_set ?_ GE101.out) | exact HB.out)⟩
  · rw [if_neg c4] at H
    have c4b0 : (a0_0.toList == a1.toList) = false := beq_eq_false_iff_ne.mpr c4
    have c4b1 : (a0_0.toList != a1.toList) = true := bne_iff_ne.mpr c4
    obtain rfl := Option.some.inj H
    go_enter Tryd.func8, Tryd.ntmps8
    go_wp2_with (first | ((with_reducible refine gate_dst (N := 3) rfl ?_); (try (refine gate_guard (by rfl) ?_; dsimp only)); refine box_event ?hg (N := 3) ?hd (cs := #[.string a0_0, .string a0_1, .slice A0_2 l0_2.length c0_2, .string a0_3, .int .u32 a0_4, .int .i64 a0_5, .int .u64 a0_6, .int .u64 a0_7, .bool a0_8, .bool a0_9, .bool a0_10, .bool a0_11]) (t := 27) ?hr ?_; (case hd => rfl); (case hg => rfl); (case hr => first | (go_simp; done) | (go_simp; rfl)); intro gb101 hg w10 hbox hb; have n0_ := Aside0.mk (below_step (by repeat (first | (with_reducible first | exact HB.out | apply below_alloc | apply pw_below_drewN | apply below_drew1) | exact HB.out)) hb); have n1_ := Aside0.mk (hbox); have n2_ := Aside0.mk ((by rw [hg]; exact (below_size (by repeat (first | (with_reducible first | exact HB.out | apply below_alloc | apply pw_below_drewN | apply below_drew1) | exact HB.out))) : w.heap.size ≤ gb101)); have n3_ := Aside0.mk ((by rw [hg]; exact (below_size (by repeat (first | (with_reducible first | exact HB.out | apply below_alloc | apply pw_below_drewN | apply below_drew1) | exact HB.out))) : w.heap.size ≤ gb101)); clear HB; have HB := n0_; have BK101 := n1_; have GW101 := n2_; have GE101 := n3_; clear n0_ n1_ n2_ n3_; clear hb hbox hg; have hcz11_0 : w10.cell? ⟨gb101, 0, none⟩ = some (.string a0_0) := (blk_cell BK101.out 0).trans rfl; have hcz11_1 : w10.cell? ⟨gb101, 1, none⟩ = some (.string a0_1) := (blk_cell BK101.out 1).trans rfl; have hcz11_2 : w10.cell? ⟨gb101, 2, none⟩ = some (.slice A0_2 l0_2.length c0_2) := (blk_cell BK101.out 2).trans rfl; have hcz11_3 : w10.cell? ⟨gb101, 3, none⟩ = some (.string a0_3) := (blk_cell BK101.out 3).trans rfl; have hcz11_4 : w10.cell? ⟨gb101, 4, none⟩ = some (.int .u32 a0_4) := (blk_cell BK101.out 4).trans rfl; have hcz11_5 : w10.cell? ⟨gb101, 5, none⟩ = some (.int .i64 a0_5) := (blk_cell BK101.out 5).trans rfl; have hcz11_6 : w10.cell? ⟨gb101, 6, none⟩ = some (.int .u64 a0_6) := (blk_cell BK101.out 6).trans rfl; have hcz11_7 : w10.cell? ⟨gb101, 7, none⟩ = some (.int .u64 a0_7) := (blk_cell BK101.out 7).trans rfl; have hcz11_8 : w10.cell? ⟨gb101, 8, none⟩ = some (.bool a0_8) := (blk_cell BK101.out 8).trans rfl; have hcz11_9 : w10.cell? ⟨gb101, 9, none⟩ = some (.bool a0_9) := (blk_cell BK101.out 9).trans rfl; have hcz11_10 : w10.cell? ⟨gb101, 10, none⟩ = some (.bool a0_10) := (blk_cell BK101.out 10).trans rfl; have hcz11_11 : w10.cell? ⟨gb101, 11, none⟩ = some (.bool a0_11) := (blk_cell BK101.out 11).trans rfl; have hfz11_0 := blk_frozen BK101.out 0; have hfz11_1 := blk_frozen BK101.out 1; have hfz11_2 := blk_frozen BK101.out 2; have hfz11_3 := blk_frozen BK101.out 3; have hfz11_4 := blk_frozen BK101.out 4; have hfz11_5 := blk_frozen BK101.out 5; have hfz11_6 := blk_frozen BK101.out 6; have hfz11_7 := blk_frozen BK101.out 7; have hfz11_8 := blk_frozen BK101.out 8; have hfz11_9 := blk_frozen BK101.out 9; have hfz11_10 := blk_frozen BK101.out 10; have hfz11_11 := blk_frozen BK101.out 11))
    go_ret
    exact ⟨by first | rfl | (simp [errW_none, errW_some] <;> rfl) | (simp [*, errW_none, errW_some] <;> rfl), by repeat (first | (with_reducible first | exact HB.out | apply below_alloc | apply pw_below_drewN | apply below_drew1 | refine below_set ?_ GE101.out) | exact HB.out)⟩

end Go.Proofs.YtfbhlbchmenloaaDoor.H
end
section
namespace Go.Proofs.YtfbhlbchmenloaaDoor.H
open Go.RowKit Go.Proofs.YtfbhlbchmenloaaDoorW.PrintWords Go.Proofs.YtfbhlbchmenloaaDoorW.PrintLast Go.Proofs.YtfbhlbchmenloaaDoorW.PrintMore
attribute [local go_sem] max2_int min2_int max_two min_two max_three min_three max_four min_four   -- for this text's walks alone
set_option linter.unusedVariables false
set_option linter.unusedSimpArgs false

/-! ### cellaretref17_SameCmd: function 9 -/
def cellaretref17_SameCmd.l0 : Nat → Int → ByteArray → ByteArray → List ByteArray → ByteArray → Int → Int → Int → Int → Bool → Bool → Bool → Bool → ByteArray → ByteArray → List ByteArray → ByteArray → Int → Int → Int → Int → Bool → Bool → Bool → Bool → Option (Bool)
  | 0, _, _, _, _, _, _, _, _, _, _, _, _, _, _, _, _, _, _, _, _, _, _, _, _, _ => none
  | k + 1, x5, x103000, x103001, x103002, x103003, x103004, x103005, x103006, x103007, x103008, x103009, x103010, x103011, x104000, x104001, x104002, x104003, x104004, x104005, x104006, x104007, x104008, x104009, x104010, x104011 => if x5 < (x103002.length : Int) then (if 0 ≤ x5 then (if x5 < (x104002.length : Int) then (if (rdOf ByteArray.empty x103002 x5).toList = (rdOf ByteArray.empty x104002 x5).toList then (cellaretref17_SameCmd.l0 k (wrap64 (x5 + 1)) x103000 x103001 x103002 x103003 x103004 x103005 x103006 x103007 x103008 x103009 x103010 x103011 x104000 x104001 x104002 x104003 x104004 x104005 x104006 x104007 x104008 x104009 x104010 x104011) else (some false)) else (none)) else (none)) else (if x103000.toList = x104000.toList then (if x103001.toList = x104001.toList then (if x103003.toList = x104003.toList then (if x103004 = x104004 then (if x103005 = x104005 then (if x103006 = x104006 then (if x103007 = x104007 then (if (x103008 == x104008) = true then (if (x103009 == x104009) = true then (if (x103010 == x104010) = true then (some (x103011 == x104011)) else (some false)) else (some false)) else (some false)) else (some false)) else (some false)) else (some false)) else (some false)) else (some false)) else (some false)) else (some false))
def cellaretref17_SameCmd.f (k : Nat) (a0_0 : ByteArray) (a0_1 : ByteArray) (l0_2 : List ByteArray) (a0_3 : ByteArray) (a0_4 : Int) (a0_5 : Int) (a0_6 : Int) (a0_7 : Int) (a0_8 : Bool) (a0_9 : Bool) (a0_10 : Bool) (a0_11 : Bool) (a1_0 : ByteArray) (a1_1 : ByteArray) (l1_2 : List ByteArray) (a1_3 : ByteArray) (a1_4 : Int) (a1_5 : Int) (a1_6 : Int) (a1_7 : Int) (a1_8 : Bool) (a1_9 : Bool) (a1_10 : Bool) (a1_11 : Bool) : Option (Bool) := if (l0_2.length : Int) = (l1_2.length : Int) then (cellaretref17_SameCmd.l0 k 0 a0_0 a0_1 l0_2 a0_3 a0_4 a0_5 a0_6 a0_7 a0_8 a0_9 a0_10 a0_11 a1_0 a1_1 l1_2 a1_3 a1_4 a1_5 a1_6 a1_7 a1_8 a1_9 a1_10 a1_11) else (some false)
theorem cellaretref17_SameCmd.mono_l : ∀ k, (∀ y0 y1 y2 y3 y4 y5 y6 y7 y8 y9 y10 y11 y12 y13 y14 y15 y16 y17 y18 y19 y20 y21 y22 y23 y24, LeO (cellaretref17_SameCmd.l0 k y0 y1 y2 y3 y4 y5 y6 y7 y8 y9 y10 y11 y12 y13 y14 y15 y16 y17 y18 y19 y20 y21 y22 y23 y24) (cellaretref17_SameCmd.l0 (k + 1) y0 y1 y2 y3 y4 y5 y6 y7 y8 y9 y10 y11 y12 y13 y14 y15 y16 y17 y18 y19 y20 y21 y22 y23 y24))
  | 0 => fun _ _ _ _ _ _ _ _ _ _ _ _ _ _ _ _ _ _ _ _ _ _ _ _ _ r h => by simp [cellaretref17_SameCmd.l0] at h
  | k + 1 => by
    have ih0 := cellaretref17_SameCmd.mono_l k
    · intro y0 y1 y2 y3 y4 y5 y6 y7 y8 y9 y10 y11 y12 y13 y14 y15 y16 y17 y18 y19 y20 y21 y22 y23 y24
      unfold cellaretref17_SameCmd.l0
      repeat' first
      | (with_reducible exact ih0 _ _ _ _ _ _ _ _ _ _ _ _ _ _ _ _ _ _ _ _ _ _ _ _ _)
      | (with_reducible exact LeO.refl _)
      | (with_reducible exact LeO.none _)
      | (with_reducible refine LeO.ite ?_ ?_)
      | (with_reducible refine LeO.bind ?_ (fun _ => ?_))
      | exact ih0 _ _ _ _ _ _ _ _ _ _ _ _ _ _ _ _ _ _ _ _ _ _ _ _ _
      | exact LeO.none _
      | refine LeO.ite ?_ ?_
      | refine LeO.bind ?_ (fun _ => ?_)
theorem cellaretref17_SameCmd.mono : ∀ a0 a1 a2 a3 a4 a5 a6 a7 a8 a9 a10 a11 a12 a13 a14 a15 a16 a17 a18 a19 a20 a21 a22 a23 k, LeO (cellaretref17_SameCmd.f k a0 a1 a2 a3 a4 a5 a6 a7 a8 a9 a10 a11 a12 a13 a14 a15 a16 a17 a18 a19 a20 a21 a22 a23) (cellaretref17_SameCmd.f (k + 1) a0 a1 a2 a3 a4 a5 a6 a7 a8 a9 a10 a11 a12 a13 a14 a15 a16 a17 a18 a19 a20 a21 a22 a23) := by
  intro a0 a1 a2 a3 a4 a5 a6 a7 a8 a9 a10 a11 a12 a13 a14 a15 a16 a17 a18 a19 a20 a21 a22 a23 k
  have ih0 := cellaretref17_SameCmd.mono_l k
  unfold cellaretref17_SameCmd.f
  repeat' first
      | (with_reducible exact ih0 _ _ _ _ _ _ _ _ _ _ _ _ _ _ _ _ _ _ _ _ _ _ _ _ _)
      | (with_reducible exact LeO.refl _)
      | (with_reducible exact LeO.none _)
      | (with_reducible refine LeO.ite ?_ ?_)
      | (with_reducible refine LeO.bind ?_ (fun _ => ?_))
      | exact ih0 _ _ _ _ _ _ _ _ _ _ _ _ _ _ _ _ _ _ _ _ _ _ _ _ _
      | exact LeO.none _
      | refine LeO.ite ?_ ?_
      | refine LeO.bind ?_ (fun _ => ?_)
theorem bBhy3 {B : Nat} {w W : World} (h : Below B w W := by repeat (first | (with_reducible first | exact HB.out | apply wA | apply wN | apply wD | refine below_set ?_ qF.out | refine below_set ?_ qH.out) | exact HB.out)) : Below B w W := h
set_option maxHeartbeats 8000000 in
set_option maxRecDepth 100000 in
theorem cellaretref17_SameCmd.calls (k : Nat) (a0_0 : ByteArray) (a0_1 : ByteArray) (A0_2 : Option Addr) (c0_2 : Nat) (l0_2 : List ByteArray) (a0_3 : ByteArray) (a0_4 : Int) (a0_5 : Int) (a0_6 : Int) (a0_7 : Int) (a0_8 : Bool) (a0_9 : Bool) (a0_10 : Bool) (a0_11 : Bool) (a1_0 : ByteArray) (a1_1 : ByteArray) (A1_2 : Option Addr) (c1_2 : Nat) (l1_2 : List ByteArray) (a1_3 : ByteArray) (a1_4 : Int) (a1_5 : Int) (a1_6 : Int) (a1_7 : Int) (a1_8 : Bool) (a1_9 : Bool) (a1_10 : Bool) (a1_11 : Bool) (r : Bool) (w : World) (hr0_2 : Kd.C Kd.string w A0_2 l0_2.length l0_2) (hc0_2 : l0_2.length ≤ c0_2) (hr1_2 : Kd.C Kd.string w A1_2 l1_2.length l1_2) (hc1_2 : l1_2.length ≤ c1_2) (h : cellaretref17_SameCmd.f k a0_0 a0_1 l0_2 a0_3 a0_4 a0_5 a0_6 a0_7 a0_8 a0_9 a0_10 a0_11 a1_0 a1_1 l1_2 a1_3 a1_4 a1_5 a1_6 a1_7 a1_8 a1_9 a1_10 a1_11 = some r) :
  Calls Tryd.prog 9 #[.agg #[.string a0_0, .string a0_1, .slice A0_2 l0_2.length c0_2, .string a0_3, .int .u32 a0_4, .int .i64 a0_5, .int .u64 a0_6, .int .u64 a0_7, .bool a0_8, .bool a0_9, .bool a0_10, .bool a0_11], .agg #[.string a1_0, .string a1_1, .slice A1_2 l1_2.length c1_2, .string a1_3, .int .u32 a1_4, .int .i64 a1_5, .int .u64 a1_6, .int .u64 a1_7, .bool a1_8, .bool a1_9, .bool a1_10, .bool a1_11]] w fun e w' => e = .returned (.bool r) ∧ Below w.heap.size w w' := by
 have hu32 := Tryd.underlying32
 have HR0_2 := M0 hr0_2
 have HC0_2 := M0 hc0_2
 clear hr0_2 hc0_2
 have HR1_2 := M0 hr1_2
 have HC1_2 := M0 hc1_2
 clear hr1_2 hc1_2
 have HB := M0 (Below.refl w.heap.size w)
 have H : (if (l0_2.length : Int) = (l1_2.length : Int) then (cellaretref17_SameCmd.l0 k 0 a0_0 a0_1 l0_2 a0_3 a0_4 a0_5 a0_6 a0_7 a0_8 a0_9 a0_10 a0_11 a1_0 a1_1 l1_2 a1_3 a1_4 a1_5 a1_6 a1_7 a1_8 a1_9 a1_10 a1_11) else (some false)) = some r := h
 clear h
 by_cases c3 : (l0_2.length : Int) = (l1_2.length : Int)
 ·rw [if_pos c3] at H
  have c3b0 : ((l0_2.length : Int) == (l1_2.length : Int)) = true := beq_iff_eq.mpr c3
  have c3b1 : ((l0_2.length : Int) != (l1_2.length : Int)) = false := bne_eq_false_iff_eq.mpr c3
  have c3b2 : (l0_2.length == l1_2.length) = true := by first | simpa using c3 | (simp at c3 ⊢; omega)
  clear c3
  have H' := M0 H
  clear H
  go_enter Tryd.func9, Tryd.ntmps9
  go_wp2_with (first | ((with_reducible refine gate_dst (N := 2) rfl ?_); refine box_event ?hg (N := 2) ?hd (cs := #[.string a0_0, .string a0_1, .slice A0_2 l0_2.length c0_2, .string a0_3, .int .u32 a0_4, .int .i64 a0_5, .int .u64 a0_6, .int .u64 a0_7, .bool a0_8, .bool a0_9, .bool a0_10, .bool a0_11]) (t := 32) ?hr ?_; (case hd => rfl); (case hg => rfl); (case hr => first | (go_simp; done) | (go_simp; rfl)); intro qB hg w4 hbox hb; have n0_ := M0 (below_step bBhy3 hb); have n1_ := M0 (hbox); have n2_ := M0 ((by rw [hg]; exact (below_size bBhy3) : w.heap.size ≤ qB)); have n3_ := M0 ((by rw [hg]; exact (below_size bBhy3) : w.heap.size ≤ qB)); clear HB; have HB := n0_; have qA := n1_; have GW102 := n2_; have qF := n3_; clear n0_ n1_ n2_ n3_; clear hb hbox hg) | ((with_reducible refine gate_dst (N := 3) rfl ?_); refine box_event ?hg (N := 3) ?hd (cs := #[.string a1_0, .string a1_1, .slice A1_2 l1_2.length c1_2, .string a1_3, .int .u32 a1_4, .int .i64 a1_5, .int .u64 a1_6, .int .u64 a1_7, .bool a1_8, .bool a1_9, .bool a1_10, .bool a1_11]) (t := 32) ?hr ?_; (case hd => rfl); (case hg => rfl); (case hr => first | (go_simp; done) | (go_simp; rfl)); intro qG hg w5 hbox hb; have n0_ := M0 (blk_below (g := qB) (o := .cells #[.string a0_0, .string a0_1, .slice A0_2 l0_2.length c0_2, .string a0_3, .int .u32 a0_4, .int .i64 a0_5, .int .u64 a0_6, .int .u64 a0_7, .bool a0_8, .bool a0_9, .bool a0_10, .bool a0_11] 32 (0, 0)) (by (with_reducible repeat (first | refine bN ?_ _ | refine bD ?_ | refine bA ?_ _)); exact qA.out) hb); have n1_ := M0 (below_step bBhy3 hb); have n2_ := M0 (hbox); have n3_ := M0 ((by rw [hg]; exact (below_size bBhy3) : w.heap.size ≤ qG)); have n4_ := M0 ((by rw [hg]; exact (below_size bBhy3) : w.heap.size ≤ qG)); have n5_ := M0 ((by rw [hg]; exact Nat.ne_of_lt (blk_lt (g := qB) (o := .cells #[.string a0_0, .string a0_1, .slice A0_2 l0_2.length c0_2, .string a0_3, .int .u32 a0_4, .int .i64 a0_5, .int .u64 a0_6, .int .u64 a0_7, .bool a0_8, .bool a0_9, .bool a0_10, .bool a0_11] 32 (0, 0)) (by (with_reducible repeat (first | refine bN ?_ _ | refine bD ?_ | refine bA ?_ _)); exact qA.out)) : qB ≠ qG)); have n6_ := M0 ((by rw [hg]; exact Nat.ne_of_gt (blk_lt (g := qB) (o := .cells #[.string a0_0, .string a0_1, .slice A0_2 l0_2.length c0_2, .string a0_3, .int .u32 a0_4, .int .i64 a0_5, .int .u64 a0_6, .int .u64 a0_7, .bool a0_8, .bool a0_9, .bool a0_10, .bool a0_11] 32 (0, 0)) (by (with_reducible repeat (first | refine bN ?_ _ | refine bD ?_ | refine bA ?_ _)); exact qA.out)) : qG ≠ qB)); clear qA; clear HB; have qA := n0_; have HB := n1_; have qC := n2_; have GW103 := n3_; have qH := n4_; have qD := n5_; have qE := n6_; clear n0_ n1_ n2_ n3_ n4_ n5_ n6_; clear hb hbox hg; have qBE := qD.out; have qBF := qE.out; obtain ⟨qS, qT, qU, qV, qW, qX, qY, qZ, qa, qb, qK, qL⟩ := celL qA.out; obtain ⟨qc, qd, qe, qf, qg, qh, qi, qj, qk, ql, qM, qN⟩ := froZ qA.out; obtain ⟨qm, qn, qo, qp, qq, qr, qs, qt, qu, qv, qO, qP⟩ := celL qC.out; obtain ⟨qw, qx, qy, qz, qAA, qAB, qAC, qAD, qAE, qAF, qQ, qR⟩ := froZ qC.out))
  repeat (go_quiet (first | ((with_reducible refine gate_dst (N := 2) rfl ?_); refine box_event ?hg (N := 2) ?hd (cs := #[.string a0_0, .string a0_1, .slice A0_2 l0_2.length c0_2, .string a0_3, .int .u32 a0_4, .int .i64 a0_5, .int .u64 a0_6, .int .u64 a0_7, .bool a0_8, .bool a0_9, .bool a0_10, .bool a0_11]) (t := 32) ?hr ?_; (case hd => rfl); (case hg => rfl); (case hr => first | (go_simp; done) | (go_simp; rfl)); intro qB hg w4 hbox hb; have n0_ := M0 (below_step bBhy3 hb); have n1_ := M0 (hbox); have n2_ := M0 ((by rw [hg]; exact (below_size bBhy3) : w.heap.size ≤ qB)); have n3_ := M0 ((by rw [hg]; exact (below_size bBhy3) : w.heap.size ≤ qB)); clear HB; have HB := n0_; have qA := n1_; have GW102 := n2_; have qF := n3_; clear n0_ n1_ n2_ n3_; clear hb hbox hg) | ((with_reducible refine gate_dst (N := 3) rfl ?_); refine box_event ?hg (N := 3) ?hd (cs := #[.string a1_0, .string a1_1, .slice A1_2 l1_2.length c1_2, .string a1_3, .int .u32 a1_4, .int .i64 a1_5, .int .u64 a1_6, .int .u64 a1_7, .bool a1_8, .bool a1_9, .bool a1_10, .bool a1_11]) (t := 32) ?hr ?_; (case hd => rfl); (case hg => rfl); (case hr => first | (go_simp; done) | (go_simp; rfl)); intro qG hg w5 hbox hb; have n0_ := M0 (blk_below (g := qB) (o := .cells #[.string a0_0, .string a0_1, .slice A0_2 l0_2.length c0_2, .string a0_3, .int .u32 a0_4, .int .i64 a0_5, .int .u64 a0_6, .int .u64 a0_7, .bool a0_8, .bool a0_9, .bool a0_10, .bool a0_11] 32 (0, 0)) (by (with_reducible repeat (first | refine bN ?_ _ | refine bD ?_ | refine bA ?_ _)); exact qA.out) hb); have n1_ := M0 (below_step bBhy3 hb); have n2_ := M0 (hbox); have n3_ := M0 ((by rw [hg]; exact (below_size bBhy3) : w.heap.size ≤ qG)); have n4_ := M0 ((by rw [hg]; exact (below_size bBhy3) : w.heap.size ≤ qG)); have n5_ := M0 ((by rw [hg]; exact Nat.ne_of_lt (blk_lt (g := qB) (o := .cells #[.string a0_0, .string a0_1, .slice A0_2 l0_2.length c0_2, .string a0_3, .int .u32 a0_4, .int .i64 a0_5, .int .u64 a0_6, .int .u64 a0_7, .bool a0_8, .bool a0_9, .bool a0_10, .bool a0_11] 32 (0, 0)) (by (with_reducible repeat (first | refine bN ?_ _ | refine bD ?_ | refine bA ?_ _)); exact qA.out)) : qB ≠ qG)); have n6_ := M0 ((by rw [hg]; exact Nat.ne_of_gt (blk_lt (g := qB) (o := .cells #[.string a0_0, .string a0_1, .slice A0_2 l0_2.length c0_2, .string a0_3, .int .u32 a0_4, .int .i64 a0_5, .int .u64 a0_6, .int .u64 a0_7, .bool a0_8, .bool a0_9, .bool a0_10, .bool a0_11] 32 (0, 0)) (by (with_reducible repeat (first | refine bN ?_ _ | refine bD ?_ | refine bA ?_ _)); exact qA.out)) : qG ≠ qB)); clear qA; clear HB; have qA := n0_; have HB := n1_; have qC := n2_; have GW103 := n3_; have qH := n4_; have qD := n5_; have qE := n6_; clear n0_ n1_ n2_ n3_ n4_ n5_ n6_; clear hb hbox hg; have qBE := qD.out; have qBF := qE.out; obtain ⟨qS, qT, qU, qV, qW, qX, qY, qZ, qa, qb, qK, qL⟩ := celL qA.out; obtain ⟨qc, qd, qe, qf, qg, qh, qi, qj, qk, ql, qM, qN⟩ := froZ qA.out; obtain ⟨qm, qn, qo, qp, qq, qr, qs, qt, qu, qv, qO, qP⟩ := celL qC.out; obtain ⟨qw, qx, qy, qz, qAA, qAB, qAC, qAD, qAE, qAF, qQ, qR⟩ := froZ qC.out)); try go_wp2_with (first | ((with_reducible refine gate_dst (N := 2) rfl ?_); refine box_event ?hg (N := 2) ?hd (cs := #[.string a0_0, .string a0_1, .slice A0_2 l0_2.length c0_2, .string a0_3, .int .u32 a0_4, .int .i64 a0_5, .int .u64 a0_6, .int .u64 a0_7, .bool a0_8, .bool a0_9, .bool a0_10, .bool a0_11]) (t := 32) ?hr ?_; (case hd => rfl); (case hg => rfl); (case hr => first | (go_simp; done) | (go_simp; rfl)); intro qB hg w4 hbox hb; have n0_ := M0 (below_step bBhy3 hb); have n1_ := M0 (hbox); have n2_ := M0 ((by rw [hg]; exact (below_size bBhy3) : w.heap.size ≤ qB)); have n3_ := M0 ((by rw [hg]; exact (below_size bBhy3) : w.heap.size ≤ qB)); clear HB; have HB := n0_; have qA := n1_; have GW102 := n2_; have qF := n3_; clear n0_ n1_ n2_ n3_; clear hb hbox hg) | ((with_reducible refine gate_dst (N := 3) rfl ?_); refine box_event ?hg (N := 3) ?hd (cs := #[.string a1_0, .string a1_1, .slice A1_2 l1_2.length c1_2, .string a1_3, .int .u32 a1_4, .int .i64 a1_5, .int .u64 a1_6, .int .u64 a1_7, .bool a1_8, .bool a1_9, .bool a1_10, .bool a1_11]) (t := 32) ?hr ?_; (case hd => rfl); (case hg => rfl); (case hr => first | (go_simp; done) | (go_simp; rfl)); intro qG hg w5 hbox hb; have n0_ := M0 (blk_below (g := qB) (o := .cells #[.string a0_0, .string a0_1, .slice A0_2 l0_2.length c0_2, .string a0_3, .int .u32 a0_4, .int .i64 a0_5, .int .u64 a0_6, .int .u64 a0_7, .bool a0_8, .bool a0_9, .bool a0_10, .bool a0_11] 32 (0, 0)) (by (with_reducible repeat (first | refine bN ?_ _ | refine bD ?_ | refine bA ?_ _)); exact qA.out) hb); have n1_ := M0 (below_step bBhy3 hb); have n2_ := M0 (hbox); have n3_ := M0 ((by rw [hg]; exact (below_size bBhy3) : w.heap.size ≤ qG)); have n4_ := M0 ((by rw [hg]; exact (below_size bBhy3) : w.heap.size ≤ qG)); have n5_ := M0 ((by rw [hg]; exact Nat.ne_of_lt (blk_lt (g := qB) (o := .cells #[.string a0_0, .string a0_1, .slice A0_2 l0_2.length c0_2, .string a0_3, .int .u32 a0_4, .int .i64 a0_5, .int .u64 a0_6, .int .u64 a0_7, .bool a0_8, .bool a0_9, .bool a0_10, .bool a0_11] 32 (0, 0)) (by (with_reducible repeat (first | refine bN ?_ _ | refine bD ?_ | refine bA ?_ _)); exact qA.out)) : qB ≠ qG)); have n6_ := M0 ((by rw [hg]; exact Nat.ne_of_gt (blk_lt (g := qB) (o := .cells #[.string a0_0, .string a0_1, .slice A0_2 l0_2.length c0_2, .string a0_3, .int .u32 a0_4, .int .i64 a0_5, .int .u64 a0_6, .int .u64 a0_7, .bool a0_8, .bool a0_9, .bool a0_10, .bool a0_11] 32 (0, 0)) (by (with_reducible repeat (first | refine bN ?_ _ | refine bD ?_ | refine bA ?_ _)); exact qA.out)) : qG ≠ qB)); clear qA; clear HB; have qA := n0_; have HB := n1_; have qC := n2_; have GW103 := n3_; have qH := n4_; have qD := n5_; have qE := n6_; clear n0_ n1_ n2_ n3_ n4_ n5_ n6_; clear hb hbox hg; have qBE := qD.out; have qBF := qE.out; obtain ⟨qS, qT, qU, qV, qW, qX, qY, qZ, qa, qb, qK, qL⟩ := celL qA.out; obtain ⟨qc, qd, qe, qf, qg, qh, qi, qj, qk, ql, qM, qN⟩ := froZ qA.out; obtain ⟨qm, qn, qo, qp, qq, qr, qs, qt, qu, qv, qO, qP⟩ := celL qC.out; obtain ⟨qw, qx, qy, qz, qAA, qAB, qAC, qAD, qAE, qAF, qQ, qR⟩ := froZ qC.out)))
  go_loopg [5] k (fun kq v5 w' => ∃ (x5_1 : Int), v5 = .int .i64 x5_1 ∧ Aside0 (cellaretref17_SameCmd.l0 kq x5_1 a0_0 a0_1 l0_2 a0_3 a0_4 a0_5 a0_6 a0_7 a0_8 a0_9 a0_10 a0_11 a1_0 a1_1 l1_2 a1_3 a1_4 a1_5 a1_6 a1_7 a1_8 a1_9 a1_10 a1_11 = some r) ∧ Aside0 (kq ≤ k) ∧ Aside0 (w'.heap[qB]? = some (.cells #[.string a0_0, .string a0_1, (.slice A0_2 l0_2.length c0_2), .string a0_3, .int .u32 a0_4, .int .i64 a0_5, .int .u64 a0_6, .int .u64 a0_7, .bool a0_8, .bool a0_9, .bool a0_10, .bool a0_11] 32 (0, 0))) ∧ Aside0 (w'.heap[qG]? = some (.cells #[.string a1_0, .string a1_1, (.slice A1_2 l1_2.length c1_2), .string a1_3, .int .u32 a1_4, .int .i64 a1_5, .int .u64 a1_6, .int .u64 a1_7, .bool a1_8, .bool a1_9, .bool a1_10, .bool a1_11] 32 (0, 0))) ∧ Aside0 (Below w.heap.size w w'))
  case atStart => exact ⟨(0), (by first | rfl | (simp; done) | (simp [*]; done)), H', ⟨Nat.le_refl _⟩, ⟨by (with_reducible repeat (first | refine bN ?_ _ | refine bD ?_ | refine bA ?_ _)); exact qA.out⟩, ⟨by (with_reducible repeat (first | refine bN ?_ _ | refine bD ?_ | refine bA ?_ _)); exact qC.out⟩, ⟨bBhy3⟩⟩
  case round =>
   clear H'
   try clear c1
   try clear p2
   try clear c3
   try clear c3b0
   try clear c3b1
   try clear c3b2
   try clear c6
   try clear qS
   try clear qT
   try clear qK
   try clear qL
   try clear qU
   try clear qV
   try clear qW
   try clear qX
   try clear qY
   try clear qZ
   try clear qa
   try clear qb
   try clear qm
   try clear qn
   try clear qO
   try clear qP
   try clear qo
   try clear qp
   try clear qq
   try clear qr
   try clear qs
   try clear qt
   try clear qu
   try clear qv
   try clear qc
   try clear qd
   try clear qM
   try clear qN
   try clear qe
   try clear qf
   try clear qg
   try clear qh
   try clear qi
   try clear qj
   try clear qk
   try clear ql
   try clear qw
   try clear qx
   try clear qQ
   try clear qR
   try clear qy
   try clear qz
   try clear qAA
   try clear qAB
   try clear qAC
   try clear qAD
   try clear qAE
   try clear qAF
   obtain ⟨x5_1, rfl, HA, HK1, qA, qC, HB⟩ := hrel
   cases gk with
   | zero => exact absurd HA.out (by simp [cellaretref17_SameCmd.l0])
   | succ k1 =>
    have H := HA.out
    clear HA
    simp only [cellaretref17_SameCmd.l0] at H
    by_cases c9 : x5_1 < (l0_2.length : Int)
    ·rw [if_pos c9] at H
     have c9b0 : decide (x5_1 < (l0_2.length : Int)) = true := decide_eq_true c9
     clear c9
     by_cases c10 : 0 ≤ x5_1
     ·rw [if_pos c10] at H
      have c10b0 : decide (0 ≤ x5_1) = true := decide_eq_true c10
      clear c10
      by_cases c11 : x5_1 < (l1_2.length : Int)
      ·rw [if_pos c11] at H
       have c11b0 : decide (x5_1 < (l1_2.length : Int)) = true := decide_eq_true c11
       clear c11
       by_cases c12 : (rdOf ByteArray.empty l0_2 x5_1).toList = (rdOf ByteArray.empty l1_2 x5_1).toList
       ·rw [if_pos c12] at H
        have c12b0 : ((rdOf ByteArray.empty l0_2 x5_1).toList == (rdOf ByteArray.empty l1_2 x5_1).toList) = true := beq_iff_eq.mpr c12
        have c12b1 : ((rdOf ByteArray.empty l0_2 x5_1).toList != (rdOf ByteArray.empty l1_2 x5_1).toList) = false := bne_eq_false_iff_eq.mpr c12
        clear c12
        have H' := M0 H
        clear H
        have qNI := qD.out
        have qNJ := qE.out
        obtain ⟨qDI, qDJ, qDK, qDL, qDM, qDN, qDO, qDP, qDQ, qDR, qBI, qBJ⟩ := celL qA.out
        obtain ⟨qDS, qDT, qDU, qDV, qDW, qDX, qDY, qDZ, qDa, qDb, qBK, qBL⟩ := froZ qA.out
        have p104 : 0 ≤ (x5_1 : Int) := of_decide_eq_true (by first | (with_reducible assumption) | assumption)
        have q104 : x5_1 < (l0_2.length : Int) := of_decide_eq_true (by first | (with_reducible assumption) | assumption)
        obtain ⟨qBG, e104, qI⟩ := Kd.at_string HR0_2.out x5_1 p104 q104
        cases e104
        replace qI := (HB.out.cell (World.block_lt_of_cell? w _ qI)).trans qI
        replace p104 := eq_true p104
        replace q104 := eq_true q104
        obtain ⟨qDc, qDd, qDe, qDf, qDg, qDh, qDi, qDj, qDk, qDl, qBM, qBN⟩ := celL qC.out
        obtain ⟨qDm, qDn, qDo, qDp, qDq, qDr, qDs, qDt, qDu, qDv, qBO, qBP⟩ := froZ qC.out
        have p105 : 0 ≤ (x5_1 : Int) := of_decide_eq_true (by first | (with_reducible assumption) | assumption)
        have q105 : x5_1 < (l1_2.length : Int) := of_decide_eq_true (by first | (with_reducible assumption) | assumption)
        obtain ⟨qBH, e105, qJ⟩ := Kd.at_string HR1_2.out x5_1 p105 q105
        cases e105
        replace qJ := (HB.out.cell (World.block_lt_of_cell? w _ qJ)).trans qJ
        replace p105 := eq_true p105
        replace q105 := eq_true q105
        go_wp2
        repeat (go_quiet (fail); try go_wp2)
        go_roundg k1
        case measure => have := HK1.out; omega
        case rel => exact ⟨(wrap64 (x5_1 + 1)), (by first | rfl | (simp; done) | (simp [*]; done)), H', ⟨by have := HK1.out; omega⟩, ⟨by (with_reducible repeat (first | refine bN ?_ _ | refine bD ?_ | refine bA ?_ _)); exact qA.out⟩, ⟨by (with_reducible repeat (first | refine bN ?_ _ | refine bD ?_ | refine bA ?_ _)); exact qC.out⟩, ⟨bBhy3⟩⟩
       ·rw [if_neg c12] at H
        have c12b0 : ((rdOf ByteArray.empty l0_2 x5_1).toList == (rdOf ByteArray.empty l1_2 x5_1).toList) = false := beq_eq_false_iff_ne.mpr c12
        have c12b1 : ((rdOf ByteArray.empty l0_2 x5_1).toList != (rdOf ByteArray.empty l1_2 x5_1).toList) = true := bne_iff_ne.mpr c12
        obtain rfl := Option.some.inj H
        have qNK := qD.out
        have qNL := qE.out
        obtain ⟨qDw, qDx, qDy, qDz, qEA, qEB, qEC, qED, qEE, qEF, qBQ, qBR⟩ := celL qA.out
        obtain ⟨qEG, qEH, qEI, qEJ, qEK, qEL, qEM, qEN, qEO, qEP, qBS, qBT⟩ := froZ qA.out
        have p104 : 0 ≤ (x5_1 : Int) := of_decide_eq_true (by first | (with_reducible assumption) | assumption)
        have q104 : x5_1 < (l0_2.length : Int) := of_decide_eq_true (by first | (with_reducible assumption) | assumption)
        obtain ⟨qBG, e104, qI⟩ := Kd.at_string HR0_2.out x5_1 p104 q104
        cases e104
        replace qI := (HB.out.cell (World.block_lt_of_cell? w _ qI)).trans qI
        replace p104 := eq_true p104
        replace q104 := eq_true q104
        obtain ⟨qEQ, qER, qES, qET, qEU, qEV, qEW, qEX, qEY, qEZ, qBU, qBV⟩ := celL qC.out
        obtain ⟨qEa, qEb, qEc, qEd, qEe, qEf, qEg, qEh, qEi, qEj, qBW, qBX⟩ := froZ qC.out
        have p105 : 0 ≤ (x5_1 : Int) := of_decide_eq_true (by first | (with_reducible assumption) | assumption)
        have q105 : x5_1 < (l1_2.length : Int) := of_decide_eq_true (by first | (with_reducible assumption) | assumption)
        obtain ⟨qBH, e105, qJ⟩ := Kd.at_string HR1_2.out x5_1 p105 q105
        cases e105
        replace qJ := (HB.out.cell (World.block_lt_of_cell? w _ qJ)).trans qJ
        replace p105 := eq_true p105
        replace q105 := eq_true q105
        go_wp2
        repeat (go_quiet (fail); try go_wp2)
        go_ret
        exact ⟨by first | rfl | (simp [errW_none, errW_some] <;> rfl) | (simp [*, errW_none, errW_some] <;> rfl), bBhy3⟩
      ·rw [if_neg c11] at H
       exact absurd H (by simp)
     ·rw [if_neg c10] at H
      exact absurd H (by simp)
    ·rw [if_neg c9] at H
     have c9b0 : decide (x5_1 < (l0_2.length : Int)) = false := decide_eq_false c9
     clear c9
     by_cases c19 : a0_0.toList = a1_0.toList
     ·rw [if_pos c19] at H
      have c19b0 : (a0_0.toList == a1_0.toList) = true := beq_iff_eq.mpr c19
      have c19b1 : (a0_0.toList != a1_0.toList) = false := bne_eq_false_iff_eq.mpr c19
      clear c19
      by_cases c20 : a0_1.toList = a1_1.toList
      ·rw [if_pos c20] at H
       have c20b0 : (a0_1.toList == a1_1.toList) = true := beq_iff_eq.mpr c20
       have c20b1 : (a0_1.toList != a1_1.toList) = false := bne_eq_false_iff_eq.mpr c20
       clear c20
       by_cases c21 : a0_3.toList = a1_3.toList
       ·rw [if_pos c21] at H
        have c21b0 : (a0_3.toList == a1_3.toList) = true := beq_iff_eq.mpr c21
        have c21b1 : (a0_3.toList != a1_3.toList) = false := bne_eq_false_iff_eq.mpr c21
        clear c21
        by_cases c22 : a0_4 = a1_4
        ·rw [if_pos c22] at H
         have c22b0 : (a0_4 == a1_4) = true := beq_iff_eq.mpr c22
         have c22b1 : (a0_4 != a1_4) = false := bne_eq_false_iff_eq.mpr c22
         clear c22
         by_cases c23 : a0_5 = a1_5
         ·rw [if_pos c23] at H
          have c23b0 : (a0_5 == a1_5) = true := beq_iff_eq.mpr c23
          have c23b1 : (a0_5 != a1_5) = false := bne_eq_false_iff_eq.mpr c23
          clear c23
          by_cases c24 : a0_6 = a1_6
          ·rw [if_pos c24] at H
           have c24b0 : (a0_6 == a1_6) = true := beq_iff_eq.mpr c24
           have c24b1 : (a0_6 != a1_6) = false := bne_eq_false_iff_eq.mpr c24
           clear c24
           by_cases c25 : a0_7 = a1_7
           ·rw [if_pos c25] at H
            have c25b0 : (a0_7 == a1_7) = true := beq_iff_eq.mpr c25
            have c25b1 : (a0_7 != a1_7) = false := bne_eq_false_iff_eq.mpr c25
            clear c25
            by_cases c26 : (a0_8 == a1_8) = true
            ·rw [if_pos c26] at H
             have c26b0 : (a0_8 == a1_8) = true := c26
             (try (have c26b1 : decide (a0_8 = a1_8) = true := by simpa using c26))
             (try (have c26b2 : (a0_8 == a1_8) = true := by simpa using c26))
             clear c26
             by_cases c27 : (a0_9 == a1_9) = true
             ·rw [if_pos c27] at H
              have c27b0 : (a0_9 == a1_9) = true := c27
              (try (have c27b1 : decide (a0_9 = a1_9) = true := by simpa using c27))
              (try (have c27b2 : (a0_9 == a1_9) = true := by simpa using c27))
              clear c27
              by_cases c28 : (a0_10 == a1_10) = true
              ·rw [if_pos c28] at H
               have c28b0 : (a0_10 == a1_10) = true := c28
               (try (have c28b1 : decide (a0_10 = a1_10) = true := by simpa using c28))
               (try (have c28b2 : (a0_10 == a1_10) = true := by simpa using c28))
               clear c28
               obtain rfl := Option.some.inj H
               have qNM := qD.out
               have qNN := qE.out
               obtain ⟨qEk, qEl, qEm, qEn, qEo, qEp, qEq, qEr, qEs, qEt, qBY, qBZ⟩ := celL qA.out
               obtain ⟨qEu, qEv, qEw, qEx, qEy, qEz, qFA, qFB, qFC, qFD, qBa, qBb⟩ := froZ qA.out
               obtain ⟨qFE, qFF, qFG, qFH, qFI, qFJ, qFK, qFL, qFM, qFN, qBc, qBd⟩ := celL qC.out
               obtain ⟨qFO, qFP, qFQ, qFR, qFS, qFT, qFU, qFV, qFW, qFX, qBe, qBf⟩ := froZ qC.out
               go_wp2
               repeat (go_quiet (fail); try go_wp2)
               go_ret
               exact ⟨by first | rfl | (simp [errW_none, errW_some] <;> rfl) | (simp [*, errW_none, errW_some] <;> rfl), bBhy3⟩
              ·rw [if_neg c28] at H
               have c28b0 : (a0_10 == a1_10) = false := by simpa using c28
               (try (have c28b1 : decide (a0_10 = a1_10) = false := by simpa using c28))
               (try (have c28b2 : (a0_10 == a1_10) = false := by simpa using c28))
               (try (have c28b3 : ¬ (a0_10 = a1_10) := by simpa using c28))
               clear c28
               obtain rfl := Option.some.inj H
               have qNO := qD.out
               have qNP := qE.out
               obtain ⟨qFY, qFZ, qFa, qFb, qFc, qFd, qFe, qFf, qFg, qFh, qBg, qBh⟩ := celL qA.out
               obtain ⟨qFi, qFj, qFk, qFl, qFm, qFn, qFo, qFp, qFq, qFr, qBi, qBj⟩ := froZ qA.out
               obtain ⟨qFs, qFt, qFu, qFv, qFw, qFx, qFy, qFz, qGA, qGB, qBk, qBl⟩ := celL qC.out
               obtain ⟨qGC, qGD, qGE, qGF, qGG, qGH, qGI, qGJ, qGK, qGL, qBm, qBn⟩ := froZ qC.out
               go_wp2
               repeat (go_quiet (fail); try go_wp2)
               go_ret
               exact ⟨by first | rfl | (simp [errW_none, errW_some] <;> rfl) | (simp [*, errW_none, errW_some] <;> rfl), bBhy3⟩
             ·rw [if_neg c27] at H
              have c27b0 : (a0_9 == a1_9) = false := by simpa using c27
              (try (have c27b1 : decide (a0_9 = a1_9) = false := by simpa using c27))
              (try (have c27b2 : (a0_9 == a1_9) = false := by simpa using c27))
              (try (have c27b3 : ¬ (a0_9 = a1_9) := by simpa using c27))
              clear c27
              obtain rfl := Option.some.inj H
              have qNQ := qD.out
              have qNR := qE.out
              obtain ⟨qGM, qGN, qGO, qGP, qGQ, qGR, qGS, qGT, qGU, qGV, qBo, qBp⟩ := celL qA.out
              obtain ⟨qGW, qGX, qGY, qGZ, qGa, qGb, qGc, qGd, qGe, qGf, qBq, qBr⟩ := froZ qA.out
              obtain ⟨qGg, qGh, qGi, qGj, qGk, qGl, qGm, qGn, qGo, qGp, qBs, qBt⟩ := celL qC.out
              obtain ⟨qGq, qGr, qGs, qGt, qGu, qGv, qGw, qGx, qGy, qGz, qBu, qBv⟩ := froZ qC.out
              go_wp2
              repeat (go_quiet (fail); try go_wp2)
              go_ret
              exact ⟨by first | rfl | (simp [errW_none, errW_some] <;> rfl) | (simp [*, errW_none, errW_some] <;> rfl), bBhy3⟩
            ·rw [if_neg c26] at H
             have c26b0 : (a0_8 == a1_8) = false := by simpa using c26
             (try (have c26b1 : decide (a0_8 = a1_8) = false := by simpa using c26))
             (try (have c26b2 : (a0_8 == a1_8) = false := by simpa using c26))
             (try (have c26b3 : ¬ (a0_8 = a1_8) := by simpa using c26))
             clear c26
             obtain rfl := Option.some.inj H
             have qNS := qD.out
             have qNT := qE.out
             obtain ⟨qHA, qHB, qHC, qHD, qHE, qHF, qHG, qHH, qHI, qHJ, qBw, qBx⟩ := celL qA.out
             obtain ⟨qHK, qHL, qHM, qHN, qHO, qHP, qHQ, qHR, qHS, qHT, qBy, qBz⟩ := froZ qA.out
             obtain ⟨qHU, qHV, qHW, qHX, qHY, qHZ, qHa, qHb, qHc, qHd, qCA, qCB⟩ := celL qC.out
             obtain ⟨qHe, qHf, qHg, qHh, qHi, qHj, qHk, qHl, qHm, qHn, qCC, qCD⟩ := froZ qC.out
             go_wp2
             repeat (go_quiet (fail); try go_wp2)
             go_ret
             exact ⟨by first | rfl | (simp [errW_none, errW_some] <;> rfl) | (simp [*, errW_none, errW_some] <;> rfl), bBhy3⟩
           ·rw [if_neg c25] at H
            have c25b0 : (a0_7 == a1_7) = false := beq_eq_false_iff_ne.mpr c25
            have c25b1 : (a0_7 != a1_7) = true := bne_iff_ne.mpr c25
            obtain rfl := Option.some.inj H
            have qNU := qD.out
            have qNV := qE.out
            obtain ⟨qHo, qHp, qHq, qHr, qHs, qHt, qHu, qHv, qHw, qHx, qCE, qCF⟩ := celL qA.out
            obtain ⟨qHy, qHz, qIA, qIB, qIC, qID, qIE, qIF, qIG, qIH, qCG, qCH⟩ := froZ qA.out
            obtain ⟨qII, qIJ, qIK, qIL, qIM, qIN, qIO, qIP, qIQ, qIR, qCI, qCJ⟩ := celL qC.out
            obtain ⟨qIS, qIT, qIU, qIV, qIW, qIX, qIY, qIZ, qIa, qIb, qCK, qCL⟩ := froZ qC.out
            go_wp2
            repeat (go_quiet (fail); try go_wp2)
            go_ret
            exact ⟨by first | rfl | (simp [errW_none, errW_some] <;> rfl) | (simp [*, errW_none, errW_some] <;> rfl), bBhy3⟩
          ·rw [if_neg c24] at H
           have c24b0 : (a0_6 == a1_6) = false := beq_eq_false_iff_ne.mpr c24
           have c24b1 : (a0_6 != a1_6) = true := bne_iff_ne.mpr c24
           obtain rfl := Option.some.inj H
           have qNW := qD.out
           have qNX := qE.out
           obtain ⟨qIc, qId, qIe, qIf, qIg, qIh, qIi, qIj, qIk, qIl, qCM, qCN⟩ := celL qA.out
           obtain ⟨qIm, qIn, qIo, qIp, qIq, qIr, qIs, qIt, qIu, qIv, qCO, qCP⟩ := froZ qA.out
           obtain ⟨qIw, qIx, qIy, qIz, qJA, qJB, qJC, qJD, qJE, qJF, qCQ, qCR⟩ := celL qC.out
           obtain ⟨qJG, qJH, qJI, qJJ, qJK, qJL, qJM, qJN, qJO, qJP, qCS, qCT⟩ := froZ qC.out
           go_wp2
           repeat (go_quiet (fail); try go_wp2)
           go_ret
           exact ⟨by first | rfl | (simp [errW_none, errW_some] <;> rfl) | (simp [*, errW_none, errW_some] <;> rfl), bBhy3⟩
         ·rw [if_neg c23] at H
          have c23b0 : (a0_5 == a1_5) = false := beq_eq_false_iff_ne.mpr c23
          have c23b1 : (a0_5 != a1_5) = true := bne_iff_ne.mpr c23
          obtain rfl := Option.some.inj H
          have qNY := qD.out
          have qNZ := qE.out
          obtain ⟨qJQ, qJR, qJS, qJT, qJU, qJV, qJW, qJX, qJY, qJZ, qCU, qCV⟩ := celL qA.out
          obtain ⟨qJa, qJb, qJc, qJd, qJe, qJf, qJg, qJh, qJi, qJj, qCW, qCX⟩ := froZ qA.out
          obtain ⟨qJk, qJl, qJm, qJn, qJo, qJp, qJq, qJr, qJs, qJt, qCY, qCZ⟩ := celL qC.out
          obtain ⟨qJu, qJv, qJw, qJx, qJy, qJz, qKA, qKB, qKC, qKD, qCa, qCb⟩ := froZ qC.out
          go_wp2
          repeat (go_quiet (fail); try go_wp2)
          go_ret
          exact ⟨by first | rfl | (simp [errW_none, errW_some] <;> rfl) | (simp [*, errW_none, errW_some] <;> rfl), bBhy3⟩
        ·rw [if_neg c22] at H
         have c22b0 : (a0_4 == a1_4) = false := beq_eq_false_iff_ne.mpr c22
         have c22b1 : (a0_4 != a1_4) = true := bne_iff_ne.mpr c22
         obtain rfl := Option.some.inj H
         have qNa := qD.out
         have qNb := qE.out
         obtain ⟨qKE, qKF, qKG, qKH, qKI, qKJ, qKK, qKL, qKM, qKN, qCc, qCd⟩ := celL qA.out
         obtain ⟨qKO, qKP, qKQ, qKR, qKS, qKT, qKU, qKV, qKW, qKX, qCe, qCf⟩ := froZ qA.out
         obtain ⟨qKY, qKZ, qKa, qKb, qKc, qKd, qKe, qKf, qKg, qKh, qCg, qCh⟩ := celL qC.out
         obtain ⟨qKi, qKj, qKk, qKl, qKm, qKn, qKo, qKp, qKq, qKr, qCi, qCj⟩ := froZ qC.out
         go_wp2
         repeat (go_quiet (fail); try go_wp2)
         go_ret
         exact ⟨by first | rfl | (simp [errW_none, errW_some] <;> rfl) | (simp [*, errW_none, errW_some] <;> rfl), bBhy3⟩
       ·rw [if_neg c21] at H
        have c21b0 : (a0_3.toList == a1_3.toList) = false := beq_eq_false_iff_ne.mpr c21
        have c21b1 : (a0_3.toList != a1_3.toList) = true := bne_iff_ne.mpr c21
        obtain rfl := Option.some.inj H
        have qNc := qD.out
        have qNd := qE.out
        obtain ⟨qKs, qKt, qKu, qKv, qKw, qKx, qKy, qKz, qLA, qLB, qCk, qCl⟩ := celL qA.out
        obtain ⟨qLC, qLD, qLE, qLF, qLG, qLH, qLI, qLJ, qLK, qLL, qCm, qCn⟩ := froZ qA.out
        obtain ⟨qLM, qLN, qLO, qLP, qLQ, qLR, qLS, qLT, qLU, qLV, qCo, qCp⟩ := celL qC.out
        obtain ⟨qLW, qLX, qLY, qLZ, qLa, qLb, qLc, qLd, qLe, qLf, qCq, qCr⟩ := froZ qC.out
        go_wp2
        repeat (go_quiet (fail); try go_wp2)
        go_ret
        exact ⟨by first | rfl | (simp [errW_none, errW_some] <;> rfl) | (simp [*, errW_none, errW_some] <;> rfl), bBhy3⟩
      ·rw [if_neg c20] at H
       have c20b0 : (a0_1.toList == a1_1.toList) = false := beq_eq_false_iff_ne.mpr c20
       have c20b1 : (a0_1.toList != a1_1.toList) = true := bne_iff_ne.mpr c20
       obtain rfl := Option.some.inj H
       have qNe := qD.out
       have qNf := qE.out
       obtain ⟨qLg, qLh, qLi, qLj, qLk, qLl, qLm, qLn, qLo, qLp, qCs, qCt⟩ := celL qA.out
       obtain ⟨qLq, qLr, qLs, qLt, qLu, qLv, qLw, qLx, qLy, qLz, qCu, qCv⟩ := froZ qA.out
       obtain ⟨qMA, qMB, qMC, qMD, qME, qMF, qMG, qMH, qMI, qMJ, qCw, qCx⟩ := celL qC.out
       obtain ⟨qMK, qML, qMM, qMN, qMO, qMP, qMQ, qMR, qMS, qMT, qCy, qCz⟩ := froZ qC.out
       go_wp2
       repeat (go_quiet (fail); try go_wp2)
       go_ret
       exact ⟨by first | rfl | (simp [errW_none, errW_some] <;> rfl) | (simp [*, errW_none, errW_some] <;> rfl), bBhy3⟩
     ·rw [if_neg c19] at H
      have c19b0 : (a0_0.toList == a1_0.toList) = false := beq_eq_false_iff_ne.mpr c19
      have c19b1 : (a0_0.toList != a1_0.toList) = true := bne_iff_ne.mpr c19
      obtain rfl := Option.some.inj H
      have qNg := qD.out
      have qNh := qE.out
      obtain ⟨qMU, qMV, qMW, qMX, qMY, qMZ, qMa, qMb, qMc, qMd, qDA, qDB⟩ := celL qA.out
      obtain ⟨qMe, qMf, qMg, qMh, qMi, qMj, qMk, qMl, qMm, qMn, qDC, qDD⟩ := froZ qA.out
      obtain ⟨qMo, qMp, qMq, qMr, qMs, qMt, qMu, qMv, qMw, qMx, qDE, qDF⟩ := celL qC.out
      obtain ⟨qMy, qMz, qNA, qNB, qNC, qND, qNE, qNF, qNG, qNH, qDG, qDH⟩ := froZ qC.out
      go_wp2
      repeat (go_quiet (fail); try go_wp2)
      go_ret
      exact ⟨by first | rfl | (simp [errW_none, errW_some] <;> rfl) | (simp [*, errW_none, errW_some] <;> rfl), bBhy3⟩
 ·rw [if_neg c3] at H
  have c3b0 : ((l0_2.length : Int) == (l1_2.length : Int)) = false := beq_eq_false_iff_ne.mpr c3
  have c3b1 : ((l0_2.length : Int) != (l1_2.length : Int)) = true := bne_iff_ne.mpr c3
  have c3b2 : (l0_2.length == l1_2.length) = false := by first | simpa using c3 | (simp at c3 ⊢; omega)
  obtain rfl := Option.some.inj H
  go_enter Tryd.func9, Tryd.ntmps9
  go_wp2_with (first | ((with_reducible refine gate_dst (N := 2) rfl ?_); refine box_event ?hg (N := 2) ?hd (cs := #[.string a0_0, .string a0_1, .slice A0_2 l0_2.length c0_2, .string a0_3, .int .u32 a0_4, .int .i64 a0_5, .int .u64 a0_6, .int .u64 a0_7, .bool a0_8, .bool a0_9, .bool a0_10, .bool a0_11]) (t := 32) ?hr ?_; (case hd => rfl); (case hg => rfl); (case hr => first | (go_simp; done) | (go_simp; rfl)); intro qB hg w62 hbox hb; have n0_ := M0 (below_step bBhy3 hb); have n1_ := M0 (hbox); have n2_ := M0 ((by rw [hg]; exact (below_size bBhy3) : w.heap.size ≤ qB)); have n3_ := M0 ((by rw [hg]; exact (below_size bBhy3) : w.heap.size ≤ qB)); clear HB; have HB := n0_; have qA := n1_; have GW102 := n2_; have qF := n3_; clear n0_ n1_ n2_ n3_; clear hb hbox hg) | ((with_reducible refine gate_dst (N := 3) rfl ?_); refine box_event ?hg (N := 3) ?hd (cs := #[.string a1_0, .string a1_1, .slice A1_2 l1_2.length c1_2, .string a1_3, .int .u32 a1_4, .int .i64 a1_5, .int .u64 a1_6, .int .u64 a1_7, .bool a1_8, .bool a1_9, .bool a1_10, .bool a1_11]) (t := 32) ?hr ?_; (case hd => rfl); (case hg => rfl); (case hr => first | (go_simp; done) | (go_simp; rfl)); intro qG hg w63 hbox hb; have n0_ := M0 (blk_below (g := qB) (o := .cells #[.string a0_0, .string a0_1, .slice A0_2 l0_2.length c0_2, .string a0_3, .int .u32 a0_4, .int .i64 a0_5, .int .u64 a0_6, .int .u64 a0_7, .bool a0_8, .bool a0_9, .bool a0_10, .bool a0_11] 32 (0, 0)) (by (with_reducible repeat (first | refine bN ?_ _ | refine bD ?_ | refine bA ?_ _)); exact qA.out) hb); have n1_ := M0 (below_step bBhy3 hb); have n2_ := M0 (hbox); have n3_ := M0 ((by rw [hg]; exact (below_size bBhy3) : w.heap.size ≤ qG)); have n4_ := M0 ((by rw [hg]; exact (below_size bBhy3) : w.heap.size ≤ qG)); have n5_ := M0 ((by rw [hg]; exact Nat.ne_of_lt (blk_lt (g := qB) (o := .cells #[.string a0_0, .string a0_1, .slice A0_2 l0_2.length c0_2, .string a0_3, .int .u32 a0_4, .int .i64 a0_5, .int .u64 a0_6, .int .u64 a0_7, .bool a0_8, .bool a0_9, .bool a0_10, .bool a0_11] 32 (0, 0)) (by (with_reducible repeat (first | refine bN ?_ _ | refine bD ?_ | refine bA ?_ _)); exact qA.out)) : qB ≠ qG)); have n6_ := M0 ((by rw [hg]; exact Nat.ne_of_gt (blk_lt (g := qB) (o := .cells #[.string a0_0, .string a0_1, .slice A0_2 l0_2.length c0_2, .string a0_3, .int .u32 a0_4, .int .i64 a0_5, .int .u64 a0_6, .int .u64 a0_7, .bool a0_8, .bool a0_9, .bool a0_10, .bool a0_11] 32 (0, 0)) (by (with_reducible repeat (first | refine bN ?_ _ | refine bD ?_ | refine bA ?_ _)); exact qA.out)) : qG ≠ qB)); clear qA; clear HB; have qA := n0_; have HB := n1_; have qC := n2_; have GW103 := n3_; have qH := n4_; have qD := n5_; have qE := n6_; clear n0_ n1_ n2_ n3_ n4_ n5_ n6_; clear hb hbox hg; have qBC := qD.out; have qBD := qE.out; obtain ⟨qAO, qAP, qAQ, qAR, qAS, qAT, qAU, qAV, qAW, qAX, qAG, qAH⟩ := celL qA.out; obtain ⟨qAY, qAZ, qAa, qAb, qAc, qAd, qAe, qAf, qAg, qAh, qAI, qAJ⟩ := froZ qA.out; obtain ⟨qAi, qAj, qAk, qAl, qAm, qAn, qAo, qAp, qAq, qAr, qAK, qAL⟩ := celL qC.out; obtain ⟨qAs, qAt, qAu, qAv, qAw, qAx, qAy, qAz, qBA, qBB, qAM, qAN⟩ := froZ qC.out))
  repeat (go_quiet (first | ((with_reducible refine gate_dst (N := 2) rfl ?_); refine box_event ?hg (N := 2) ?hd (cs := #[.string a0_0, .string a0_1, .slice A0_2 l0_2.length c0_2, .string a0_3, .int .u32 a0_4, .int .i64 a0_5, .int .u64 a0_6, .int .u64 a0_7, .bool a0_8, .bool a0_9, .bool a0_10, .bool a0_11]) (t := 32) ?hr ?_; (case hd => rfl); (case hg => rfl); (case hr => first | (go_simp; done) | (go_simp; rfl)); intro qB hg w62 hbox hb; have n0_ := M0 (below_step bBhy3 hb); have n1_ := M0 (hbox); have n2_ := M0 ((by rw [hg]; exact (below_size bBhy3) : w.heap.size ≤ qB)); have n3_ := M0 ((by rw [hg]; exact (below_size bBhy3) : w.heap.size ≤ qB)); clear HB; have HB := n0_; have qA := n1_; have GW102 := n2_; have qF := n3_; clear n0_ n1_ n2_ n3_; clear hb hbox hg) | ((with_reducible refine gate_dst (N := 3) rfl ?_); refine box_event ?hg (N := 3) ?hd (cs := #[.string a1_0, .string a1_1, .slice A1_2 l1_2.length c1_2, .string a1_3, .int .u32 a1_4, .int .i64 a1_5, .int .u64 a1_6, .int .u64 a1_7, .bool a1_8, .bool a1_9, .bool a1_10, .bool a1_11]) (t := 32) ?hr ?_; (case hd => rfl); (case hg => rfl); (case hr => first | (go_simp; done) | (go_simp; rfl)); intro qG hg w63 hbox hb; have n0_ := M0 (blk_below (g := qB) (o := .cells #[.string a0_0, .string a0_1, .slice A0_2 l0_2.length c0_2, .string a0_3, .int .u32 a0_4, .int .i64 a0_5, .int .u64 a0_6, .int .u64 a0_7, .bool a0_8, .bool a0_9, .bool a0_10, .bool a0_11] 32 (0, 0)) (by (with_reducible repeat (first | refine bN ?_ _ | refine bD ?_ | refine bA ?_ _)); exact qA.out) hb); have n1_ := M0 (below_step bBhy3 hb); have n2_ := M0 (hbox); have n3_ := M0 ((by rw [hg]; exact (below_size bBhy3) : w.heap.size ≤ qG)); have n4_ := M0 ((by rw [hg]; exact (below_size bBhy3) : w.heap.size ≤ qG)); have n5_ := M0 ((by rw [hg]; exact Nat.ne_of_lt (blk_lt (g := qB) (o := .cells #[.string a0_0, .string a0_1, .slice A0_2 l0_2.length c0_2, .string a0_3, .int .u32 a0_4, .int .i64 a0_5, .int .u64 a0_6, .int .u64 a0_7, .bool a0_8, .bool a0_9, .bool a0_10, .bool a0_11] 32 (0, 0)) (by (with_reducible repeat (first | refine bN ?_ _ | refine bD ?_ | refine bA ?_ _)); exact qA.out)) : qB ≠ qG)); have n6_ := M0 ((by rw [hg]; exact Nat.ne_of_gt (blk_lt (g := qB) (o := .cells #[.string a0_0, .string a0_1, .slice A0_2 l0_2.length c0_2, .string a0_3, .int .u32 a0_4, .int .i64 a0_5, .int .u64 a0_6, .int .u64 a0_7, .bool a0_8, .bool a0_9, .bool a0_10, .bool a0_11] 32 (0, 0)) (by (with_reducible repeat (first | refine bN ?_ _ | refine bD ?_ | refine bA ?_ _)); exact qA.out)) : qG ≠ qB)); clear qA; clear HB; have qA := n0_; have HB := n1_; have qC := n2_; have GW103 := n3_; have qH := n4_; have qD := n5_; have qE := n6_; clear n0_ n1_ n2_ n3_ n4_ n5_ n6_; clear hb hbox hg; have qBC := qD.out; have qBD := qE.out; obtain ⟨qAO, qAP, qAQ, qAR, qAS, qAT, qAU, qAV, qAW, qAX, qAG, qAH⟩ := celL qA.out; obtain ⟨qAY, qAZ, qAa, qAb, qAc, qAd, qAe, qAf, qAg, qAh, qAI, qAJ⟩ := froZ qA.out; obtain ⟨qAi, qAj, qAk, qAl, qAm, qAn, qAo, qAp, qAq, qAr, qAK, qAL⟩ := celL qC.out; obtain ⟨qAs, qAt, qAu, qAv, qAw, qAx, qAy, qAz, qBA, qBB, qAM, qAN⟩ := froZ qC.out)); try go_wp2_with (first | ((with_reducible refine gate_dst (N := 2) rfl ?_); refine box_event ?hg (N := 2) ?hd (cs := #[.string a0_0, .string a0_1, .slice A0_2 l0_2.length c0_2, .string a0_3, .int .u32 a0_4, .int .i64 a0_5, .int .u64 a0_6, .int .u64 a0_7, .bool a0_8, .bool a0_9, .bool a0_10, .bool a0_11]) (t := 32) ?hr ?_; (case hd => rfl); (case hg => rfl); (case hr => first | (go_simp; done) | (go_simp; rfl)); intro qB hg w62 hbox hb; have n0_ := M0 (below_step bBhy3 hb); have n1_ := M0 (hbox); have n2_ := M0 ((by rw [hg]; exact (below_size bBhy3) : w.heap.size ≤ qB)); have n3_ := M0 ((by rw [hg]; exact (below_size bBhy3) : w.heap.size ≤ qB)); clear HB; have HB := n0_; have qA := n1_; have GW102 := n2_; have qF := n3_; clear n0_ n1_ n2_ n3_; clear hb hbox hg) | ((with_reducible refine gate_dst (N := 3) rfl ?_); refine box_event ?hg (N := 3) ?hd (cs := #[.string a1_0, .string a1_1, .slice A1_2 l1_2.length c1_2, .string a1_3, .int .u32 a1_4, .int .i64 a1_5, .int .u64 a1_6, .int .u64 a1_7, .bool a1_8, .bool a1_9, .bool a1_10, .bool a1_11]) (t := 32) ?hr ?_; (case hd => rfl); (case hg => rfl); (case hr => first | (go_simp; done) | (go_simp; rfl)); intro qG hg w63 hbox hb; have n0_ := M0 (blk_below (g := qB) (o := .cells #[.string a0_0, .string a0_1, .slice A0_2 l0_2.length c0_2, .string a0_3, .int .u32 a0_4, .int .i64 a0_5, .int .u64 a0_6, .int .u64 a0_7, .bool a0_8, .bool a0_9, .bool a0_10, .bool a0_11] 32 (0, 0)) (by (with_reducible repeat (first | refine bN ?_ _ | refine bD ?_ | refine bA ?_ _)); exact qA.out) hb); have n1_ := M0 (below_step bBhy3 hb); have n2_ := M0 (hbox); have n3_ := M0 ((by rw [hg]; exact (below_size bBhy3) : w.heap.size ≤ qG)); have n4_ := M0 ((by rw [hg]; exact (below_size bBhy3) : w.heap.size ≤ qG)); have n5_ := M0 ((by rw [hg]; exact Nat.ne_of_lt (blk_lt (g := qB) (o := .cells #[.string a0_0, .string a0_1, .slice A0_2 l0_2.length c0_2, .string a0_3, .int .u32 a0_4, .int .i64 a0_5, .int .u64 a0_6, .int .u64 a0_7, .bool a0_8, .bool a0_9, .bool a0_10, .bool a0_11] 32 (0, 0)) (by (with_reducible repeat (first | refine bN ?_ _ | refine bD ?_ | refine bA ?_ _)); exact qA.out)) : qB ≠ qG)); have n6_ := M0 ((by rw [hg]; exact Nat.ne_of_gt (blk_lt (g := qB) (o := .cells #[.string a0_0, .string a0_1, .slice A0_2 l0_2.length c0_2, .string a0_3, .int .u32 a0_4, .int .i64 a0_5, .int .u64 a0_6, .int .u64 a0_7, .bool a0_8, .bool a0_9, .bool a0_10, .bool a0_11] 32 (0, 0)) (by (with_reducible repeat (first | refine bN ?_ _ | refine bD ?_ | refine bA ?_ _)); exact qA.out)) : qG ≠ qB)); clear qA; clear HB; have qA := n0_; have HB := n1_; have qC := n2_; have GW103 := n3_; have qH := n4_; have qD := n5_; have qE := n6_; clear n0_ n1_ n2_ n3_ n4_ n5_ n6_; clear hb hbox hg; have qBC := qD.out; have qBD := qE.out; obtain ⟨qAO, qAP, qAQ, qAR, qAS, qAT, qAU, qAV, qAW, qAX, qAG, qAH⟩ := celL qA.out; obtain ⟨qAY, qAZ, qAa, qAb, qAc, qAd, qAe, qAf, qAg, qAh, qAI, qAJ⟩ := froZ qA.out; obtain ⟨qAi, qAj, qAk, qAl, qAm, qAn, qAo, qAp, qAq, qAr, qAK, qAL⟩ := celL qC.out; obtain ⟨qAs, qAt, qAu, qAv, qAw, qAx, qAy, qAz, qBA, qBB, qAM, qAN⟩ := froZ qC.out)))
  go_ret
  exact ⟨by first | rfl | (simp [errW_none, errW_some] <;> rfl) | (simp [*, errW_none, errW_some] <;> rfl), bBhy3⟩

end Go.Proofs.YtfbhlbchmenloaaDoor.H
-- thinned
end
