/-
  Contracts of Go functions at this seat, and plain lemmas, that the laws' proofs use. Their conditions stand in each head.
-/
import Derived.Test.YtfbhlbchmenloaaDoorM2
section
namespace Go.Proofs.YtfbhlbchmenloaaDoor.H
open Go.RowKit Go.Proofs.YtfbhlbchmenloaaDoorW.PrintWords Go.Proofs.YtfbhlbchmenloaaDoorW.PrintLast Go.Proofs.YtfbhlbchmenloaaDoorW.PrintMore
attribute [local go_sem] max2_int min2_int max_two min_two max_three min_three max_four min_four   -- for this text's walks alone
set_option linter.unusedVariables false
set_option linter.unusedSimpArgs false

/-! ### cellaretref17_Cmd: function 10 -/
def cellaretref17_Cmd.f (a0_0 : ByteArray) (a0_1 : ByteArray) (l0_2 : List ByteArray) (a0_3 : ByteArray) (a0_4 : Int) (a0_5 : Int) (a0_6 : Int) (a0_7 : Int) (a0_8 : Bool) (a0_9 : Bool) (a0_10 : Bool) (a0_11 : Bool) : Option (ByteArray × ByteArray × List ByteArray × ByteArray × Int × Int × Int × Int × Bool × Bool × Bool × Bool) := (some (([] : List ByteArray) : List ByteArray)).bind fun y108 => (if y108.length + l0_2.length < 8796093022208 then ((some (y108 ++ l0_2 : List ByteArray)).bind fun y111 => (if (y111.length : Int) = 0 then (some (a0_0, a0_1, ([] : List ByteArray), a0_3, a0_4, a0_5, a0_6, a0_7, a0_8, a0_9, a0_10, a0_11)) else (some (a0_0, a0_1, y111, a0_3, a0_4, a0_5, a0_6, a0_7, a0_8, a0_9, a0_10, a0_11)))) else (none))
def cellaretref17_Cmd.T1 : Bool × List (List Nat × List Nat) := (true, [([], []), ([0], [0]), ([], []), ([2], [2]), ([], []), ([], []), ([5], [5]), ([4, 6], [4, 6]), ([], []), ([8], [8]), ([], []), ([10], [10]), ([], []), ([12], [12]), ([], []), ([14], [14]), ([], []), ([16], [16]), ([], []), ([18], [18]), ([], []), ([20], [20]), ([], []), ([22], [22]), ([], []), ([24], [24]), ([1, 3, 7, 9, 11, 13, 15, 17, 19, 21, 23, 25], [1, 3, 7, 9, 11, 13, 15, 17, 19, 21, 23, 25]), ([], []), ([27, 26, 7, 0, 1, 2, 3, 4, 5, 6, 7, 8, 9, 10, 11, 12, 13, 14, 15, 16, 17, 18, 19, 20, 21, 22, 23, 24, 25, 26, 27], [26, 27])])
def cellaretref17_Cmd.B1 : List Nat := [0, 1, 0, 4, 0, 0, 32, 112, 0, 256, 0, 1024, 0, 4096, 0, 16384, 0, 65536, 0, 262144, 0, 1048576, 0, 4194304, 0, 16777216, 67108863, 0, 268435455]
theorem cellaretref17_Cmd.tab1 : rtab .any (opsOf Tryd.f10 1) = cellaretref17_Cmd.T1 := by kernel_rfl
theorem cellaretref17_Cmd.bits1 : waitsOk cellaretref17_Cmd.T1.2 cellaretref17_Cmd.B1 = true := by kernel_rfl
theorem bBhy4 {B : Nat} {w W : World} (h : Below B w W := by repeat (first | (with_reducible first | exact HB.out | apply wA | apply wN | apply wD | refine below_set ?_ qM.out | refine below_set ?_ qN.out | refine below_set ?_ qP.out) | exact HB.out)) : Below B w W := h
set_option maxHeartbeats 8000000 in
set_option maxRecDepth 100000 in
theorem cellaretref17_Cmd.calls (a0_0 : ByteArray) (a0_1 : ByteArray) (A0_2 : Option Addr) (c0_2 : Nat) (l0_2 : List ByteArray) (a0_3 : ByteArray) (a0_4 : Int) (a0_5 : Int) (a0_6 : Int) (a0_7 : Int) (a0_8 : Bool) (a0_9 : Bool) (a0_10 : Bool) (a0_11 : Bool) (r1 : ByteArray) (r2 : ByteArray) (r3 : List ByteArray) (r4 : ByteArray) (r5 : Int) (r6 : Int) (r7 : Int) (r8 : Int) (r9 : Bool) (r10 : Bool) (r11 : Bool) (r12 : Bool) (w : World) (hr0_2 : Kd.C Kd.string w A0_2 l0_2.length l0_2) (hc0_2 : l0_2.length ≤ c0_2) (h : cellaretref17_Cmd.f a0_0 a0_1 l0_2 a0_3 a0_4 a0_5 a0_6 a0_7 a0_8 a0_9 a0_10 a0_11 = some (r1, r2, r3, r4, r5, r6, r7, r8, r9, r10, r11, r12)) :
  Calls Tryd.prog 10 #[.agg #[.string a0_0, .string a0_1, .slice A0_2 l0_2.length c0_2, .string a0_3, .int .u32 a0_4, .int .i64 a0_5, .int .u64 a0_6, .int .u64 a0_7, .bool a0_8, .bool a0_9, .bool a0_10, .bool a0_11]] w fun e w' => ∃ v2_ : Value, e = .returned (.agg #[.string r1, .string r2, v2_, .string r4, .int .u32 r5, .int .i64 r6, .int .u64 r7, .int .u64 r8, .bool r9, .bool r10, .bool r11, .bool r12]) ∧ Kd.R Kd.string 9 w' w.heap.size (fun _ => True) v2_ r3 ∧ Below w.heap.size w w' := by
 have hu27 := Tryd.underlying27
 have hu32 := Tryd.underlying32
 have HR0_2 := M0 hr0_2
 have HC0_2 := M0 hc0_2
 clear hr0_2 hc0_2
 have HB := M0 (Below.refl w.heap.size w)
 have H : ((some (([] : List ByteArray) : List ByteArray)).bind fun y108 => (if y108.length + l0_2.length < 8796093022208 then ((some (y108 ++ l0_2 : List ByteArray)).bind fun y111 => (if (y111.length : Int) = 0 then (some (a0_0, a0_1, ([] : List ByteArray), a0_3, a0_4, a0_5, a0_6, a0_7, a0_8, a0_9, a0_10, a0_11)) else (some (a0_0, a0_1, y111, a0_3, a0_4, a0_5, a0_6, a0_7, a0_8, a0_9, a0_10, a0_11)))) else (none))) = some (r1, r2, r3, r4, r5, r6, r7, r8, r9, r10, r11, r12) := h
 clear h
 obtain ⟨y108, hy108⟩ : ∃ y_ : List ByteArray, y_ = (([] : List ByteArray)) := ⟨_, rfl⟩
 replace H : (if y108.length + l0_2.length < 8796093022208 then ((some (y108 ++ l0_2 : List ByteArray)).bind fun y111 => (if (y111.length : Int) = 0 then (some (a0_0, a0_1, ([] : List ByteArray), a0_3, a0_4, a0_5, a0_6, a0_7, a0_8, a0_9, a0_10, a0_11)) else (some (a0_0, a0_1, y111, a0_3, a0_4, a0_5, a0_6, a0_7, a0_8, a0_9, a0_10, a0_11)))) else (none)) = some (r1, r2, r3, r4, r5, r6, r7, r8, r9, r10, r11, r12) := by first | (rw [hy108]; with_reducible exact H) | (have H2_ := (Option.bind_some _ _).symm.trans H; rw [hy108]; with_reducible exact H2_) | (have H2_ := (Option.bind_some _ _).symm.trans H; with_reducible exact H2_) | with_reducible exact H | (rw [hy108]; exact H) | exact H
 have qT := M0 hy108
 clear hy108
 by_cases c2 : y108.length + l0_2.length < 8796093022208
 ·rw [if_pos c2] at H
  have qW := M0 c2
  clear c2
  obtain ⟨y111, hy111⟩ : ∃ y_ : List ByteArray, y_ = (y108 ++ l0_2) := ⟨_, rfl⟩
  replace H : (if (y111.length : Int) = 0 then (some (a0_0, a0_1, ([] : List ByteArray), a0_3, a0_4, a0_5, a0_6, a0_7, a0_8, a0_9, a0_10, a0_11)) else (some (a0_0, a0_1, y111, a0_3, a0_4, a0_5, a0_6, a0_7, a0_8, a0_9, a0_10, a0_11))) = some (r1, r2, r3, r4, r5, r6, r7, r8, r9, r10, r11, r12) := by first | (rw [hy111]; with_reducible exact H) | (have H2_ := (Option.bind_some _ _).symm.trans H; rw [hy111]; with_reducible exact H2_) | (have H2_ := (Option.bind_some _ _).symm.trans H; with_reducible exact H2_) | with_reducible exact H | (rw [hy111]; exact H) | exact H
  have qV := M0 hy111
  clear hy111
  go_enter Tryd.func10, Tryd.ntmps10
  try go_wp2_with (first | ((with_reducible refine gate_dst (N := 1) rfl ?_); refine box_event ?hg (N := 1) ?hd (cs := #[.string a0_0, .string a0_1, .slice A0_2 l0_2.length c0_2, .string a0_3, .int .u32 a0_4, .int .i64 a0_5, .int .u64 a0_6, .int .u64 a0_7, .bool a0_8, .bool a0_9, .bool a0_10, .bool a0_11]) (t := 27) ?hr ?_; (case hd => rfl); (case hg => rfl); (case hr => first | (go_simp; done) | (go_simp; rfl)); intro qD hg w4 hbox hb; have n0_ := M0 (below_step bBhy4 hb); have n1_ := M0 (hbox); have n2_ := M0 ((by rw [hg]; exact (below_size bBhy4) : w.heap.size ≤ qD)); have n3_ := M0 ((by rw [hg]; exact (below_size bBhy4) : w.heap.size ≤ qD)); clear HB; have HB := n0_; have qC := n1_; have GW106 := n2_; have qM := n3_; clear n0_ n1_ n2_ n3_; clear hb hbox hg) | ((with_reducible refine gate_dst (N := 2) rfl ?_); refine box_event ?hg (N := 2) ?hd (cs := #[.string (⟨#[]⟩ : ByteArray), .string (⟨#[]⟩ : ByteArray), .slice none 0 0, .string (⟨#[]⟩ : ByteArray), .int .u32 0, .int .i64 0, .int .u64 0, .int .u64 0, .bool false, .bool false, .bool false, .bool false]) (t := 32) ?hr ?_; (case hd => rfl); (case hg => rfl); (case hr => first | (go_simp; done) | (go_simp; rfl)); intro qG hg w5 hbox hb; have n0_ := M0 (blk_below (g := qD) (o := .cells #[.string a0_0, .string a0_1, .slice A0_2 l0_2.length c0_2, .string a0_3, .int .u32 a0_4, .int .i64 a0_5, .int .u64 a0_6, .int .u64 a0_7, .bool a0_8, .bool a0_9, .bool a0_10, .bool a0_11] 27 (0, 0)) (by (with_reducible repeat (first | refine bN ?_ _ | refine bD ?_ | refine bA ?_ _)); exact qC.out) hb); have n1_ := M0 (below_step bBhy4 hb); have n2_ := M0 (hbox); have n3_ := M0 ((by rw [hg]; exact (below_size bBhy4) : w.heap.size ≤ qG)); have n4_ := M0 ((by rw [hg]; exact (below_size bBhy4) : w.heap.size ≤ qG)); have n5_ := M0 ((by rw [hg]; exact Nat.ne_of_lt (blk_lt (g := qD) (o := .cells #[.string a0_0, .string a0_1, .slice A0_2 l0_2.length c0_2, .string a0_3, .int .u32 a0_4, .int .i64 a0_5, .int .u64 a0_6, .int .u64 a0_7, .bool a0_8, .bool a0_9, .bool a0_10, .bool a0_11] 27 (0, 0)) (by (with_reducible repeat (first | refine bN ?_ _ | refine bD ?_ | refine bA ?_ _)); exact qC.out)) : qD ≠ qG)); have n6_ := M0 ((by rw [hg]; exact Nat.ne_of_gt (blk_lt (g := qD) (o := .cells #[.string a0_0, .string a0_1, .slice A0_2 l0_2.length c0_2, .string a0_3, .int .u32 a0_4, .int .i64 a0_5, .int .u64 a0_6, .int .u64 a0_7, .bool a0_8, .bool a0_9, .bool a0_10, .bool a0_11] 27 (0, 0)) (by (with_reducible repeat (first | refine bN ?_ _ | refine bD ?_ | refine bA ?_ _)); exact qC.out)) : qG ≠ qD)); clear qC; clear HB; have qC := n0_; have HB := n1_; have qE := n2_; have GW107 := n3_; have qN := n4_; have qR := n5_; have qS := n6_; clear n0_ n1_ n2_ n3_ n4_ n5_ n6_; clear hb hbox hg))
  have n0_ := M0 (blk_drew qC.out)
  have n1_ := M0 (blk_drew qE.out)
  have n2_ := M0 (below_drew1 HB.out)
  clear qC
  clear qE
  clear HB
  have qC := n0_
  have qE := n1_
  have HB := n2_
  clear n0_ n1_ n2_
  refine start_ (n := 29) (S := fun w' => w'.cell? ⟨qD, 0, none⟩ = some (.string a0_0) ∧ w'.cell? ⟨qD, 1, none⟩ = some (.string a0_1) ∧ w'.cell? ⟨qD, 2, none⟩ = some (.slice A0_2 l0_2.length c0_2) ∧ w'.cell? ⟨qD, 3, none⟩ = some (.string a0_3) ∧ w'.cell? ⟨qD, 4, none⟩ = some (.int .u32 a0_4) ∧ w'.cell? ⟨qD, 5, none⟩ = some (.int .i64 a0_5) ∧ w'.cell? ⟨qD, 6, none⟩ = some (.int .u64 a0_6) ∧ w'.cell? ⟨qD, 7, none⟩ = some (.int .u64 a0_7) ∧ w'.cell? ⟨qD, 8, none⟩ = some (.bool a0_8) ∧ w'.cell? ⟨qD, 9, none⟩ = some (.bool a0_9) ∧ w'.cell? ⟨qD, 10, none⟩ = some (.bool a0_10) ∧ w'.cell? ⟨qD, 11, none⟩ = some (.bool a0_11)) (ds := []) #[false, false, false, false, false, false, false, false, false, false, false, false, false, false, false, false, false, false, false, false, false, false, false, false, false, false, false, false, false] (by kernel_rfl) rfl rfl ⟨(blk_cell qC.out 0).trans rfl, (blk_cell qC.out 1).trans rfl, (blk_cell qC.out 2).trans rfl, (blk_cell qC.out 3).trans rfl, (blk_cell qC.out 4).trans rfl, (blk_cell qC.out 5).trans rfl, (blk_cell qC.out 6).trans rfl, (blk_cell qC.out 7).trans rfl, (blk_cell qC.out 8).trans rfl, (blk_cell qC.out 9).trans rfl, (blk_cell qC.out 10).trans rfl, (blk_cell qC.out 11).trans rfl⟩ (fun hHeld => ?_); refine with_tabW cellaretref17_Cmd.tab1 cellaretref17_Cmd.bits1 (fun HT_ HW_ => ?_)
  generalize w5.drew = w6 at qC qE HB hHeld ⊢
  refine pure_ (i := 0) (N := some 4) (v := ?_) (a' := ?_) #[true, false, false, false, false, false, false, false, false, false, false, false, false, false, false, false, false, false, false, false, false, false, false, false, false, false, false, false, false] rfl rfl (any_of HT_.out (by kernel_rfl)) (fun _ _ _ h => h) (Or.inl ⟨by rfl, ?_⟩) ?_ ?_
  rotate_left
  ·intro w'
   go_simp
   with_reducible rfl
  rotate_left
  ·simp only [Act.put, List.setIfInBounds_toArray, List.set_cons_zero, List.set_cons_succ, i64_w, i32_w]
   rfl
  refine pure_ (i := 2) (N := some 6) (v := ?_) (a' := ?_) #[true, false, true, false, false, false, false, false, false, false, false, false, false, false, false, false, false, false, false, false, false, false, false, false, false, false, false, false, false] rfl rfl (any_of HT_.out (by kernel_rfl)) (fun _ _ _ h => h) (Or.inl ⟨by rfl, ?_⟩) ?_ ?_
  rotate_left
  ·intro w'
   go_simp
   with_reducible rfl
  rotate_left
  ·simp only [Act.put, List.setIfInBounds_toArray, List.set_cons_zero, List.set_cons_succ, i64_w, i32_w]
   rfl
  refine pure_ (i := 5) (N := some 9) (v := ?_) (a' := ?_) #[true, false, true, false, false, true, false, false, false, false, false, false, false, false, false, false, false, false, false, false, false, false, false, false, false, false, false, false, false] rfl rfl (any_of HT_.out (by kernel_rfl)) (fun _ _ _ h => h) (Or.inl ⟨by rfl, ?_⟩) ?_ ?_
  rotate_left
  ·intro w'
   go_simp
   with_reducible rfl
  rotate_left
  ·simp only [Act.put, List.setIfInBounds_toArray, List.set_cons_zero, List.set_cons_succ, i64_w, i32_w]
   rfl
  refine pure_ (i := 8) (N := some 12) (v := ?_) (a' := ?_) #[true, false, true, false, false, true, false, false, true, false, false, false, false, false, false, false, false, false, false, false, false, false, false, false, false, false, false, false, false] rfl rfl (any_of HT_.out (by kernel_rfl)) (fun _ _ _ h => h) (Or.inl ⟨by rfl, ?_⟩) ?_ ?_
  rotate_left
  ·intro w'
   go_simp
   with_reducible rfl
  rotate_left
  ·simp only [Act.put, List.setIfInBounds_toArray, List.set_cons_zero, List.set_cons_succ, i64_w, i32_w]
   rfl
  refine pure_ (i := 10) (N := some 14) (v := ?_) (a' := ?_) #[true, false, true, false, false, true, false, false, true, false, true, false, false, false, false, false, false, false, false, false, false, false, false, false, false, false, false, false, false] rfl rfl (any_of HT_.out (by kernel_rfl)) (fun _ _ _ h => h) (Or.inl ⟨by rfl, ?_⟩) ?_ ?_
  rotate_left
  ·intro w'
   go_simp
   with_reducible rfl
  rotate_left
  ·simp only [Act.put, List.setIfInBounds_toArray, List.set_cons_zero, List.set_cons_succ, i64_w, i32_w]
   rfl
  refine pure_ (i := 12) (N := some 16) (v := ?_) (a' := ?_) #[true, false, true, false, false, true, false, false, true, false, true, false, true, false, false, false, false, false, false, false, false, false, false, false, false, false, false, false, false] rfl rfl (any_of HT_.out (by kernel_rfl)) (fun _ _ _ h => h) (Or.inl ⟨by rfl, ?_⟩) ?_ ?_
  rotate_left
  ·intro w'
   go_simp
   with_reducible rfl
  rotate_left
  ·simp only [Act.put, List.setIfInBounds_toArray, List.set_cons_zero, List.set_cons_succ, i64_w, i32_w]
   rfl
  refine pure_ (i := 14) (N := some 18) (v := ?_) (a' := ?_) #[true, false, true, false, false, true, false, false, true, false, true, false, true, false, true, false, false, false, false, false, false, false, false, false, false, false, false, false, false] rfl rfl (any_of HT_.out (by kernel_rfl)) (fun _ _ _ h => h) (Or.inl ⟨by rfl, ?_⟩) ?_ ?_
  rotate_left
  ·intro w'
   go_simp
   with_reducible rfl
  rotate_left
  ·simp only [Act.put, List.setIfInBounds_toArray, List.set_cons_zero, List.set_cons_succ, i64_w, i32_w]
   rfl
  refine pure_ (i := 16) (N := some 20) (v := ?_) (a' := ?_) #[true, false, true, false, false, true, false, false, true, false, true, false, true, false, true, false, true, false, false, false, false, false, false, false, false, false, false, false, false] rfl rfl (any_of HT_.out (by kernel_rfl)) (fun _ _ _ h => h) (Or.inl ⟨by rfl, ?_⟩) ?_ ?_
  rotate_left
  ·intro w'
   go_simp
   with_reducible rfl
  rotate_left
  ·simp only [Act.put, List.setIfInBounds_toArray, List.set_cons_zero, List.set_cons_succ, i64_w, i32_w]
   rfl
  refine pure_ (i := 18) (N := some 22) (v := ?_) (a' := ?_) #[true, false, true, false, false, true, false, false, true, false, true, false, true, false, true, false, true, false, true, false, false, false, false, false, false, false, false, false, false] rfl rfl (any_of HT_.out (by kernel_rfl)) (fun _ _ _ h => h) (Or.inl ⟨by rfl, ?_⟩) ?_ ?_
  rotate_left
  ·intro w'
   go_simp
   with_reducible rfl
  rotate_left
  ·simp only [Act.put, List.setIfInBounds_toArray, List.set_cons_zero, List.set_cons_succ, i64_w, i32_w]
   rfl
  refine pure_ (i := 20) (N := some 24) (v := ?_) (a' := ?_) #[true, false, true, false, false, true, false, false, true, false, true, false, true, false, true, false, true, false, true, false, true, false, false, false, false, false, false, false, false] rfl rfl (any_of HT_.out (by kernel_rfl)) (fun _ _ _ h => h) (Or.inl ⟨by rfl, ?_⟩) ?_ ?_
  rotate_left
  ·intro w'
   go_simp
   with_reducible rfl
  rotate_left
  ·simp only [Act.put, List.setIfInBounds_toArray, List.set_cons_zero, List.set_cons_succ, i64_w, i32_w]
   rfl
  refine pure_ (i := 22) (N := some 26) (v := ?_) (a' := ?_) #[true, false, true, false, false, true, false, false, true, false, true, false, true, false, true, false, true, false, true, false, true, false, true, false, false, false, false, false, false] rfl rfl (any_of HT_.out (by kernel_rfl)) (fun _ _ _ h => h) (Or.inl ⟨by rfl, ?_⟩) ?_ ?_
  rotate_left
  ·intro w'
   go_simp
   with_reducible rfl
  rotate_left
  ·simp only [Act.put, List.setIfInBounds_toArray, List.set_cons_zero, List.set_cons_succ, i64_w, i32_w]
   rfl
  refine pure_ (i := 24) (N := some 28) (v := ?_) (a' := ?_) #[true, false, true, false, false, true, false, false, true, false, true, false, true, false, true, false, true, false, true, false, true, false, true, false, true, false, false, false, false] rfl rfl (any_of HT_.out (by kernel_rfl)) (fun _ _ _ h => h) (Or.inl ⟨by rfl, ?_⟩) ?_ ?_
  rotate_left
  ·intro w'
   go_simp
   with_reducible rfl
  rotate_left
  ·simp only [Act.put, List.setIfInBounds_toArray, List.set_cons_zero, List.set_cons_succ, i64_w, i32_w]
   rfl
  refine take_ (i := 1) (N := some 5) (v := ?_) (a' := ?_) #[true, true, true, false, false, true, false, false, true, false, true, false, true, false, true, false, true, false, true, false, true, false, true, false, true, false, false, false, false] rfl rfl (take_ofW HT_.out HW_.out (by kernel_rfl)) (fun _ _ _ h => h) (Or.inl ⟨by rfl, ?_⟩) hHeld ?_ ?_
  rotate_left
  ·rintro w' ⟨s0, s1, s2, s3, s4, s5, s6, s7, s8, s9, s10, s11⟩
   go_simp
   with_reducible rfl
  rotate_left
  ·simp only [Act.put, List.setIfInBounds_toArray, List.set_cons_zero, List.set_cons_succ, i64_w, i32_w]
   rfl
  refine take_ (i := 3) (N := some 7) (v := ?_) (a' := ?_) #[true, true, true, true, false, true, false, false, true, false, true, false, true, false, true, false, true, false, true, false, true, false, true, false, true, false, false, false, false] rfl rfl (take_ofW HT_.out HW_.out (by kernel_rfl)) (fun _ _ _ h => h) (Or.inl ⟨by rfl, ?_⟩) hHeld ?_ ?_
  rotate_left
  ·rintro w' ⟨s0, s1, s2, s3, s4, s5, s6, s7, s8, s9, s10, s11⟩
   go_simp
   with_reducible rfl
  rotate_left
  ·simp only [Act.put, List.setIfInBounds_toArray, List.set_cons_zero, List.set_cons_succ, i64_w, i32_w]
   rfl
  refine take_ (i := 6) (N := some 10) (v := ?_) (a' := ?_) #[true, true, true, true, false, true, true, false, true, false, true, false, true, false, true, false, true, false, true, false, true, false, true, false, true, false, false, false, false] rfl rfl (take_ofW HT_.out HW_.out (by kernel_rfl)) (fun _ _ _ h => h) (Or.inl ⟨by rfl, ?_⟩) hHeld ?_ ?_
  rotate_left
  ·rintro w' ⟨s0, s1, s2, s3, s4, s5, s6, s7, s8, s9, s10, s11⟩
   go_simp
   with_reducible rfl
  rotate_left
  ·simp only [Act.put, List.setIfInBounds_toArray, List.set_cons_zero, List.set_cons_succ, i64_w, i32_w]
   rfl
  refine take_ (i := 9) (N := some 13) (v := ?_) (a' := ?_) #[true, true, true, true, false, true, true, false, true, true, true, false, true, false, true, false, true, false, true, false, true, false, true, false, true, false, false, false, false] rfl rfl (take_ofW HT_.out HW_.out (by kernel_rfl)) (fun _ _ _ h => h) (Or.inl ⟨by rfl, ?_⟩) hHeld ?_ ?_
  rotate_left
  ·rintro w' ⟨s0, s1, s2, s3, s4, s5, s6, s7, s8, s9, s10, s11⟩
   go_simp
   with_reducible rfl
  rotate_left
  ·simp only [Act.put, List.setIfInBounds_toArray, List.set_cons_zero, List.set_cons_succ, i64_w, i32_w]
   rfl
  refine take_ (i := 11) (N := some 15) (v := ?_) (a' := ?_) #[true, true, true, true, false, true, true, false, true, true, true, true, true, false, true, false, true, false, true, false, true, false, true, false, true, false, false, false, false] rfl rfl (take_ofW HT_.out HW_.out (by kernel_rfl)) (fun _ _ _ h => h) (Or.inl ⟨by rfl, ?_⟩) hHeld ?_ ?_
  rotate_left
  ·rintro w' ⟨s0, s1, s2, s3, s4, s5, s6, s7, s8, s9, s10, s11⟩
   go_simp
   with_reducible rfl
  rotate_left
  ·simp only [Act.put, List.setIfInBounds_toArray, List.set_cons_zero, List.set_cons_succ, i64_w, i32_w]
   rfl
  refine take_ (i := 13) (N := some 17) (v := ?_) (a' := ?_) #[true, true, true, true, false, true, true, false, true, true, true, true, true, true, true, false, true, false, true, false, true, false, true, false, true, false, false, false, false] rfl rfl (take_ofW HT_.out HW_.out (by kernel_rfl)) (fun _ _ _ h => h) (Or.inl ⟨by rfl, ?_⟩) hHeld ?_ ?_
  rotate_left
  ·rintro w' ⟨s0, s1, s2, s3, s4, s5, s6, s7, s8, s9, s10, s11⟩
   go_simp
   with_reducible rfl
  rotate_left
  ·simp only [Act.put, List.setIfInBounds_toArray, List.set_cons_zero, List.set_cons_succ, i64_w, i32_w]
   rfl
  refine take_ (i := 15) (N := some 19) (v := ?_) (a' := ?_) #[true, true, true, true, false, true, true, false, true, true, true, true, true, true, true, true, true, false, true, false, true, false, true, false, true, false, false, false, false] rfl rfl (take_ofW HT_.out HW_.out (by kernel_rfl)) (fun _ _ _ h => h) (Or.inl ⟨by rfl, ?_⟩) hHeld ?_ ?_
  rotate_left
  ·rintro w' ⟨s0, s1, s2, s3, s4, s5, s6, s7, s8, s9, s10, s11⟩
   go_simp
   with_reducible rfl
  rotate_left
  ·simp only [Act.put, List.setIfInBounds_toArray, List.set_cons_zero, List.set_cons_succ, i64_w, i32_w]
   rfl
  refine take_ (i := 17) (N := some 21) (v := ?_) (a' := ?_) #[true, true, true, true, false, true, true, false, true, true, true, true, true, true, true, true, true, true, true, false, true, false, true, false, true, false, false, false, false] rfl rfl (take_ofW HT_.out HW_.out (by kernel_rfl)) (fun _ _ _ h => h) (Or.inl ⟨by rfl, ?_⟩) hHeld ?_ ?_
  rotate_left
  ·rintro w' ⟨s0, s1, s2, s3, s4, s5, s6, s7, s8, s9, s10, s11⟩
   go_simp
   with_reducible rfl
  rotate_left
  ·simp only [Act.put, List.setIfInBounds_toArray, List.set_cons_zero, List.set_cons_succ, i64_w, i32_w]
   rfl
  refine take_ (i := 19) (N := some 23) (v := ?_) (a' := ?_) #[true, true, true, true, false, true, true, false, true, true, true, true, true, true, true, true, true, true, true, true, true, false, true, false, true, false, false, false, false] rfl rfl (take_ofW HT_.out HW_.out (by kernel_rfl)) (fun _ _ _ h => h) (Or.inl ⟨by rfl, ?_⟩) hHeld ?_ ?_
  rotate_left
  ·rintro w' ⟨s0, s1, s2, s3, s4, s5, s6, s7, s8, s9, s10, s11⟩
   go_simp
   with_reducible rfl
  rotate_left
  ·simp only [Act.put, List.setIfInBounds_toArray, List.set_cons_zero, List.set_cons_succ, i64_w, i32_w]
   rfl
  refine take_ (i := 21) (N := some 25) (v := ?_) (a' := ?_) #[true, true, true, true, false, true, true, false, true, true, true, true, true, true, true, true, true, true, true, true, true, true, true, false, true, false, false, false, false] rfl rfl (take_ofW HT_.out HW_.out (by kernel_rfl)) (fun _ _ _ h => h) (Or.inl ⟨by rfl, ?_⟩) hHeld ?_ ?_
  rotate_left
  ·rintro w' ⟨s0, s1, s2, s3, s4, s5, s6, s7, s8, s9, s10, s11⟩
   go_simp
   with_reducible rfl
  rotate_left
  ·simp only [Act.put, List.setIfInBounds_toArray, List.set_cons_zero, List.set_cons_succ, i64_w, i32_w]
   rfl
  refine take_ (i := 23) (N := some 27) (v := ?_) (a' := ?_) #[true, true, true, true, false, true, true, false, true, true, true, true, true, true, true, true, true, true, true, true, true, true, true, true, true, false, false, false, false] rfl rfl (take_ofW HT_.out HW_.out (by kernel_rfl)) (fun _ _ _ h => h) (Or.inl ⟨by rfl, ?_⟩) hHeld ?_ ?_
  rotate_left
  ·rintro w' ⟨s0, s1, s2, s3, s4, s5, s6, s7, s8, s9, s10, s11⟩
   go_simp
   with_reducible rfl
  rotate_left
  ·simp only [Act.put, List.setIfInBounds_toArray, List.set_cons_zero, List.set_cons_succ, i64_w, i32_w]
   rfl
  refine take_ (i := 25) (N := some 29) (v := ?_) (a' := ?_) #[true, true, true, true, false, true, true, false, true, true, true, true, true, true, true, true, true, true, true, true, true, true, true, true, true, true, false, false, false] rfl rfl (take_ofW HT_.out HW_.out (by kernel_rfl)) (fun _ _ _ h => h) (Or.inl ⟨by rfl, ?_⟩) hHeld ?_ ?_
  rotate_left
  ·rintro w' ⟨s0, s1, s2, s3, s4, s5, s6, s7, s8, s9, s10, s11⟩
   go_simp
   with_reducible rfl
  rotate_left
  ·simp only [Act.put, List.setIfInBounds_toArray, List.set_cons_zero, List.set_cons_succ, i64_w, i32_w]
   rfl
  refine join_ (σ := Value × Value × Nat) 1 #[true, true, true, true, true, true, true, true, true, true, true, true, true, true, true, true, true, true, true, true, true, true, true, true, true, true, true, true, false] (fun s_ => [(8, s_.1), (11, s_.2.1), (3, .pointer (some ⟨s_.2.2, 0, none⟩)), (30, .agg #[.string a0_0, .string a0_1, s_.2.1, .string a0_3, .int .u32 a0_4, .int .i64 a0_5, .int .u64 a0_6, .int .u64 a0_7, .bool a0_8, .bool a0_9, .bool a0_10, .bool a0_11])]) (fun s_ w' => (w'.cell? ⟨qD, 0, none⟩ = some (.string a0_0) ∧ w'.cell? ⟨qD, 1, none⟩ = some (.string a0_1) ∧ w'.cell? ⟨qD, 2, none⟩ = some (.slice A0_2 l0_2.length c0_2) ∧ w'.cell? ⟨qD, 3, none⟩ = some (.string a0_3) ∧ w'.cell? ⟨qD, 4, none⟩ = some (.int .u32 a0_4) ∧ w'.cell? ⟨qD, 5, none⟩ = some (.int .i64 a0_5) ∧ w'.cell? ⟨qD, 6, none⟩ = some (.int .u64 a0_6) ∧ w'.cell? ⟨qD, 7, none⟩ = some (.int .u64 a0_7) ∧ w'.cell? ⟨qD, 8, none⟩ = some (.bool a0_8) ∧ w'.cell? ⟨qD, 9, none⟩ = some (.bool a0_9) ∧ w'.cell? ⟨qD, 10, none⟩ = some (.bool a0_10) ∧ w'.cell? ⟨qD, 11, none⟩ = some (.bool a0_11)) ∧ (Kd.R Kd.string 9 w' w.heap.size (fun _ => True) s_.2.1 y111) ∧ (w'.heap[qD]? = some (.cells #[.string a0_0, .string a0_1, .slice A0_2 l0_2.length c0_2, .string a0_3, .int .u32 a0_4, .int .i64 a0_5, .int .u64 a0_6, .int .u64 a0_7, .bool a0_8, .bool a0_9, .bool a0_10, .bool a0_11] 27 (0, 0))) ∧ (w'.heap[qG]? = some (.cells #[.string (⟨#[]⟩ : ByteArray), .string (⟨#[]⟩ : ByteArray), .slice none 0 0, .string (⟨#[]⟩ : ByteArray), .int .u32 0, .int .i64 0, .int .u64 0, .int .u64 0, .bool false, .bool false, .bool false, .bool false] 32 (0, 0))) ∧ (w'.heap[s_.2.2]? = some (.cells #[.string (⟨#[]⟩ : ByteArray), .string (⟨#[]⟩ : ByteArray), .slice none 0 0, .string (⟨#[]⟩ : ByteArray), .int .u32 0, .int .i64 0, .int .u64 0, .int .u64 0, .bool false, .bool false, .bool false, .bool false] 32 (0, 0))) ∧ (w.heap.size ≤ s_.2.2) ∧ (w.heap.size ≤ s_.2.2) ∧ (qD ≠ s_.2.2) ∧ (s_.2.2 ≠ qD) ∧ (qG ≠ s_.2.2) ∧ (s_.2.2 ≠ qG) ∧ (Below w.heap.size w w')) ?_ ?_
  rotate_left
  ·intro hCont
   refine two_ (i := 4) (j := 27) (Ni := some 8) (Nj := some 3) #[true, true, true, true, true, true, true, false, true, true, true, true, true, true, true, true, true, true, true, true, true, true, true, true, true, true, false, false, false] #[true, true, true, true, false, true, true, false, true, true, true, true, true, true, true, true, true, true, true, true, true, true, true, true, true, true, false, true, false] rfl rfl rfl rfl (two_of HT_.out (by kernel_rfl)) (by decide) (by decide) (fun K hK => ?_) (fun K hK => ?_)
   ·skip
    refine Kd.R_lit_step Kd.string _ 9 ?hg (N := 8) ?hd (xs := ([] : List ByteArray)) (inner := []) (ok := fun _ => True) (okp := fun _ => True) ?hr ?hp (fun _ hk => hk) trivial (Below.refl _ _) (Nat.le_refl _) (by simp) ?_; (case hd => rfl); (case hg => rfl); (case hr => first | (go_simp; done) | (go_simp; rfl)); (case hp => exact (Reps.none _ _))
    intro v109 w7 ho8 hb hg_ hnew_
    clear hg_ hnew_
    (first | rw [← qT.out] at ho8 | (simp only [Int.reduceToNat] at ho8; rw [← qT.out] at ho8))
    have n0_ := M0 (Kd.R_lower ho8 (below_size bBhy4))
    have n1_ := M0 (blk_below (g := qD) (o := .cells #[.string a0_0, .string a0_1, .slice A0_2 l0_2.length c0_2, .string a0_3, .int .u32 a0_4, .int .i64 a0_5, .int .u64 a0_6, .int .u64 a0_7, .bool a0_8, .bool a0_9, .bool a0_10, .bool a0_11] 27 (0, 0)) (by (with_reducible repeat (first | refine bN ?_ _ | refine bD ?_ | refine bA ?_ _)); exact qC.out) hb)
    have n2_ := M0 (blk_below (g := qG) (o := .cells #[.string (⟨#[]⟩ : ByteArray), .string (⟨#[]⟩ : ByteArray), .slice none 0 0, .string (⟨#[]⟩ : ByteArray), .int .u32 0, .int .i64 0, .int .u64 0, .int .u64 0, .bool false, .bool false, .bool false, .bool false] 32 (0, 0)) (by (with_reducible repeat (first | refine bN ?_ _ | refine bD ?_ | refine bA ?_ _)); exact qE.out) hb)
    have n3_ := M0 (below_step bBhy4 hb)
    clear qC
    clear qE
    clear HB
    have qQ := n0_
    have qC := n1_
    have qE := n2_
    have HB := n3_
    clear n0_ n1_ n2_ n3_
    clear hb ho8
    refine hK.out _ _ ⟨(blk_cell qC.out 0).trans rfl, (blk_cell qC.out 1).trans rfl, (blk_cell qC.out 2).trans rfl, (blk_cell qC.out 3).trans rfl, (blk_cell qC.out 4).trans rfl, (blk_cell qC.out 5).trans rfl, (blk_cell qC.out 6).trans rfl, (blk_cell qC.out 7).trans rfl, (blk_cell qC.out 8).trans rfl, (blk_cell qC.out 9).trans rfl, (blk_cell qC.out 10).trans rfl, (blk_cell qC.out 11).trans rfl⟩ (fun hHeld => ?_)
    clear hK K
    refine norm_ (a' := ?_) ?_ ?_
    rotate_left
    ·show Act.put _ (some 8) _ = _
     simp only [Act.put, List.setIfInBounds_toArray, List.set_cons_zero, List.set_cons_succ, i64_w, i32_w]
     rfl
    refine two_ (i := 7) (j := 27) (Ni := some 11) (Nj := some 3) #[true, true, true, true, true, true, true, true, true, true, true, true, true, true, true, true, true, true, true, true, true, true, true, true, true, true, false, false, false] #[true, true, true, true, true, true, true, false, true, true, true, true, true, true, true, true, true, true, true, true, true, true, true, true, true, true, false, true, false] rfl rfl rfl rfl (two_of HT_.out (by kernel_rfl)) (by decide) (by decide) (fun K hK => ?_) (fun K hK => ?_)
    ·skip
     refine Kd.R_append_rows_step Kd.string (w0 := w) w.heap.size (by rfl) (.tmp 8) (.tmp 10) 23 9 (.string ⟨#[]⟩) 16 rfl Tryd.underlying23 info9 rfl (by decide) (by omega) v109 y108 l0_2 _ _ _ (fun _ => True) (fun _ => False) rfl rfl ?aO ?aR (fun _ _ h => h) (fun _ h => h.elim) ?aF ?aB ?aS ?aL ?_
     (case aR => repeat (first | exact (Kd.C_below HR0_2.out HB.out) | (with_reducible refine Kd.C_alloc ?_ _) | (with_reducible refine Kd.C_drewN ?_ _) | (with_reducible refine Kd.C_drew ?_)))
     (case aB => exact bBhy4)
     (case aF => exact (fun _ _ => trivial))
     (case aO => exact (by (with_reducible repeat (first | apply rA | apply rN | apply rD)); exact qQ.out))
     (case aS => exact (below_size bBhy4))
     (case aL => have := qW.out; omega)
     intro v112 w9 ho hb hg hat
     rw [← qV.out] at ho
     have n0_ := M0 (blk_grown (g := qD) (o := .cells #[.string a0_0, .string a0_1, .slice A0_2 l0_2.length c0_2, .string a0_3, .int .u32 a0_4, .int .i64 a0_5, .int .u64 a0_6, .int .u64 a0_7, .bool a0_8, .bool a0_9, .bool a0_10, .bool a0_11] 27 (0, 0)) (by (with_reducible repeat (first | refine bN ?_ _ | refine bD ?_ | refine bA ?_ _)); exact qC.out) hg (Kd.R_ne qQ.out qC.out (by decide)))
     have n1_ := M0 (blk_grown (g := qG) (o := .cells #[.string (⟨#[]⟩ : ByteArray), .string (⟨#[]⟩ : ByteArray), .slice none 0 0, .string (⟨#[]⟩ : ByteArray), .int .u32 0, .int .i64 0, .int .u64 0, .int .u64 0, .bool false, .bool false, .bool false, .bool false] 32 (0, 0)) (by (with_reducible repeat (first | refine bN ?_ _ | refine bD ?_ | refine bA ?_ _)); exact qE.out) hg (Kd.R_ne qQ.out qE.out (by decide)))
     have n2_ := M0 (hb)
     have n3_ := M0 (ho)
     clear qC
     clear qE
     clear HB
     clear qQ
     have qC := n0_
     have qE := n1_
     have HB := n2_
     have qO := n3_
     clear n0_ n1_ n2_ n3_
     clear ho hb hg hat
     obtain ⟨qb, qc, qZ⟩ := Kd.R_slice qO.out
     (first | subst qZ | (injection qZ with f1_ f2_ f3_; have f4_ := f1_.symm; have f5_ := f3_.symm; clear f1_ f2_ f3_; subst f4_; subst f5_))
     refine hK.out _ _ ⟨(blk_cell qC.out 0).trans rfl, (blk_cell qC.out 1).trans rfl, (blk_cell qC.out 2).trans rfl, (blk_cell qC.out 3).trans rfl, (blk_cell qC.out 4).trans rfl, (blk_cell qC.out 5).trans rfl, (blk_cell qC.out 6).trans rfl, (blk_cell qC.out 7).trans rfl, (blk_cell qC.out 8).trans rfl, (blk_cell qC.out 9).trans rfl, (blk_cell qC.out 10).trans rfl, (blk_cell qC.out 11).trans rfl⟩ (fun hHeld => ?_)
     clear hK K
     refine norm_ (a' := ?_) ?_ ?_
     rotate_left
     ·show Act.put _ (some 11) _ = _
      simp only [Act.put, List.setIfInBounds_toArray, List.set_cons_zero, List.set_cons_succ, i64_w, i32_w]
      rfl
     refine pure_ (i := 26) (N := some 30) (v := ?_) (a' := ?_) #[true, true, true, true, true, true, true, true, true, true, true, true, true, true, true, true, true, true, true, true, true, true, true, true, true, true, true, false, false] rfl rfl (any_of HT_.out (by kernel_rfl)) (fun _ _ _ h => h) (Or.inl ⟨by rfl, ?_⟩) ?_ ?_
     rotate_left
     ·intro w'
      go_simp
      with_reducible rfl
     rotate_left
     ·simp only [Act.put, List.setIfInBounds_toArray, List.set_cons_zero, List.set_cons_succ, i64_w, i32_w]
      rfl
     refine one_ (i := 27) (N := some 3) #[true, true, true, true, true, true, true, true, true, true, true, true, true, true, true, true, true, true, true, true, true, true, true, true, true, true, true, true, false] rfl rfl (one_of HT_.out (by kernel_rfl)) (by decide) (fun K hK => ?_)
     refine box_step ?hg (N := 3) ?hd (cs := #[.string (⟨#[]⟩ : ByteArray), .string (⟨#[]⟩ : ByteArray), .slice none 0 0, .string (⟨#[]⟩ : ByteArray), .int .u32 0, .int .i64 0, .int .u64 0, .int .u64 0, .bool false, .bool false, .bool false, .bool false]) (t := 32) ?hr ?_; (case hd => rfl); (case hg => rfl); (case hr => first | (go_simp; done) | (go_simp; rfl))
     intro qA hg w11 hbox hb
     have n0_ := M0 (Kd.R_below (by (with_reducible repeat (first | apply rA | apply rN | apply rD)); exact qO.out) hb)
     have n1_ := M0 (blk_below (g := qD) (o := .cells #[.string a0_0, .string a0_1, .slice A0_2 l0_2.length c0_2, .string a0_3, .int .u32 a0_4, .int .i64 a0_5, .int .u64 a0_6, .int .u64 a0_7, .bool a0_8, .bool a0_9, .bool a0_10, .bool a0_11] 27 (0, 0)) (by (with_reducible repeat (first | refine bN ?_ _ | refine bD ?_ | refine bA ?_ _)); exact qC.out) hb)
     have n2_ := M0 (blk_below (g := qG) (o := .cells #[.string (⟨#[]⟩ : ByteArray), .string (⟨#[]⟩ : ByteArray), .slice none 0 0, .string (⟨#[]⟩ : ByteArray), .int .u32 0, .int .i64 0, .int .u64 0, .int .u64 0, .bool false, .bool false, .bool false, .bool false] 32 (0, 0)) (by (with_reducible repeat (first | refine bN ?_ _ | refine bD ?_ | refine bA ?_ _)); exact qE.out) hb)
     have n3_ := M0 (below_step bBhy4 hb)
     have n4_ := M0 (hbox)
     have n5_ := M0 ((by rw [hg]; exact (below_size bBhy4) : w.heap.size ≤ qA))
     have n6_ := M0 ((by rw [hg]; exact (below_size bBhy4) : w.heap.size ≤ qA))
     have n7_ := M0 ((by rw [hg]; exact Nat.ne_of_lt (blk_lt (g := qD) (o := .cells #[.string a0_0, .string a0_1, .slice A0_2 l0_2.length c0_2, .string a0_3, .int .u32 a0_4, .int .i64 a0_5, .int .u64 a0_6, .int .u64 a0_7, .bool a0_8, .bool a0_9, .bool a0_10, .bool a0_11] 27 (0, 0)) (by (with_reducible repeat (first | refine bN ?_ _ | refine bD ?_ | refine bA ?_ _)); exact qC.out)) : qD ≠ qA))
     have n8_ := M0 ((by rw [hg]; exact Nat.ne_of_gt (blk_lt (g := qD) (o := .cells #[.string a0_0, .string a0_1, .slice A0_2 l0_2.length c0_2, .string a0_3, .int .u32 a0_4, .int .i64 a0_5, .int .u64 a0_6, .int .u64 a0_7, .bool a0_8, .bool a0_9, .bool a0_10, .bool a0_11] 27 (0, 0)) (by (with_reducible repeat (first | refine bN ?_ _ | refine bD ?_ | refine bA ?_ _)); exact qC.out)) : qA ≠ qD))
     have n9_ := M0 ((by rw [hg]; exact Nat.ne_of_lt (blk_lt (g := qG) (o := .cells #[.string (⟨#[]⟩ : ByteArray), .string (⟨#[]⟩ : ByteArray), .slice none 0 0, .string (⟨#[]⟩ : ByteArray), .int .u32 0, .int .i64 0, .int .u64 0, .int .u64 0, .bool false, .bool false, .bool false, .bool false] 32 (0, 0)) (by (with_reducible repeat (first | refine bN ?_ _ | refine bD ?_ | refine bA ?_ _)); exact qE.out)) : qG ≠ qA))
     have n10_ := M0 ((by rw [hg]; exact Nat.ne_of_gt (blk_lt (g := qG) (o := .cells #[.string (⟨#[]⟩ : ByteArray), .string (⟨#[]⟩ : ByteArray), .slice none 0 0, .string (⟨#[]⟩ : ByteArray), .int .u32 0, .int .i64 0, .int .u64 0, .int .u64 0, .bool false, .bool false, .bool false, .bool false] 32 (0, 0)) (by (with_reducible repeat (first | refine bN ?_ _ | refine bD ?_ | refine bA ?_ _)); exact qE.out)) : qA ≠ qG))
     clear qO
     clear qC
     clear qE
     clear HB
     have qO := n0_
     have qC := n1_
     have qE := n2_
     have HB := n3_
     have qF := n4_
     have GW114 := n5_
     have qP := n6_
     have qB := n7_
     have qL := n8_
     have qJ := n9_
     have qK := n10_
     clear n0_ n1_ n2_ n3_ n4_ n5_ n6_ n7_ n8_ n9_ n10_
     clear hb hbox hg
     refine hK.out _ _ ⟨(blk_cell qC.out 0).trans rfl, (blk_cell qC.out 1).trans rfl, (blk_cell qC.out 2).trans rfl, (blk_cell qC.out 3).trans rfl, (blk_cell qC.out 4).trans rfl, (blk_cell qC.out 5).trans rfl, (blk_cell qC.out 6).trans rfl, (blk_cell qC.out 7).trans rfl, (blk_cell qC.out 8).trans rfl, (blk_cell qC.out 9).trans rfl, (blk_cell qC.out 10).trans rfl, (blk_cell qC.out 11).trans rfl⟩ (fun hHeld => ?_)
     clear hK K
     refine norm_ (a' := ?_) ?_ ?_
     rotate_left
     ·show Act.put _ (some 3) _ = _
      simp only [Act.put, List.setIfInBounds_toArray, List.set_cons_zero, List.set_cons_succ, i64_w, i32_w]
      rfl
     exact norm_ (by simp only [putAll, Act.put, List.setIfInBounds_toArray, List.set_cons_zero, List.set_cons_succ]) (hCont (v109, .slice qb y111.length qc, qA) _ ⟨hHeld, (by (with_reducible repeat (first | apply rA | apply rN | apply rD)); exact qO.out), (by (with_reducible repeat (first | refine bN ?_ _ | refine bD ?_ | refine bA ?_ _)); exact qC.out), (by (with_reducible repeat (first | refine bN ?_ _ | refine bD ?_ | refine bA ?_ _)); exact qE.out), (by (with_reducible repeat (first | refine bN ?_ _ | refine bD ?_ | refine bA ?_ _)); exact qF.out), GW114.out, qP.out, qB.out, qL.out, qJ.out, qK.out, bBhy4⟩)
    ·skip
     refine box_step ?hg (N := 3) ?hd (cs := #[.string (⟨#[]⟩ : ByteArray), .string (⟨#[]⟩ : ByteArray), .slice none 0 0, .string (⟨#[]⟩ : ByteArray), .int .u32 0, .int .i64 0, .int .u64 0, .int .u64 0, .bool false, .bool false, .bool false, .bool false]) (t := 32) ?hr ?_; (case hd => rfl); (case hg => rfl); (case hr => first | (go_simp; done) | (go_simp; rfl))
     intro qA hg w9 hbox hb
     have n0_ := M0 (Kd.R_below (by (with_reducible repeat (first | apply rA | apply rN | apply rD)); exact qQ.out) hb)
     have n1_ := M0 (blk_below (g := qD) (o := .cells #[.string a0_0, .string a0_1, .slice A0_2 l0_2.length c0_2, .string a0_3, .int .u32 a0_4, .int .i64 a0_5, .int .u64 a0_6, .int .u64 a0_7, .bool a0_8, .bool a0_9, .bool a0_10, .bool a0_11] 27 (0, 0)) (by (with_reducible repeat (first | refine bN ?_ _ | refine bD ?_ | refine bA ?_ _)); exact qC.out) hb)
     have n2_ := M0 (blk_below (g := qG) (o := .cells #[.string (⟨#[]⟩ : ByteArray), .string (⟨#[]⟩ : ByteArray), .slice none 0 0, .string (⟨#[]⟩ : ByteArray), .int .u32 0, .int .i64 0, .int .u64 0, .int .u64 0, .bool false, .bool false, .bool false, .bool false] 32 (0, 0)) (by (with_reducible repeat (first | refine bN ?_ _ | refine bD ?_ | refine bA ?_ _)); exact qE.out) hb)
     have n3_ := M0 (below_step bBhy4 hb)
     have n4_ := M0 (hbox)
     have n5_ := M0 ((by rw [hg]; exact (below_size bBhy4) : w.heap.size ≤ qA))
     have n6_ := M0 ((by rw [hg]; exact (below_size bBhy4) : w.heap.size ≤ qA))
     have n7_ := M0 ((by rw [hg]; exact Nat.ne_of_lt (blk_lt (g := qD) (o := .cells #[.string a0_0, .string a0_1, .slice A0_2 l0_2.length c0_2, .string a0_3, .int .u32 a0_4, .int .i64 a0_5, .int .u64 a0_6, .int .u64 a0_7, .bool a0_8, .bool a0_9, .bool a0_10, .bool a0_11] 27 (0, 0)) (by (with_reducible repeat (first | refine bN ?_ _ | refine bD ?_ | refine bA ?_ _)); exact qC.out)) : qD ≠ qA))
     have n8_ := M0 ((by rw [hg]; exact Nat.ne_of_gt (blk_lt (g := qD) (o := .cells #[.string a0_0, .string a0_1, .slice A0_2 l0_2.length c0_2, .string a0_3, .int .u32 a0_4, .int .i64 a0_5, .int .u64 a0_6, .int .u64 a0_7, .bool a0_8, .bool a0_9, .bool a0_10, .bool a0_11] 27 (0, 0)) (by (with_reducible repeat (first | refine bN ?_ _ | refine bD ?_ | refine bA ?_ _)); exact qC.out)) : qA ≠ qD))
     have n9_ := M0 ((by rw [hg]; exact Nat.ne_of_lt (blk_lt (g := qG) (o := .cells #[.string (⟨#[]⟩ : ByteArray), .string (⟨#[]⟩ : ByteArray), .slice none 0 0, .string (⟨#[]⟩ : ByteArray), .int .u32 0, .int .i64 0, .int .u64 0, .int .u64 0, .bool false, .bool false, .bool false, .bool false] 32 (0, 0)) (by (with_reducible repeat (first | refine bN ?_ _ | refine bD ?_ | refine bA ?_ _)); exact qE.out)) : qG ≠ qA))
     have n10_ := M0 ((by rw [hg]; exact Nat.ne_of_gt (blk_lt (g := qG) (o := .cells #[.string (⟨#[]⟩ : ByteArray), .string (⟨#[]⟩ : ByteArray), .slice none 0 0, .string (⟨#[]⟩ : ByteArray), .int .u32 0, .int .i64 0, .int .u64 0, .int .u64 0, .bool false, .bool false, .bool false, .bool false] 32 (0, 0)) (by (with_reducible repeat (first | refine bN ?_ _ | refine bD ?_ | refine bA ?_ _)); exact qE.out)) : qA ≠ qG))
     clear qQ
     clear qC
     clear qE
     clear HB
     have qQ := n0_
     have qC := n1_
     have qE := n2_
     have HB := n3_
     have qF := n4_
     have GW114 := n5_
     have qP := n6_
     have qB := n7_
     have qL := n8_
     have qJ := n9_
     have qK := n10_
     clear n0_ n1_ n2_ n3_ n4_ n5_ n6_ n7_ n8_ n9_ n10_
     clear hb hbox hg
     refine hK.out _ _ ⟨(blk_cell qC.out 0).trans rfl, (blk_cell qC.out 1).trans rfl, (blk_cell qC.out 2).trans rfl, (blk_cell qC.out 3).trans rfl, (blk_cell qC.out 4).trans rfl, (blk_cell qC.out 5).trans rfl, (blk_cell qC.out 6).trans rfl, (blk_cell qC.out 7).trans rfl, (blk_cell qC.out 8).trans rfl, (blk_cell qC.out 9).trans rfl, (blk_cell qC.out 10).trans rfl, (blk_cell qC.out 11).trans rfl⟩ (fun hHeld => ?_)
     clear hK K
     refine norm_ (a' := ?_) ?_ ?_
     rotate_left
     ·show Act.put _ (some 3) _ = _
      simp only [Act.put, List.setIfInBounds_toArray, List.set_cons_zero, List.set_cons_succ, i64_w, i32_w]
      rfl
     refine one_ (i := 7) (N := some 11) #[true, true, true, true, true, true, true, true, true, true, true, true, true, true, true, true, true, true, true, true, true, true, true, true, true, true, false, true, false] rfl rfl (one_of HT_.out (by kernel_rfl)) (by decide) (fun K hK => ?_)
     refine Kd.R_append_rows_step Kd.string (w0 := w) w.heap.size (by rfl) (.tmp 8) (.tmp 10) 23 9 (.string ⟨#[]⟩) 16 rfl Tryd.underlying23 info9 rfl (by decide) (by omega) v109 y108 l0_2 _ _ _ (fun _ => True) (fun _ => False) rfl rfl ?aO ?aR (fun _ _ h => h) (fun _ h => h.elim) ?aF ?aB ?aS ?aL ?_
     (case aR => repeat (first | exact (Kd.C_below HR0_2.out HB.out) | (with_reducible refine Kd.C_alloc ?_ _) | (with_reducible refine Kd.C_drewN ?_ _) | (with_reducible refine Kd.C_drew ?_)))
     (case aB => exact bBhy4)
     (case aF => exact (fun _ _ => trivial))
     (case aO => exact (by (with_reducible repeat (first | apply rA | apply rN | apply rD)); exact qQ.out))
     (case aS => exact (below_size bBhy4))
     (case aL => have := qW.out; omega)
     intro v112 w10 ho hb hg hat
     rw [← qV.out] at ho
     have n0_ := M0 (blk_grown (g := qD) (o := .cells #[.string a0_0, .string a0_1, .slice A0_2 l0_2.length c0_2, .string a0_3, .int .u32 a0_4, .int .i64 a0_5, .int .u64 a0_6, .int .u64 a0_7, .bool a0_8, .bool a0_9, .bool a0_10, .bool a0_11] 27 (0, 0)) (by (with_reducible repeat (first | refine bN ?_ _ | refine bD ?_ | refine bA ?_ _)); exact qC.out) hg (Kd.R_ne qQ.out qC.out (by decide)))
     have n1_ := M0 (blk_grown (g := qG) (o := .cells #[.string (⟨#[]⟩ : ByteArray), .string (⟨#[]⟩ : ByteArray), .slice none 0 0, .string (⟨#[]⟩ : ByteArray), .int .u32 0, .int .i64 0, .int .u64 0, .int .u64 0, .bool false, .bool false, .bool false, .bool false] 32 (0, 0)) (by (with_reducible repeat (first | refine bN ?_ _ | refine bD ?_ | refine bA ?_ _)); exact qE.out) hg (Kd.R_ne qQ.out qE.out (by decide)))
     have n2_ := M0 (blk_grown (g := qA) (o := .cells #[.string (⟨#[]⟩ : ByteArray), .string (⟨#[]⟩ : ByteArray), .slice none 0 0, .string (⟨#[]⟩ : ByteArray), .int .u32 0, .int .i64 0, .int .u64 0, .int .u64 0, .bool false, .bool false, .bool false, .bool false] 32 (0, 0)) (by (with_reducible repeat (first | refine bN ?_ _ | refine bD ?_ | refine bA ?_ _)); exact qF.out) hg (Kd.R_ne qQ.out qF.out (by decide)))
     have n3_ := M0 (hb)
     have n4_ := M0 (ho)
     clear qC
     clear qE
     clear qF
     clear HB
     clear qQ
     have qC := n0_
     have qE := n1_
     have qF := n2_
     have HB := n3_
     have qO := n4_
     clear n0_ n1_ n2_ n3_ n4_
     clear ho hb hg hat
     obtain ⟨qX, qY, qU⟩ := Kd.R_slice qO.out
     (first | subst qU | (injection qU with f1_ f2_ f3_; have f4_ := f1_.symm; have f5_ := f3_.symm; clear f1_ f2_ f3_; subst f4_; subst f5_))
     refine hK.out _ _ ⟨(blk_cell qC.out 0).trans rfl, (blk_cell qC.out 1).trans rfl, (blk_cell qC.out 2).trans rfl, (blk_cell qC.out 3).trans rfl, (blk_cell qC.out 4).trans rfl, (blk_cell qC.out 5).trans rfl, (blk_cell qC.out 6).trans rfl, (blk_cell qC.out 7).trans rfl, (blk_cell qC.out 8).trans rfl, (blk_cell qC.out 9).trans rfl, (blk_cell qC.out 10).trans rfl, (blk_cell qC.out 11).trans rfl⟩ (fun hHeld => ?_)
     clear hK K
     refine norm_ (a' := ?_) ?_ ?_
     rotate_left
     ·show Act.put _ (some 11) _ = _
      simp only [Act.put, List.setIfInBounds_toArray, List.set_cons_zero, List.set_cons_succ, i64_w, i32_w]
      rfl
     refine pure_ (i := 26) (N := some 30) (v := ?_) (a' := ?_) #[true, true, true, true, true, true, true, true, true, true, true, true, true, true, true, true, true, true, true, true, true, true, true, true, true, true, true, true, false] rfl rfl (any_of HT_.out (by kernel_rfl)) (fun _ _ _ h => h) (Or.inl ⟨by rfl, ?_⟩) ?_ ?_
     rotate_left
     ·intro w'
      go_simp
      with_reducible rfl
     rotate_left
     ·simp only [Act.put, List.setIfInBounds_toArray, List.set_cons_zero, List.set_cons_succ, i64_w, i32_w]
      rfl
     exact norm_ (by simp only [putAll, Act.put, List.setIfInBounds_toArray, List.set_cons_zero, List.set_cons_succ]) (hCont (v109, .slice qX y111.length qY, qA) _ ⟨hHeld, (by (with_reducible repeat (first | apply rA | apply rN | apply rD)); exact qO.out), (by (with_reducible repeat (first | refine bN ?_ _ | refine bD ?_ | refine bA ?_ _)); exact qC.out), (by (with_reducible repeat (first | refine bN ?_ _ | refine bD ?_ | refine bA ?_ _)); exact qE.out), (by (with_reducible repeat (first | refine bN ?_ _ | refine bD ?_ | refine bA ?_ _)); exact qF.out), GW114.out, qP.out, qB.out, qL.out, qJ.out, qK.out, bBhy4⟩)
   ·skip
    refine box_step ?hg (N := 3) ?hd (cs := #[.string (⟨#[]⟩ : ByteArray), .string (⟨#[]⟩ : ByteArray), .slice none 0 0, .string (⟨#[]⟩ : ByteArray), .int .u32 0, .int .i64 0, .int .u64 0, .int .u64 0, .bool false, .bool false, .bool false, .bool false]) (t := 32) ?hr ?_; (case hd => rfl); (case hg => rfl); (case hr => first | (go_simp; done) | (go_simp; rfl))
    intro qA hg w7 hbox hb
    have n0_ := M0 (blk_below (g := qD) (o := .cells #[.string a0_0, .string a0_1, .slice A0_2 l0_2.length c0_2, .string a0_3, .int .u32 a0_4, .int .i64 a0_5, .int .u64 a0_6, .int .u64 a0_7, .bool a0_8, .bool a0_9, .bool a0_10, .bool a0_11] 27 (0, 0)) (by (with_reducible repeat (first | refine bN ?_ _ | refine bD ?_ | refine bA ?_ _)); exact qC.out) hb)
    have n1_ := M0 (blk_below (g := qG) (o := .cells #[.string (⟨#[]⟩ : ByteArray), .string (⟨#[]⟩ : ByteArray), .slice none 0 0, .string (⟨#[]⟩ : ByteArray), .int .u32 0, .int .i64 0, .int .u64 0, .int .u64 0, .bool false, .bool false, .bool false, .bool false] 32 (0, 0)) (by (with_reducible repeat (first | refine bN ?_ _ | refine bD ?_ | refine bA ?_ _)); exact qE.out) hb)
    have n2_ := M0 (below_step bBhy4 hb)
    have n3_ := M0 (hbox)
    have n4_ := M0 ((by rw [hg]; exact (below_size bBhy4) : w.heap.size ≤ qA))
    have n5_ := M0 ((by rw [hg]; exact (below_size bBhy4) : w.heap.size ≤ qA))
    have n6_ := M0 ((by rw [hg]; exact Nat.ne_of_lt (blk_lt (g := qD) (o := .cells #[.string a0_0, .string a0_1, .slice A0_2 l0_2.length c0_2, .string a0_3, .int .u32 a0_4, .int .i64 a0_5, .int .u64 a0_6, .int .u64 a0_7, .bool a0_8, .bool a0_9, .bool a0_10, .bool a0_11] 27 (0, 0)) (by (with_reducible repeat (first | refine bN ?_ _ | refine bD ?_ | refine bA ?_ _)); exact qC.out)) : qD ≠ qA))
    have n7_ := M0 ((by rw [hg]; exact Nat.ne_of_gt (blk_lt (g := qD) (o := .cells #[.string a0_0, .string a0_1, .slice A0_2 l0_2.length c0_2, .string a0_3, .int .u32 a0_4, .int .i64 a0_5, .int .u64 a0_6, .int .u64 a0_7, .bool a0_8, .bool a0_9, .bool a0_10, .bool a0_11] 27 (0, 0)) (by (with_reducible repeat (first | refine bN ?_ _ | refine bD ?_ | refine bA ?_ _)); exact qC.out)) : qA ≠ qD))
    have n8_ := M0 ((by rw [hg]; exact Nat.ne_of_lt (blk_lt (g := qG) (o := .cells #[.string (⟨#[]⟩ : ByteArray), .string (⟨#[]⟩ : ByteArray), .slice none 0 0, .string (⟨#[]⟩ : ByteArray), .int .u32 0, .int .i64 0, .int .u64 0, .int .u64 0, .bool false, .bool false, .bool false, .bool false] 32 (0, 0)) (by (with_reducible repeat (first | refine bN ?_ _ | refine bD ?_ | refine bA ?_ _)); exact qE.out)) : qG ≠ qA))
    have n9_ := M0 ((by rw [hg]; exact Nat.ne_of_gt (blk_lt (g := qG) (o := .cells #[.string (⟨#[]⟩ : ByteArray), .string (⟨#[]⟩ : ByteArray), .slice none 0 0, .string (⟨#[]⟩ : ByteArray), .int .u32 0, .int .i64 0, .int .u64 0, .int .u64 0, .bool false, .bool false, .bool false, .bool false] 32 (0, 0)) (by (with_reducible repeat (first | refine bN ?_ _ | refine bD ?_ | refine bA ?_ _)); exact qE.out)) : qA ≠ qG))
    clear qC
    clear qE
    clear HB
    have qC := n0_
    have qE := n1_
    have HB := n2_
    have qF := n3_
    have GW114 := n4_
    have qP := n5_
    have qB := n6_
    have qL := n7_
    have qJ := n8_
    have qK := n9_
    clear n0_ n1_ n2_ n3_ n4_ n5_ n6_ n7_ n8_ n9_
    clear hb hbox hg
    refine hK.out _ _ ⟨(blk_cell qC.out 0).trans rfl, (blk_cell qC.out 1).trans rfl, (blk_cell qC.out 2).trans rfl, (blk_cell qC.out 3).trans rfl, (blk_cell qC.out 4).trans rfl, (blk_cell qC.out 5).trans rfl, (blk_cell qC.out 6).trans rfl, (blk_cell qC.out 7).trans rfl, (blk_cell qC.out 8).trans rfl, (blk_cell qC.out 9).trans rfl, (blk_cell qC.out 10).trans rfl, (blk_cell qC.out 11).trans rfl⟩ (fun hHeld => ?_)
    clear hK K
    refine norm_ (a' := ?_) ?_ ?_
    rotate_left
    ·show Act.put _ (some 3) _ = _
     simp only [Act.put, List.setIfInBounds_toArray, List.set_cons_zero, List.set_cons_succ, i64_w, i32_w]
     rfl
    refine one_ (i := 4) (N := some 8) #[true, true, true, true, true, true, true, false, true, true, true, true, true, true, true, true, true, true, true, true, true, true, true, true, true, true, false, true, false] rfl rfl (one_of HT_.out (by kernel_rfl)) (by decide) (fun K hK => ?_)
    refine Kd.R_lit_step Kd.string _ 9 ?hg (N := 8) ?hd (xs := ([] : List ByteArray)) (inner := []) (ok := fun _ => True) (okp := fun _ => True) ?hr ?hp (fun _ hk => hk) trivial (Below.refl _ _) (Nat.le_refl _) (by simp) ?_; (case hd => rfl); (case hg => rfl); (case hr => first | (go_simp; done) | (go_simp; rfl)); (case hp => exact (Reps.none _ _))
    intro v109 w8 ho9 hb hg_ hnew_
    clear hg_ hnew_
    (first | rw [← qT.out] at ho9 | (simp only [Int.reduceToNat] at ho9; rw [← qT.out] at ho9))
    have n0_ := M0 (Kd.R_lower ho9 (below_size bBhy4))
    have n1_ := M0 (blk_below (g := qD) (o := .cells #[.string a0_0, .string a0_1, .slice A0_2 l0_2.length c0_2, .string a0_3, .int .u32 a0_4, .int .i64 a0_5, .int .u64 a0_6, .int .u64 a0_7, .bool a0_8, .bool a0_9, .bool a0_10, .bool a0_11] 27 (0, 0)) (by (with_reducible repeat (first | refine bN ?_ _ | refine bD ?_ | refine bA ?_ _)); exact qC.out) hb)
    have n2_ := M0 (blk_below (g := qG) (o := .cells #[.string (⟨#[]⟩ : ByteArray), .string (⟨#[]⟩ : ByteArray), .slice none 0 0, .string (⟨#[]⟩ : ByteArray), .int .u32 0, .int .i64 0, .int .u64 0, .int .u64 0, .bool false, .bool false, .bool false, .bool false] 32 (0, 0)) (by (with_reducible repeat (first | refine bN ?_ _ | refine bD ?_ | refine bA ?_ _)); exact qE.out) hb)
    have n3_ := M0 (blk_below (g := qA) (o := .cells #[.string (⟨#[]⟩ : ByteArray), .string (⟨#[]⟩ : ByteArray), .slice none 0 0, .string (⟨#[]⟩ : ByteArray), .int .u32 0, .int .i64 0, .int .u64 0, .int .u64 0, .bool false, .bool false, .bool false, .bool false] 32 (0, 0)) (by (with_reducible repeat (first | refine bN ?_ _ | refine bD ?_ | refine bA ?_ _)); exact qF.out) hb)
    have n4_ := M0 (below_step bBhy4 hb)
    clear qC
    clear qE
    clear qF
    clear HB
    have qQ := n0_
    have qC := n1_
    have qE := n2_
    have qF := n3_
    have HB := n4_
    clear n0_ n1_ n2_ n3_ n4_
    clear hb ho9
    refine hK.out _ _ ⟨(blk_cell qC.out 0).trans rfl, (blk_cell qC.out 1).trans rfl, (blk_cell qC.out 2).trans rfl, (blk_cell qC.out 3).trans rfl, (blk_cell qC.out 4).trans rfl, (blk_cell qC.out 5).trans rfl, (blk_cell qC.out 6).trans rfl, (blk_cell qC.out 7).trans rfl, (blk_cell qC.out 8).trans rfl, (blk_cell qC.out 9).trans rfl, (blk_cell qC.out 10).trans rfl, (blk_cell qC.out 11).trans rfl⟩ (fun hHeld => ?_)
    clear hK K
    refine norm_ (a' := ?_) ?_ ?_
    rotate_left
    ·show Act.put _ (some 8) _ = _
     simp only [Act.put, List.setIfInBounds_toArray, List.set_cons_zero, List.set_cons_succ, i64_w, i32_w]
     rfl
    refine one_ (i := 7) (N := some 11) #[true, true, true, true, true, true, true, true, true, true, true, true, true, true, true, true, true, true, true, true, true, true, true, true, true, true, false, true, false] rfl rfl (one_of HT_.out (by kernel_rfl)) (by decide) (fun K hK => ?_)
    refine Kd.R_append_rows_step Kd.string (w0 := w) w.heap.size (by rfl) (.tmp 8) (.tmp 10) 23 9 (.string ⟨#[]⟩) 16 rfl Tryd.underlying23 info9 rfl (by decide) (by omega) v109 y108 l0_2 _ _ _ (fun _ => True) (fun _ => False) rfl rfl ?aO ?aR (fun _ _ h => h) (fun _ h => h.elim) ?aF ?aB ?aS ?aL ?_
    (case aR => repeat (first | exact (Kd.C_below HR0_2.out HB.out) | (with_reducible refine Kd.C_alloc ?_ _) | (with_reducible refine Kd.C_drewN ?_ _) | (with_reducible refine Kd.C_drew ?_)))
    (case aB => exact bBhy4)
    (case aF => exact (fun _ _ => trivial))
    (case aO => exact (by (with_reducible repeat (first | apply rA | apply rN | apply rD)); exact qQ.out))
    (case aS => exact (below_size bBhy4))
    (case aL => have := qW.out; omega)
    intro v112 w10 ho hb hg hat
    rw [← qV.out] at ho
    have n0_ := M0 (blk_grown (g := qD) (o := .cells #[.string a0_0, .string a0_1, .slice A0_2 l0_2.length c0_2, .string a0_3, .int .u32 a0_4, .int .i64 a0_5, .int .u64 a0_6, .int .u64 a0_7, .bool a0_8, .bool a0_9, .bool a0_10, .bool a0_11] 27 (0, 0)) (by (with_reducible repeat (first | refine bN ?_ _ | refine bD ?_ | refine bA ?_ _)); exact qC.out) hg (Kd.R_ne qQ.out qC.out (by decide)))
    have n1_ := M0 (blk_grown (g := qG) (o := .cells #[.string (⟨#[]⟩ : ByteArray), .string (⟨#[]⟩ : ByteArray), .slice none 0 0, .string (⟨#[]⟩ : ByteArray), .int .u32 0, .int .i64 0, .int .u64 0, .int .u64 0, .bool false, .bool false, .bool false, .bool false] 32 (0, 0)) (by (with_reducible repeat (first | refine bN ?_ _ | refine bD ?_ | refine bA ?_ _)); exact qE.out) hg (Kd.R_ne qQ.out qE.out (by decide)))
    have n2_ := M0 (blk_grown (g := qA) (o := .cells #[.string (⟨#[]⟩ : ByteArray), .string (⟨#[]⟩ : ByteArray), .slice none 0 0, .string (⟨#[]⟩ : ByteArray), .int .u32 0, .int .i64 0, .int .u64 0, .int .u64 0, .bool false, .bool false, .bool false, .bool false] 32 (0, 0)) (by (with_reducible repeat (first | refine bN ?_ _ | refine bD ?_ | refine bA ?_ _)); exact qF.out) hg (Kd.R_ne qQ.out qF.out (by decide)))
    have n3_ := M0 (hb)
    have n4_ := M0 (ho)
    clear qC
    clear qE
    clear qF
    clear HB
    clear qQ
    have qC := n0_
    have qE := n1_
    have qF := n2_
    have HB := n3_
    have qO := n4_
    clear n0_ n1_ n2_ n3_ n4_
    clear ho hb hg hat
    obtain ⟨qX, qY, qU⟩ := Kd.R_slice qO.out
    (first | subst qU | (injection qU with f1_ f2_ f3_; have f4_ := f1_.symm; have f5_ := f3_.symm; clear f1_ f2_ f3_; subst f4_; subst f5_))
    refine hK.out _ _ ⟨(blk_cell qC.out 0).trans rfl, (blk_cell qC.out 1).trans rfl, (blk_cell qC.out 2).trans rfl, (blk_cell qC.out 3).trans rfl, (blk_cell qC.out 4).trans rfl, (blk_cell qC.out 5).trans rfl, (blk_cell qC.out 6).trans rfl, (blk_cell qC.out 7).trans rfl, (blk_cell qC.out 8).trans rfl, (blk_cell qC.out 9).trans rfl, (blk_cell qC.out 10).trans rfl, (blk_cell qC.out 11).trans rfl⟩ (fun hHeld => ?_)
    clear hK K
    refine norm_ (a' := ?_) ?_ ?_
    rotate_left
    ·show Act.put _ (some 11) _ = _
     simp only [Act.put, List.setIfInBounds_toArray, List.set_cons_zero, List.set_cons_succ, i64_w, i32_w]
     rfl
    refine pure_ (i := 26) (N := some 30) (v := ?_) (a' := ?_) #[true, true, true, true, true, true, true, true, true, true, true, true, true, true, true, true, true, true, true, true, true, true, true, true, true, true, true, true, false] rfl rfl (any_of HT_.out (by kernel_rfl)) (fun _ _ _ h => h) (Or.inl ⟨by rfl, ?_⟩) ?_ ?_
    rotate_left
    ·intro w'
     go_simp
     with_reducible rfl
    rotate_left
    ·simp only [Act.put, List.setIfInBounds_toArray, List.set_cons_zero, List.set_cons_succ, i64_w, i32_w]
     rfl
    exact norm_ (by simp only [putAll, Act.put, List.setIfInBounds_toArray, List.set_cons_zero, List.set_cons_succ]) (hCont (v109, .slice qX y111.length qY, qA) _ ⟨hHeld, (by (with_reducible repeat (first | apply rA | apply rN | apply rD)); exact qO.out), (by (with_reducible repeat (first | refine bN ?_ _ | refine bD ?_ | refine bA ?_ _)); exact qC.out), (by (with_reducible repeat (first | refine bN ?_ _ | refine bD ?_ | refine bA ?_ _)); exact qE.out), (by (with_reducible repeat (first | refine bN ?_ _ | refine bD ?_ | refine bA ?_ _)); exact qF.out), GW114.out, qP.out, qB.out, qL.out, qJ.out, qK.out, bBhy4⟩)
  rintro ⟨v109, v112, qA⟩ w12 ⟨hS_, h0_, h1_, h2_, h3_, h4_, h5_, h6_, h7_, h8_, h9_, h10_⟩
  have n0_ : Aside0 (Kd.R Kd.string 9 w12 w.heap.size (fun _ => True) v112 y111) := ⟨h0_⟩
  have n1_ : Aside0 (w12.heap[qD]? = some (.cells #[.string a0_0, .string a0_1, .slice A0_2 l0_2.length c0_2, .string a0_3, .int .u32 a0_4, .int .i64 a0_5, .int .u64 a0_6, .int .u64 a0_7, .bool a0_8, .bool a0_9, .bool a0_10, .bool a0_11] 27 (0, 0))) := ⟨h1_⟩
  have n2_ : Aside0 (w12.heap[qG]? = some (.cells #[.string (⟨#[]⟩ : ByteArray), .string (⟨#[]⟩ : ByteArray), .slice none 0 0, .string (⟨#[]⟩ : ByteArray), .int .u32 0, .int .i64 0, .int .u64 0, .int .u64 0, .bool false, .bool false, .bool false, .bool false] 32 (0, 0))) := ⟨h2_⟩
  have n3_ : Aside0 (w12.heap[qA]? = some (.cells #[.string (⟨#[]⟩ : ByteArray), .string (⟨#[]⟩ : ByteArray), .slice none 0 0, .string (⟨#[]⟩ : ByteArray), .int .u32 0, .int .i64 0, .int .u64 0, .int .u64 0, .bool false, .bool false, .bool false, .bool false] 32 (0, 0))) := ⟨h3_⟩
  have n4_ : Aside0 (w.heap.size ≤ qA) := ⟨h4_⟩
  have n5_ : Aside0 (w.heap.size ≤ qA) := ⟨h5_⟩
  have n6_ : Aside0 (qD ≠ qA) := ⟨h6_⟩
  have n7_ : Aside0 (qA ≠ qD) := ⟨h7_⟩
  have n8_ : Aside0 (qG ≠ qA) := ⟨h8_⟩
  have n9_ : Aside0 (qA ≠ qG) := ⟨h9_⟩
  have n10_ : Aside0 (Below w.heap.size w w12) := ⟨h10_⟩
  clear qC
  clear qE
  clear HB
  clear h0_ h1_ h2_ h3_ h4_ h5_ h6_ h7_ h8_ h9_ h10_
  have qO := n0_
  have qC := n1_
  have qE := n2_
  have qF := n3_
  have GW114 := n4_
  have qP := n5_
  have qB := n6_
  have qL := n7_
  have qJ := n8_
  have qK := n9_
  have HB := n10_
  clear n0_ n1_ n2_ n3_ n4_ n5_ n6_ n7_ n8_ n9_ n10_
  have hHeld : w12.cell? ⟨qD, 0, none⟩ = some (.string a0_0) ∧ w12.cell? ⟨qD, 1, none⟩ = some (.string a0_1) ∧ w12.cell? ⟨qD, 2, none⟩ = some (.slice A0_2 l0_2.length c0_2) ∧ w12.cell? ⟨qD, 3, none⟩ = some (.string a0_3) ∧ w12.cell? ⟨qD, 4, none⟩ = some (.int .u32 a0_4) ∧ w12.cell? ⟨qD, 5, none⟩ = some (.int .i64 a0_5) ∧ w12.cell? ⟨qD, 6, none⟩ = some (.int .u64 a0_6) ∧ w12.cell? ⟨qD, 7, none⟩ = some (.int .u64 a0_7) ∧ w12.cell? ⟨qD, 8, none⟩ = some (.bool a0_8) ∧ w12.cell? ⟨qD, 9, none⟩ = some (.bool a0_9) ∧ w12.cell? ⟨qD, 10, none⟩ = some (.bool a0_10) ∧ w12.cell? ⟨qD, 11, none⟩ = some (.bool a0_11) := hS_
  obtain ⟨qH, qI, qa⟩ := Kd.R_slice qO.out
  (first | subst qa | (injection qa with f1_ f2_ f3_; have f4_ := f1_.symm; have f5_ := f3_.symm; clear f1_ f2_ f3_; subst f4_; subst f5_))
  refine norm_ (a' := ?_) ?_ ?_
  rotate_left
  ·simp only [putAll, Act.put, List.setIfInBounds_toArray, List.set_cons_zero, List.set_cons_succ]
   rfl
  refine one_ (i := 28) (N := none) #[true, true, true, true, true, true, true, true, true, true, true, true, true, true, true, true, true, true, true, true, true, true, true, true, true, true, true, true, true] rfl rfl (one_of HT_.out (by kernel_rfl)) (by decide) (fun K hK => ?_)
  have hs14 : w12.cell? ⟨qA, 0, none⟩ = some (.string (⟨#[]⟩ : ByteArray)) := (blk_cell qF.out 0).trans rfl
  have qCp := blk_frozen qF.out 0
  have qx := qB.out
  have qy := qJ.out
  have qz := qL.out
  have qAA := qK.out
  have hs15 : w12.cell? ⟨qA, 1, none⟩ = some (.string (⟨#[]⟩ : ByteArray)) := (blk_cell qF.out 1).trans rfl
  have qCq := blk_frozen qF.out 1
  have qAB := qB.out
  have qAC := qJ.out
  have qAD := qL.out
  have qAE := qK.out
  have hs16 : w12.cell? ⟨qA, 2, none⟩ = some (.slice none 0 0) := (blk_cell qF.out 2).trans rfl
  have qCr := blk_frozen qF.out 2
  have qAF := qB.out
  have qAG := qJ.out
  have qAH := qL.out
  have qAI := qK.out
  have hs17 : w12.cell? ⟨qA, 3, none⟩ = some (.string (⟨#[]⟩ : ByteArray)) := (blk_cell qF.out 3).trans rfl
  have qCs := blk_frozen qF.out 3
  have qAJ := qB.out
  have qAK := qJ.out
  have qAL := qL.out
  have qAM := qK.out
  have hs18 : w12.cell? ⟨qA, 4, none⟩ = some (.int .u32 0) := (blk_cell qF.out 4).trans rfl
  have qCt := blk_frozen qF.out 4
  have qAN := qB.out
  have qAO := qJ.out
  have qAP := qL.out
  have qAQ := qK.out
  have hs19 : w12.cell? ⟨qA, 5, none⟩ = some (.int .i64 0) := (blk_cell qF.out 5).trans rfl
  have qCu := blk_frozen qF.out 5
  have qAR := qB.out
  have qAS := qJ.out
  have qAT := qL.out
  have qAU := qK.out
  have hs20 : w12.cell? ⟨qA, 6, none⟩ = some (.int .u64 0) := (blk_cell qF.out 6).trans rfl
  have qCv := blk_frozen qF.out 6
  have qAV := qB.out
  have qAW := qJ.out
  have qAX := qL.out
  have qAY := qK.out
  have hs21 : w12.cell? ⟨qA, 7, none⟩ = some (.int .u64 0) := (blk_cell qF.out 7).trans rfl
  have qCw := blk_frozen qF.out 7
  have qAZ := qB.out
  have qAa := qJ.out
  have qAb := qL.out
  have qAc := qK.out
  have hs22 : w12.cell? ⟨qA, 8, none⟩ = some (.bool false) := (blk_cell qF.out 8).trans rfl
  have qCx := blk_frozen qF.out 8
  have qAd := qB.out
  have qAe := qJ.out
  have qAf := qL.out
  have qAg := qK.out
  have hs23 : w12.cell? ⟨qA, 9, none⟩ = some (.bool false) := (blk_cell qF.out 9).trans rfl
  have qCy := blk_frozen qF.out 9
  have qAh := qB.out
  have qAi := qJ.out
  have qAj := qL.out
  have qAk := qK.out
  have hs24 : w12.cell? ⟨qA, 10, none⟩ = some (.bool false) := (blk_cell qF.out 10).trans rfl
  have qCz := blk_frozen qF.out 10
  have qAl := qB.out
  have qAm := qJ.out
  have qAn := qL.out
  have qAo := qK.out
  have hs25 : w12.cell? ⟨qA, 11, none⟩ = some (.bool false) := (blk_cell qF.out 11).trans rfl
  have qDA := blk_frozen qF.out 11
  have qAp := qB.out
  have qAq := qJ.out
  have qAr := qL.out
  have qAs := qK.out
  refine skip_ (w1 := ?_) (by rfl) rfl ?_ ?_
  rotate_left
  ·go_simp
   rfl
  refine hK.out _ _ ⟨((cell_far (p := ⟨qA, _, none⟩) qB.out _).trans (((cell_far (p := ⟨qA, _, none⟩) qB.out _).trans (((cell_far (p := ⟨qA, _, none⟩) qB.out _).trans (((cell_far (p := ⟨qA, _, none⟩) qB.out _).trans (((cell_far (p := ⟨qA, _, none⟩) qB.out _).trans (((cell_far (p := ⟨qA, _, none⟩) qB.out _).trans (((cell_far (p := ⟨qA, _, none⟩) qB.out _).trans (((cell_far (p := ⟨qA, _, none⟩) qB.out _).trans (((cell_far (p := ⟨qA, _, none⟩) qB.out _).trans (((cell_far (p := ⟨qA, _, none⟩) qB.out _).trans (((cell_far (p := ⟨qA, _, none⟩) qB.out _).trans (((cell_far (p := ⟨qA, _, none⟩) qB.out _).trans (hHeld.1)))))))))))))))))))))))), ((cell_far (p := ⟨qA, _, none⟩) qB.out _).trans (((cell_far (p := ⟨qA, _, none⟩) qB.out _).trans (((cell_far (p := ⟨qA, _, none⟩) qB.out _).trans (((cell_far (p := ⟨qA, _, none⟩) qB.out _).trans (((cell_far (p := ⟨qA, _, none⟩) qB.out _).trans (((cell_far (p := ⟨qA, _, none⟩) qB.out _).trans (((cell_far (p := ⟨qA, _, none⟩) qB.out _).trans (((cell_far (p := ⟨qA, _, none⟩) qB.out _).trans (((cell_far (p := ⟨qA, _, none⟩) qB.out _).trans (((cell_far (p := ⟨qA, _, none⟩) qB.out _).trans (((cell_far (p := ⟨qA, _, none⟩) qB.out _).trans (((cell_far (p := ⟨qA, _, none⟩) qB.out _).trans (hHeld.2.1)))))))))))))))))))))))), ((cell_far (p := ⟨qA, _, none⟩) qB.out _).trans (((cell_far (p := ⟨qA, _, none⟩) qB.out _).trans (((cell_far (p := ⟨qA, _, none⟩) qB.out _).trans (((cell_far (p := ⟨qA, _, none⟩) qB.out _).trans (((cell_far (p := ⟨qA, _, none⟩) qB.out _).trans (((cell_far (p := ⟨qA, _, none⟩) qB.out _).trans (((cell_far (p := ⟨qA, _, none⟩) qB.out _).trans (((cell_far (p := ⟨qA, _, none⟩) qB.out _).trans (((cell_far (p := ⟨qA, _, none⟩) qB.out _).trans (((cell_far (p := ⟨qA, _, none⟩) qB.out _).trans (((cell_far (p := ⟨qA, _, none⟩) qB.out _).trans (((cell_far (p := ⟨qA, _, none⟩) qB.out _).trans (hHeld.2.2.1)))))))))))))))))))))))), ((cell_far (p := ⟨qA, _, none⟩) qB.out _).trans (((cell_far (p := ⟨qA, _, none⟩) qB.out _).trans (((cell_far (p := ⟨qA, _, none⟩) qB.out _).trans (((cell_far (p := ⟨qA, _, none⟩) qB.out _).trans (((cell_far (p := ⟨qA, _, none⟩) qB.out _).trans (((cell_far (p := ⟨qA, _, none⟩) qB.out _).trans (((cell_far (p := ⟨qA, _, none⟩) qB.out _).trans (((cell_far (p := ⟨qA, _, none⟩) qB.out _).trans (((cell_far (p := ⟨qA, _, none⟩) qB.out _).trans (((cell_far (p := ⟨qA, _, none⟩) qB.out _).trans (((cell_far (p := ⟨qA, _, none⟩) qB.out _).trans (((cell_far (p := ⟨qA, _, none⟩) qB.out _).trans (hHeld.2.2.2.1)))))))))))))))))))))))), ((cell_far (p := ⟨qA, _, none⟩) qB.out _).trans (((cell_far (p := ⟨qA, _, none⟩) qB.out _).trans (((cell_far (p := ⟨qA, _, none⟩) qB.out _).trans (((cell_far (p := ⟨qA, _, none⟩) qB.out _).trans (((cell_far (p := ⟨qA, _, none⟩) qB.out _).trans (((cell_far (p := ⟨qA, _, none⟩) qB.out _).trans (((cell_far (p := ⟨qA, _, none⟩) qB.out _).trans (((cell_far (p := ⟨qA, _, none⟩) qB.out _).trans (((cell_far (p := ⟨qA, _, none⟩) qB.out _).trans (((cell_far (p := ⟨qA, _, none⟩) qB.out _).trans (((cell_far (p := ⟨qA, _, none⟩) qB.out _).trans (((cell_far (p := ⟨qA, _, none⟩) qB.out _).trans (hHeld.2.2.2.2.1)))))))))))))))))))))))), ((cell_far (p := ⟨qA, _, none⟩) qB.out _).trans (((cell_far (p := ⟨qA, _, none⟩) qB.out _).trans (((cell_far (p := ⟨qA, _, none⟩) qB.out _).trans (((cell_far (p := ⟨qA, _, none⟩) qB.out _).trans (((cell_far (p := ⟨qA, _, none⟩) qB.out _).trans (((cell_far (p := ⟨qA, _, none⟩) qB.out _).trans (((cell_far (p := ⟨qA, _, none⟩) qB.out _).trans (((cell_far (p := ⟨qA, _, none⟩) qB.out _).trans (((cell_far (p := ⟨qA, _, none⟩) qB.out _).trans (((cell_far (p := ⟨qA, _, none⟩) qB.out _).trans (((cell_far (p := ⟨qA, _, none⟩) qB.out _).trans (((cell_far (p := ⟨qA, _, none⟩) qB.out _).trans (hHeld.2.2.2.2.2.1)))))))))))))))))))))))), ((cell_far (p := ⟨qA, _, none⟩) qB.out _).trans (((cell_far (p := ⟨qA, _, none⟩) qB.out _).trans (((cell_far (p := ⟨qA, _, none⟩) qB.out _).trans (((cell_far (p := ⟨qA, _, none⟩) qB.out _).trans (((cell_far (p := ⟨qA, _, none⟩) qB.out _).trans (((cell_far (p := ⟨qA, _, none⟩) qB.out _).trans (((cell_far (p := ⟨qA, _, none⟩) qB.out _).trans (((cell_far (p := ⟨qA, _, none⟩) qB.out _).trans (((cell_far (p := ⟨qA, _, none⟩) qB.out _).trans (((cell_far (p := ⟨qA, _, none⟩) qB.out _).trans (((cell_far (p := ⟨qA, _, none⟩) qB.out _).trans (((cell_far (p := ⟨qA, _, none⟩) qB.out _).trans (hHeld.2.2.2.2.2.2.1)))))))))))))))))))))))), ((cell_far (p := ⟨qA, _, none⟩) qB.out _).trans (((cell_far (p := ⟨qA, _, none⟩) qB.out _).trans (((cell_far (p := ⟨qA, _, none⟩) qB.out _).trans (((cell_far (p := ⟨qA, _, none⟩) qB.out _).trans (((cell_far (p := ⟨qA, _, none⟩) qB.out _).trans (((cell_far (p := ⟨qA, _, none⟩) qB.out _).trans (((cell_far (p := ⟨qA, _, none⟩) qB.out _).trans (((cell_far (p := ⟨qA, _, none⟩) qB.out _).trans (((cell_far (p := ⟨qA, _, none⟩) qB.out _).trans (((cell_far (p := ⟨qA, _, none⟩) qB.out _).trans (((cell_far (p := ⟨qA, _, none⟩) qB.out _).trans (((cell_far (p := ⟨qA, _, none⟩) qB.out _).trans (hHeld.2.2.2.2.2.2.2.1)))))))))))))))))))))))), ((cell_far (p := ⟨qA, _, none⟩) qB.out _).trans (((cell_far (p := ⟨qA, _, none⟩) qB.out _).trans (((cell_far (p := ⟨qA, _, none⟩) qB.out _).trans (((cell_far (p := ⟨qA, _, none⟩) qB.out _).trans (((cell_far (p := ⟨qA, _, none⟩) qB.out _).trans (((cell_far (p := ⟨qA, _, none⟩) qB.out _).trans (((cell_far (p := ⟨qA, _, none⟩) qB.out _).trans (((cell_far (p := ⟨qA, _, none⟩) qB.out _).trans (((cell_far (p := ⟨qA, _, none⟩) qB.out _).trans (((cell_far (p := ⟨qA, _, none⟩) qB.out _).trans (((cell_far (p := ⟨qA, _, none⟩) qB.out _).trans (((cell_far (p := ⟨qA, _, none⟩) qB.out _).trans (hHeld.2.2.2.2.2.2.2.2.1)))))))))))))))))))))))), ((cell_far (p := ⟨qA, _, none⟩) qB.out _).trans (((cell_far (p := ⟨qA, _, none⟩) qB.out _).trans (((cell_far (p := ⟨qA, _, none⟩) qB.out _).trans (((cell_far (p := ⟨qA, _, none⟩) qB.out _).trans (((cell_far (p := ⟨qA, _, none⟩) qB.out _).trans (((cell_far (p := ⟨qA, _, none⟩) qB.out _).trans (((cell_far (p := ⟨qA, _, none⟩) qB.out _).trans (((cell_far (p := ⟨qA, _, none⟩) qB.out _).trans (((cell_far (p := ⟨qA, _, none⟩) qB.out _).trans (((cell_far (p := ⟨qA, _, none⟩) qB.out _).trans (((cell_far (p := ⟨qA, _, none⟩) qB.out _).trans (((cell_far (p := ⟨qA, _, none⟩) qB.out _).trans (hHeld.2.2.2.2.2.2.2.2.2.1)))))))))))))))))))))))), ((cell_far (p := ⟨qA, _, none⟩) qB.out _).trans (((cell_far (p := ⟨qA, _, none⟩) qB.out _).trans (((cell_far (p := ⟨qA, _, none⟩) qB.out _).trans (((cell_far (p := ⟨qA, _, none⟩) qB.out _).trans (((cell_far (p := ⟨qA, _, none⟩) qB.out _).trans (((cell_far (p := ⟨qA, _, none⟩) qB.out _).trans (((cell_far (p := ⟨qA, _, none⟩) qB.out _).trans (((cell_far (p := ⟨qA, _, none⟩) qB.out _).trans (((cell_far (p := ⟨qA, _, none⟩) qB.out _).trans (((cell_far (p := ⟨qA, _, none⟩) qB.out _).trans (((cell_far (p := ⟨qA, _, none⟩) qB.out _).trans (((cell_far (p := ⟨qA, _, none⟩) qB.out _).trans (hHeld.2.2.2.2.2.2.2.2.2.2.1)))))))))))))))))))))))), ((cell_far (p := ⟨qA, _, none⟩) qB.out _).trans (((cell_far (p := ⟨qA, _, none⟩) qB.out _).trans (((cell_far (p := ⟨qA, _, none⟩) qB.out _).trans (((cell_far (p := ⟨qA, _, none⟩) qB.out _).trans (((cell_far (p := ⟨qA, _, none⟩) qB.out _).trans (((cell_far (p := ⟨qA, _, none⟩) qB.out _).trans (((cell_far (p := ⟨qA, _, none⟩) qB.out _).trans (((cell_far (p := ⟨qA, _, none⟩) qB.out _).trans (((cell_far (p := ⟨qA, _, none⟩) qB.out _).trans (((cell_far (p := ⟨qA, _, none⟩) qB.out _).trans (((cell_far (p := ⟨qA, _, none⟩) qB.out _).trans (((cell_far (p := ⟨qA, _, none⟩) qB.out _).trans (hHeld.2.2.2.2.2.2.2.2.2.2.2))))))))))))))))))))))))⟩ (fun hHeld => ?_)
  clear hK K
  refine done_ (done_of HT_.out (by kernel_rfl)) ?_
  by_cases c3 : (y111.length : Int) = 0
  ·rw [if_pos c3] at H
   have c3b0 : ((y111.length : Int) == 0) = true := beq_iff_eq.mpr c3
   have c3b1 : ((y111.length : Int) != 0) = false := bne_eq_false_iff_eq.mpr c3
   clear c3
   simp only [Option.some.injEq, Prod.mk.injEq] at H
   obtain ⟨rfl, rfl, rfl, rfl, rfl, rfl, rfl, rfl, rfl, rfl, rfl, rfl⟩ := H
   have n0_ : Aside0 (Kd.R Kd.string 9 ((((((((((((w12.setCell ⟨qA, 0, none⟩ (.string a0_0)).setCell ⟨qA, 1, none⟩ (.string a0_1)).setCell ⟨qA, 2, none⟩ (.slice qH y111.length qI)).setCell ⟨qA, 3, none⟩ (.string a0_3)).setCell ⟨qA, 4, none⟩ (.int .u32 a0_4)).setCell ⟨qA, 5, none⟩ (.int .i64 a0_5)).setCell ⟨qA, 6, none⟩ (.int .u64 a0_6)).setCell ⟨qA, 7, none⟩ (.int .u64 a0_7)).setCell ⟨qA, 8, none⟩ (.bool a0_8)).setCell ⟨qA, 9, none⟩ (.bool a0_9)).setCell ⟨qA, 10, none⟩ (.bool a0_10)).setCell ⟨qA, 11, none⟩ (.bool a0_11)) w.heap.size (fun _ => True) (.slice qH y111.length qI) y111) := ⟨by (with_reducible repeat (first | apply rA | apply rN | apply rD)); exact Kd.R_mono (R_far12 qA (Kd.R_types qO.out qF.out (by decide)) (.string a0_0) (.string a0_1) (.slice qH y111.length qI) (.string a0_3) (.int .u32 a0_4) (.int .i64 a0_5) (.int .u64 a0_6) (.int .u64 a0_7) (.bool a0_8) (.bool a0_9) (.bool a0_10) (.bool a0_11)) (fun _ hk => trivial)⟩
   have n1_ : Aside0 (((((((((((((w12.setCell ⟨qA, 0, none⟩ (.string a0_0)).setCell ⟨qA, 1, none⟩ (.string a0_1)).setCell ⟨qA, 2, none⟩ (.slice qH y111.length qI)).setCell ⟨qA, 3, none⟩ (.string a0_3)).setCell ⟨qA, 4, none⟩ (.int .u32 a0_4)).setCell ⟨qA, 5, none⟩ (.int .i64 a0_5)).setCell ⟨qA, 6, none⟩ (.int .u64 a0_6)).setCell ⟨qA, 7, none⟩ (.int .u64 a0_7)).setCell ⟨qA, 8, none⟩ (.bool a0_8)).setCell ⟨qA, 9, none⟩ (.bool a0_9)).setCell ⟨qA, 10, none⟩ (.bool a0_10)).setCell ⟨qA, 11, none⟩ (.bool a0_11)).heap[qD]? = some (.cells #[.string a0_0, .string a0_1, .slice A0_2 l0_2.length c0_2, .string a0_3, .int .u32 a0_4, .int .i64 a0_5, .int .u64 a0_6, .int .u64 a0_7, .bool a0_8, .bool a0_9, .bool a0_10, .bool a0_11] 27 (0, 0))) := ⟨by (with_reducible repeat (first | refine bN ?_ _ | refine bD ?_ | refine bA ?_ _)); refine bF ?_ qB.out; (with_reducible repeat (first | refine bN ?_ _ | refine bD ?_ | refine bA ?_ _)); exact qC.out⟩
   have n2_ : Aside0 (((((((((((((w12.setCell ⟨qA, 0, none⟩ (.string a0_0)).setCell ⟨qA, 1, none⟩ (.string a0_1)).setCell ⟨qA, 2, none⟩ (.slice qH y111.length qI)).setCell ⟨qA, 3, none⟩ (.string a0_3)).setCell ⟨qA, 4, none⟩ (.int .u32 a0_4)).setCell ⟨qA, 5, none⟩ (.int .i64 a0_5)).setCell ⟨qA, 6, none⟩ (.int .u64 a0_6)).setCell ⟨qA, 7, none⟩ (.int .u64 a0_7)).setCell ⟨qA, 8, none⟩ (.bool a0_8)).setCell ⟨qA, 9, none⟩ (.bool a0_9)).setCell ⟨qA, 10, none⟩ (.bool a0_10)).setCell ⟨qA, 11, none⟩ (.bool a0_11)).heap[qG]? = some (.cells #[.string (⟨#[]⟩ : ByteArray), .string (⟨#[]⟩ : ByteArray), .slice none 0 0, .string (⟨#[]⟩ : ByteArray), .int .u32 0, .int .i64 0, .int .u64 0, .int .u64 0, .bool false, .bool false, .bool false, .bool false] 32 (0, 0))) := ⟨by (with_reducible repeat (first | refine bN ?_ _ | refine bD ?_ | refine bA ?_ _)); refine bF ?_ qJ.out; (with_reducible repeat (first | refine bN ?_ _ | refine bD ?_ | refine bA ?_ _)); exact qE.out⟩
   have n3_ : Aside0 (((((((((((((w12.setCell ⟨qA, 0, none⟩ (.string a0_0)).setCell ⟨qA, 1, none⟩ (.string a0_1)).setCell ⟨qA, 2, none⟩ (.slice qH y111.length qI)).setCell ⟨qA, 3, none⟩ (.string a0_3)).setCell ⟨qA, 4, none⟩ (.int .u32 a0_4)).setCell ⟨qA, 5, none⟩ (.int .i64 a0_5)).setCell ⟨qA, 6, none⟩ (.int .u64 a0_6)).setCell ⟨qA, 7, none⟩ (.int .u64 a0_7)).setCell ⟨qA, 8, none⟩ (.bool a0_8)).setCell ⟨qA, 9, none⟩ (.bool a0_9)).setCell ⟨qA, 10, none⟩ (.bool a0_10)).setCell ⟨qA, 11, none⟩ (.bool a0_11)).heap[qA]? = some (.cells #[.string a0_0, .string a0_1, .slice qH y111.length qI, .string a0_3, .int .u32 a0_4, .int .i64 a0_5, .int .u64 a0_6, .int .u64 a0_7, .bool a0_8, .bool a0_9, .bool a0_10, .bool a0_11] 32 (0, 0))) := ⟨by (with_reducible repeat (first | refine bN ?_ _ | refine bD ?_ | refine bA ?_ _)); refine blk_put (cs := #[.string a0_0, .string a0_1, .slice qH y111.length qI, .string a0_3, .int .u32 a0_4, .int .i64 a0_5, .int .u64 a0_6, .int .u64 a0_7, .bool a0_8, .bool a0_9, .bool a0_10, .bool false]) ?_ 11 _ rfl; (with_reducible repeat (first | refine bN ?_ _ | refine bD ?_ | refine bA ?_ _)); refine blk_put (cs := #[.string a0_0, .string a0_1, .slice qH y111.length qI, .string a0_3, .int .u32 a0_4, .int .i64 a0_5, .int .u64 a0_6, .int .u64 a0_7, .bool a0_8, .bool a0_9, .bool false, .bool false]) ?_ 10 _ rfl; (with_reducible repeat (first | refine bN ?_ _ | refine bD ?_ | refine bA ?_ _)); refine blk_put (cs := #[.string a0_0, .string a0_1, .slice qH y111.length qI, .string a0_3, .int .u32 a0_4, .int .i64 a0_5, .int .u64 a0_6, .int .u64 a0_7, .bool a0_8, .bool false, .bool false, .bool false]) ?_ 9 _ rfl; (with_reducible repeat (first | refine bN ?_ _ | refine bD ?_ | refine bA ?_ _)); refine blk_put (cs := #[.string a0_0, .string a0_1, .slice qH y111.length qI, .string a0_3, .int .u32 a0_4, .int .i64 a0_5, .int .u64 a0_6, .int .u64 a0_7, .bool false, .bool false, .bool false, .bool false]) ?_ 8 _ rfl; (with_reducible repeat (first | refine bN ?_ _ | refine bD ?_ | refine bA ?_ _)); refine blk_put (cs := #[.string a0_0, .string a0_1, .slice qH y111.length qI, .string a0_3, .int .u32 a0_4, .int .i64 a0_5, .int .u64 a0_6, .int .u64 0, .bool false, .bool false, .bool false, .bool false]) ?_ 7 _ rfl; (with_reducible repeat (first | refine bN ?_ _ | refine bD ?_ | refine bA ?_ _)); refine blk_put (cs := #[.string a0_0, .string a0_1, .slice qH y111.length qI, .string a0_3, .int .u32 a0_4, .int .i64 a0_5, .int .u64 0, .int .u64 0, .bool false, .bool false, .bool false, .bool false]) ?_ 6 _ rfl; (with_reducible repeat (first | refine bN ?_ _ | refine bD ?_ | refine bA ?_ _)); refine blk_put (cs := #[.string a0_0, .string a0_1, .slice qH y111.length qI, .string a0_3, .int .u32 a0_4, .int .i64 0, .int .u64 0, .int .u64 0, .bool false, .bool false, .bool false, .bool false]) ?_ 5 _ rfl; (with_reducible repeat (first | refine bN ?_ _ | refine bD ?_ | refine bA ?_ _)); refine blk_put (cs := #[.string a0_0, .string a0_1, .slice qH y111.length qI, .string a0_3, .int .u32 0, .int .i64 0, .int .u64 0, .int .u64 0, .bool false, .bool false, .bool false, .bool false]) ?_ 4 _ rfl; (with_reducible repeat (first | refine bN ?_ _ | refine bD ?_ | refine bA ?_ _)); refine blk_put (cs := #[.string a0_0, .string a0_1, .slice qH y111.length qI, .string (⟨#[]⟩ : ByteArray), .int .u32 0, .int .i64 0, .int .u64 0, .int .u64 0, .bool false, .bool false, .bool false, .bool false]) ?_ 3 _ rfl; (with_reducible repeat (first | refine bN ?_ _ | refine bD ?_ | refine bA ?_ _)); refine blk_put (cs := #[.string a0_0, .string a0_1, .slice none 0 0, .string (⟨#[]⟩ : ByteArray), .int .u32 0, .int .i64 0, .int .u64 0, .int .u64 0, .bool false, .bool false, .bool false, .bool false]) ?_ 2 _ rfl; (with_reducible repeat (first | refine bN ?_ _ | refine bD ?_ | refine bA ?_ _)); refine blk_put (cs := #[.string a0_0, .string (⟨#[]⟩ : ByteArray), .slice none 0 0, .string (⟨#[]⟩ : ByteArray), .int .u32 0, .int .i64 0, .int .u64 0, .int .u64 0, .bool false, .bool false, .bool false, .bool false]) ?_ 1 _ rfl; (with_reducible repeat (first | refine bN ?_ _ | refine bD ?_ | refine bA ?_ _)); refine blk_put (cs := #[.string (⟨#[]⟩ : ByteArray), .string (⟨#[]⟩ : ByteArray), .slice none 0 0, .string (⟨#[]⟩ : ByteArray), .int .u32 0, .int .i64 0, .int .u64 0, .int .u64 0, .bool false, .bool false, .bool false, .bool false]) ?_ 0 _ rfl; (with_reducible repeat (first | refine bN ?_ _ | refine bD ?_ | refine bA ?_ _)); exact qF.out⟩
   have n4_ : Aside0 (Below w.heap.size w ((((((((((((w12.setCell ⟨qA, 0, none⟩ (.string a0_0)).setCell ⟨qA, 1, none⟩ (.string a0_1)).setCell ⟨qA, 2, none⟩ (.slice qH y111.length qI)).setCell ⟨qA, 3, none⟩ (.string a0_3)).setCell ⟨qA, 4, none⟩ (.int .u32 a0_4)).setCell ⟨qA, 5, none⟩ (.int .i64 a0_5)).setCell ⟨qA, 6, none⟩ (.int .u64 a0_6)).setCell ⟨qA, 7, none⟩ (.int .u64 a0_7)).setCell ⟨qA, 8, none⟩ (.bool a0_8)).setCell ⟨qA, 9, none⟩ (.bool a0_9)).setCell ⟨qA, 10, none⟩ (.bool a0_10)).setCell ⟨qA, 11, none⟩ (.bool a0_11))) := ⟨bBhy4⟩
   (try clear qO)
   (try clear qC)
   (try clear qE)
   (try clear qF)
   (try clear HB)
   generalize ((((((((((((w12.setCell ⟨qA, 0, none⟩ (.string a0_0)).setCell ⟨qA, 1, none⟩ (.string a0_1)).setCell ⟨qA, 2, none⟩ (.slice qH y111.length qI)).setCell ⟨qA, 3, none⟩ (.string a0_3)).setCell ⟨qA, 4, none⟩ (.int .u32 a0_4)).setCell ⟨qA, 5, none⟩ (.int .i64 a0_5)).setCell ⟨qA, 6, none⟩ (.int .u64 a0_6)).setCell ⟨qA, 7, none⟩ (.int .u64 a0_7)).setCell ⟨qA, 8, none⟩ (.bool a0_8)).setCell ⟨qA, 9, none⟩ (.bool a0_9)).setCell ⟨qA, 10, none⟩ (.bool a0_10)).setCell ⟨qA, 11, none⟩ (.bool a0_11)) = w26 at n0_ n1_ n2_ n3_ n4_ ⊢
   have qO := n0_
   have qC := n1_
   have qE := n2_
   have qF := n3_
   have HB := n4_
   clear n0_ n1_ n2_ n3_ n4_
   have qDB := qL.out
   have qDC := qB.out
   have qDD := qK.out
   have qDE := qJ.out
   obtain ⟨qAt, qAu, qAv, qAw, qAx, qAy, qAz, qBA, qBB, qBC, qd, qe⟩ := celL qF.out
   obtain ⟨qBD, qBE, qBF, qBG, qBH, qBI, qBJ, qBK, qBL, qBM, qf, qg⟩ := froZ qF.out
   try go_wp2_with (first | ((with_reducible refine gate_store (t := 23) (p := 35) rfl ?_); refine store_event (t := 23) (p := 35) (v := ?vo_w30) (w1 := (w26.setCell ⟨qA, 2, none⟩ (.slice none 0 0))) ?hg ?ho ?hn ?hr ?_; (case ho => rfl); (case hg => rfl); (case hn => rfl); (case hr => first | (go_simp; done) | (go_simp; rfl)); intro w30 hw; have n0_ : Aside0 (Kd.R Kd.string 9 w30 w.heap.size (fun _ => True) (.slice qH y111.length qI) y111) := ⟨(by rw [hw]; exact (by (with_reducible repeat (first | apply rA | apply rN | apply rD)); exact Kd.R_mono (Kd.R_far (p := ⟨qA, 2, none⟩) (Kd.R_types qO.out qF.out (by decide)) (fun _ hk => hk.2) (.slice none 0 0)) (fun _ hk => trivial)))⟩; have n1_ : Aside0 (w30.heap[qD]? = some (.cells #[.string a0_0, .string a0_1, .slice A0_2 l0_2.length c0_2, .string a0_3, .int .u32 a0_4, .int .i64 a0_5, .int .u64 a0_6, .int .u64 a0_7, .bool a0_8, .bool a0_9, .bool a0_10, .bool a0_11] 27 (0, 0))) := ⟨(by rw [hw]; exact (by (with_reducible repeat (first | refine bN ?_ _ | refine bD ?_ | refine bA ?_ _)); refine blk_far ?_ qB.out _; (with_reducible repeat (first | refine bN ?_ _ | refine bD ?_ | refine bA ?_ _)); exact qC.out))⟩; have n2_ : Aside0 (w30.heap[qG]? = some (.cells #[.string (⟨#[]⟩ : ByteArray), .string (⟨#[]⟩ : ByteArray), .slice none 0 0, .string (⟨#[]⟩ : ByteArray), .int .u32 0, .int .i64 0, .int .u64 0, .int .u64 0, .bool false, .bool false, .bool false, .bool false] 32 (0, 0))) := ⟨(by rw [hw]; exact (by (with_reducible repeat (first | refine bN ?_ _ | refine bD ?_ | refine bA ?_ _)); refine blk_far ?_ qJ.out _; (with_reducible repeat (first | refine bN ?_ _ | refine bD ?_ | refine bA ?_ _)); exact qE.out))⟩; have n3_ : Aside0 (w30.heap[qA]? = some (.cells #[.string a0_0, .string a0_1, .slice none 0 0, .string a0_3, .int .u32 a0_4, .int .i64 a0_5, .int .u64 a0_6, .int .u64 a0_7, .bool a0_8, .bool a0_9, .bool a0_10, .bool a0_11] 32 (0, 0))) := ⟨(by rw [hw]; exact (by (with_reducible repeat (first | refine bN ?_ _ | refine bD ?_ | refine bA ?_ _)); refine blk_put (cs := #[.string a0_0, .string a0_1, .slice qH y111.length qI, .string a0_3, .int .u32 a0_4, .int .i64 a0_5, .int .u64 a0_6, .int .u64 a0_7, .bool a0_8, .bool a0_9, .bool a0_10, .bool a0_11]) ?_ 2 _ rfl; (with_reducible repeat (first | refine bN ?_ _ | refine bD ?_ | refine bA ?_ _)); exact qF.out))⟩; have n4_ : Aside0 (Below w.heap.size w w30) := ⟨(by rw [hw]; exact bBhy4)⟩; clear hw; clear qO; clear qC; clear qE; clear qF; clear HB; have qO := n0_; have qC := n1_; have qE := n2_; have qF := n3_; have HB := n4_; clear n0_ n1_ n2_ n3_ n4_; obtain ⟨qBN, qBO, qBP, qBQ, qBR, qBS, qBT, qBU, qBV, qBW, qh, qi⟩ := celL qF.out; obtain ⟨qBX, qBY, qBZ, qBa, qBb, qBc, qBd, qBe, qBf, qBg, qj, qk⟩ := froZ qF.out; have qDF := qS.out; have qDG := qR.out; obtain ⟨qBh, qBi, qBj, qBk, qBl, qBm, qBn, qBo, qBp, qBq, ql, qm⟩ := celL qE.out; obtain ⟨qBr, qBs, qBt, qBu, qBv, qBw, qBx, qBy, qBz, qCA, qn, qo⟩ := froZ qE.out) | ((with_reducible refine gate_store (t := 32) (p := 2) rfl ?_); refine store_event (t := 32) (p := 2) (v := ?vo_w34) (w1 := ((((((((((((w30.setCell ⟨qG, 0, none⟩ (.string a0_0)).setCell ⟨qG, 1, none⟩ (.string a0_1)).setCell ⟨qG, 2, none⟩ (.slice none 0 0)).setCell ⟨qG, 3, none⟩ (.string a0_3)).setCell ⟨qG, 4, none⟩ (.int .u32 a0_4)).setCell ⟨qG, 5, none⟩ (.int .i64 a0_5)).setCell ⟨qG, 6, none⟩ (.int .u64 a0_6)).setCell ⟨qG, 7, none⟩ (.int .u64 a0_7)).setCell ⟨qG, 8, none⟩ (.bool a0_8)).setCell ⟨qG, 9, none⟩ (.bool a0_9)).setCell ⟨qG, 10, none⟩ (.bool a0_10)).setCell ⟨qG, 11, none⟩ (.bool a0_11))) ?hg ?ho ?hn ?hr ?_; (case ho => rfl); (case hg => rfl); (case hn => rfl); (case hr => first | (go_simp; done) | (go_simp; rfl)); intro w34 hw; have n0_ : Aside0 (Kd.R Kd.string 9 w34 w.heap.size (fun _ => True) (.slice qH y111.length qI) y111) := ⟨(by rw [hw]; exact (by (with_reducible repeat (first | apply rA | apply rN | apply rD)); exact Kd.R_mono (R_far12 qG (Kd.R_types qO.out qE.out (by decide)) (.string a0_0) (.string a0_1) (.slice none 0 0) (.string a0_3) (.int .u32 a0_4) (.int .i64 a0_5) (.int .u64 a0_6) (.int .u64 a0_7) (.bool a0_8) (.bool a0_9) (.bool a0_10) (.bool a0_11)) (fun _ hk => trivial)))⟩; have n1_ : Aside0 (w34.heap[qD]? = some (.cells #[.string a0_0, .string a0_1, .slice A0_2 l0_2.length c0_2, .string a0_3, .int .u32 a0_4, .int .i64 a0_5, .int .u64 a0_6, .int .u64 a0_7, .bool a0_8, .bool a0_9, .bool a0_10, .bool a0_11] 27 (0, 0))) := ⟨(by rw [hw]; exact (by (with_reducible repeat (first | refine bN ?_ _ | refine bD ?_ | refine bA ?_ _)); refine bF ?_ qR.out; (with_reducible repeat (first | refine bN ?_ _ | refine bD ?_ | refine bA ?_ _)); exact qC.out))⟩; have n2_ : Aside0 (w34.heap[qG]? = some (.cells #[.string a0_0, .string a0_1, .slice none 0 0, .string a0_3, .int .u32 a0_4, .int .i64 a0_5, .int .u64 a0_6, .int .u64 a0_7, .bool a0_8, .bool a0_9, .bool a0_10, .bool a0_11] 32 (0, 0))) := ⟨(by rw [hw]; exact (by (with_reducible repeat (first | refine bN ?_ _ | refine bD ?_ | refine bA ?_ _)); refine blk_put (cs := #[.string a0_0, .string a0_1, .slice none 0 0, .string a0_3, .int .u32 a0_4, .int .i64 a0_5, .int .u64 a0_6, .int .u64 a0_7, .bool a0_8, .bool a0_9, .bool a0_10, .bool false]) ?_ 11 _ rfl; (with_reducible repeat (first | refine bN ?_ _ | refine bD ?_ | refine bA ?_ _)); refine blk_put (cs := #[.string a0_0, .string a0_1, .slice none 0 0, .string a0_3, .int .u32 a0_4, .int .i64 a0_5, .int .u64 a0_6, .int .u64 a0_7, .bool a0_8, .bool a0_9, .bool false, .bool false]) ?_ 10 _ rfl; (with_reducible repeat (first | refine bN ?_ _ | refine bD ?_ | refine bA ?_ _)); refine blk_put (cs := #[.string a0_0, .string a0_1, .slice none 0 0, .string a0_3, .int .u32 a0_4, .int .i64 a0_5, .int .u64 a0_6, .int .u64 a0_7, .bool a0_8, .bool false, .bool false, .bool false]) ?_ 9 _ rfl; (with_reducible repeat (first | refine bN ?_ _ | refine bD ?_ | refine bA ?_ _)); refine blk_put (cs := #[.string a0_0, .string a0_1, .slice none 0 0, .string a0_3, .int .u32 a0_4, .int .i64 a0_5, .int .u64 a0_6, .int .u64 a0_7, .bool false, .bool false, .bool false, .bool false]) ?_ 8 _ rfl; (with_reducible repeat (first | refine bN ?_ _ | refine bD ?_ | refine bA ?_ _)); refine blk_put (cs := #[.string a0_0, .string a0_1, .slice none 0 0, .string a0_3, .int .u32 a0_4, .int .i64 a0_5, .int .u64 a0_6, .int .u64 0, .bool false, .bool false, .bool false, .bool false]) ?_ 7 _ rfl; (with_reducible repeat (first | refine bN ?_ _ | refine bD ?_ | refine bA ?_ _)); refine blk_put (cs := #[.string a0_0, .string a0_1, .slice none 0 0, .string a0_3, .int .u32 a0_4, .int .i64 a0_5, .int .u64 0, .int .u64 0, .bool false, .bool false, .bool false, .bool false]) ?_ 6 _ rfl; (with_reducible repeat (first | refine bN ?_ _ | refine bD ?_ | refine bA ?_ _)); refine blk_put (cs := #[.string a0_0, .string a0_1, .slice none 0 0, .string a0_3, .int .u32 a0_4, .int .i64 0, .int .u64 0, .int .u64 0, .bool false, .bool false, .bool false, .bool false]) ?_ 5 _ rfl; (with_reducible repeat (first | refine bN ?_ _ | refine bD ?_ | refine bA ?_ _)); refine blk_put (cs := #[.string a0_0, .string a0_1, .slice none 0 0, .string a0_3, .int .u32 0, .int .i64 0, .int .u64 0, .int .u64 0, .bool false, .bool false, .bool false, .bool false]) ?_ 4 _ rfl; (with_reducible repeat (first | refine bN ?_ _ | refine bD ?_ | refine bA ?_ _)); refine blk_put (cs := #[.string a0_0, .string a0_1, .slice none 0 0, .string (⟨#[]⟩ : ByteArray), .int .u32 0, .int .i64 0, .int .u64 0, .int .u64 0, .bool false, .bool false, .bool false, .bool false]) ?_ 3 _ rfl; (with_reducible repeat (first | refine bN ?_ _ | refine bD ?_ | refine bA ?_ _)); refine blk_put (cs := #[.string a0_0, .string a0_1, .slice none 0 0, .string (⟨#[]⟩ : ByteArray), .int .u32 0, .int .i64 0, .int .u64 0, .int .u64 0, .bool false, .bool false, .bool false, .bool false]) ?_ 2 _ rfl; (with_reducible repeat (first | refine bN ?_ _ | refine bD ?_ | refine bA ?_ _)); refine blk_put (cs := #[.string a0_0, .string (⟨#[]⟩ : ByteArray), .slice none 0 0, .string (⟨#[]⟩ : ByteArray), .int .u32 0, .int .i64 0, .int .u64 0, .int .u64 0, .bool false, .bool false, .bool false, .bool false]) ?_ 1 _ rfl; (with_reducible repeat (first | refine bN ?_ _ | refine bD ?_ | refine bA ?_ _)); refine blk_put (cs := #[.string (⟨#[]⟩ : ByteArray), .string (⟨#[]⟩ : ByteArray), .slice none 0 0, .string (⟨#[]⟩ : ByteArray), .int .u32 0, .int .i64 0, .int .u64 0, .int .u64 0, .bool false, .bool false, .bool false, .bool false]) ?_ 0 _ rfl; (with_reducible repeat (first | refine bN ?_ _ | refine bD ?_ | refine bA ?_ _)); exact qE.out))⟩; have n3_ : Aside0 (w34.heap[qA]? = some (.cells #[.string a0_0, .string a0_1, .slice none 0 0, .string a0_3, .int .u32 a0_4, .int .i64 a0_5, .int .u64 a0_6, .int .u64 a0_7, .bool a0_8, .bool a0_9, .bool a0_10, .bool a0_11] 32 (0, 0))) := ⟨(by rw [hw]; exact (by (with_reducible repeat (first | refine bN ?_ _ | refine bD ?_ | refine bA ?_ _)); refine bF ?_ qK.out; (with_reducible repeat (first | refine bN ?_ _ | refine bD ?_ | refine bA ?_ _)); exact qF.out))⟩; have n4_ : Aside0 (Below w.heap.size w w34) := ⟨(by rw [hw]; exact bBhy4)⟩; clear hw; clear qO; clear qC; clear qE; clear qF; clear HB; have qO := n0_; have qC := n1_; have qE := n2_; have qF := n3_; have HB := n4_; clear n0_ n1_ n2_ n3_ n4_))
   refine bodyPost_ret (results_cell_row rfl _ _ qG 32 #[.string a0_0, .string a0_1, .slice none 0 0, .string a0_3, .int .u32 a0_4, .int .i64 a0_5, .int .u64 a0_6, .int .u64 a0_7, .bool a0_8, .bool a0_9, .bool a0_10, .bool a0_11] (0, 0) _ rfl (by (with_reducible repeat (first | refine bN ?_ _ | refine bD ?_ | refine bA ?_ _)); exact qE.out) Tryd.underlying32 rfl (by kernel_rfl)) rfl ?_
   exact ⟨_, by first | rfl | (simp [errW_none, errW_some] <;> rfl) | (simp [*, errW_none, errW_some] <;> rfl), by first | exact Kd.R_nil _ _ _ _ _ | exact Kd.N_nil _ _ _ _ _ | exact Kd.V_nil _ _ _ _ _ | exact Kd.Q_nil _ _ _ _ _ | exact Kd.S_nil _ _ _ _ _, bBhy4⟩
  ·rw [if_neg c3] at H
   have c3b0 : ((y111.length : Int) == 0) = false := beq_eq_false_iff_ne.mpr c3
   have c3b1 : ((y111.length : Int) != 0) = true := bne_iff_ne.mpr c3
   have c3b2 : ¬ (y111 = []) := fun h_ => c3 (by rw [h_]; rfl)
   simp only [Option.some.injEq, Prod.mk.injEq] at H
   obtain ⟨rfl, rfl, rfl, rfl, rfl, rfl, rfl, rfl, rfl, rfl, rfl, rfl⟩ := H
   have n0_ : Aside0 (Kd.R Kd.string 9 ((((((((((((w12.setCell ⟨qA, 0, none⟩ (.string a0_0)).setCell ⟨qA, 1, none⟩ (.string a0_1)).setCell ⟨qA, 2, none⟩ (.slice qH y111.length qI)).setCell ⟨qA, 3, none⟩ (.string a0_3)).setCell ⟨qA, 4, none⟩ (.int .u32 a0_4)).setCell ⟨qA, 5, none⟩ (.int .i64 a0_5)).setCell ⟨qA, 6, none⟩ (.int .u64 a0_6)).setCell ⟨qA, 7, none⟩ (.int .u64 a0_7)).setCell ⟨qA, 8, none⟩ (.bool a0_8)).setCell ⟨qA, 9, none⟩ (.bool a0_9)).setCell ⟨qA, 10, none⟩ (.bool a0_10)).setCell ⟨qA, 11, none⟩ (.bool a0_11)) w.heap.size (fun _ => True) (.slice qH y111.length qI) y111) := ⟨by (with_reducible repeat (first | apply rA | apply rN | apply rD)); exact Kd.R_mono (R_far12 qA (Kd.R_types qO.out qF.out (by decide)) (.string a0_0) (.string a0_1) (.slice qH y111.length qI) (.string a0_3) (.int .u32 a0_4) (.int .i64 a0_5) (.int .u64 a0_6) (.int .u64 a0_7) (.bool a0_8) (.bool a0_9) (.bool a0_10) (.bool a0_11)) (fun _ hk => trivial)⟩
   have n1_ : Aside0 (((((((((((((w12.setCell ⟨qA, 0, none⟩ (.string a0_0)).setCell ⟨qA, 1, none⟩ (.string a0_1)).setCell ⟨qA, 2, none⟩ (.slice qH y111.length qI)).setCell ⟨qA, 3, none⟩ (.string a0_3)).setCell ⟨qA, 4, none⟩ (.int .u32 a0_4)).setCell ⟨qA, 5, none⟩ (.int .i64 a0_5)).setCell ⟨qA, 6, none⟩ (.int .u64 a0_6)).setCell ⟨qA, 7, none⟩ (.int .u64 a0_7)).setCell ⟨qA, 8, none⟩ (.bool a0_8)).setCell ⟨qA, 9, none⟩ (.bool a0_9)).setCell ⟨qA, 10, none⟩ (.bool a0_10)).setCell ⟨qA, 11, none⟩ (.bool a0_11)).heap[qD]? = some (.cells #[.string a0_0, .string a0_1, .slice A0_2 l0_2.length c0_2, .string a0_3, .int .u32 a0_4, .int .i64 a0_5, .int .u64 a0_6, .int .u64 a0_7, .bool a0_8, .bool a0_9, .bool a0_10, .bool a0_11] 27 (0, 0))) := ⟨by (with_reducible repeat (first | refine bN ?_ _ | refine bD ?_ | refine bA ?_ _)); refine bF ?_ qB.out; (with_reducible repeat (first | refine bN ?_ _ | refine bD ?_ | refine bA ?_ _)); exact qC.out⟩
   have n2_ : Aside0 (((((((((((((w12.setCell ⟨qA, 0, none⟩ (.string a0_0)).setCell ⟨qA, 1, none⟩ (.string a0_1)).setCell ⟨qA, 2, none⟩ (.slice qH y111.length qI)).setCell ⟨qA, 3, none⟩ (.string a0_3)).setCell ⟨qA, 4, none⟩ (.int .u32 a0_4)).setCell ⟨qA, 5, none⟩ (.int .i64 a0_5)).setCell ⟨qA, 6, none⟩ (.int .u64 a0_6)).setCell ⟨qA, 7, none⟩ (.int .u64 a0_7)).setCell ⟨qA, 8, none⟩ (.bool a0_8)).setCell ⟨qA, 9, none⟩ (.bool a0_9)).setCell ⟨qA, 10, none⟩ (.bool a0_10)).setCell ⟨qA, 11, none⟩ (.bool a0_11)).heap[qG]? = some (.cells #[.string (⟨#[]⟩ : ByteArray), .string (⟨#[]⟩ : ByteArray), .slice none 0 0, .string (⟨#[]⟩ : ByteArray), .int .u32 0, .int .i64 0, .int .u64 0, .int .u64 0, .bool false, .bool false, .bool false, .bool false] 32 (0, 0))) := ⟨by (with_reducible repeat (first | refine bN ?_ _ | refine bD ?_ | refine bA ?_ _)); refine bF ?_ qJ.out; (with_reducible repeat (first | refine bN ?_ _ | refine bD ?_ | refine bA ?_ _)); exact qE.out⟩
   have n3_ : Aside0 (((((((((((((w12.setCell ⟨qA, 0, none⟩ (.string a0_0)).setCell ⟨qA, 1, none⟩ (.string a0_1)).setCell ⟨qA, 2, none⟩ (.slice qH y111.length qI)).setCell ⟨qA, 3, none⟩ (.string a0_3)).setCell ⟨qA, 4, none⟩ (.int .u32 a0_4)).setCell ⟨qA, 5, none⟩ (.int .i64 a0_5)).setCell ⟨qA, 6, none⟩ (.int .u64 a0_6)).setCell ⟨qA, 7, none⟩ (.int .u64 a0_7)).setCell ⟨qA, 8, none⟩ (.bool a0_8)).setCell ⟨qA, 9, none⟩ (.bool a0_9)).setCell ⟨qA, 10, none⟩ (.bool a0_10)).setCell ⟨qA, 11, none⟩ (.bool a0_11)).heap[qA]? = some (.cells #[.string a0_0, .string a0_1, .slice qH y111.length qI, .string a0_3, .int .u32 a0_4, .int .i64 a0_5, .int .u64 a0_6, .int .u64 a0_7, .bool a0_8, .bool a0_9, .bool a0_10, .bool a0_11] 32 (0, 0))) := ⟨by (with_reducible repeat (first | refine bN ?_ _ | refine bD ?_ | refine bA ?_ _)); refine blk_put (cs := #[.string a0_0, .string a0_1, .slice qH y111.length qI, .string a0_3, .int .u32 a0_4, .int .i64 a0_5, .int .u64 a0_6, .int .u64 a0_7, .bool a0_8, .bool a0_9, .bool a0_10, .bool false]) ?_ 11 _ rfl; (with_reducible repeat (first | refine bN ?_ _ | refine bD ?_ | refine bA ?_ _)); refine blk_put (cs := #[.string a0_0, .string a0_1, .slice qH y111.length qI, .string a0_3, .int .u32 a0_4, .int .i64 a0_5, .int .u64 a0_6, .int .u64 a0_7, .bool a0_8, .bool a0_9, .bool false, .bool false]) ?_ 10 _ rfl; (with_reducible repeat (first | refine bN ?_ _ | refine bD ?_ | refine bA ?_ _)); refine blk_put (cs := #[.string a0_0, .string a0_1, .slice qH y111.length qI, .string a0_3, .int .u32 a0_4, .int .i64 a0_5, .int .u64 a0_6, .int .u64 a0_7, .bool a0_8, .bool false, .bool false, .bool false]) ?_ 9 _ rfl; (with_reducible repeat (first | refine bN ?_ _ | refine bD ?_ | refine bA ?_ _)); refine blk_put (cs := #[.string a0_0, .string a0_1, .slice qH y111.length qI, .string a0_3, .int .u32 a0_4, .int .i64 a0_5, .int .u64 a0_6, .int .u64 a0_7, .bool false, .bool false, .bool false, .bool false]) ?_ 8 _ rfl; (with_reducible repeat (first | refine bN ?_ _ | refine bD ?_ | refine bA ?_ _)); refine blk_put (cs := #[.string a0_0, .string a0_1, .slice qH y111.length qI, .string a0_3, .int .u32 a0_4, .int .i64 a0_5, .int .u64 a0_6, .int .u64 0, .bool false, .bool false, .bool false, .bool false]) ?_ 7 _ rfl; (with_reducible repeat (first | refine bN ?_ _ | refine bD ?_ | refine bA ?_ _)); refine blk_put (cs := #[.string a0_0, .string a0_1, .slice qH y111.length qI, .string a0_3, .int .u32 a0_4, .int .i64 a0_5, .int .u64 0, .int .u64 0, .bool false, .bool false, .bool false, .bool false]) ?_ 6 _ rfl; (with_reducible repeat (first | refine bN ?_ _ | refine bD ?_ | refine bA ?_ _)); refine blk_put (cs := #[.string a0_0, .string a0_1, .slice qH y111.length qI, .string a0_3, .int .u32 a0_4, .int .i64 0, .int .u64 0, .int .u64 0, .bool false, .bool false, .bool false, .bool false]) ?_ 5 _ rfl; (with_reducible repeat (first | refine bN ?_ _ | refine bD ?_ | refine bA ?_ _)); refine blk_put (cs := #[.string a0_0, .string a0_1, .slice qH y111.length qI, .string a0_3, .int .u32 0, .int .i64 0, .int .u64 0, .int .u64 0, .bool false, .bool false, .bool false, .bool false]) ?_ 4 _ rfl; (with_reducible repeat (first | refine bN ?_ _ | refine bD ?_ | refine bA ?_ _)); refine blk_put (cs := #[.string a0_0, .string a0_1, .slice qH y111.length qI, .string (⟨#[]⟩ : ByteArray), .int .u32 0, .int .i64 0, .int .u64 0, .int .u64 0, .bool false, .bool false, .bool false, .bool false]) ?_ 3 _ rfl; (with_reducible repeat (first | refine bN ?_ _ | refine bD ?_ | refine bA ?_ _)); refine blk_put (cs := #[.string a0_0, .string a0_1, .slice none 0 0, .string (⟨#[]⟩ : ByteArray), .int .u32 0, .int .i64 0, .int .u64 0, .int .u64 0, .bool false, .bool false, .bool false, .bool false]) ?_ 2 _ rfl; (with_reducible repeat (first | refine bN ?_ _ | refine bD ?_ | refine bA ?_ _)); refine blk_put (cs := #[.string a0_0, .string (⟨#[]⟩ : ByteArray), .slice none 0 0, .string (⟨#[]⟩ : ByteArray), .int .u32 0, .int .i64 0, .int .u64 0, .int .u64 0, .bool false, .bool false, .bool false, .bool false]) ?_ 1 _ rfl; (with_reducible repeat (first | refine bN ?_ _ | refine bD ?_ | refine bA ?_ _)); refine blk_put (cs := #[.string (⟨#[]⟩ : ByteArray), .string (⟨#[]⟩ : ByteArray), .slice none 0 0, .string (⟨#[]⟩ : ByteArray), .int .u32 0, .int .i64 0, .int .u64 0, .int .u64 0, .bool false, .bool false, .bool false, .bool false]) ?_ 0 _ rfl; (with_reducible repeat (first | refine bN ?_ _ | refine bD ?_ | refine bA ?_ _)); exact qF.out⟩
   have n4_ : Aside0 (Below w.heap.size w ((((((((((((w12.setCell ⟨qA, 0, none⟩ (.string a0_0)).setCell ⟨qA, 1, none⟩ (.string a0_1)).setCell ⟨qA, 2, none⟩ (.slice qH y111.length qI)).setCell ⟨qA, 3, none⟩ (.string a0_3)).setCell ⟨qA, 4, none⟩ (.int .u32 a0_4)).setCell ⟨qA, 5, none⟩ (.int .i64 a0_5)).setCell ⟨qA, 6, none⟩ (.int .u64 a0_6)).setCell ⟨qA, 7, none⟩ (.int .u64 a0_7)).setCell ⟨qA, 8, none⟩ (.bool a0_8)).setCell ⟨qA, 9, none⟩ (.bool a0_9)).setCell ⟨qA, 10, none⟩ (.bool a0_10)).setCell ⟨qA, 11, none⟩ (.bool a0_11))) := ⟨bBhy4⟩
   (try clear qO)
   (try clear qC)
   (try clear qE)
   (try clear qF)
   (try clear HB)
   generalize ((((((((((((w12.setCell ⟨qA, 0, none⟩ (.string a0_0)).setCell ⟨qA, 1, none⟩ (.string a0_1)).setCell ⟨qA, 2, none⟩ (.slice qH y111.length qI)).setCell ⟨qA, 3, none⟩ (.string a0_3)).setCell ⟨qA, 4, none⟩ (.int .u32 a0_4)).setCell ⟨qA, 5, none⟩ (.int .i64 a0_5)).setCell ⟨qA, 6, none⟩ (.int .u64 a0_6)).setCell ⟨qA, 7, none⟩ (.int .u64 a0_7)).setCell ⟨qA, 8, none⟩ (.bool a0_8)).setCell ⟨qA, 9, none⟩ (.bool a0_9)).setCell ⟨qA, 10, none⟩ (.bool a0_10)).setCell ⟨qA, 11, none⟩ (.bool a0_11)) = w57 at n0_ n1_ n2_ n3_ n4_ ⊢
   have qO := n0_
   have qC := n1_
   have qE := n2_
   have qF := n3_
   have HB := n4_
   clear n0_ n1_ n2_ n3_ n4_
   have qDH := qL.out
   have qDI := qB.out
   have qDJ := qK.out
   have qDK := qJ.out
   obtain ⟨qCB, qCC, qCD, qCE, qCF, qCG, qCH, qCI, qCJ, qCK, qp, qq⟩ := celL qF.out
   obtain ⟨qCL, qCM, qCN, qCO, qCP, qCQ, qCR, qCS, qCT, qCU, qr, qs⟩ := froZ qF.out
   have qDL := qS.out
   have qDM := qR.out
   obtain ⟨qCV, qCW, qCX, qCY, qCZ, qCa, qCb, qCc, qCd, qCe, qt, qu⟩ := celL qE.out
   obtain ⟨qCf, qCg, qCh, qCi, qCj, qCk, qCl, qCm, qCn, qCo, qv, qw⟩ := froZ qE.out
   try go_wp2_with (first | ((with_reducible refine gate_store (t := 32) (p := 2) rfl ?_); refine store_event (t := 32) (p := 2) (v := ?vo_w63) (w1 := ((((((((((((w57.setCell ⟨qG, 0, none⟩ (.string a0_0)).setCell ⟨qG, 1, none⟩ (.string a0_1)).setCell ⟨qG, 2, none⟩ (.slice qH y111.length qI)).setCell ⟨qG, 3, none⟩ (.string a0_3)).setCell ⟨qG, 4, none⟩ (.int .u32 a0_4)).setCell ⟨qG, 5, none⟩ (.int .i64 a0_5)).setCell ⟨qG, 6, none⟩ (.int .u64 a0_6)).setCell ⟨qG, 7, none⟩ (.int .u64 a0_7)).setCell ⟨qG, 8, none⟩ (.bool a0_8)).setCell ⟨qG, 9, none⟩ (.bool a0_9)).setCell ⟨qG, 10, none⟩ (.bool a0_10)).setCell ⟨qG, 11, none⟩ (.bool a0_11))) ?hg ?ho ?hn ?hr ?_; (case ho => rfl); (case hg => rfl); (case hn => rfl); (case hr => first | (go_simp; done) | (go_simp; rfl)); intro w63 hw; have n0_ : Aside0 (Kd.R Kd.string 9 w63 w.heap.size (fun _ => True) (.slice qH y111.length qI) y111) := ⟨(by rw [hw]; exact (by (with_reducible repeat (first | apply rA | apply rN | apply rD)); exact Kd.R_mono (R_far12 qG (Kd.R_types qO.out qE.out (by decide)) (.string a0_0) (.string a0_1) (.slice qH y111.length qI) (.string a0_3) (.int .u32 a0_4) (.int .i64 a0_5) (.int .u64 a0_6) (.int .u64 a0_7) (.bool a0_8) (.bool a0_9) (.bool a0_10) (.bool a0_11)) (fun _ hk => trivial)))⟩; have n1_ : Aside0 (w63.heap[qD]? = some (.cells #[.string a0_0, .string a0_1, .slice A0_2 l0_2.length c0_2, .string a0_3, .int .u32 a0_4, .int .i64 a0_5, .int .u64 a0_6, .int .u64 a0_7, .bool a0_8, .bool a0_9, .bool a0_10, .bool a0_11] 27 (0, 0))) := ⟨(by rw [hw]; exact (by (with_reducible repeat (first | refine bN ?_ _ | refine bD ?_ | refine bA ?_ _)); refine bF ?_ qR.out; (with_reducible repeat (first | refine bN ?_ _ | refine bD ?_ | refine bA ?_ _)); exact qC.out))⟩; have n2_ : Aside0 (w63.heap[qG]? = some (.cells #[.string a0_0, .string a0_1, .slice qH y111.length qI, .string a0_3, .int .u32 a0_4, .int .i64 a0_5, .int .u64 a0_6, .int .u64 a0_7, .bool a0_8, .bool a0_9, .bool a0_10, .bool a0_11] 32 (0, 0))) := ⟨(by rw [hw]; exact (by (with_reducible repeat (first | refine bN ?_ _ | refine bD ?_ | refine bA ?_ _)); refine blk_put (cs := #[.string a0_0, .string a0_1, .slice qH y111.length qI, .string a0_3, .int .u32 a0_4, .int .i64 a0_5, .int .u64 a0_6, .int .u64 a0_7, .bool a0_8, .bool a0_9, .bool a0_10, .bool false]) ?_ 11 _ rfl; (with_reducible repeat (first | refine bN ?_ _ | refine bD ?_ | refine bA ?_ _)); refine blk_put (cs := #[.string a0_0, .string a0_1, .slice qH y111.length qI, .string a0_3, .int .u32 a0_4, .int .i64 a0_5, .int .u64 a0_6, .int .u64 a0_7, .bool a0_8, .bool a0_9, .bool false, .bool false]) ?_ 10 _ rfl; (with_reducible repeat (first | refine bN ?_ _ | refine bD ?_ | refine bA ?_ _)); refine blk_put (cs := #[.string a0_0, .string a0_1, .slice qH y111.length qI, .string a0_3, .int .u32 a0_4, .int .i64 a0_5, .int .u64 a0_6, .int .u64 a0_7, .bool a0_8, .bool false, .bool false, .bool false]) ?_ 9 _ rfl; (with_reducible repeat (first | refine bN ?_ _ | refine bD ?_ | refine bA ?_ _)); refine blk_put (cs := #[.string a0_0, .string a0_1, .slice qH y111.length qI, .string a0_3, .int .u32 a0_4, .int .i64 a0_5, .int .u64 a0_6, .int .u64 a0_7, .bool false, .bool false, .bool false, .bool false]) ?_ 8 _ rfl; (with_reducible repeat (first | refine bN ?_ _ | refine bD ?_ | refine bA ?_ _)); refine blk_put (cs := #[.string a0_0, .string a0_1, .slice qH y111.length qI, .string a0_3, .int .u32 a0_4, .int .i64 a0_5, .int .u64 a0_6, .int .u64 0, .bool false, .bool false, .bool false, .bool false]) ?_ 7 _ rfl; (with_reducible repeat (first | refine bN ?_ _ | refine bD ?_ | refine bA ?_ _)); refine blk_put (cs := #[.string a0_0, .string a0_1, .slice qH y111.length qI, .string a0_3, .int .u32 a0_4, .int .i64 a0_5, .int .u64 0, .int .u64 0, .bool false, .bool false, .bool false, .bool false]) ?_ 6 _ rfl; (with_reducible repeat (first | refine bN ?_ _ | refine bD ?_ | refine bA ?_ _)); refine blk_put (cs := #[.string a0_0, .string a0_1, .slice qH y111.length qI, .string a0_3, .int .u32 a0_4, .int .i64 0, .int .u64 0, .int .u64 0, .bool false, .bool false, .bool false, .bool false]) ?_ 5 _ rfl; (with_reducible repeat (first | refine bN ?_ _ | refine bD ?_ | refine bA ?_ _)); refine blk_put (cs := #[.string a0_0, .string a0_1, .slice qH y111.length qI, .string a0_3, .int .u32 0, .int .i64 0, .int .u64 0, .int .u64 0, .bool false, .bool false, .bool false, .bool false]) ?_ 4 _ rfl; (with_reducible repeat (first | refine bN ?_ _ | refine bD ?_ | refine bA ?_ _)); refine blk_put (cs := #[.string a0_0, .string a0_1, .slice qH y111.length qI, .string (⟨#[]⟩ : ByteArray), .int .u32 0, .int .i64 0, .int .u64 0, .int .u64 0, .bool false, .bool false, .bool false, .bool false]) ?_ 3 _ rfl; (with_reducible repeat (first | refine bN ?_ _ | refine bD ?_ | refine bA ?_ _)); refine blk_put (cs := #[.string a0_0, .string a0_1, .slice none 0 0, .string (⟨#[]⟩ : ByteArray), .int .u32 0, .int .i64 0, .int .u64 0, .int .u64 0, .bool false, .bool false, .bool false, .bool false]) ?_ 2 _ rfl; (with_reducible repeat (first | refine bN ?_ _ | refine bD ?_ | refine bA ?_ _)); refine blk_put (cs := #[.string a0_0, .string (⟨#[]⟩ : ByteArray), .slice none 0 0, .string (⟨#[]⟩ : ByteArray), .int .u32 0, .int .i64 0, .int .u64 0, .int .u64 0, .bool false, .bool false, .bool false, .bool false]) ?_ 1 _ rfl; (with_reducible repeat (first | refine bN ?_ _ | refine bD ?_ | refine bA ?_ _)); refine blk_put (cs := #[.string (⟨#[]⟩ : ByteArray), .string (⟨#[]⟩ : ByteArray), .slice none 0 0, .string (⟨#[]⟩ : ByteArray), .int .u32 0, .int .i64 0, .int .u64 0, .int .u64 0, .bool false, .bool false, .bool false, .bool false]) ?_ 0 _ rfl; (with_reducible repeat (first | refine bN ?_ _ | refine bD ?_ | refine bA ?_ _)); exact qE.out))⟩; have n3_ : Aside0 (w63.heap[qA]? = some (.cells #[.string a0_0, .string a0_1, .slice qH y111.length qI, .string a0_3, .int .u32 a0_4, .int .i64 a0_5, .int .u64 a0_6, .int .u64 a0_7, .bool a0_8, .bool a0_9, .bool a0_10, .bool a0_11] 32 (0, 0))) := ⟨(by rw [hw]; exact (by (with_reducible repeat (first | refine bN ?_ _ | refine bD ?_ | refine bA ?_ _)); refine bF ?_ qK.out; (with_reducible repeat (first | refine bN ?_ _ | refine bD ?_ | refine bA ?_ _)); exact qF.out))⟩; have n4_ : Aside0 (Below w.heap.size w w63) := ⟨(by rw [hw]; exact bBhy4)⟩; clear hw; clear qO; clear qC; clear qE; clear qF; clear HB; have qO := n0_; have qC := n1_; have qE := n2_; have qF := n3_; have HB := n4_; clear n0_ n1_ n2_ n3_ n4_))
   refine bodyPost_ret (results_cell_row rfl _ _ qG 32 #[.string a0_0, .string a0_1, .slice qH y111.length qI, .string a0_3, .int .u32 a0_4, .int .i64 a0_5, .int .u64 a0_6, .int .u64 a0_7, .bool a0_8, .bool a0_9, .bool a0_10, .bool a0_11] (0, 0) _ rfl (by (with_reducible repeat (first | refine bN ?_ _ | refine bD ?_ | refine bA ?_ _)); exact qE.out) Tryd.underlying32 rfl (by kernel_rfl)) rfl ?_
   exact ⟨_, by first | rfl | (simp [errW_none, errW_some] <;> rfl) | (simp [*, errW_none, errW_some] <;> rfl), by (with_reducible repeat (first | apply rA | apply rN | apply rD)); exact qO.out, bBhy4⟩
 ·rw [if_neg c2] at H
  exact absurd H (by simp)

end Go.Proofs.YtfbhlbchmenloaaDoor.H
-- thinned
end
