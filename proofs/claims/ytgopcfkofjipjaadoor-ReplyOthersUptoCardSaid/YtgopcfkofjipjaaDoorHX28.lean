/-
  Printed by this session's hybrid.py (it runs the kit's print over contracts of our own for library functions): plain functions with the answers of Go functions, and that the calls come to them. Their conditions stand in each head.
-/
import Derived.Test.YtgopcfkofjipjaaDoorHX0
import Derived.Test.YtgopcfkofjipjaaDoorHX5
import Derived.Test.YtgopcfkofjipjaaDoorHX6
import Derived.Test.YtgopcfkofjipjaaDoorHX16
namespace Go.Proofs.YtgopcfkofjipjaaDoor.H
open Go.RowKit Go.Proofs.YtgopcfkofjipjaaDoorW.PrintWords Go.Proofs.YtgopcfkofjipjaaDoorW.PrintLast Go.Proofs.YtgopcfkofjipjaaDoorW.PrintMore
attribute [local go_sem] max2_int min2_int max_two min_two max_three min_three max_four min_four   -- for this text's walks alone
set_option linter.unusedVariables false
set_option linter.unusedSimpArgs false

/-! ### cellaretlaw19_ReplyOthers: function 6 -/
def cellaretlaw19_ReplyOthers.j0 : Nat → Bool → ByteArray → ByteArray → ByteArray → Int → Int → Bool → Bool → ByteArray → ByteArray → ByteArray → Int → Int → Bool → Option (Bool)
  | 0, _, _, _, _, _, _, _, _, _, _, _, _, _, _ => none
  | k + 1, x298000, x298001, x298002, x298003, x298004, x298005, x298006, x300000, x300001, x300002, x300003, x300004, x300005, x300006 => (reply_Bytes.f x298000 x298001 x298002 x298003 x298004 x298005 x298006).bind fun t300 => ((reply_Bytes.f x300000 x300001 x300002 x300003 x300004 x300005 x300006).bind fun t303 => (if (strOfNums t300).toList = (strOfNums t303).toList then ((reply_All.f k (([(⟨x298000, x298001, x298002, x298003, x298004, x298005, x298006⟩ : S34), (⟨x300000, x300001, x300002, x300003, x300004, x300005, x300006⟩ : S34)] : List (S34)))).bind fun t309 => ((reply_Bytes.f x298000 x298001 x298002 x298003 x298004 x298005 x298006).bind fun t312 => ((reply_Bytes.f x300000 x300001 x300002 x300003 x300004 x300005 x300006).bind fun t315 => (if (strOfNums t312).size + (strOfNums t315).size ≤ 9223372036854775807 then (some ((strOfNums t309).toList == ((strOfNums t312) ++ (strOfNums t315)).toList)) else (none))))) else (some false)))
def cellaretlaw19_ReplyOthers.f (k : Nat) (a0_0 : Bool) (a0_1 : ByteArray) (a0_2 : ByteArray) (a0_3 : ByteArray) (a0_4 : Int) (a0_5 : Int) (a0_6 : Bool) : Option (Bool) := (cellaretlaw19_awake.f k).bind fun t298 => (if t298 = true then (if a0_0 = true then (cellaretlaw19_ReplyOthers.j0 k a0_0 a0_1 a0_2 a0_3 a0_4 a0_5 a0_6 a0_0 a0_1 a0_2 (⟨#[]⟩ : ByteArray) a0_4 a0_5 a0_6) else (cellaretlaw19_ReplyOthers.j0 k a0_0 a0_1 a0_2 a0_3 a0_4 a0_5 a0_6 false (⟨#[]⟩ : ByteArray) (⟨#[]⟩ : ByteArray) a0_3 0 0 false)) else (some false))
theorem cellaretlaw19_ReplyOthers.mono_l : ∀ k, (∀ y0 y1 y2 y3 y4 y5 y6 y7 y8 y9 y10 y11 y12 y13, LeO (cellaretlaw19_ReplyOthers.j0 k y0 y1 y2 y3 y4 y5 y6 y7 y8 y9 y10 y11 y12 y13) (cellaretlaw19_ReplyOthers.j0 (k + 1) y0 y1 y2 y3 y4 y5 y6 y7 y8 y9 y10 y11 y12 y13))
  | 0 => fun _ _ _ _ _ _ _ _ _ _ _ _ _ _ r h => by simp [cellaretlaw19_ReplyOthers.j0] at h
  | k + 1 => by
    have ih0 := cellaretlaw19_ReplyOthers.mono_l k
    · intro y0 y1 y2 y3 y4 y5 y6 y7 y8 y9 y10 y11 y12 y13
      unfold cellaretlaw19_ReplyOthers.j0
      repeat' first
      | (with_reducible exact ih0 _ _ _ _ _ _ _ _ _ _ _ _ _ _)
      | (with_reducible exact cellaretlaw19_awake.mono _)
      | (with_reducible exact reply_All.mono _ _)
      | (with_reducible exact LeO.refl _)
      | (with_reducible exact LeO.none _)
      | (with_reducible refine LeO.ite ?_ ?_)
      | (with_reducible refine LeO.bind ?_ (fun _ => ?_))
      | exact ih0 _ _ _ _ _ _ _ _ _ _ _ _ _ _
      | exact cellaretlaw19_awake.mono _
      | exact reply_All.mono _ _
      | exact LeO.none _
      | refine LeO.ite ?_ ?_
      | refine LeO.bind ?_ (fun _ => ?_)
theorem cellaretlaw19_ReplyOthers.mono : ∀ a0 a1 a2 a3 a4 a5 a6 k, LeO (cellaretlaw19_ReplyOthers.f k a0 a1 a2 a3 a4 a5 a6) (cellaretlaw19_ReplyOthers.f (k + 1) a0 a1 a2 a3 a4 a5 a6) := by
  intro a0 a1 a2 a3 a4 a5 a6 k
  have ih0 := cellaretlaw19_ReplyOthers.mono_l k
  unfold cellaretlaw19_ReplyOthers.f
  repeat' first
      | (with_reducible exact ih0 _ _ _ _ _ _ _ _ _ _ _ _ _ _)
      | (with_reducible exact cellaretlaw19_awake.mono _)
      | (with_reducible exact reply_All.mono _ _)
      | (with_reducible exact LeO.refl _)
      | (with_reducible exact LeO.none _)
      | (with_reducible refine LeO.ite ?_ ?_)
      | (with_reducible refine LeO.bind ?_ (fun _ => ?_))
      | exact ih0 _ _ _ _ _ _ _ _ _ _ _ _ _ _
      | exact cellaretlaw19_awake.mono _
      | exact reply_All.mono _ _
      | exact LeO.none _
      | refine LeO.ite ?_ ?_
      | refine LeO.bind ?_ (fun _ => ?_)
def cellaretlaw19_ReplyOthers.T7 : Bool × List (List Nat × List Nat) := (true, [([], []), ([0], [0]), ([1], [1]), ([], []), ([3, 1], [3]), ([4], [4]), ([2, 5], [2, 5]), ([6, 4], [6]), ([7], [7]), ([7], [7]), ([8, 9, 7], [7, 8, 9]), ([10, 7, 7], [7, 10]), ([11, 7], [7, 11]), ([7], [7]), ([13, 11, 7], [7, 13]), ([14, 7], [7, 14]), ([7], [7]), ([16, 14, 7], [7, 16]), ([17, 7], [7, 17]), ([15, 18, 7], [7, 15, 18]), ([12, 19, 7], [7, 12, 19]), ([7, 20], [7, 20]), ([21, 17, 0, 1, 2, 3, 4, 5, 6, 7, 8, 9, 10, 11, 12, 13, 14, 15, 16, 17, 18, 19, 20, 21], [21])])
def cellaretlaw19_ReplyOthers.B7 : List Nat := [0, 1, 3, 0, 11, 27, 63, 127, 255, 255, 1023, 2047, 4095, 255, 12287, 28671, 255, 94207, 225279, 520191, 1048575, 2097151, 4194303]
theorem cellaretlaw19_ReplyOthers.tab7 : rtab .any (opsOf Tryd.f6 7) = cellaretlaw19_ReplyOthers.T7 := by kernel_rfl
theorem cellaretlaw19_ReplyOthers.bits7 : waitsOk cellaretlaw19_ReplyOthers.T7.2 cellaretlaw19_ReplyOthers.B7 = true := by kernel_rfl
set_option maxHeartbeats 8000000 in
set_option maxRecDepth 100000 in
theorem cellaretlaw19_ReplyOthers.calls (k : Nat) (a0_0 : Bool) (a0_1 : ByteArray) (a0_2 : ByteArray) (a0_3 : ByteArray) (a0_4 : Int) (a0_5 : Int) (a0_6 : Bool) (r : Bool) (hr_ : r = true) (w : World) (HLD : LaidA w) (h : cellaretlaw19_ReplyOthers.f k a0_0 a0_1 a0_2 a0_3 a0_4 a0_5 a0_6 = some r) :
  Calls Tryd.prog 6 #[.agg #[.bool a0_0, .string a0_1, .string a0_2, .string a0_3, .int .u32 a0_4, .int .u64 a0_5, .bool a0_6]] w fun e w' => e = .returned (.bool r) ∧ Below w.heap.size w w' := by
 have hu34 := Tryd.underlying34
 have HB := Aside0.mk (Below.refl w.heap.size w)
 have H : ((cellaretlaw19_awake.f k).bind fun t298 => (if t298 = true then (if a0_0 = true then (cellaretlaw19_ReplyOthers.j0 k a0_0 a0_1 a0_2 a0_3 a0_4 a0_5 a0_6 a0_0 a0_1 a0_2 (⟨#[]⟩ : ByteArray) a0_4 a0_5 a0_6) else (cellaretlaw19_ReplyOthers.j0 k a0_0 a0_1 a0_2 a0_3 a0_4 a0_5 a0_6 false (⟨#[]⟩ : ByteArray) (⟨#[]⟩ : ByteArray) a0_3 0 0 false)) else (some false))) = some r := h
 clear h
 replace H := Option.bind_eq_some_iff.mp H
 obtain ⟨t298, A20, H⟩ := H
 replace H : (if t298 = true then (if a0_0 = true then (cellaretlaw19_ReplyOthers.j0 k a0_0 a0_1 a0_2 a0_3 a0_4 a0_5 a0_6 a0_0 a0_1 a0_2 (⟨#[]⟩ : ByteArray) a0_4 a0_5 a0_6) else (cellaretlaw19_ReplyOthers.j0 k a0_0 a0_1 a0_2 a0_3 a0_4 a0_5 a0_6 false (⟨#[]⟩ : ByteArray) (⟨#[]⟩ : ByteArray) a0_3 0 0 false)) else (some false)) = some r := H
 have A2 := Aside0.mk A20
 clear A20
 by_cases c3 : t298 = true
 ·subst c3
  have H1 : (if a0_0 = true then (cellaretlaw19_ReplyOthers.j0 k a0_0 a0_1 a0_2 a0_3 a0_4 a0_5 a0_6 a0_0 a0_1 a0_2 (⟨#[]⟩ : ByteArray) a0_4 a0_5 a0_6) else (cellaretlaw19_ReplyOthers.j0 k a0_0 a0_1 a0_2 a0_3 a0_4 a0_5 a0_6 false (⟨#[]⟩ : ByteArray) (⟨#[]⟩ : ByteArray) a0_3 0 0 false)) = some r := by rw [if_pos rfl] at H; exact H
  clear H
  have H := H1
  clear H1
  have HC4 := Aside0.mk H
  clear H
  go_enter Tryd.func6, Tryd.ntmps6
  go_upto_if 8 with (first | ((with_reducible refine gate_dst (N := 1) rfl ?_); (try (refine gate_guard (by rfl) ?_; dsimp only)); refine box_event ?hg (N := 1) ?hd (cs := #[.bool a0_0, .string a0_1, .string a0_2, .string a0_3, .int .u32 a0_4, .int .u64 a0_5, .bool a0_6]) (t := 34) ?hr ?_; (case hd => rfl); (case hg => rfl); (case hr => first | (go_simp; done) | (go_simp; rfl)); intro gb297 hg w5 hbox hb; have n0_ := Aside0.mk (below_step (by repeat (first | (with_reducible first | exact HB.out | apply below_alloc | apply pw_below_drewN | apply below_drew1) | exact HB.out)) hb); have n1_ := Aside0.mk (hbox); have n2_ := Aside0.mk ((by rw [hg]; exact (below_size (by repeat (first | (with_reducible first | exact HB.out | apply below_alloc | apply pw_below_drewN | apply below_drew1) | exact HB.out))) : w.heap.size ≤ gb297)); have n3_ := Aside0.mk ((by rw [hg]; exact (below_size (by repeat (first | (with_reducible first | exact HB.out | apply below_alloc | apply pw_below_drewN | apply below_drew1) | exact HB.out))) : w.heap.size ≤ gb297)); clear HB; have HB := n0_; have BK297 := n1_; have GW297 := n2_; have GE297 := n3_; clear n0_ n1_ n2_ n3_; clear hb hbox hg) | ((with_reducible refine gate_callee (f := 7) rfl ?_); refine goesL_ (some 4) rfl rfl Tryd.func7 (by kernel_rfl) rfl #[] rfl (by (try simp only [List.map_toArray, List.map_cons, List.map_nil]); first | done | rfl | (simp only [List.length_drop, List.length_take]; rfl)) ?_; (with_reducible refine (cellaretlaw19_awake.calls k  true _ ?side1 A2.out).mono ?_); (case side1 => exact HLD.below (by repeat (first | (with_reducible first | exact HB.out | apply below_alloc | apply pw_below_drewN | apply below_drew1 | refine below_set ?_ GE297.out) | exact HB.out))); rintro e w6 ⟨rfl, hb⟩; refine ⟨_, rfl, ?_⟩; have n0_ := Aside0.mk (blk_below (g := gb297) (o := .cells #[.bool a0_0, .string a0_1, .string a0_2, .string a0_3, .int .u32 a0_4, .int .u64 a0_5, .bool a0_6] 34 (0, 0)) (by (with_reducible repeat (first | refine blk_drewN ?_ _ | refine blk_drew ?_ | refine blk_alloc ?_ _)); exact BK297.out) hb); have n1_ := Aside0.mk (below_step (by repeat (first | (with_reducible first | exact HB.out | apply below_alloc | apply pw_below_drewN | apply below_drew1 | refine below_set ?_ GE297.out) | exact HB.out)) hb); clear BK297; clear HB; have BK297 := n0_; have HB := n1_; clear n0_ n1_; (try clear hb); (try clear hb2); (try clear hk); (try clear hi); have hcz7_0 : w6.cell? ⟨gb297, 0, none⟩ = some (.bool a0_0) := (blk_cell BK297.out 0).trans rfl; have hcz7_1 : w6.cell? ⟨gb297, 1, none⟩ = some (.string a0_1) := (blk_cell BK297.out 1).trans rfl; have hcz7_2 : w6.cell? ⟨gb297, 2, none⟩ = some (.string a0_2) := (blk_cell BK297.out 2).trans rfl; have hcz7_3 : w6.cell? ⟨gb297, 3, none⟩ = some (.string a0_3) := (blk_cell BK297.out 3).trans rfl; have hcz7_4 : w6.cell? ⟨gb297, 4, none⟩ = some (.int .u32 a0_4) := (blk_cell BK297.out 4).trans rfl; have hcz7_5 : w6.cell? ⟨gb297, 5, none⟩ = some (.int .u64 a0_5) := (blk_cell BK297.out 5).trans rfl; have hcz7_6 : w6.cell? ⟨gb297, 6, none⟩ = some (.bool a0_6) := (blk_cell BK297.out 6).trans rfl; have hfz7_0 := blk_frozen BK297.out 0; have hfz7_1 := blk_frozen BK297.out 1; have hfz7_2 := blk_frozen BK297.out 2; have hfz7_3 := blk_frozen BK297.out 3; have hfz7_4 := blk_frozen BK297.out 4; have hfz7_5 := blk_frozen BK297.out 5; have hfz7_6 := blk_frozen BK297.out 6) | ((with_reducible refine gate_dst (N := 3) rfl ?_); (try (refine gate_guard (by rfl) ?_; dsimp only)); refine box_event ?hg (N := 3) ?hd (cs := #[.bool false, .string (⟨#[]⟩ : ByteArray), .string (⟨#[]⟩ : ByteArray), .string (⟨#[]⟩ : ByteArray), .int .u32 0, .int .u64 0, .bool false]) (t := 34) ?hr ?_; (case hd => rfl); (case hg => rfl); (case hr => first | (go_simp; done) | (go_simp; rfl)); intro gb299 hg w8 hbox hb; have n0_ := Aside0.mk (blk_below (g := gb297) (o := .cells #[.bool a0_0, .string a0_1, .string a0_2, .string a0_3, .int .u32 a0_4, .int .u64 a0_5, .bool a0_6] 34 (0, 0)) (by (with_reducible repeat (first | refine blk_drewN ?_ _ | refine blk_drew ?_ | refine blk_alloc ?_ _)); exact BK297.out) hb); have n1_ := Aside0.mk (below_step (by repeat (first | (with_reducible first | exact HB.out | apply below_alloc | apply pw_below_drewN | apply below_drew1 | refine below_set ?_ GE297.out) | exact HB.out)) hb); have n2_ := Aside0.mk (hbox); have n3_ := Aside0.mk ((by rw [hg]; exact (below_size (by repeat (first | (with_reducible first | exact HB.out | apply below_alloc | apply pw_below_drewN | apply below_drew1 | refine below_set ?_ GE297.out) | exact HB.out))) : w.heap.size ≤ gb299)); have n4_ := Aside0.mk ((by rw [hg]; exact (below_size (by repeat (first | (with_reducible first | exact HB.out | apply below_alloc | apply pw_below_drewN | apply below_drew1 | refine below_set ?_ GE297.out) | exact HB.out))) : w.heap.size ≤ gb299)); have n5_ := Aside0.mk ((by rw [hg]; exact Nat.ne_of_lt (blk_lt (g := gb297) (o := .cells #[.bool a0_0, .string a0_1, .string a0_2, .string a0_3, .int .u32 a0_4, .int .u64 a0_5, .bool a0_6] 34 (0, 0)) (by (with_reducible repeat (first | refine blk_drewN ?_ _ | refine blk_drew ?_ | refine blk_alloc ?_ _)); exact BK297.out)) : gb297 ≠ gb299)); have n6_ := Aside0.mk ((by rw [hg]; exact Nat.ne_of_gt (blk_lt (g := gb297) (o := .cells #[.bool a0_0, .string a0_1, .string a0_2, .string a0_3, .int .u32 a0_4, .int .u64 a0_5, .bool a0_6] 34 (0, 0)) (by (with_reducible repeat (first | refine blk_drewN ?_ _ | refine blk_drew ?_ | refine blk_alloc ?_ _)); exact BK297.out)) : gb299 ≠ gb297)); clear BK297; clear HB; have BK297 := n0_; have HB := n1_; have BK299 := n2_; have GW299 := n3_; have GE299 := n4_; have NB297_299 := n5_; have NB299_297 := n6_; clear n0_ n1_ n2_ n3_ n4_ n5_ n6_; clear hb hbox hg; have hnb9 := NB299_297.out; have hnc9 := NB297_299.out; have hcz10_0 : w8.cell? ⟨gb299, 0, none⟩ = some (.bool false) := (blk_cell BK299.out 0).trans rfl; have hcz10_1 : w8.cell? ⟨gb299, 1, none⟩ = some (.string (⟨#[]⟩ : ByteArray)) := (blk_cell BK299.out 1).trans rfl; have hcz10_2 : w8.cell? ⟨gb299, 2, none⟩ = some (.string (⟨#[]⟩ : ByteArray)) := (blk_cell BK299.out 2).trans rfl; have hcz10_3 : w8.cell? ⟨gb299, 3, none⟩ = some (.string (⟨#[]⟩ : ByteArray)) := (blk_cell BK299.out 3).trans rfl; have hcz10_4 : w8.cell? ⟨gb299, 4, none⟩ = some (.int .u32 0) := (blk_cell BK299.out 4).trans rfl; have hcz10_5 : w8.cell? ⟨gb299, 5, none⟩ = some (.int .u64 0) := (blk_cell BK299.out 5).trans rfl; have hcz10_6 : w8.cell? ⟨gb299, 6, none⟩ = some (.bool false) := (blk_cell BK299.out 6).trans rfl; have hfz10_0 := blk_frozen BK299.out 0; have hfz10_1 := blk_frozen BK299.out 1; have hfz10_2 := blk_frozen BK299.out 2; have hfz10_3 := blk_frozen BK299.out 3; have hfz10_4 := blk_frozen BK299.out 4; have hfz10_5 := blk_frozen BK299.out 5; have hfz10_6 := blk_frozen BK299.out 6; have hcz11_0 : w8.cell? ⟨gb297, 0, none⟩ = some (.bool a0_0) := (blk_cell BK297.out 0).trans rfl; have hcz11_1 : w8.cell? ⟨gb297, 1, none⟩ = some (.string a0_1) := (blk_cell BK297.out 1).trans rfl; have hcz11_2 : w8.cell? ⟨gb297, 2, none⟩ = some (.string a0_2) := (blk_cell BK297.out 2).trans rfl; have hcz11_3 : w8.cell? ⟨gb297, 3, none⟩ = some (.string a0_3) := (blk_cell BK297.out 3).trans rfl; have hcz11_4 : w8.cell? ⟨gb297, 4, none⟩ = some (.int .u32 a0_4) := (blk_cell BK297.out 4).trans rfl; have hcz11_5 : w8.cell? ⟨gb297, 5, none⟩ = some (.int .u64 a0_5) := (blk_cell BK297.out 5).trans rfl; have hcz11_6 : w8.cell? ⟨gb297, 6, none⟩ = some (.bool a0_6) := (blk_cell BK297.out 6).trans rfl; have hfz11_0 := blk_frozen BK297.out 0; have hfz11_1 := blk_frozen BK297.out 1; have hfz11_2 := blk_frozen BK297.out 2; have hfz11_3 := blk_frozen BK297.out 3; have hfz11_4 := blk_frozen BK297.out 4; have hfz11_5 := blk_frozen BK297.out 5; have hfz11_6 := blk_frozen BK297.out 6))
  (try simp only [Act.put, List.setIfInBounds_toArray, List.set_cons_zero, List.set_cons_succ])
  go_cut [] (fun wc => ∃ (kq : Nat) (q30 : Bool) (q31 : ByteArray) (q32 : ByteArray) (q33 : ByteArray) (q34 : Int) (q35 : Int) (q36 : Bool), Aside0 (cellaretlaw19_ReplyOthers.j0 kq a0_0 a0_1 a0_2 a0_3 a0_4 a0_5 a0_6 q30 q31 q32 q33 q34 q35 q36 = some r) ∧ Aside0 (kq ≤ k) ∧ Aside0 (wc.heap[gb297]? = some (.cells #[.bool a0_0, .string a0_1, .string a0_2, .string a0_3, .int .u32 a0_4, .int .u64 a0_5, .bool a0_6] 34 (0, 0))) ∧ Aside0 (wc.heap[gb299]? = some (.cells #[.bool q30, .string q31, .string q32, .string q33, .int .u32 q34, .int .u64 q35, .bool q36] 34 (0, 0))) ∧ Aside0 (Below w.heap.size w wc))
  case first =>
   have H := HC4.out
   clear HC4
   by_cases c12 : a0_0 = true
   ·subst c12
    have H1 : (cellaretlaw19_ReplyOthers.j0 k true a0_1 a0_2 a0_3 a0_4 a0_5 a0_6 true a0_1 a0_2 (⟨#[]⟩ : ByteArray) a0_4 a0_5 a0_6) = some r := by rw [if_pos rfl] at H; exact H
    clear H
    have H := H1
    clear H1
    have H' := Aside0.mk H
    clear H
    have hnb13 := NB299_297.out
    have hnc13 := NB297_299.out
    have hcz14_0 : w8.cell? ⟨gb299, 0, none⟩ = some (.bool false) := (blk_cell BK299.out 0).trans rfl
    have hcz14_1 : w8.cell? ⟨gb299, 1, none⟩ = some (.string (⟨#[]⟩ : ByteArray)) := (blk_cell BK299.out 1).trans rfl
    have hcz14_2 : w8.cell? ⟨gb299, 2, none⟩ = some (.string (⟨#[]⟩ : ByteArray)) := (blk_cell BK299.out 2).trans rfl
    have hcz14_3 : w8.cell? ⟨gb299, 3, none⟩ = some (.string (⟨#[]⟩ : ByteArray)) := (blk_cell BK299.out 3).trans rfl
    have hcz14_4 : w8.cell? ⟨gb299, 4, none⟩ = some (.int .u32 0) := (blk_cell BK299.out 4).trans rfl
    have hcz14_5 : w8.cell? ⟨gb299, 5, none⟩ = some (.int .u64 0) := (blk_cell BK299.out 5).trans rfl
    have hcz14_6 : w8.cell? ⟨gb299, 6, none⟩ = some (.bool false) := (blk_cell BK299.out 6).trans rfl
    have hfz14_0 := blk_frozen BK299.out 0
    have hfz14_1 := blk_frozen BK299.out 1
    have hfz14_2 := blk_frozen BK299.out 2
    have hfz14_3 := blk_frozen BK299.out 3
    have hfz14_4 := blk_frozen BK299.out 4
    have hfz14_5 := blk_frozen BK299.out 5
    have hfz14_6 := blk_frozen BK299.out 6
    go_wp2
    go_meet
    case rel => exact ⟨_, (true), (a0_1), (a0_2), ((⟨#[]⟩ : ByteArray)), (a0_4), (a0_5), (a0_6), H', ⟨by first | omega | exact Nat.le_refl _⟩, ⟨by (with_reducible repeat (first | refine blk_drewN ?_ _ | refine blk_drew ?_ | refine blk_alloc ?_ _)); refine blk_far ?_ NB297_299.out _; (with_reducible repeat (first | refine blk_drewN ?_ _ | refine blk_drew ?_ | refine blk_alloc ?_ _)); refine blk_far ?_ NB297_299.out _; (with_reducible repeat (first | refine blk_drewN ?_ _ | refine blk_drew ?_ | refine blk_alloc ?_ _)); refine blk_far ?_ NB297_299.out _; (with_reducible repeat (first | refine blk_drewN ?_ _ | refine blk_drew ?_ | refine blk_alloc ?_ _)); refine blk_far ?_ NB297_299.out _; (with_reducible repeat (first | refine blk_drewN ?_ _ | refine blk_drew ?_ | refine blk_alloc ?_ _)); refine blk_far ?_ NB297_299.out _; (with_reducible repeat (first | refine blk_drewN ?_ _ | refine blk_drew ?_ | refine blk_alloc ?_ _)); refine blk_far ?_ NB297_299.out _; (with_reducible repeat (first | refine blk_drewN ?_ _ | refine blk_drew ?_ | refine blk_alloc ?_ _)); refine blk_far ?_ NB297_299.out _; (with_reducible repeat (first | refine blk_drewN ?_ _ | refine blk_drew ?_ | refine blk_alloc ?_ _)); refine blk_far ?_ NB297_299.out _; (with_reducible repeat (first | refine blk_drewN ?_ _ | refine blk_drew ?_ | refine blk_alloc ?_ _)); exact BK297.out⟩, ⟨by (with_reducible repeat (first | refine blk_drewN ?_ _ | refine blk_drew ?_ | refine blk_alloc ?_ _)); refine blk_put (cs := #[.bool true, .string a0_1, .string a0_2, .string a0_3, .int .u32 a0_4, .int .u64 a0_5, .bool a0_6]) ?_ 3 _ rfl; (with_reducible repeat (first | refine blk_drewN ?_ _ | refine blk_drew ?_ | refine blk_alloc ?_ _)); refine blk_put (cs := #[.bool true, .string a0_1, .string a0_2, .string a0_3, .int .u32 a0_4, .int .u64 a0_5, .bool false]) ?_ 6 _ rfl; (with_reducible repeat (first | refine blk_drewN ?_ _ | refine blk_drew ?_ | refine blk_alloc ?_ _)); refine blk_put (cs := #[.bool true, .string a0_1, .string a0_2, .string a0_3, .int .u32 a0_4, .int .u64 0, .bool false]) ?_ 5 _ rfl; (with_reducible repeat (first | refine blk_drewN ?_ _ | refine blk_drew ?_ | refine blk_alloc ?_ _)); refine blk_put (cs := #[.bool true, .string a0_1, .string a0_2, .string a0_3, .int .u32 0, .int .u64 0, .bool false]) ?_ 4 _ rfl; (with_reducible repeat (first | refine blk_drewN ?_ _ | refine blk_drew ?_ | refine blk_alloc ?_ _)); refine blk_put (cs := #[.bool true, .string a0_1, .string a0_2, .string (⟨#[]⟩ : ByteArray), .int .u32 0, .int .u64 0, .bool false]) ?_ 3 _ rfl; (with_reducible repeat (first | refine blk_drewN ?_ _ | refine blk_drew ?_ | refine blk_alloc ?_ _)); refine blk_put (cs := #[.bool true, .string a0_1, .string (⟨#[]⟩ : ByteArray), .string (⟨#[]⟩ : ByteArray), .int .u32 0, .int .u64 0, .bool false]) ?_ 2 _ rfl; (with_reducible repeat (first | refine blk_drewN ?_ _ | refine blk_drew ?_ | refine blk_alloc ?_ _)); refine blk_put (cs := #[.bool true, .string (⟨#[]⟩ : ByteArray), .string (⟨#[]⟩ : ByteArray), .string (⟨#[]⟩ : ByteArray), .int .u32 0, .int .u64 0, .bool false]) ?_ 1 _ rfl; (with_reducible repeat (first | refine blk_drewN ?_ _ | refine blk_drew ?_ | refine blk_alloc ?_ _)); refine blk_put (cs := #[.bool false, .string (⟨#[]⟩ : ByteArray), .string (⟨#[]⟩ : ByteArray), .string (⟨#[]⟩ : ByteArray), .int .u32 0, .int .u64 0, .bool false]) ?_ 0 _ rfl; (with_reducible repeat (first | refine blk_drewN ?_ _ | refine blk_drew ?_ | refine blk_alloc ?_ _)); exact BK299.out⟩, ⟨by repeat (first | (with_reducible first | exact HB.out | apply below_alloc | apply pw_below_drewN | apply below_drew1 | refine below_set ?_ GE297.out | refine below_set ?_ GE299.out) | exact HB.out)⟩⟩
   ·replace c12 := Bool.eq_false_iff.mpr c12
    subst c12
    have H1 : (cellaretlaw19_ReplyOthers.j0 k false a0_1 a0_2 a0_3 a0_4 a0_5 a0_6 false (⟨#[]⟩ : ByteArray) (⟨#[]⟩ : ByteArray) a0_3 0 0 false) = some r := by rw [if_neg (show ¬ (false = true) by decide)] at H; exact H
    clear H
    have H := H1
    clear H1
    have H' := Aside0.mk H
    clear H
    have hnb15 := NB297_299.out
    have hnc15 := NB299_297.out
    have hcz16_0 : w8.cell? ⟨gb297, 0, none⟩ = some (.bool false) := (blk_cell BK297.out 0).trans rfl
    have hcz16_1 : w8.cell? ⟨gb297, 1, none⟩ = some (.string a0_1) := (blk_cell BK297.out 1).trans rfl
    have hcz16_2 : w8.cell? ⟨gb297, 2, none⟩ = some (.string a0_2) := (blk_cell BK297.out 2).trans rfl
    have hcz16_3 : w8.cell? ⟨gb297, 3, none⟩ = some (.string a0_3) := (blk_cell BK297.out 3).trans rfl
    have hcz16_4 : w8.cell? ⟨gb297, 4, none⟩ = some (.int .u32 a0_4) := (blk_cell BK297.out 4).trans rfl
    have hcz16_5 : w8.cell? ⟨gb297, 5, none⟩ = some (.int .u64 a0_5) := (blk_cell BK297.out 5).trans rfl
    have hcz16_6 : w8.cell? ⟨gb297, 6, none⟩ = some (.bool a0_6) := (blk_cell BK297.out 6).trans rfl
    have hfz16_0 := blk_frozen BK297.out 0
    have hfz16_1 := blk_frozen BK297.out 1
    have hfz16_2 := blk_frozen BK297.out 2
    have hfz16_3 := blk_frozen BK297.out 3
    have hfz16_4 := blk_frozen BK297.out 4
    have hfz16_5 := blk_frozen BK297.out 5
    have hfz16_6 := blk_frozen BK297.out 6
    have hcz17_0 : w8.cell? ⟨gb299, 0, none⟩ = some (.bool false) := (blk_cell BK299.out 0).trans rfl
    have hcz17_1 : w8.cell? ⟨gb299, 1, none⟩ = some (.string (⟨#[]⟩ : ByteArray)) := (blk_cell BK299.out 1).trans rfl
    have hcz17_2 : w8.cell? ⟨gb299, 2, none⟩ = some (.string (⟨#[]⟩ : ByteArray)) := (blk_cell BK299.out 2).trans rfl
    have hcz17_3 : w8.cell? ⟨gb299, 3, none⟩ = some (.string (⟨#[]⟩ : ByteArray)) := (blk_cell BK299.out 3).trans rfl
    have hcz17_4 : w8.cell? ⟨gb299, 4, none⟩ = some (.int .u32 0) := (blk_cell BK299.out 4).trans rfl
    have hcz17_5 : w8.cell? ⟨gb299, 5, none⟩ = some (.int .u64 0) := (blk_cell BK299.out 5).trans rfl
    have hcz17_6 : w8.cell? ⟨gb299, 6, none⟩ = some (.bool false) := (blk_cell BK299.out 6).trans rfl
    have hfz17_0 := blk_frozen BK299.out 0
    have hfz17_1 := blk_frozen BK299.out 1
    have hfz17_2 := blk_frozen BK299.out 2
    have hfz17_3 := blk_frozen BK299.out 3
    have hfz17_4 := blk_frozen BK299.out 4
    have hfz17_5 := blk_frozen BK299.out 5
    have hfz17_6 := blk_frozen BK299.out 6
    go_wp2
    go_meet
    case rel => exact ⟨_, (false), ((⟨#[]⟩ : ByteArray)), ((⟨#[]⟩ : ByteArray)), (a0_3), (0), (0), (false), H', ⟨by first | omega | exact Nat.le_refl _⟩, ⟨by (with_reducible repeat (first | refine blk_drewN ?_ _ | refine blk_drew ?_ | refine blk_alloc ?_ _)); refine blk_far ?_ NB297_299.out _; (with_reducible repeat (first | refine blk_drewN ?_ _ | refine blk_drew ?_ | refine blk_alloc ?_ _)); refine blk_far ?_ NB297_299.out _; (with_reducible repeat (first | refine blk_drewN ?_ _ | refine blk_drew ?_ | refine blk_alloc ?_ _)); refine blk_far ?_ NB297_299.out _; (with_reducible repeat (first | refine blk_drewN ?_ _ | refine blk_drew ?_ | refine blk_alloc ?_ _)); refine blk_far ?_ NB297_299.out _; (with_reducible repeat (first | refine blk_drewN ?_ _ | refine blk_drew ?_ | refine blk_alloc ?_ _)); refine blk_far ?_ NB297_299.out _; (with_reducible repeat (first | refine blk_drewN ?_ _ | refine blk_drew ?_ | refine blk_alloc ?_ _)); refine blk_far ?_ NB297_299.out _; (with_reducible repeat (first | refine blk_drewN ?_ _ | refine blk_drew ?_ | refine blk_alloc ?_ _)); refine blk_far ?_ NB297_299.out _; (with_reducible repeat (first | refine blk_drewN ?_ _ | refine blk_drew ?_ | refine blk_alloc ?_ _)); refine blk_far ?_ NB297_299.out _; (with_reducible repeat (first | refine blk_drewN ?_ _ | refine blk_drew ?_ | refine blk_alloc ?_ _)); refine blk_far ?_ NB297_299.out _; (with_reducible repeat (first | refine blk_drewN ?_ _ | refine blk_drew ?_ | refine blk_alloc ?_ _)); refine blk_far ?_ NB297_299.out _; (with_reducible repeat (first | refine blk_drewN ?_ _ | refine blk_drew ?_ | refine blk_alloc ?_ _)); refine blk_far ?_ NB297_299.out _; (with_reducible repeat (first | refine blk_drewN ?_ _ | refine blk_drew ?_ | refine blk_alloc ?_ _)); refine blk_far ?_ NB297_299.out _; (with_reducible repeat (first | refine blk_drewN ?_ _ | refine blk_drew ?_ | refine blk_alloc ?_ _)); refine blk_far ?_ NB297_299.out _; (with_reducible repeat (first | refine blk_drewN ?_ _ | refine blk_drew ?_ | refine blk_alloc ?_ _)); refine blk_far ?_ NB297_299.out _; (with_reducible repeat (first | refine blk_drewN ?_ _ | refine blk_drew ?_ | refine blk_alloc ?_ _)); exact BK297.out⟩, ⟨by (with_reducible repeat (first | refine blk_drewN ?_ _ | refine blk_drew ?_ | refine blk_alloc ?_ _)); refine blk_put (cs := #[.bool false, .string (⟨#[]⟩ : ByteArray), .string (⟨#[]⟩ : ByteArray), .string a0_3, .int .u32 0, .int .u64 0, .bool a0_6]) ?_ 6 _ rfl; (with_reducible repeat (first | refine blk_drewN ?_ _ | refine blk_drew ?_ | refine blk_alloc ?_ _)); refine blk_put (cs := #[.bool false, .string (⟨#[]⟩ : ByteArray), .string (⟨#[]⟩ : ByteArray), .string a0_3, .int .u32 0, .int .u64 a0_5, .bool a0_6]) ?_ 5 _ rfl; (with_reducible repeat (first | refine blk_drewN ?_ _ | refine blk_drew ?_ | refine blk_alloc ?_ _)); refine blk_put (cs := #[.bool false, .string (⟨#[]⟩ : ByteArray), .string (⟨#[]⟩ : ByteArray), .string a0_3, .int .u32 a0_4, .int .u64 a0_5, .bool a0_6]) ?_ 4 _ rfl; (with_reducible repeat (first | refine blk_drewN ?_ _ | refine blk_drew ?_ | refine blk_alloc ?_ _)); refine blk_put (cs := #[.bool false, .string (⟨#[]⟩ : ByteArray), .string (⟨#[]⟩ : ByteArray), .string a0_3, .int .u32 a0_4, .int .u64 a0_5, .bool a0_6]) ?_ 3 _ rfl; (with_reducible repeat (first | refine blk_drewN ?_ _ | refine blk_drew ?_ | refine blk_alloc ?_ _)); refine blk_put (cs := #[.bool false, .string (⟨#[]⟩ : ByteArray), .string a0_2, .string a0_3, .int .u32 a0_4, .int .u64 a0_5, .bool a0_6]) ?_ 2 _ rfl; (with_reducible repeat (first | refine blk_drewN ?_ _ | refine blk_drew ?_ | refine blk_alloc ?_ _)); refine blk_put (cs := #[.bool false, .string a0_1, .string a0_2, .string a0_3, .int .u32 a0_4, .int .u64 a0_5, .bool a0_6]) ?_ 1 _ rfl; (with_reducible repeat (first | refine blk_drewN ?_ _ | refine blk_drew ?_ | refine blk_alloc ?_ _)); refine blk_put (cs := #[.bool false, .string a0_1, .string a0_2, .string a0_3, .int .u32 a0_4, .int .u64 a0_5, .bool a0_6]) ?_ 0 _ rfl; (with_reducible repeat (first | refine blk_drewN ?_ _ | refine blk_drew ?_ | refine blk_alloc ?_ _)); refine blk_put (cs := #[.bool false, .string a0_1, .string a0_2, .string a0_3, .int .u32 a0_4, .int .u64 a0_5, .bool false]) ?_ 6 _ rfl; (with_reducible repeat (first | refine blk_drewN ?_ _ | refine blk_drew ?_ | refine blk_alloc ?_ _)); refine blk_put (cs := #[.bool false, .string a0_1, .string a0_2, .string a0_3, .int .u32 a0_4, .int .u64 0, .bool false]) ?_ 5 _ rfl; (with_reducible repeat (first | refine blk_drewN ?_ _ | refine blk_drew ?_ | refine blk_alloc ?_ _)); refine blk_put (cs := #[.bool false, .string a0_1, .string a0_2, .string a0_3, .int .u32 0, .int .u64 0, .bool false]) ?_ 4 _ rfl; (with_reducible repeat (first | refine blk_drewN ?_ _ | refine blk_drew ?_ | refine blk_alloc ?_ _)); refine blk_put (cs := #[.bool false, .string a0_1, .string a0_2, .string (⟨#[]⟩ : ByteArray), .int .u32 0, .int .u64 0, .bool false]) ?_ 3 _ rfl; (with_reducible repeat (first | refine blk_drewN ?_ _ | refine blk_drew ?_ | refine blk_alloc ?_ _)); refine blk_put (cs := #[.bool false, .string a0_1, .string (⟨#[]⟩ : ByteArray), .string (⟨#[]⟩ : ByteArray), .int .u32 0, .int .u64 0, .bool false]) ?_ 2 _ rfl; (with_reducible repeat (first | refine blk_drewN ?_ _ | refine blk_drew ?_ | refine blk_alloc ?_ _)); refine blk_put (cs := #[.bool false, .string (⟨#[]⟩ : ByteArray), .string (⟨#[]⟩ : ByteArray), .string (⟨#[]⟩ : ByteArray), .int .u32 0, .int .u64 0, .bool false]) ?_ 1 _ rfl; (with_reducible repeat (first | refine blk_drewN ?_ _ | refine blk_drew ?_ | refine blk_alloc ?_ _)); refine blk_put (cs := #[.bool false, .string (⟨#[]⟩ : ByteArray), .string (⟨#[]⟩ : ByteArray), .string (⟨#[]⟩ : ByteArray), .int .u32 0, .int .u64 0, .bool false]) ?_ 0 _ rfl; (with_reducible repeat (first | refine blk_drewN ?_ _ | refine blk_drew ?_ | refine blk_alloc ?_ _)); exact BK299.out⟩, ⟨by repeat (first | (with_reducible first | exact HB.out | apply below_alloc | apply pw_below_drewN | apply below_drew1 | refine below_set ?_ GE297.out | refine below_set ?_ GE299.out) | exact HB.out)⟩⟩
  case rest =>
   clear HC4
   try clear c1
   try clear p2
   try clear c3
   try clear c6
   try clear c7
   try clear c9
   try clear c12
   try clear c13
   try clear c15
   try clear hcz10_0
   try clear hcz10_1
   try clear hcz10_2
   try clear hcz10_3
   try clear hcz10_4
   try clear hcz10_5
   try clear hcz10_6
   try clear hcz11_0
   try clear hcz11_1
   try clear hcz11_2
   try clear hcz11_3
   try clear hcz11_4
   try clear hcz11_5
   try clear hcz11_6
   try clear hcz14_0
   try clear hcz14_1
   try clear hcz14_2
   try clear hcz14_3
   try clear hcz14_4
   try clear hcz14_5
   try clear hcz14_6
   try clear hcz16_0
   try clear hcz16_1
   try clear hcz16_2
   try clear hcz16_3
   try clear hcz16_4
   try clear hcz16_5
   try clear hcz16_6
   try clear hcz17_0
   try clear hcz17_1
   try clear hcz17_2
   try clear hcz17_3
   try clear hcz17_4
   try clear hcz17_5
   try clear hcz17_6
   try clear hcz7_0
   try clear hcz7_1
   try clear hcz7_2
   try clear hcz7_3
   try clear hcz7_4
   try clear hcz7_5
   try clear hcz7_6
   try clear hfz10_0
   try clear hfz10_1
   try clear hfz10_2
   try clear hfz10_3
   try clear hfz10_4
   try clear hfz10_5
   try clear hfz10_6
   try clear hfz11_0
   try clear hfz11_1
   try clear hfz11_2
   try clear hfz11_3
   try clear hfz11_4
   try clear hfz11_5
   try clear hfz11_6
   try clear hfz14_0
   try clear hfz14_1
   try clear hfz14_2
   try clear hfz14_3
   try clear hfz14_4
   try clear hfz14_5
   try clear hfz14_6
   try clear hfz16_0
   try clear hfz16_1
   try clear hfz16_2
   try clear hfz16_3
   try clear hfz16_4
   try clear hfz16_5
   try clear hfz16_6
   try clear hfz17_0
   try clear hfz17_1
   try clear hfz17_2
   try clear hfz17_3
   try clear hfz17_4
   try clear hfz17_5
   try clear hfz17_6
   try clear hfz7_0
   try clear hfz7_1
   try clear hfz7_2
   try clear hfz7_3
   try clear hfz7_4
   try clear hfz7_5
   try clear hfz7_6
   obtain ⟨kq, q30, q31, q32, q33, q34, q35, q36, HA, HJ3, BK297, BK299, HB⟩ := hcut
   cases kq with
   | zero => exact absurd HA.out (by simp [cellaretlaw19_ReplyOthers.j0])
   | succ kj3 =>
    have H := HA.out
    clear HA
    simp only [cellaretlaw19_ReplyOthers.j0] at H
    replace H := Option.bind_eq_some_iff.mp H
    obtain ⟨t300, A180, H⟩ := H
    replace H : ((reply_Bytes.f q30 q31 q32 q33 q34 q35 q36).bind fun t303 => (if (strOfNums t300).toList = (strOfNums t303).toList then ((reply_All.f kj3 (([(⟨a0_0, a0_1, a0_2, a0_3, a0_4, a0_5, a0_6⟩ : S34), (⟨q30, q31, q32, q33, q34, q35, q36⟩ : S34)] : List (S34)))).bind fun t309 => ((reply_Bytes.f a0_0 a0_1 a0_2 a0_3 a0_4 a0_5 a0_6).bind fun t312 => ((reply_Bytes.f q30 q31 q32 q33 q34 q35 q36).bind fun t315 => (if (strOfNums t312).size + (strOfNums t315).size ≤ 9223372036854775807 then (some ((strOfNums t309).toList == ((strOfNums t312) ++ (strOfNums t315)).toList)) else (none))))) else (some false))) = some r := H
    have A18 := Aside0.mk A180
    clear A180
    replace H := Option.bind_eq_some_iff.mp H
    obtain ⟨t303, A190, H⟩ := H
    replace H : (if (strOfNums t300).toList = (strOfNums t303).toList then ((reply_All.f kj3 (([(⟨a0_0, a0_1, a0_2, a0_3, a0_4, a0_5, a0_6⟩ : S34), (⟨q30, q31, q32, q33, q34, q35, q36⟩ : S34)] : List (S34)))).bind fun t309 => ((reply_Bytes.f a0_0 a0_1 a0_2 a0_3 a0_4 a0_5 a0_6).bind fun t312 => ((reply_Bytes.f q30 q31 q32 q33 q34 q35 q36).bind fun t315 => (if (strOfNums t312).size + (strOfNums t315).size ≤ 9223372036854775807 then (some ((strOfNums t309).toList == ((strOfNums t312) ++ (strOfNums t315)).toList)) else (none))))) else (some false)) = some r := H
    have A19 := Aside0.mk A190
    clear A190
    by_cases c20 : (strOfNums t300).toList = (strOfNums t303).toList
    ·rw [if_pos c20] at H
     have c20b0 : ((strOfNums t300).toList == (strOfNums t303).toList) = true := beq_iff_eq.mpr c20
     have c20b1 : ((strOfNums t300).toList != (strOfNums t303).toList) = false := bne_eq_false_iff_eq.mpr c20
     clear c20
     obtain ⟨y306, hy306⟩ : ∃ y_ : List (S34), y_ = (([(⟨a0_0, a0_1, a0_2, a0_3, a0_4, a0_5, a0_6⟩ : S34), (⟨q30, q31, q32, q33, q34, q35, q36⟩ : S34)] : List (S34))) := ⟨_, rfl⟩
     replace H : ((reply_All.f kj3 y306).bind fun t309 => ((reply_Bytes.f a0_0 a0_1 a0_2 a0_3 a0_4 a0_5 a0_6).bind fun t312 => ((reply_Bytes.f q30 q31 q32 q33 q34 q35 q36).bind fun t315 => (if (strOfNums t312).size + (strOfNums t315).size ≤ 9223372036854775807 then (some ((strOfNums t309).toList == ((strOfNums t312) ++ (strOfNums t315)).toList)) else (none))))) = some r := by first | (rw [hy306]; with_reducible exact H) | (have H2_ := (Option.bind_some _ _).symm.trans H; rw [hy306]; with_reducible exact H2_) | (have H2_ := (Option.bind_some _ _).symm.trans H; with_reducible exact H2_) | with_reducible exact H | (rw [hy306]; exact H) | exact H
     have Ny306 := Aside0.mk hy306
     clear hy306
     replace H := Option.bind_eq_some_iff.mp H
     obtain ⟨t309, A210, H⟩ := H
     replace H : ((reply_Bytes.f a0_0 a0_1 a0_2 a0_3 a0_4 a0_5 a0_6).bind fun t312 => ((reply_Bytes.f q30 q31 q32 q33 q34 q35 q36).bind fun t315 => (if (strOfNums t312).size + (strOfNums t315).size ≤ 9223372036854775807 then (some ((strOfNums t309).toList == ((strOfNums t312) ++ (strOfNums t315)).toList)) else (none)))) = some r := H
     have A21 := Aside0.mk A210
     clear A210
     replace H := Option.bind_eq_some_iff.mp H
     obtain ⟨t312, A220, H⟩ := H
     replace H : ((reply_Bytes.f q30 q31 q32 q33 q34 q35 q36).bind fun t315 => (if (strOfNums t312).size + (strOfNums t315).size ≤ 9223372036854775807 then (some ((strOfNums t309).toList == ((strOfNums t312) ++ (strOfNums t315)).toList)) else (none))) = some r := H
     have A22 := Aside0.mk A220
     clear A220
     replace H := Option.bind_eq_some_iff.mp H
     obtain ⟨t315, A230, H⟩ := H
     replace H : (if (strOfNums t312).size + (strOfNums t315).size ≤ 9223372036854775807 then (some ((strOfNums t309).toList == ((strOfNums t312) ++ (strOfNums t315)).toList)) else (none)) = some r := H
     have A23 := Aside0.mk A230
     clear A230
     by_cases c24 : (strOfNums t312).size + (strOfNums t315).size ≤ 9223372036854775807
     ·rw [if_pos c24] at H
      have c24b0 := eq_true c24
      have c24b1 : decide ((strOfNums t312).size + (strOfNums t315).size ≤ 9223372036854775807) = true := decide_eq_true c24
      try have c24b2 : (9223372036854775807 < (strOfNums t312).size + (strOfNums t315).size) = False := eq_false (Nat.not_lt.2 c24)
      obtain rfl := Option.some.inj H
      try go_wp2
      have n0_ := Aside0.mk (blk_drew BK297.out)
      have n1_ := Aside0.mk (blk_drew BK299.out)
      have n2_ := Aside0.mk (below_drew1 HB.out)
      clear BK297
      clear BK299
      clear HB
      have BK297 := n0_
      have BK299 := n1_
      have HB := n2_
      clear n0_ n1_ n2_
      refine start_ (n := 23) (S := fun w' => w'.cell? ⟨gb297, 0, none⟩ = some (.bool a0_0) ∧ w'.cell? ⟨gb297, 1, none⟩ = some (.string a0_1) ∧ w'.cell? ⟨gb297, 2, none⟩ = some (.string a0_2) ∧ w'.cell? ⟨gb297, 3, none⟩ = some (.string a0_3) ∧ w'.cell? ⟨gb297, 4, none⟩ = some (.int .u32 a0_4) ∧ w'.cell? ⟨gb297, 5, none⟩ = some (.int .u64 a0_5) ∧ w'.cell? ⟨gb297, 6, none⟩ = some (.bool a0_6) ∧ w'.cell? ⟨gb299, 0, none⟩ = some (.bool q30) ∧ w'.cell? ⟨gb299, 1, none⟩ = some (.string q31) ∧ w'.cell? ⟨gb299, 2, none⟩ = some (.string q32) ∧ w'.cell? ⟨gb299, 3, none⟩ = some (.string q33) ∧ w'.cell? ⟨gb299, 4, none⟩ = some (.int .u32 q34) ∧ w'.cell? ⟨gb299, 5, none⟩ = some (.int .u64 q35) ∧ w'.cell? ⟨gb299, 6, none⟩ = some (.bool q36)) (ds := []) #[false, false, false, false, false, false, false, false, false, false, false, false, false, false, false, false, false, false, false, false, false, false, false] (by kernel_rfl) rfl rfl ⟨(blk_cell BK297.out 0).trans rfl, (blk_cell BK297.out 1).trans rfl, (blk_cell BK297.out 2).trans rfl, (blk_cell BK297.out 3).trans rfl, (blk_cell BK297.out 4).trans rfl, (blk_cell BK297.out 5).trans rfl, (blk_cell BK297.out 6).trans rfl, (blk_cell BK299.out 0).trans rfl, (blk_cell BK299.out 1).trans rfl, (blk_cell BK299.out 2).trans rfl, (blk_cell BK299.out 3).trans rfl, (blk_cell BK299.out 4).trans rfl, (blk_cell BK299.out 5).trans rfl, (blk_cell BK299.out 6).trans rfl⟩ (fun hHeld => ?_); refine with_tabW cellaretlaw19_ReplyOthers.tab7 cellaretlaw19_ReplyOthers.bits7 (fun HT_ HW_ => ?_)
      generalize wc.drew = w25 at BK297 BK299 HB hHeld ⊢
      refine take_ (i := 0) (N := some 13) (v := ?_) (a' := ?_) #[true, false, false, false, false, false, false, false, false, false, false, false, false, false, false, false, false, false, false, false, false, false, false] rfl rfl (take_ofW HT_.out HW_.out (by kernel_rfl)) (fun _ _ _ h => h) (Or.inl ⟨by rfl, ?_⟩) hHeld ?_ ?_
      rotate_left
      ·rintro w' ⟨s0, s1, s2, s3, s4, s5, s6, s7, s8, s9, s10, s11, s12, s13⟩
       go_simp
       with_reducible rfl
      rotate_left
      ·simp only [Act.put, List.setIfInBounds_toArray, List.set_cons_zero, List.set_cons_succ, i64_w, i32_w]
       rfl
      refine take_ (i := 3) (N := some 16) (v := ?_) (a' := ?_) #[true, false, false, true, false, false, false, false, false, false, false, false, false, false, false, false, false, false, false, false, false, false, false] rfl rfl (take_ofW HT_.out HW_.out (by kernel_rfl)) (fun _ _ _ h => h) (Or.inl ⟨by rfl, ?_⟩) hHeld ?_ ?_
      rotate_left
      ·rintro w' ⟨s0, s1, s2, s3, s4, s5, s6, s7, s8, s9, s10, s11, s12, s13⟩
       go_simp
       with_reducible rfl
      rotate_left
      ·simp only [Act.put, List.setIfInBounds_toArray, List.set_cons_zero, List.set_cons_succ, i64_w, i32_w]
       rfl
      refine one_ (i := 1) (N := some 14) #[true, true, false, true, false, false, false, false, false, false, false, false, false, false, false, false, false, false, false, false, false, false, false] rfl rfl (one_of HT_.out (by kernel_rfl)) (by decide) (fun K hK => ?_)
      refine goes_ Tryd.func10 (by kernel_rfl) rfl #[.agg #[.bool a0_0, .string a0_1, .string a0_2, .string a0_3, .int .u32 a0_4, .int .u64 a0_5, .bool a0_6]] (by rfl) rfl rfl (by (try simp only [List.map_toArray, List.map_cons, List.map_nil]); first | done | rfl | (simp only [List.length_drop, List.length_take]; rfl)) ?_
      with_reducible refine (reply_Bytes.calls a0_0 a0_1 a0_2 a0_3 a0_4 a0_5 a0_6 t300 _ ?side1 A18.out).mono ?_
      (case side1 => exact HLD.below (by repeat (first | (with_reducible first | exact HB.out | apply below_alloc | apply pw_below_drewN | apply below_drew1 | refine below_set ?_ GE297.out | refine below_set ?_ GE299.out) | exact HB.out)))
      rintro e w26 ⟨v301, rfl, ho0, hb⟩
      refine ⟨_, rfl, ?_⟩
      have n0_ := Aside0.mk (Kd.V_lower (Kd.V_mono (ok' := fun k_ => k_ ≠ gb297 ∧ k_ ≠ gb299) ho0 (fun k_ hk_ => ⟨(Kd.freshB (g := gb297) (o := .cells #[.bool a0_0, .string a0_1, .string a0_2, .string a0_3, .int .u32 a0_4, .int .u64 a0_5, .bool a0_6] 34 (0, 0)) (by (with_reducible repeat (first | refine blk_drewN ?_ _ | refine blk_drew ?_ | refine blk_alloc ?_ _)); exact BK297.out) k_ hk_), (Kd.freshB (g := gb299) (o := .cells #[.bool q30, .string q31, .string q32, .string q33, .int .u32 q34, .int .u64 q35, .bool q36] 34 (0, 0)) (by (with_reducible repeat (first | refine blk_drewN ?_ _ | refine blk_drew ?_ | refine blk_alloc ?_ _)); exact BK299.out) k_ hk_)⟩)) (below_size (by repeat (first | (with_reducible first | exact HB.out | apply below_alloc | apply pw_below_drewN | apply below_drew1 | refine below_set ?_ GE297.out | refine below_set ?_ GE299.out) | exact HB.out))))
      have n1_ := Aside0.mk (blk_below (g := gb297) (o := .cells #[.bool a0_0, .string a0_1, .string a0_2, .string a0_3, .int .u32 a0_4, .int .u64 a0_5, .bool a0_6] 34 (0, 0)) (by (with_reducible repeat (first | refine blk_drewN ?_ _ | refine blk_drew ?_ | refine blk_alloc ?_ _)); exact BK297.out) hb)
      have n2_ := Aside0.mk (blk_below (g := gb299) (o := .cells #[.bool q30, .string q31, .string q32, .string q33, .int .u32 q34, .int .u64 q35, .bool q36] 34 (0, 0)) (by (with_reducible repeat (first | refine blk_drewN ?_ _ | refine blk_drew ?_ | refine blk_alloc ?_ _)); exact BK299.out) hb)
      have n3_ := Aside0.mk (below_step (by repeat (first | (with_reducible first | exact HB.out | apply below_alloc | apply pw_below_drewN | apply below_drew1 | refine below_set ?_ GE297.out | refine below_set ?_ GE299.out) | exact HB.out)) hb)
      clear BK297
      clear BK299
      clear HB
      have HO302 := n0_
      have BK297 := n1_
      have BK299 := n2_
      have HB := n3_
      clear n0_ n1_ n2_ n3_
      (try clear hb)
      (try clear hb2)
      (try clear hk)
      (try clear hi)
      (try clear ho0)
      refine hK.out _ _ ⟨(blk_cell BK297.out 0).trans rfl, (blk_cell BK297.out 1).trans rfl, (blk_cell BK297.out 2).trans rfl, (blk_cell BK297.out 3).trans rfl, (blk_cell BK297.out 4).trans rfl, (blk_cell BK297.out 5).trans rfl, (blk_cell BK297.out 6).trans rfl, (blk_cell BK299.out 0).trans rfl, (blk_cell BK299.out 1).trans rfl, (blk_cell BK299.out 2).trans rfl, (blk_cell BK299.out 3).trans rfl, (blk_cell BK299.out 4).trans rfl, (blk_cell BK299.out 5).trans rfl, (blk_cell BK299.out 6).trans rfl⟩ (fun hHeld => ?_)
      clear hK K
      refine norm_ (a' := ?_) ?_ ?_
      rotate_left
      ·show Act.put _ (some 14) _ = _
       simp only [Act.put, List.setIfInBounds_toArray, List.set_cons_zero, List.set_cons_succ, i64_w, i32_w]
       rfl
      refine join_ (σ := Value × Value × Value × Value × Value) 3 #[true, true, true, true, true, true, true, true, true, true, true, true, true, true, true, true, true, true, true, true, false, false, false] (fun s_ => [(15, .string (strOfNums t300)), (17, s_.1), (18, .string (strOfNums t303)), (23, s_.2.1), (24, s_.2.2.1), (25, .string (strOfNums t309)), (27, s_.2.2.2.1), (28, .string (strOfNums t312)), (30, s_.2.2.2.2), (31, .string (strOfNums t315)), (19, .bool true), (20, .bool true), (21, .agg #[.bool a0_0, .string a0_1, .string a0_2, .string a0_3, .int .u32 a0_4, .int .u64 a0_5, .bool a0_6]), (22, .agg #[.bool q30, .string q31, .string q32, .string q33, .int .u32 q34, .int .u64 q35, .bool q36]), (26, .agg #[.bool a0_0, .string a0_1, .string a0_2, .string a0_3, .int .u32 a0_4, .int .u64 a0_5, .bool a0_6]), (29, .agg #[.bool q30, .string q31, .string q32, .string q33, .int .u32 q34, .int .u64 q35, .bool q36]), (32, .string ((strOfNums t312) ++ (strOfNums t315)))]) (fun s_ w' => (w'.cell? ⟨gb297, 0, none⟩ = some (.bool a0_0) ∧ w'.cell? ⟨gb297, 1, none⟩ = some (.string a0_1) ∧ w'.cell? ⟨gb297, 2, none⟩ = some (.string a0_2) ∧ w'.cell? ⟨gb297, 3, none⟩ = some (.string a0_3) ∧ w'.cell? ⟨gb297, 4, none⟩ = some (.int .u32 a0_4) ∧ w'.cell? ⟨gb297, 5, none⟩ = some (.int .u64 a0_5) ∧ w'.cell? ⟨gb297, 6, none⟩ = some (.bool a0_6) ∧ w'.cell? ⟨gb299, 0, none⟩ = some (.bool q30) ∧ w'.cell? ⟨gb299, 1, none⟩ = some (.string q31) ∧ w'.cell? ⟨gb299, 2, none⟩ = some (.string q32) ∧ w'.cell? ⟨gb299, 3, none⟩ = some (.string q33) ∧ w'.cell? ⟨gb299, 4, none⟩ = some (.int .u32 q34) ∧ w'.cell? ⟨gb299, 5, none⟩ = some (.int .u64 q35) ∧ w'.cell? ⟨gb299, 6, none⟩ = some (.bool q36)) ∧ (Kd.V (Kd.int .u8) 5 w' w.heap.size (fun k_ => some k_ ≠ (s_.2.1 : Value).ownBlock ∧ some k_ ≠ (s_.2.2.1 : Value).ownBlock ∧ k_ ≠ gb297 ∧ k_ ≠ gb299) v301 t300) ∧ (Kd.V (Kd.int .u8) 5 w' w.heap.size (fun k_ => some k_ ≠ (s_.2.1 : Value).ownBlock ∧ some k_ ≠ (s_.2.2.1 : Value).ownBlock ∧ k_ ≠ gb297 ∧ k_ ≠ gb299) s_.1 t303) ∧ (Kd.R k34 34 w' w.heap.size (fun k_ => k_ ≠ gb297 ∧ k_ ≠ gb299) s_.2.1 y306) ∧ (Kd.R (Kd.int .u8) 5 w' w.heap.size (fun _ => True) s_.2.2.1 t309) ∧ (Kd.V (Kd.int .u8) 5 w' w.heap.size (fun k_ => some k_ ≠ (s_.2.1 : Value).ownBlock ∧ some k_ ≠ (s_.2.2.1 : Value).ownBlock ∧ k_ ≠ gb297 ∧ k_ ≠ gb299) s_.2.2.2.1 t312) ∧ (Kd.V (Kd.int .u8) 5 w' w.heap.size (fun k_ => some k_ ≠ (s_.2.1 : Value).ownBlock ∧ some k_ ≠ (s_.2.2.1 : Value).ownBlock ∧ k_ ≠ gb297 ∧ k_ ≠ gb299) s_.2.2.2.2 t315) ∧ (w'.heap[gb297]? = some (.cells #[.bool a0_0, .string a0_1, .string a0_2, .string a0_3, .int .u32 a0_4, .int .u64 a0_5, .bool a0_6] 34 (0, 0))) ∧ (w'.heap[gb299]? = some (.cells #[.bool q30, .string q31, .string q32, .string q33, .int .u32 q34, .int .u64 q35, .bool q36] 34 (0, 0))) ∧ (Below w.heap.size w w')) ?_ ?_
      rotate_left
      ·intro hJ2_4_5_10_11_12_14_15_17_18
       refine join_ (σ := Value × Value × Value × Value × Value) 5 #[true, true, true, true, true, true, true, true, true, true, true, true, true, true, true, true, true, true, false, false, false, false, false] (fun s_ => [(15, .string (strOfNums t300)), (17, s_.1), (18, .string (strOfNums t303)), (23, s_.2.1), (24, s_.2.2.1), (25, .string (strOfNums t309)), (27, s_.2.2.2.1), (28, .string (strOfNums t312)), (30, s_.2.2.2.2), (19, .bool true), (20, .bool true), (21, .agg #[.bool a0_0, .string a0_1, .string a0_2, .string a0_3, .int .u32 a0_4, .int .u64 a0_5, .bool a0_6]), (22, .agg #[.bool q30, .string q31, .string q32, .string q33, .int .u32 q34, .int .u64 q35, .bool q36]), (26, .agg #[.bool a0_0, .string a0_1, .string a0_2, .string a0_3, .int .u32 a0_4, .int .u64 a0_5, .bool a0_6]), (29, .agg #[.bool q30, .string q31, .string q32, .string q33, .int .u32 q34, .int .u64 q35, .bool q36])]) (fun s_ w' => (w'.cell? ⟨gb297, 0, none⟩ = some (.bool a0_0) ∧ w'.cell? ⟨gb297, 1, none⟩ = some (.string a0_1) ∧ w'.cell? ⟨gb297, 2, none⟩ = some (.string a0_2) ∧ w'.cell? ⟨gb297, 3, none⟩ = some (.string a0_3) ∧ w'.cell? ⟨gb297, 4, none⟩ = some (.int .u32 a0_4) ∧ w'.cell? ⟨gb297, 5, none⟩ = some (.int .u64 a0_5) ∧ w'.cell? ⟨gb297, 6, none⟩ = some (.bool a0_6) ∧ w'.cell? ⟨gb299, 0, none⟩ = some (.bool q30) ∧ w'.cell? ⟨gb299, 1, none⟩ = some (.string q31) ∧ w'.cell? ⟨gb299, 2, none⟩ = some (.string q32) ∧ w'.cell? ⟨gb299, 3, none⟩ = some (.string q33) ∧ w'.cell? ⟨gb299, 4, none⟩ = some (.int .u32 q34) ∧ w'.cell? ⟨gb299, 5, none⟩ = some (.int .u64 q35) ∧ w'.cell? ⟨gb299, 6, none⟩ = some (.bool q36)) ∧ (Kd.V (Kd.int .u8) 5 w' w.heap.size (fun k_ => some k_ ≠ (s_.2.1 : Value).ownBlock ∧ some k_ ≠ (s_.2.2.1 : Value).ownBlock ∧ k_ ≠ gb297 ∧ k_ ≠ gb299) v301 t300) ∧ (Kd.V (Kd.int .u8) 5 w' w.heap.size (fun k_ => some k_ ≠ (s_.2.1 : Value).ownBlock ∧ some k_ ≠ (s_.2.2.1 : Value).ownBlock ∧ k_ ≠ gb297 ∧ k_ ≠ gb299) s_.1 t303) ∧ (Kd.R k34 34 w' w.heap.size (fun k_ => k_ ≠ gb297 ∧ k_ ≠ gb299) s_.2.1 y306) ∧ (Kd.R (Kd.int .u8) 5 w' w.heap.size (fun _ => True) s_.2.2.1 t309) ∧ (Kd.V (Kd.int .u8) 5 w' w.heap.size (fun k_ => some k_ ≠ (s_.2.1 : Value).ownBlock ∧ some k_ ≠ (s_.2.2.1 : Value).ownBlock ∧ k_ ≠ gb297 ∧ k_ ≠ gb299) s_.2.2.2.1 t312) ∧ (Kd.V (Kd.int .u8) 5 w' w.heap.size (fun k_ => some k_ ≠ (s_.2.1 : Value).ownBlock ∧ some k_ ≠ (s_.2.2.1 : Value).ownBlock ∧ k_ ≠ gb297 ∧ k_ ≠ gb299) s_.2.2.2.2 t315) ∧ (w'.heap[gb297]? = some (.cells #[.bool a0_0, .string a0_1, .string a0_2, .string a0_3, .int .u32 a0_4, .int .u64 a0_5, .bool a0_6] 34 (0, 0))) ∧ (w'.heap[gb299]? = some (.cells #[.bool q30, .string q31, .string q32, .string q33, .int .u32 q34, .int .u64 q35, .bool q36] 34 (0, 0))) ∧ (Below w.heap.size w w')) ?_ ?_
       rotate_left
       ·intro hJ2_4_5_10_11_12_14_15_17
        refine join_ (σ := Value × Value × Value × Value × Value) 5 #[true, true, true, true, true, true, true, true, true, true, true, true, true, true, true, false, true, true, true, false, false, false, false] (fun s_ => [(15, .string (strOfNums t300)), (17, s_.1), (18, .string (strOfNums t303)), (23, s_.2.1), (24, s_.2.2.1), (25, .string (strOfNums t309)), (27, s_.2.2.2.1), (30, s_.2.2.2.2), (31, .string (strOfNums t315)), (19, .bool true), (20, .bool true), (21, .agg #[.bool a0_0, .string a0_1, .string a0_2, .string a0_3, .int .u32 a0_4, .int .u64 a0_5, .bool a0_6]), (22, .agg #[.bool q30, .string q31, .string q32, .string q33, .int .u32 q34, .int .u64 q35, .bool q36]), (26, .agg #[.bool a0_0, .string a0_1, .string a0_2, .string a0_3, .int .u32 a0_4, .int .u64 a0_5, .bool a0_6]), (29, .agg #[.bool q30, .string q31, .string q32, .string q33, .int .u32 q34, .int .u64 q35, .bool q36])]) (fun s_ w' => (w'.cell? ⟨gb297, 0, none⟩ = some (.bool a0_0) ∧ w'.cell? ⟨gb297, 1, none⟩ = some (.string a0_1) ∧ w'.cell? ⟨gb297, 2, none⟩ = some (.string a0_2) ∧ w'.cell? ⟨gb297, 3, none⟩ = some (.string a0_3) ∧ w'.cell? ⟨gb297, 4, none⟩ = some (.int .u32 a0_4) ∧ w'.cell? ⟨gb297, 5, none⟩ = some (.int .u64 a0_5) ∧ w'.cell? ⟨gb297, 6, none⟩ = some (.bool a0_6) ∧ w'.cell? ⟨gb299, 0, none⟩ = some (.bool q30) ∧ w'.cell? ⟨gb299, 1, none⟩ = some (.string q31) ∧ w'.cell? ⟨gb299, 2, none⟩ = some (.string q32) ∧ w'.cell? ⟨gb299, 3, none⟩ = some (.string q33) ∧ w'.cell? ⟨gb299, 4, none⟩ = some (.int .u32 q34) ∧ w'.cell? ⟨gb299, 5, none⟩ = some (.int .u64 q35) ∧ w'.cell? ⟨gb299, 6, none⟩ = some (.bool q36)) ∧ (Kd.V (Kd.int .u8) 5 w' w.heap.size (fun k_ => some k_ ≠ (s_.2.1 : Value).ownBlock ∧ some k_ ≠ (s_.2.2.1 : Value).ownBlock ∧ k_ ≠ gb297 ∧ k_ ≠ gb299) v301 t300) ∧ (Kd.V (Kd.int .u8) 5 w' w.heap.size (fun k_ => some k_ ≠ (s_.2.1 : Value).ownBlock ∧ some k_ ≠ (s_.2.2.1 : Value).ownBlock ∧ k_ ≠ gb297 ∧ k_ ≠ gb299) s_.1 t303) ∧ (Kd.R k34 34 w' w.heap.size (fun k_ => k_ ≠ gb297 ∧ k_ ≠ gb299) s_.2.1 y306) ∧ (Kd.R (Kd.int .u8) 5 w' w.heap.size (fun _ => True) s_.2.2.1 t309) ∧ (Kd.V (Kd.int .u8) 5 w' w.heap.size (fun k_ => some k_ ≠ (s_.2.1 : Value).ownBlock ∧ some k_ ≠ (s_.2.2.1 : Value).ownBlock ∧ k_ ≠ gb297 ∧ k_ ≠ gb299) s_.2.2.2.1 t312) ∧ (Kd.V (Kd.int .u8) 5 w' w.heap.size (fun k_ => some k_ ≠ (s_.2.1 : Value).ownBlock ∧ some k_ ≠ (s_.2.2.1 : Value).ownBlock ∧ k_ ≠ gb297 ∧ k_ ≠ gb299) s_.2.2.2.2 t315) ∧ (w'.heap[gb297]? = some (.cells #[.bool a0_0, .string a0_1, .string a0_2, .string a0_3, .int .u32 a0_4, .int .u64 a0_5, .bool a0_6] 34 (0, 0))) ∧ (w'.heap[gb299]? = some (.cells #[.bool q30, .string q31, .string q32, .string q33, .int .u32 q34, .int .u64 q35, .bool q36] 34 (0, 0))) ∧ (Below w.heap.size w w')) ?_ ?_
        rotate_left
        ·intro hJ2_4_5_10_11_12_14_17_18
         refine join_ (σ := Value × Value × Value × Value × Value) 4 #[true, true, true, true, true, true, true, true, true, true, true, true, false, true, true, true, true, true, true, true, false, false, false] (fun s_ => [(15, .string (strOfNums t300)), (17, s_.1), (18, .string (strOfNums t303)), (23, s_.2.1), (24, s_.2.2.1), (27, s_.2.2.2.1), (28, .string (strOfNums t312)), (30, s_.2.2.2.2), (31, .string (strOfNums t315)), (19, .bool true), (20, .bool true), (21, .agg #[.bool a0_0, .string a0_1, .string a0_2, .string a0_3, .int .u32 a0_4, .int .u64 a0_5, .bool a0_6]), (22, .agg #[.bool q30, .string q31, .string q32, .string q33, .int .u32 q34, .int .u64 q35, .bool q36]), (26, .agg #[.bool a0_0, .string a0_1, .string a0_2, .string a0_3, .int .u32 a0_4, .int .u64 a0_5, .bool a0_6]), (29, .agg #[.bool q30, .string q31, .string q32, .string q33, .int .u32 q34, .int .u64 q35, .bool q36]), (32, .string ((strOfNums t312) ++ (strOfNums t315)))]) (fun s_ w' => (w'.cell? ⟨gb297, 0, none⟩ = some (.bool a0_0) ∧ w'.cell? ⟨gb297, 1, none⟩ = some (.string a0_1) ∧ w'.cell? ⟨gb297, 2, none⟩ = some (.string a0_2) ∧ w'.cell? ⟨gb297, 3, none⟩ = some (.string a0_3) ∧ w'.cell? ⟨gb297, 4, none⟩ = some (.int .u32 a0_4) ∧ w'.cell? ⟨gb297, 5, none⟩ = some (.int .u64 a0_5) ∧ w'.cell? ⟨gb297, 6, none⟩ = some (.bool a0_6) ∧ w'.cell? ⟨gb299, 0, none⟩ = some (.bool q30) ∧ w'.cell? ⟨gb299, 1, none⟩ = some (.string q31) ∧ w'.cell? ⟨gb299, 2, none⟩ = some (.string q32) ∧ w'.cell? ⟨gb299, 3, none⟩ = some (.string q33) ∧ w'.cell? ⟨gb299, 4, none⟩ = some (.int .u32 q34) ∧ w'.cell? ⟨gb299, 5, none⟩ = some (.int .u64 q35) ∧ w'.cell? ⟨gb299, 6, none⟩ = some (.bool q36)) ∧ (Kd.V (Kd.int .u8) 5 w' w.heap.size (fun k_ => some k_ ≠ (s_.2.1 : Value).ownBlock ∧ some k_ ≠ (s_.2.2.1 : Value).ownBlock ∧ k_ ≠ gb297 ∧ k_ ≠ gb299) v301 t300) ∧ (Kd.V (Kd.int .u8) 5 w' w.heap.size (fun k_ => some k_ ≠ (s_.2.1 : Value).ownBlock ∧ some k_ ≠ (s_.2.2.1 : Value).ownBlock ∧ k_ ≠ gb297 ∧ k_ ≠ gb299) s_.1 t303) ∧ (Kd.R k34 34 w' w.heap.size (fun k_ => k_ ≠ gb297 ∧ k_ ≠ gb299) s_.2.1 y306) ∧ (Kd.R (Kd.int .u8) 5 w' w.heap.size (fun _ => True) s_.2.2.1 t309) ∧ (Kd.V (Kd.int .u8) 5 w' w.heap.size (fun k_ => some k_ ≠ (s_.2.1 : Value).ownBlock ∧ some k_ ≠ (s_.2.2.1 : Value).ownBlock ∧ k_ ≠ gb297 ∧ k_ ≠ gb299) s_.2.2.2.1 t312) ∧ (Kd.V (Kd.int .u8) 5 w' w.heap.size (fun k_ => some k_ ≠ (s_.2.1 : Value).ownBlock ∧ some k_ ≠ (s_.2.2.1 : Value).ownBlock ∧ k_ ≠ gb297 ∧ k_ ≠ gb299) s_.2.2.2.2 t315) ∧ (w'.heap[gb297]? = some (.cells #[.bool a0_0, .string a0_1, .string a0_2, .string a0_3, .int .u32 a0_4, .int .u64 a0_5, .bool a0_6] 34 (0, 0))) ∧ (w'.heap[gb299]? = some (.cells #[.bool q30, .string q31, .string q32, .string q33, .int .u32 q34, .int .u64 q35, .bool q36] 34 (0, 0))) ∧ (Below w.heap.size w w')) ?_ ?_
         rotate_left
         ·intro hJ2_4_5_10_11_14_15_17_18
          refine join_ (σ := Value × Value × Value × Value) 6 #[true, true, true, true, true, true, true, true, true, true, true, true, true, true, true, true, true, false, false, false, false, false, false] (fun s_ => [(15, .string (strOfNums t300)), (17, s_.1), (18, .string (strOfNums t303)), (23, s_.2.1), (24, s_.2.2.1), (25, .string (strOfNums t309)), (27, s_.2.2.2), (28, .string (strOfNums t312)), (19, .bool true), (20, .bool true), (21, .agg #[.bool a0_0, .string a0_1, .string a0_2, .string a0_3, .int .u32 a0_4, .int .u64 a0_5, .bool a0_6]), (22, .agg #[.bool q30, .string q31, .string q32, .string q33, .int .u32 q34, .int .u64 q35, .bool q36]), (26, .agg #[.bool a0_0, .string a0_1, .string a0_2, .string a0_3, .int .u32 a0_4, .int .u64 a0_5, .bool a0_6]), (29, .agg #[.bool q30, .string q31, .string q32, .string q33, .int .u32 q34, .int .u64 q35, .bool q36])]) (fun s_ w' => (w'.cell? ⟨gb297, 0, none⟩ = some (.bool a0_0) ∧ w'.cell? ⟨gb297, 1, none⟩ = some (.string a0_1) ∧ w'.cell? ⟨gb297, 2, none⟩ = some (.string a0_2) ∧ w'.cell? ⟨gb297, 3, none⟩ = some (.string a0_3) ∧ w'.cell? ⟨gb297, 4, none⟩ = some (.int .u32 a0_4) ∧ w'.cell? ⟨gb297, 5, none⟩ = some (.int .u64 a0_5) ∧ w'.cell? ⟨gb297, 6, none⟩ = some (.bool a0_6) ∧ w'.cell? ⟨gb299, 0, none⟩ = some (.bool q30) ∧ w'.cell? ⟨gb299, 1, none⟩ = some (.string q31) ∧ w'.cell? ⟨gb299, 2, none⟩ = some (.string q32) ∧ w'.cell? ⟨gb299, 3, none⟩ = some (.string q33) ∧ w'.cell? ⟨gb299, 4, none⟩ = some (.int .u32 q34) ∧ w'.cell? ⟨gb299, 5, none⟩ = some (.int .u64 q35) ∧ w'.cell? ⟨gb299, 6, none⟩ = some (.bool q36)) ∧ (Kd.V (Kd.int .u8) 5 w' w.heap.size (fun k_ => some k_ ≠ (s_.2.1 : Value).ownBlock ∧ some k_ ≠ (s_.2.2.1 : Value).ownBlock ∧ k_ ≠ gb297 ∧ k_ ≠ gb299) v301 t300) ∧ (Kd.V (Kd.int .u8) 5 w' w.heap.size (fun k_ => some k_ ≠ (s_.2.1 : Value).ownBlock ∧ some k_ ≠ (s_.2.2.1 : Value).ownBlock ∧ k_ ≠ gb297 ∧ k_ ≠ gb299) s_.1 t303) ∧ (Kd.R k34 34 w' w.heap.size (fun k_ => k_ ≠ gb297 ∧ k_ ≠ gb299) s_.2.1 y306) ∧ (Kd.R (Kd.int .u8) 5 w' w.heap.size (fun _ => True) s_.2.2.1 t309) ∧ (Kd.V (Kd.int .u8) 5 w' w.heap.size (fun k_ => some k_ ≠ (s_.2.1 : Value).ownBlock ∧ some k_ ≠ (s_.2.2.1 : Value).ownBlock ∧ k_ ≠ gb297 ∧ k_ ≠ gb299) s_.2.2.2 t312) ∧ (w'.heap[gb297]? = some (.cells #[.bool a0_0, .string a0_1, .string a0_2, .string a0_3, .int .u32 a0_4, .int .u64 a0_5, .bool a0_6] 34 (0, 0))) ∧ (w'.heap[gb299]? = some (.cells #[.bool q30, .string q31, .string q32, .string q33, .int .u32 q34, .int .u64 q35, .bool q36] 34 (0, 0))) ∧ (Below w.heap.size w w')) ?_ ?_
          rotate_left
          ·intro hJ2_4_5_10_11_12_14_15
           refine join_ (σ := Value × Value × Value × Value × Value) 6 #[true, true, true, true, true, true, true, true, true, true, true, true, true, true, true, false, true, true, false, false, false, false, false] (fun s_ => [(15, .string (strOfNums t300)), (17, s_.1), (18, .string (strOfNums t303)), (23, s_.2.1), (24, s_.2.2.1), (25, .string (strOfNums t309)), (27, s_.2.2.2.1), (30, s_.2.2.2.2), (19, .bool true), (20, .bool true), (21, .agg #[.bool a0_0, .string a0_1, .string a0_2, .string a0_3, .int .u32 a0_4, .int .u64 a0_5, .bool a0_6]), (22, .agg #[.bool q30, .string q31, .string q32, .string q33, .int .u32 q34, .int .u64 q35, .bool q36]), (26, .agg #[.bool a0_0, .string a0_1, .string a0_2, .string a0_3, .int .u32 a0_4, .int .u64 a0_5, .bool a0_6]), (29, .agg #[.bool q30, .string q31, .string q32, .string q33, .int .u32 q34, .int .u64 q35, .bool q36])]) (fun s_ w' => (w'.cell? ⟨gb297, 0, none⟩ = some (.bool a0_0) ∧ w'.cell? ⟨gb297, 1, none⟩ = some (.string a0_1) ∧ w'.cell? ⟨gb297, 2, none⟩ = some (.string a0_2) ∧ w'.cell? ⟨gb297, 3, none⟩ = some (.string a0_3) ∧ w'.cell? ⟨gb297, 4, none⟩ = some (.int .u32 a0_4) ∧ w'.cell? ⟨gb297, 5, none⟩ = some (.int .u64 a0_5) ∧ w'.cell? ⟨gb297, 6, none⟩ = some (.bool a0_6) ∧ w'.cell? ⟨gb299, 0, none⟩ = some (.bool q30) ∧ w'.cell? ⟨gb299, 1, none⟩ = some (.string q31) ∧ w'.cell? ⟨gb299, 2, none⟩ = some (.string q32) ∧ w'.cell? ⟨gb299, 3, none⟩ = some (.string q33) ∧ w'.cell? ⟨gb299, 4, none⟩ = some (.int .u32 q34) ∧ w'.cell? ⟨gb299, 5, none⟩ = some (.int .u64 q35) ∧ w'.cell? ⟨gb299, 6, none⟩ = some (.bool q36)) ∧ (Kd.V (Kd.int .u8) 5 w' w.heap.size (fun k_ => some k_ ≠ (s_.2.1 : Value).ownBlock ∧ some k_ ≠ (s_.2.2.1 : Value).ownBlock ∧ k_ ≠ gb297 ∧ k_ ≠ gb299) v301 t300) ∧ (Kd.V (Kd.int .u8) 5 w' w.heap.size (fun k_ => some k_ ≠ (s_.2.1 : Value).ownBlock ∧ some k_ ≠ (s_.2.2.1 : Value).ownBlock ∧ k_ ≠ gb297 ∧ k_ ≠ gb299) s_.1 t303) ∧ (Kd.R k34 34 w' w.heap.size (fun k_ => k_ ≠ gb297 ∧ k_ ≠ gb299) s_.2.1 y306) ∧ (Kd.R (Kd.int .u8) 5 w' w.heap.size (fun _ => True) s_.2.2.1 t309) ∧ (Kd.V (Kd.int .u8) 5 w' w.heap.size (fun k_ => some k_ ≠ (s_.2.1 : Value).ownBlock ∧ some k_ ≠ (s_.2.2.1 : Value).ownBlock ∧ k_ ≠ gb297 ∧ k_ ≠ gb299) s_.2.2.2.1 t312) ∧ (Kd.V (Kd.int .u8) 5 w' w.heap.size (fun k_ => some k_ ≠ (s_.2.1 : Value).ownBlock ∧ some k_ ≠ (s_.2.2.1 : Value).ownBlock ∧ k_ ≠ gb297 ∧ k_ ≠ gb299) s_.2.2.2.2 t315) ∧ (w'.heap[gb297]? = some (.cells #[.bool a0_0, .string a0_1, .string a0_2, .string a0_3, .int .u32 a0_4, .int .u64 a0_5, .bool a0_6] 34 (0, 0))) ∧ (w'.heap[gb299]? = some (.cells #[.bool q30, .string q31, .string q32, .string q33, .int .u32 q34, .int .u64 q35, .bool q36] 34 (0, 0))) ∧ (Below w.heap.size w w')) ?_ ?_
           rotate_left
           ·intro hJ2_4_5_10_11_12_14_17
            refine join_ (σ := Value × Value × Value × Value × Value) 6 #[true, true, true, true, true, true, true, true, true, true, true, true, false, true, true, true, true, true, false, false, false, false, false] (fun s_ => [(15, .string (strOfNums t300)), (17, s_.1), (18, .string (strOfNums t303)), (23, s_.2.1), (24, s_.2.2.1), (27, s_.2.2.2.1), (28, .string (strOfNums t312)), (30, s_.2.2.2.2), (19, .bool true), (20, .bool true), (21, .agg #[.bool a0_0, .string a0_1, .string a0_2, .string a0_3, .int .u32 a0_4, .int .u64 a0_5, .bool a0_6]), (22, .agg #[.bool q30, .string q31, .string q32, .string q33, .int .u32 q34, .int .u64 q35, .bool q36]), (26, .agg #[.bool a0_0, .string a0_1, .string a0_2, .string a0_3, .int .u32 a0_4, .int .u64 a0_5, .bool a0_6]), (29, .agg #[.bool q30, .string q31, .string q32, .string q33, .int .u32 q34, .int .u64 q35, .bool q36])]) (fun s_ w' => (w'.cell? ⟨gb297, 0, none⟩ = some (.bool a0_0) ∧ w'.cell? ⟨gb297, 1, none⟩ = some (.string a0_1) ∧ w'.cell? ⟨gb297, 2, none⟩ = some (.string a0_2) ∧ w'.cell? ⟨gb297, 3, none⟩ = some (.string a0_3) ∧ w'.cell? ⟨gb297, 4, none⟩ = some (.int .u32 a0_4) ∧ w'.cell? ⟨gb297, 5, none⟩ = some (.int .u64 a0_5) ∧ w'.cell? ⟨gb297, 6, none⟩ = some (.bool a0_6) ∧ w'.cell? ⟨gb299, 0, none⟩ = some (.bool q30) ∧ w'.cell? ⟨gb299, 1, none⟩ = some (.string q31) ∧ w'.cell? ⟨gb299, 2, none⟩ = some (.string q32) ∧ w'.cell? ⟨gb299, 3, none⟩ = some (.string q33) ∧ w'.cell? ⟨gb299, 4, none⟩ = some (.int .u32 q34) ∧ w'.cell? ⟨gb299, 5, none⟩ = some (.int .u64 q35) ∧ w'.cell? ⟨gb299, 6, none⟩ = some (.bool q36)) ∧ (Kd.V (Kd.int .u8) 5 w' w.heap.size (fun k_ => some k_ ≠ (s_.2.1 : Value).ownBlock ∧ some k_ ≠ (s_.2.2.1 : Value).ownBlock ∧ k_ ≠ gb297 ∧ k_ ≠ gb299) v301 t300) ∧ (Kd.V (Kd.int .u8) 5 w' w.heap.size (fun k_ => some k_ ≠ (s_.2.1 : Value).ownBlock ∧ some k_ ≠ (s_.2.2.1 : Value).ownBlock ∧ k_ ≠ gb297 ∧ k_ ≠ gb299) s_.1 t303) ∧ (Kd.R k34 34 w' w.heap.size (fun k_ => k_ ≠ gb297 ∧ k_ ≠ gb299) s_.2.1 y306) ∧ (Kd.R (Kd.int .u8) 5 w' w.heap.size (fun _ => True) s_.2.2.1 t309) ∧ (Kd.V (Kd.int .u8) 5 w' w.heap.size (fun k_ => some k_ ≠ (s_.2.1 : Value).ownBlock ∧ some k_ ≠ (s_.2.2.1 : Value).ownBlock ∧ k_ ≠ gb297 ∧ k_ ≠ gb299) s_.2.2.2.1 t312) ∧ (Kd.V (Kd.int .u8) 5 w' w.heap.size (fun k_ => some k_ ≠ (s_.2.1 : Value).ownBlock ∧ some k_ ≠ (s_.2.2.1 : Value).ownBlock ∧ k_ ≠ gb297 ∧ k_ ≠ gb299) s_.2.2.2.2 t315) ∧ (w'.heap[gb297]? = some (.cells #[.bool a0_0, .string a0_1, .string a0_2, .string a0_3, .int .u32 a0_4, .int .u64 a0_5, .bool a0_6] 34 (0, 0))) ∧ (w'.heap[gb299]? = some (.cells #[.bool q30, .string q31, .string q32, .string q33, .int .u32 q34, .int .u64 q35, .bool q36] 34 (0, 0))) ∧ (Below w.heap.size w w')) ?_ ?_
            rotate_left
            ·intro hJ2_4_5_10_11_14_15_17
             refine join_ (σ := Value × Value × Value × Value × Value) 6 #[true, true, true, true, true, true, true, true, true, true, true, true, false, true, true, false, true, true, true, false, false, false, false] (fun s_ => [(15, .string (strOfNums t300)), (17, s_.1), (18, .string (strOfNums t303)), (23, s_.2.1), (24, s_.2.2.1), (27, s_.2.2.2.1), (30, s_.2.2.2.2), (31, .string (strOfNums t315)), (19, .bool true), (20, .bool true), (21, .agg #[.bool a0_0, .string a0_1, .string a0_2, .string a0_3, .int .u32 a0_4, .int .u64 a0_5, .bool a0_6]), (22, .agg #[.bool q30, .string q31, .string q32, .string q33, .int .u32 q34, .int .u64 q35, .bool q36]), (26, .agg #[.bool a0_0, .string a0_1, .string a0_2, .string a0_3, .int .u32 a0_4, .int .u64 a0_5, .bool a0_6]), (29, .agg #[.bool q30, .string q31, .string q32, .string q33, .int .u32 q34, .int .u64 q35, .bool q36])]) (fun s_ w' => (w'.cell? ⟨gb297, 0, none⟩ = some (.bool a0_0) ∧ w'.cell? ⟨gb297, 1, none⟩ = some (.string a0_1) ∧ w'.cell? ⟨gb297, 2, none⟩ = some (.string a0_2) ∧ w'.cell? ⟨gb297, 3, none⟩ = some (.string a0_3) ∧ w'.cell? ⟨gb297, 4, none⟩ = some (.int .u32 a0_4) ∧ w'.cell? ⟨gb297, 5, none⟩ = some (.int .u64 a0_5) ∧ w'.cell? ⟨gb297, 6, none⟩ = some (.bool a0_6) ∧ w'.cell? ⟨gb299, 0, none⟩ = some (.bool q30) ∧ w'.cell? ⟨gb299, 1, none⟩ = some (.string q31) ∧ w'.cell? ⟨gb299, 2, none⟩ = some (.string q32) ∧ w'.cell? ⟨gb299, 3, none⟩ = some (.string q33) ∧ w'.cell? ⟨gb299, 4, none⟩ = some (.int .u32 q34) ∧ w'.cell? ⟨gb299, 5, none⟩ = some (.int .u64 q35) ∧ w'.cell? ⟨gb299, 6, none⟩ = some (.bool q36)) ∧ (Kd.V (Kd.int .u8) 5 w' w.heap.size (fun k_ => some k_ ≠ (s_.2.1 : Value).ownBlock ∧ some k_ ≠ (s_.2.2.1 : Value).ownBlock ∧ k_ ≠ gb297 ∧ k_ ≠ gb299) v301 t300) ∧ (Kd.V (Kd.int .u8) 5 w' w.heap.size (fun k_ => some k_ ≠ (s_.2.1 : Value).ownBlock ∧ some k_ ≠ (s_.2.2.1 : Value).ownBlock ∧ k_ ≠ gb297 ∧ k_ ≠ gb299) s_.1 t303) ∧ (Kd.R k34 34 w' w.heap.size (fun k_ => k_ ≠ gb297 ∧ k_ ≠ gb299) s_.2.1 y306) ∧ (Kd.R (Kd.int .u8) 5 w' w.heap.size (fun _ => True) s_.2.2.1 t309) ∧ (Kd.V (Kd.int .u8) 5 w' w.heap.size (fun k_ => some k_ ≠ (s_.2.1 : Value).ownBlock ∧ some k_ ≠ (s_.2.2.1 : Value).ownBlock ∧ k_ ≠ gb297 ∧ k_ ≠ gb299) s_.2.2.2.1 t312) ∧ (Kd.V (Kd.int .u8) 5 w' w.heap.size (fun k_ => some k_ ≠ (s_.2.1 : Value).ownBlock ∧ some k_ ≠ (s_.2.2.1 : Value).ownBlock ∧ k_ ≠ gb297 ∧ k_ ≠ gb299) s_.2.2.2.2 t315) ∧ (w'.heap[gb297]? = some (.cells #[.bool a0_0, .string a0_1, .string a0_2, .string a0_3, .int .u32 a0_4, .int .u64 a0_5, .bool a0_6] 34 (0, 0))) ∧ (w'.heap[gb299]? = some (.cells #[.bool q30, .string q31, .string q32, .string q33, .int .u32 q34, .int .u64 q35, .bool q36] 34 (0, 0))) ∧ (Below w.heap.size w w')) ?_ ?_
             rotate_left
             ·intro hJ2_4_5_10_11_14_17_18
              refine join_ (σ := Value × Value × Value × Value) 7 #[true, true, true, true, true, true, true, true, true, true, true, true, true, true, true, false, true, false, false, false, false, false, false] (fun s_ => [(15, .string (strOfNums t300)), (17, s_.1), (18, .string (strOfNums t303)), (23, s_.2.1), (24, s_.2.2.1), (25, .string (strOfNums t309)), (27, s_.2.2.2), (19, .bool true), (20, .bool true), (21, .agg #[.bool a0_0, .string a0_1, .string a0_2, .string a0_3, .int .u32 a0_4, .int .u64 a0_5, .bool a0_6]), (22, .agg #[.bool q30, .string q31, .string q32, .string q33, .int .u32 q34, .int .u64 q35, .bool q36]), (26, .agg #[.bool a0_0, .string a0_1, .string a0_2, .string a0_3, .int .u32 a0_4, .int .u64 a0_5, .bool a0_6]), (29, .agg #[.bool q30, .string q31, .string q32, .string q33, .int .u32 q34, .int .u64 q35, .bool q36])]) (fun s_ w' => (w'.cell? ⟨gb297, 0, none⟩ = some (.bool a0_0) ∧ w'.cell? ⟨gb297, 1, none⟩ = some (.string a0_1) ∧ w'.cell? ⟨gb297, 2, none⟩ = some (.string a0_2) ∧ w'.cell? ⟨gb297, 3, none⟩ = some (.string a0_3) ∧ w'.cell? ⟨gb297, 4, none⟩ = some (.int .u32 a0_4) ∧ w'.cell? ⟨gb297, 5, none⟩ = some (.int .u64 a0_5) ∧ w'.cell? ⟨gb297, 6, none⟩ = some (.bool a0_6) ∧ w'.cell? ⟨gb299, 0, none⟩ = some (.bool q30) ∧ w'.cell? ⟨gb299, 1, none⟩ = some (.string q31) ∧ w'.cell? ⟨gb299, 2, none⟩ = some (.string q32) ∧ w'.cell? ⟨gb299, 3, none⟩ = some (.string q33) ∧ w'.cell? ⟨gb299, 4, none⟩ = some (.int .u32 q34) ∧ w'.cell? ⟨gb299, 5, none⟩ = some (.int .u64 q35) ∧ w'.cell? ⟨gb299, 6, none⟩ = some (.bool q36)) ∧ (Kd.V (Kd.int .u8) 5 w' w.heap.size (fun k_ => some k_ ≠ (s_.2.1 : Value).ownBlock ∧ some k_ ≠ (s_.2.2.1 : Value).ownBlock ∧ k_ ≠ gb297 ∧ k_ ≠ gb299) v301 t300) ∧ (Kd.V (Kd.int .u8) 5 w' w.heap.size (fun k_ => some k_ ≠ (s_.2.1 : Value).ownBlock ∧ some k_ ≠ (s_.2.2.1 : Value).ownBlock ∧ k_ ≠ gb297 ∧ k_ ≠ gb299) s_.1 t303) ∧ (Kd.R k34 34 w' w.heap.size (fun k_ => k_ ≠ gb297 ∧ k_ ≠ gb299) s_.2.1 y306) ∧ (Kd.R (Kd.int .u8) 5 w' w.heap.size (fun _ => True) s_.2.2.1 t309) ∧ (Kd.V (Kd.int .u8) 5 w' w.heap.size (fun k_ => some k_ ≠ (s_.2.1 : Value).ownBlock ∧ some k_ ≠ (s_.2.2.1 : Value).ownBlock ∧ k_ ≠ gb297 ∧ k_ ≠ gb299) s_.2.2.2 t312) ∧ (w'.heap[gb297]? = some (.cells #[.bool a0_0, .string a0_1, .string a0_2, .string a0_3, .int .u32 a0_4, .int .u64 a0_5, .bool a0_6] 34 (0, 0))) ∧ (w'.heap[gb299]? = some (.cells #[.bool q30, .string q31, .string q32, .string q33, .int .u32 q34, .int .u64 q35, .bool q36] 34 (0, 0))) ∧ (Below w.heap.size w w')) ?_ ?_
              rotate_left
              ·intro hJ2_4_5_10_11_12_14
               refine join_ (σ := Value × Value × Value × Value) 7 #[true, true, true, true, true, true, true, true, true, true, true, true, false, true, true, true, true, false, false, false, false, false, false] (fun s_ => [(15, .string (strOfNums t300)), (17, s_.1), (18, .string (strOfNums t303)), (23, s_.2.1), (24, s_.2.2.1), (27, s_.2.2.2), (28, .string (strOfNums t312)), (19, .bool true), (20, .bool true), (21, .agg #[.bool a0_0, .string a0_1, .string a0_2, .string a0_3, .int .u32 a0_4, .int .u64 a0_5, .bool a0_6]), (22, .agg #[.bool q30, .string q31, .string q32, .string q33, .int .u32 q34, .int .u64 q35, .bool q36]), (26, .agg #[.bool a0_0, .string a0_1, .string a0_2, .string a0_3, .int .u32 a0_4, .int .u64 a0_5, .bool a0_6]), (29, .agg #[.bool q30, .string q31, .string q32, .string q33, .int .u32 q34, .int .u64 q35, .bool q36])]) (fun s_ w' => (w'.cell? ⟨gb297, 0, none⟩ = some (.bool a0_0) ∧ w'.cell? ⟨gb297, 1, none⟩ = some (.string a0_1) ∧ w'.cell? ⟨gb297, 2, none⟩ = some (.string a0_2) ∧ w'.cell? ⟨gb297, 3, none⟩ = some (.string a0_3) ∧ w'.cell? ⟨gb297, 4, none⟩ = some (.int .u32 a0_4) ∧ w'.cell? ⟨gb297, 5, none⟩ = some (.int .u64 a0_5) ∧ w'.cell? ⟨gb297, 6, none⟩ = some (.bool a0_6) ∧ w'.cell? ⟨gb299, 0, none⟩ = some (.bool q30) ∧ w'.cell? ⟨gb299, 1, none⟩ = some (.string q31) ∧ w'.cell? ⟨gb299, 2, none⟩ = some (.string q32) ∧ w'.cell? ⟨gb299, 3, none⟩ = some (.string q33) ∧ w'.cell? ⟨gb299, 4, none⟩ = some (.int .u32 q34) ∧ w'.cell? ⟨gb299, 5, none⟩ = some (.int .u64 q35) ∧ w'.cell? ⟨gb299, 6, none⟩ = some (.bool q36)) ∧ (Kd.V (Kd.int .u8) 5 w' w.heap.size (fun k_ => some k_ ≠ (s_.2.1 : Value).ownBlock ∧ some k_ ≠ (s_.2.2.1 : Value).ownBlock ∧ k_ ≠ gb297 ∧ k_ ≠ gb299) v301 t300) ∧ (Kd.V (Kd.int .u8) 5 w' w.heap.size (fun k_ => some k_ ≠ (s_.2.1 : Value).ownBlock ∧ some k_ ≠ (s_.2.2.1 : Value).ownBlock ∧ k_ ≠ gb297 ∧ k_ ≠ gb299) s_.1 t303) ∧ (Kd.R k34 34 w' w.heap.size (fun k_ => k_ ≠ gb297 ∧ k_ ≠ gb299) s_.2.1 y306) ∧ (Kd.R (Kd.int .u8) 5 w' w.heap.size (fun _ => True) s_.2.2.1 t309) ∧ (Kd.V (Kd.int .u8) 5 w' w.heap.size (fun k_ => some k_ ≠ (s_.2.1 : Value).ownBlock ∧ some k_ ≠ (s_.2.2.1 : Value).ownBlock ∧ k_ ≠ gb297 ∧ k_ ≠ gb299) s_.2.2.2 t312) ∧ (w'.heap[gb297]? = some (.cells #[.bool a0_0, .string a0_1, .string a0_2, .string a0_3, .int .u32 a0_4, .int .u64 a0_5, .bool a0_6] 34 (0, 0))) ∧ (w'.heap[gb299]? = some (.cells #[.bool q30, .string q31, .string q32, .string q33, .int .u32 q34, .int .u64 q35, .bool q36] 34 (0, 0))) ∧ (Below w.heap.size w w')) ?_ ?_
               rotate_left
               ·intro hJ2_4_5_10_11_14_15
                refine join_ (σ := Value × Value × Value × Value × Value) 7 #[true, true, true, true, true, true, true, true, true, true, true, true, false, true, true, false, true, true, false, false, false, false, false] (fun s_ => [(15, .string (strOfNums t300)), (17, s_.1), (18, .string (strOfNums t303)), (23, s_.2.1), (24, s_.2.2.1), (27, s_.2.2.2.1), (30, s_.2.2.2.2), (19, .bool true), (20, .bool true), (21, .agg #[.bool a0_0, .string a0_1, .string a0_2, .string a0_3, .int .u32 a0_4, .int .u64 a0_5, .bool a0_6]), (22, .agg #[.bool q30, .string q31, .string q32, .string q33, .int .u32 q34, .int .u64 q35, .bool q36]), (26, .agg #[.bool a0_0, .string a0_1, .string a0_2, .string a0_3, .int .u32 a0_4, .int .u64 a0_5, .bool a0_6]), (29, .agg #[.bool q30, .string q31, .string q32, .string q33, .int .u32 q34, .int .u64 q35, .bool q36])]) (fun s_ w' => (w'.cell? ⟨gb297, 0, none⟩ = some (.bool a0_0) ∧ w'.cell? ⟨gb297, 1, none⟩ = some (.string a0_1) ∧ w'.cell? ⟨gb297, 2, none⟩ = some (.string a0_2) ∧ w'.cell? ⟨gb297, 3, none⟩ = some (.string a0_3) ∧ w'.cell? ⟨gb297, 4, none⟩ = some (.int .u32 a0_4) ∧ w'.cell? ⟨gb297, 5, none⟩ = some (.int .u64 a0_5) ∧ w'.cell? ⟨gb297, 6, none⟩ = some (.bool a0_6) ∧ w'.cell? ⟨gb299, 0, none⟩ = some (.bool q30) ∧ w'.cell? ⟨gb299, 1, none⟩ = some (.string q31) ∧ w'.cell? ⟨gb299, 2, none⟩ = some (.string q32) ∧ w'.cell? ⟨gb299, 3, none⟩ = some (.string q33) ∧ w'.cell? ⟨gb299, 4, none⟩ = some (.int .u32 q34) ∧ w'.cell? ⟨gb299, 5, none⟩ = some (.int .u64 q35) ∧ w'.cell? ⟨gb299, 6, none⟩ = some (.bool q36)) ∧ (Kd.V (Kd.int .u8) 5 w' w.heap.size (fun k_ => some k_ ≠ (s_.2.1 : Value).ownBlock ∧ some k_ ≠ (s_.2.2.1 : Value).ownBlock ∧ k_ ≠ gb297 ∧ k_ ≠ gb299) v301 t300) ∧ (Kd.V (Kd.int .u8) 5 w' w.heap.size (fun k_ => some k_ ≠ (s_.2.1 : Value).ownBlock ∧ some k_ ≠ (s_.2.2.1 : Value).ownBlock ∧ k_ ≠ gb297 ∧ k_ ≠ gb299) s_.1 t303) ∧ (Kd.R k34 34 w' w.heap.size (fun k_ => k_ ≠ gb297 ∧ k_ ≠ gb299) s_.2.1 y306) ∧ (Kd.R (Kd.int .u8) 5 w' w.heap.size (fun _ => True) s_.2.2.1 t309) ∧ (Kd.V (Kd.int .u8) 5 w' w.heap.size (fun k_ => some k_ ≠ (s_.2.1 : Value).ownBlock ∧ some k_ ≠ (s_.2.2.1 : Value).ownBlock ∧ k_ ≠ gb297 ∧ k_ ≠ gb299) s_.2.2.2.1 t312) ∧ (Kd.V (Kd.int .u8) 5 w' w.heap.size (fun k_ => some k_ ≠ (s_.2.1 : Value).ownBlock ∧ some k_ ≠ (s_.2.2.1 : Value).ownBlock ∧ k_ ≠ gb297 ∧ k_ ≠ gb299) s_.2.2.2.2 t315) ∧ (w'.heap[gb297]? = some (.cells #[.bool a0_0, .string a0_1, .string a0_2, .string a0_3, .int .u32 a0_4, .int .u64 a0_5, .bool a0_6] 34 (0, 0))) ∧ (w'.heap[gb299]? = some (.cells #[.bool q30, .string q31, .string q32, .string q33, .int .u32 q34, .int .u64 q35, .bool q36] 34 (0, 0))) ∧ (Below w.heap.size w w')) ?_ ?_
                rotate_left
                ·intro hJ2_4_5_10_11_14_17
                 refine join_ (σ := Value × Value × Value) 8 #[true, true, true, true, true, true, true, true, true, true, true, true, true, true, false, false, true, false, false, false, false, false, false] (fun s_ => [(15, .string (strOfNums t300)), (17, s_.1), (18, .string (strOfNums t303)), (23, s_.2.1), (24, s_.2.2), (25, .string (strOfNums t309)), (19, .bool true), (20, .bool true), (21, .agg #[.bool a0_0, .string a0_1, .string a0_2, .string a0_3, .int .u32 a0_4, .int .u64 a0_5, .bool a0_6]), (22, .agg #[.bool q30, .string q31, .string q32, .string q33, .int .u32 q34, .int .u64 q35, .bool q36]), (26, .agg #[.bool a0_0, .string a0_1, .string a0_2, .string a0_3, .int .u32 a0_4, .int .u64 a0_5, .bool a0_6]), (29, .agg #[.bool q30, .string q31, .string q32, .string q33, .int .u32 q34, .int .u64 q35, .bool q36])]) (fun s_ w' => (w'.cell? ⟨gb297, 0, none⟩ = some (.bool a0_0) ∧ w'.cell? ⟨gb297, 1, none⟩ = some (.string a0_1) ∧ w'.cell? ⟨gb297, 2, none⟩ = some (.string a0_2) ∧ w'.cell? ⟨gb297, 3, none⟩ = some (.string a0_3) ∧ w'.cell? ⟨gb297, 4, none⟩ = some (.int .u32 a0_4) ∧ w'.cell? ⟨gb297, 5, none⟩ = some (.int .u64 a0_5) ∧ w'.cell? ⟨gb297, 6, none⟩ = some (.bool a0_6) ∧ w'.cell? ⟨gb299, 0, none⟩ = some (.bool q30) ∧ w'.cell? ⟨gb299, 1, none⟩ = some (.string q31) ∧ w'.cell? ⟨gb299, 2, none⟩ = some (.string q32) ∧ w'.cell? ⟨gb299, 3, none⟩ = some (.string q33) ∧ w'.cell? ⟨gb299, 4, none⟩ = some (.int .u32 q34) ∧ w'.cell? ⟨gb299, 5, none⟩ = some (.int .u64 q35) ∧ w'.cell? ⟨gb299, 6, none⟩ = some (.bool q36)) ∧ (Kd.V (Kd.int .u8) 5 w' w.heap.size (fun k_ => some k_ ≠ (s_.2.1 : Value).ownBlock ∧ some k_ ≠ (s_.2.2 : Value).ownBlock ∧ k_ ≠ gb297 ∧ k_ ≠ gb299) v301 t300) ∧ (Kd.V (Kd.int .u8) 5 w' w.heap.size (fun k_ => some k_ ≠ (s_.2.1 : Value).ownBlock ∧ some k_ ≠ (s_.2.2 : Value).ownBlock ∧ k_ ≠ gb297 ∧ k_ ≠ gb299) s_.1 t303) ∧ (Kd.R k34 34 w' w.heap.size (fun k_ => k_ ≠ gb297 ∧ k_ ≠ gb299) s_.2.1 y306) ∧ (Kd.R (Kd.int .u8) 5 w' w.heap.size (fun _ => True) s_.2.2 t309) ∧ (w'.heap[gb297]? = some (.cells #[.bool a0_0, .string a0_1, .string a0_2, .string a0_3, .int .u32 a0_4, .int .u64 a0_5, .bool a0_6] 34 (0, 0))) ∧ (w'.heap[gb299]? = some (.cells #[.bool q30, .string q31, .string q32, .string q33, .int .u32 q34, .int .u64 q35, .bool q36] 34 (0, 0))) ∧ (Below w.heap.size w w')) ?_ ?_
                 rotate_left
                 ·intro hJ2_4_5_10_11_12
                  refine join_ (σ := Value × Value × Value × Value) 8 #[true, true, true, true, true, true, true, true, true, true, true, true, false, true, true, false, true, false, false, false, false, false, false] (fun s_ => [(15, .string (strOfNums t300)), (17, s_.1), (18, .string (strOfNums t303)), (23, s_.2.1), (24, s_.2.2.1), (27, s_.2.2.2), (19, .bool true), (20, .bool true), (21, .agg #[.bool a0_0, .string a0_1, .string a0_2, .string a0_3, .int .u32 a0_4, .int .u64 a0_5, .bool a0_6]), (22, .agg #[.bool q30, .string q31, .string q32, .string q33, .int .u32 q34, .int .u64 q35, .bool q36]), (26, .agg #[.bool a0_0, .string a0_1, .string a0_2, .string a0_3, .int .u32 a0_4, .int .u64 a0_5, .bool a0_6]), (29, .agg #[.bool q30, .string q31, .string q32, .string q33, .int .u32 q34, .int .u64 q35, .bool q36])]) (fun s_ w' => (w'.cell? ⟨gb297, 0, none⟩ = some (.bool a0_0) ∧ w'.cell? ⟨gb297, 1, none⟩ = some (.string a0_1) ∧ w'.cell? ⟨gb297, 2, none⟩ = some (.string a0_2) ∧ w'.cell? ⟨gb297, 3, none⟩ = some (.string a0_3) ∧ w'.cell? ⟨gb297, 4, none⟩ = some (.int .u32 a0_4) ∧ w'.cell? ⟨gb297, 5, none⟩ = some (.int .u64 a0_5) ∧ w'.cell? ⟨gb297, 6, none⟩ = some (.bool a0_6) ∧ w'.cell? ⟨gb299, 0, none⟩ = some (.bool q30) ∧ w'.cell? ⟨gb299, 1, none⟩ = some (.string q31) ∧ w'.cell? ⟨gb299, 2, none⟩ = some (.string q32) ∧ w'.cell? ⟨gb299, 3, none⟩ = some (.string q33) ∧ w'.cell? ⟨gb299, 4, none⟩ = some (.int .u32 q34) ∧ w'.cell? ⟨gb299, 5, none⟩ = some (.int .u64 q35) ∧ w'.cell? ⟨gb299, 6, none⟩ = some (.bool q36)) ∧ (Kd.V (Kd.int .u8) 5 w' w.heap.size (fun k_ => some k_ ≠ (s_.2.1 : Value).ownBlock ∧ some k_ ≠ (s_.2.2.1 : Value).ownBlock ∧ k_ ≠ gb297 ∧ k_ ≠ gb299) v301 t300) ∧ (Kd.V (Kd.int .u8) 5 w' w.heap.size (fun k_ => some k_ ≠ (s_.2.1 : Value).ownBlock ∧ some k_ ≠ (s_.2.2.1 : Value).ownBlock ∧ k_ ≠ gb297 ∧ k_ ≠ gb299) s_.1 t303) ∧ (Kd.R k34 34 w' w.heap.size (fun k_ => k_ ≠ gb297 ∧ k_ ≠ gb299) s_.2.1 y306) ∧ (Kd.R (Kd.int .u8) 5 w' w.heap.size (fun _ => True) s_.2.2.1 t309) ∧ (Kd.V (Kd.int .u8) 5 w' w.heap.size (fun k_ => some k_ ≠ (s_.2.1 : Value).ownBlock ∧ some k_ ≠ (s_.2.2.1 : Value).ownBlock ∧ k_ ≠ gb297 ∧ k_ ≠ gb299) s_.2.2.2 t312) ∧ (w'.heap[gb297]? = some (.cells #[.bool a0_0, .string a0_1, .string a0_2, .string a0_3, .int .u32 a0_4, .int .u64 a0_5, .bool a0_6] 34 (0, 0))) ∧ (w'.heap[gb299]? = some (.cells #[.bool q30, .string q31, .string q32, .string q33, .int .u32 q34, .int .u64 q35, .bool q36] 34 (0, 0))) ∧ (Below w.heap.size w w')) ?_ ?_
                  rotate_left
                  ·intro hJ2_4_5_10_11_14
                   refine join_ (σ := Value × Value × Value) 9 #[true, true, true, true, true, true, true, true, true, true, true, true, false, true, false, false, true, false, false, false, false, false, false] (fun s_ => [(15, .string (strOfNums t300)), (17, s_.1), (18, .string (strOfNums t303)), (23, s_.2.1), (24, s_.2.2), (19, .bool true), (20, .bool true), (21, .agg #[.bool a0_0, .string a0_1, .string a0_2, .string a0_3, .int .u32 a0_4, .int .u64 a0_5, .bool a0_6]), (22, .agg #[.bool q30, .string q31, .string q32, .string q33, .int .u32 q34, .int .u64 q35, .bool q36]), (26, .agg #[.bool a0_0, .string a0_1, .string a0_2, .string a0_3, .int .u32 a0_4, .int .u64 a0_5, .bool a0_6]), (29, .agg #[.bool q30, .string q31, .string q32, .string q33, .int .u32 q34, .int .u64 q35, .bool q36])]) (fun s_ w' => (w'.cell? ⟨gb297, 0, none⟩ = some (.bool a0_0) ∧ w'.cell? ⟨gb297, 1, none⟩ = some (.string a0_1) ∧ w'.cell? ⟨gb297, 2, none⟩ = some (.string a0_2) ∧ w'.cell? ⟨gb297, 3, none⟩ = some (.string a0_3) ∧ w'.cell? ⟨gb297, 4, none⟩ = some (.int .u32 a0_4) ∧ w'.cell? ⟨gb297, 5, none⟩ = some (.int .u64 a0_5) ∧ w'.cell? ⟨gb297, 6, none⟩ = some (.bool a0_6) ∧ w'.cell? ⟨gb299, 0, none⟩ = some (.bool q30) ∧ w'.cell? ⟨gb299, 1, none⟩ = some (.string q31) ∧ w'.cell? ⟨gb299, 2, none⟩ = some (.string q32) ∧ w'.cell? ⟨gb299, 3, none⟩ = some (.string q33) ∧ w'.cell? ⟨gb299, 4, none⟩ = some (.int .u32 q34) ∧ w'.cell? ⟨gb299, 5, none⟩ = some (.int .u64 q35) ∧ w'.cell? ⟨gb299, 6, none⟩ = some (.bool q36)) ∧ (Kd.V (Kd.int .u8) 5 w' w.heap.size (fun k_ => some k_ ≠ (s_.2.1 : Value).ownBlock ∧ some k_ ≠ (s_.2.2 : Value).ownBlock ∧ k_ ≠ gb297 ∧ k_ ≠ gb299) v301 t300) ∧ (Kd.V (Kd.int .u8) 5 w' w.heap.size (fun k_ => some k_ ≠ (s_.2.1 : Value).ownBlock ∧ some k_ ≠ (s_.2.2 : Value).ownBlock ∧ k_ ≠ gb297 ∧ k_ ≠ gb299) s_.1 t303) ∧ (Kd.R k34 34 w' w.heap.size (fun k_ => k_ ≠ gb297 ∧ k_ ≠ gb299) s_.2.1 y306) ∧ (Kd.R (Kd.int .u8) 5 w' w.heap.size (fun _ => True) s_.2.2 t309) ∧ (w'.heap[gb297]? = some (.cells #[.bool a0_0, .string a0_1, .string a0_2, .string a0_3, .int .u32 a0_4, .int .u64 a0_5, .bool a0_6] 34 (0, 0))) ∧ (w'.heap[gb299]? = some (.cells #[.bool q30, .string q31, .string q32, .string q33, .int .u32 q34, .int .u64 q35, .bool q36] 34 (0, 0))) ∧ (Below w.heap.size w w')) ?_ ?_
                   rotate_left
                   ·intro hJ2_4_5_10_11
                    refine join_ (σ := Value × Value) 10 #[true, true, true, true, true, true, true, true, true, true, true, false, false, true, false, false, true, false, false, false, false, false, false] (fun s_ => [(15, .string (strOfNums t300)), (17, s_.1), (18, .string (strOfNums t303)), (23, s_.2), (19, .bool true), (20, .bool true), (21, .agg #[.bool a0_0, .string a0_1, .string a0_2, .string a0_3, .int .u32 a0_4, .int .u64 a0_5, .bool a0_6]), (22, .agg #[.bool q30, .string q31, .string q32, .string q33, .int .u32 q34, .int .u64 q35, .bool q36]), (26, .agg #[.bool a0_0, .string a0_1, .string a0_2, .string a0_3, .int .u32 a0_4, .int .u64 a0_5, .bool a0_6]), (29, .agg #[.bool q30, .string q31, .string q32, .string q33, .int .u32 q34, .int .u64 q35, .bool q36])]) (fun s_ w' => (w'.cell? ⟨gb297, 0, none⟩ = some (.bool a0_0) ∧ w'.cell? ⟨gb297, 1, none⟩ = some (.string a0_1) ∧ w'.cell? ⟨gb297, 2, none⟩ = some (.string a0_2) ∧ w'.cell? ⟨gb297, 3, none⟩ = some (.string a0_3) ∧ w'.cell? ⟨gb297, 4, none⟩ = some (.int .u32 a0_4) ∧ w'.cell? ⟨gb297, 5, none⟩ = some (.int .u64 a0_5) ∧ w'.cell? ⟨gb297, 6, none⟩ = some (.bool a0_6) ∧ w'.cell? ⟨gb299, 0, none⟩ = some (.bool q30) ∧ w'.cell? ⟨gb299, 1, none⟩ = some (.string q31) ∧ w'.cell? ⟨gb299, 2, none⟩ = some (.string q32) ∧ w'.cell? ⟨gb299, 3, none⟩ = some (.string q33) ∧ w'.cell? ⟨gb299, 4, none⟩ = some (.int .u32 q34) ∧ w'.cell? ⟨gb299, 5, none⟩ = some (.int .u64 q35) ∧ w'.cell? ⟨gb299, 6, none⟩ = some (.bool q36)) ∧ (Kd.V (Kd.int .u8) 5 w' w.heap.size (fun k_ => some k_ ≠ (s_.2 : Value).ownBlock ∧ k_ ≠ gb297 ∧ k_ ≠ gb299) v301 t300) ∧ (Kd.V (Kd.int .u8) 5 w' w.heap.size (fun k_ => some k_ ≠ (s_.2 : Value).ownBlock ∧ k_ ≠ gb297 ∧ k_ ≠ gb299) s_.1 t303) ∧ (Kd.R k34 34 w' w.heap.size (fun k_ => k_ ≠ gb297 ∧ k_ ≠ gb299) s_.2 y306) ∧ (w'.heap[gb297]? = some (.cells #[.bool a0_0, .string a0_1, .string a0_2, .string a0_3, .int .u32 a0_4, .int .u64 a0_5, .bool a0_6] 34 (0, 0))) ∧ (w'.heap[gb299]? = some (.cells #[.bool q30, .string q31, .string q32, .string q33, .int .u32 q34, .int .u64 q35, .bool q36] 34 (0, 0))) ∧ (Below w.heap.size w w')) ?_ ?_
                    rotate_left
                    ·intro hJ2_4_5_10
                     refine join_ (σ := Value) 11 #[true, true, true, true, true, true, true, true, true, true, false, false, false, true, false, false, true, false, false, false, false, false, false] (fun s_ => [(15, .string (strOfNums t300)), (17, s_), (18, .string (strOfNums t303)), (19, .bool true), (20, .bool true), (21, .agg #[.bool a0_0, .string a0_1, .string a0_2, .string a0_3, .int .u32 a0_4, .int .u64 a0_5, .bool a0_6]), (22, .agg #[.bool q30, .string q31, .string q32, .string q33, .int .u32 q34, .int .u64 q35, .bool q36]), (26, .agg #[.bool a0_0, .string a0_1, .string a0_2, .string a0_3, .int .u32 a0_4, .int .u64 a0_5, .bool a0_6]), (29, .agg #[.bool q30, .string q31, .string q32, .string q33, .int .u32 q34, .int .u64 q35, .bool q36])]) (fun s_ w' => (w'.cell? ⟨gb297, 0, none⟩ = some (.bool a0_0) ∧ w'.cell? ⟨gb297, 1, none⟩ = some (.string a0_1) ∧ w'.cell? ⟨gb297, 2, none⟩ = some (.string a0_2) ∧ w'.cell? ⟨gb297, 3, none⟩ = some (.string a0_3) ∧ w'.cell? ⟨gb297, 4, none⟩ = some (.int .u32 a0_4) ∧ w'.cell? ⟨gb297, 5, none⟩ = some (.int .u64 a0_5) ∧ w'.cell? ⟨gb297, 6, none⟩ = some (.bool a0_6) ∧ w'.cell? ⟨gb299, 0, none⟩ = some (.bool q30) ∧ w'.cell? ⟨gb299, 1, none⟩ = some (.string q31) ∧ w'.cell? ⟨gb299, 2, none⟩ = some (.string q32) ∧ w'.cell? ⟨gb299, 3, none⟩ = some (.string q33) ∧ w'.cell? ⟨gb299, 4, none⟩ = some (.int .u32 q34) ∧ w'.cell? ⟨gb299, 5, none⟩ = some (.int .u64 q35) ∧ w'.cell? ⟨gb299, 6, none⟩ = some (.bool q36)) ∧ (Kd.V (Kd.int .u8) 5 w' w.heap.size (fun k_ => k_ ≠ gb297 ∧ k_ ≠ gb299) v301 t300) ∧ (Kd.V (Kd.int .u8) 5 w' w.heap.size (fun k_ => k_ ≠ gb297 ∧ k_ ≠ gb299) s_ t303) ∧ (w'.heap[gb297]? = some (.cells #[.bool a0_0, .string a0_1, .string a0_2, .string a0_3, .int .u32 a0_4, .int .u64 a0_5, .bool a0_6] 34 (0, 0))) ∧ (w'.heap[gb299]? = some (.cells #[.bool q30, .string q31, .string q32, .string q33, .int .u32 q34, .int .u64 q35, .bool q36] 34 (0, 0))) ∧ (Below w.heap.size w w')) ?_ ?_
                     rotate_left
                     ·intro hJ2_4_5
                      refine join_ (σ := Value) 18 #[true, true, true, true, true, false, false, false, false, false, false, false, false, false, false, false, false, false, false, false, false, false, false] (fun s_ => [(15, .string (strOfNums t300)), (17, s_)]) (fun s_ w' => (w'.cell? ⟨gb297, 0, none⟩ = some (.bool a0_0) ∧ w'.cell? ⟨gb297, 1, none⟩ = some (.string a0_1) ∧ w'.cell? ⟨gb297, 2, none⟩ = some (.string a0_2) ∧ w'.cell? ⟨gb297, 3, none⟩ = some (.string a0_3) ∧ w'.cell? ⟨gb297, 4, none⟩ = some (.int .u32 a0_4) ∧ w'.cell? ⟨gb297, 5, none⟩ = some (.int .u64 a0_5) ∧ w'.cell? ⟨gb297, 6, none⟩ = some (.bool a0_6) ∧ w'.cell? ⟨gb299, 0, none⟩ = some (.bool q30) ∧ w'.cell? ⟨gb299, 1, none⟩ = some (.string q31) ∧ w'.cell? ⟨gb299, 2, none⟩ = some (.string q32) ∧ w'.cell? ⟨gb299, 3, none⟩ = some (.string q33) ∧ w'.cell? ⟨gb299, 4, none⟩ = some (.int .u32 q34) ∧ w'.cell? ⟨gb299, 5, none⟩ = some (.int .u64 q35) ∧ w'.cell? ⟨gb299, 6, none⟩ = some (.bool q36)) ∧ (Kd.V (Kd.int .u8) 5 w' w.heap.size (fun k_ => k_ ≠ gb297 ∧ k_ ≠ gb299) v301 t300) ∧ (Kd.V (Kd.int .u8) 5 w' w.heap.size (fun k_ => k_ ≠ gb297 ∧ k_ ≠ gb299) s_ t303) ∧ (w'.heap[gb297]? = some (.cells #[.bool a0_0, .string a0_1, .string a0_2, .string a0_3, .int .u32 a0_4, .int .u64 a0_5, .bool a0_6] 34 (0, 0))) ∧ (w'.heap[gb299]? = some (.cells #[.bool q30, .string q31, .string q32, .string q33, .int .u32 q34, .int .u64 q35, .bool q36] 34 (0, 0))) ∧ (Below w.heap.size w w')) ?_ ?_
                      rotate_left
                      ·intro hJ2_4
                       refine join_ (σ := Value) 18 #[true, true, false, true, true, true, false, false, false, false, false, false, false, false, false, false, false, false, false, false, false, false, false] (fun s_ => [(17, s_), (18, .string (strOfNums t303))]) (fun s_ w' => (w'.cell? ⟨gb297, 0, none⟩ = some (.bool a0_0) ∧ w'.cell? ⟨gb297, 1, none⟩ = some (.string a0_1) ∧ w'.cell? ⟨gb297, 2, none⟩ = some (.string a0_2) ∧ w'.cell? ⟨gb297, 3, none⟩ = some (.string a0_3) ∧ w'.cell? ⟨gb297, 4, none⟩ = some (.int .u32 a0_4) ∧ w'.cell? ⟨gb297, 5, none⟩ = some (.int .u64 a0_5) ∧ w'.cell? ⟨gb297, 6, none⟩ = some (.bool a0_6) ∧ w'.cell? ⟨gb299, 0, none⟩ = some (.bool q30) ∧ w'.cell? ⟨gb299, 1, none⟩ = some (.string q31) ∧ w'.cell? ⟨gb299, 2, none⟩ = some (.string q32) ∧ w'.cell? ⟨gb299, 3, none⟩ = some (.string q33) ∧ w'.cell? ⟨gb299, 4, none⟩ = some (.int .u32 q34) ∧ w'.cell? ⟨gb299, 5, none⟩ = some (.int .u64 q35) ∧ w'.cell? ⟨gb299, 6, none⟩ = some (.bool q36)) ∧ (Kd.V (Kd.int .u8) 5 w' w.heap.size (fun k_ => k_ ≠ gb297 ∧ k_ ≠ gb299) v301 t300) ∧ (Kd.V (Kd.int .u8) 5 w' w.heap.size (fun k_ => k_ ≠ gb297 ∧ k_ ≠ gb299) s_ t303) ∧ (w'.heap[gb297]? = some (.cells #[.bool a0_0, .string a0_1, .string a0_2, .string a0_3, .int .u32 a0_4, .int .u64 a0_5, .bool a0_6] 34 (0, 0))) ∧ (w'.heap[gb299]? = some (.cells #[.bool q30, .string q31, .string q32, .string q33, .int .u32 q34, .int .u64 q35, .bool q36] 34 (0, 0))) ∧ (Below w.heap.size w w')) ?_ ?_
                       rotate_left
                       ·intro hJ4_5
                        refine join_ (σ := Unit) 19 #[true, true, true, true, false, false, false, false, false, false, false, false, false, false, false, false, false, false, false, false, false, false, false] (fun s_ => [(15, .string (strOfNums t300))]) (fun s_ w' => (w'.cell? ⟨gb297, 0, none⟩ = some (.bool a0_0) ∧ w'.cell? ⟨gb297, 1, none⟩ = some (.string a0_1) ∧ w'.cell? ⟨gb297, 2, none⟩ = some (.string a0_2) ∧ w'.cell? ⟨gb297, 3, none⟩ = some (.string a0_3) ∧ w'.cell? ⟨gb297, 4, none⟩ = some (.int .u32 a0_4) ∧ w'.cell? ⟨gb297, 5, none⟩ = some (.int .u64 a0_5) ∧ w'.cell? ⟨gb297, 6, none⟩ = some (.bool a0_6) ∧ w'.cell? ⟨gb299, 0, none⟩ = some (.bool q30) ∧ w'.cell? ⟨gb299, 1, none⟩ = some (.string q31) ∧ w'.cell? ⟨gb299, 2, none⟩ = some (.string q32) ∧ w'.cell? ⟨gb299, 3, none⟩ = some (.string q33) ∧ w'.cell? ⟨gb299, 4, none⟩ = some (.int .u32 q34) ∧ w'.cell? ⟨gb299, 5, none⟩ = some (.int .u64 q35) ∧ w'.cell? ⟨gb299, 6, none⟩ = some (.bool q36)) ∧ (Kd.V (Kd.int .u8) 5 w' w.heap.size (fun k_ => k_ ≠ gb297 ∧ k_ ≠ gb299) v301 t300) ∧ (w'.heap[gb297]? = some (.cells #[.bool a0_0, .string a0_1, .string a0_2, .string a0_3, .int .u32 a0_4, .int .u64 a0_5, .bool a0_6] 34 (0, 0))) ∧ (w'.heap[gb299]? = some (.cells #[.bool q30, .string q31, .string q32, .string q33, .int .u32 q34, .int .u64 q35, .bool q36] 34 (0, 0))) ∧ (Below w.heap.size w w')) ?_ ?_
                        rotate_left
                        ·intro hJ2
                         refine join_ (σ := Value) 19 #[true, true, false, true, true, false, false, false, false, false, false, false, false, false, false, false, false, false, false, false, false, false, false] (fun s_ => [(17, s_)]) (fun s_ w' => (w'.cell? ⟨gb297, 0, none⟩ = some (.bool a0_0) ∧ w'.cell? ⟨gb297, 1, none⟩ = some (.string a0_1) ∧ w'.cell? ⟨gb297, 2, none⟩ = some (.string a0_2) ∧ w'.cell? ⟨gb297, 3, none⟩ = some (.string a0_3) ∧ w'.cell? ⟨gb297, 4, none⟩ = some (.int .u32 a0_4) ∧ w'.cell? ⟨gb297, 5, none⟩ = some (.int .u64 a0_5) ∧ w'.cell? ⟨gb297, 6, none⟩ = some (.bool a0_6) ∧ w'.cell? ⟨gb299, 0, none⟩ = some (.bool q30) ∧ w'.cell? ⟨gb299, 1, none⟩ = some (.string q31) ∧ w'.cell? ⟨gb299, 2, none⟩ = some (.string q32) ∧ w'.cell? ⟨gb299, 3, none⟩ = some (.string q33) ∧ w'.cell? ⟨gb299, 4, none⟩ = some (.int .u32 q34) ∧ w'.cell? ⟨gb299, 5, none⟩ = some (.int .u64 q35) ∧ w'.cell? ⟨gb299, 6, none⟩ = some (.bool q36)) ∧ (Kd.V (Kd.int .u8) 5 w' w.heap.size (fun k_ => k_ ≠ gb297 ∧ k_ ≠ gb299) v301 t300) ∧ (Kd.V (Kd.int .u8) 5 w' w.heap.size (fun k_ => k_ ≠ gb297 ∧ k_ ≠ gb299) s_ t303) ∧ (w'.heap[gb297]? = some (.cells #[.bool a0_0, .string a0_1, .string a0_2, .string a0_3, .int .u32 a0_4, .int .u64 a0_5, .bool a0_6] 34 (0, 0))) ∧ (w'.heap[gb299]? = some (.cells #[.bool q30, .string q31, .string q32, .string q33, .int .u32 q34, .int .u64 q35, .bool q36] 34 (0, 0))) ∧ (Below w.heap.size w w')) ?_ ?_
                         rotate_left
                         ·intro hJ4
                          refine two_ (i := 2) (j := 4) (Ni := some 15) (Nj := some 17) #[true, true, true, true, false, false, false, false, false, false, false, false, false, false, false, false, false, false, false, false, false, false, false] #[true, true, false, true, true, false, false, false, false, false, false, false, false, false, false, false, false, false, false, false, false, false, false] rfl rfl rfl rfl (two_of HT_.out (by kernel_rfl)) (by decide) (by decide) (fun K hK => ?_) (fun K hK => ?_)
                          ·skip
                           have hcv27 := V_string (P := Tryd.prog) Tryd.underlying31 Tryd.underlying5 Tryd.underlying9 HO302.out
                           refine value_ (w1 := ?_) (v := ?_) (by rfl) rfl ?_ ?_
                           rotate_left 2
                           ·go_simp
                            constructor
                            ·rfl
                            ·rfl
                           clear hcv27
                           refine hK.out _ _ ⟨(blk_cell BK297.out 0).trans rfl, (blk_cell BK297.out 1).trans rfl, (blk_cell BK297.out 2).trans rfl, (blk_cell BK297.out 3).trans rfl, (blk_cell BK297.out 4).trans rfl, (blk_cell BK297.out 5).trans rfl, (blk_cell BK297.out 6).trans rfl, (blk_cell BK299.out 0).trans rfl, (blk_cell BK299.out 1).trans rfl, (blk_cell BK299.out 2).trans rfl, (blk_cell BK299.out 3).trans rfl, (blk_cell BK299.out 4).trans rfl, (blk_cell BK299.out 5).trans rfl, (blk_cell BK299.out 6).trans rfl⟩ (fun hHeld => ?_)
                           clear hK K
                           refine norm_ (a' := ?_) ?_ ?_
                           rotate_left
                           ·show Act.put _ (some 15) _ = _
                            simp only [Act.put, List.setIfInBounds_toArray, List.set_cons_zero, List.set_cons_succ, i64_w, i32_w]
                            rfl
                           exact norm_ (by first | (simp only [putAll, Act.put, List.setIfInBounds_toArray, List.set_cons_zero, List.set_cons_succ]; done) | (simp only [putAll, Act.put, List.setIfInBounds_toArray, List.set_cons_zero, List.set_cons_succ]; rfl)) (hJ2 () _ ⟨hHeld, (by (with_reducible repeat (first | apply Kd.V_alloc | apply Kd.V_drewN | apply Kd.V_drew)); exact HO302.out), (by (with_reducible repeat (first | refine blk_drewN ?_ _ | refine blk_drew ?_ | refine blk_alloc ?_ _)); exact BK297.out), (by (with_reducible repeat (first | refine blk_drewN ?_ _ | refine blk_drew ?_ | refine blk_alloc ?_ _)); exact BK299.out), (by repeat (first | (with_reducible first | exact HB.out | apply below_alloc | apply pw_below_drewN | apply below_drew1 | refine below_set ?_ GE297.out | refine below_set ?_ GE299.out) | exact HB.out))⟩)
                          ·skip
                           refine goes_ Tryd.func10 (by kernel_rfl) rfl #[.agg #[.bool q30, .string q31, .string q32, .string q33, .int .u32 q34, .int .u64 q35, .bool q36]] (by rfl) rfl rfl (by (try simp only [List.map_toArray, List.map_cons, List.map_nil]); first | done | rfl | (simp only [List.length_drop, List.length_take]; rfl)) ?_
                           with_reducible refine (reply_Bytes.calls q30 q31 q32 q33 q34 q35 q36 t303 _ ?side1 A19.out).mono ?_
                           (case side1 => exact HLD.below (by repeat (first | (with_reducible first | exact HB.out | apply below_alloc | apply pw_below_drewN | apply below_drew1 | refine below_set ?_ GE297.out | refine below_set ?_ GE299.out) | exact HB.out)))
                           rintro e w27 ⟨v304, rfl, ho0, hb⟩
                           refine ⟨_, rfl, ?_⟩
                           have n0_ := Aside0.mk (Kd.V_below (by (with_reducible repeat (first | apply Kd.V_alloc | apply Kd.V_drewN | apply Kd.V_drew)); exact HO302.out) hb)
                           have n1_ := Aside0.mk (Kd.V_lower (Kd.V_mono (ok' := fun k_ => k_ ≠ gb297 ∧ k_ ≠ gb299) ho0 (fun k_ hk_ => ⟨(Kd.freshB (g := gb297) (o := .cells #[.bool a0_0, .string a0_1, .string a0_2, .string a0_3, .int .u32 a0_4, .int .u64 a0_5, .bool a0_6] 34 (0, 0)) (by (with_reducible repeat (first | refine blk_drewN ?_ _ | refine blk_drew ?_ | refine blk_alloc ?_ _)); exact BK297.out) k_ hk_), (Kd.freshB (g := gb299) (o := .cells #[.bool q30, .string q31, .string q32, .string q33, .int .u32 q34, .int .u64 q35, .bool q36] 34 (0, 0)) (by (with_reducible repeat (first | refine blk_drewN ?_ _ | refine blk_drew ?_ | refine blk_alloc ?_ _)); exact BK299.out) k_ hk_)⟩)) (below_size (by repeat (first | (with_reducible first | exact HB.out | apply below_alloc | apply pw_below_drewN | apply below_drew1 | refine below_set ?_ GE297.out | refine below_set ?_ GE299.out) | exact HB.out))))
                           have n2_ := Aside0.mk (blk_below (g := gb297) (o := .cells #[.bool a0_0, .string a0_1, .string a0_2, .string a0_3, .int .u32 a0_4, .int .u64 a0_5, .bool a0_6] 34 (0, 0)) (by (with_reducible repeat (first | refine blk_drewN ?_ _ | refine blk_drew ?_ | refine blk_alloc ?_ _)); exact BK297.out) hb)
                           have n3_ := Aside0.mk (blk_below (g := gb299) (o := .cells #[.bool q30, .string q31, .string q32, .string q33, .int .u32 q34, .int .u64 q35, .bool q36] 34 (0, 0)) (by (with_reducible repeat (first | refine blk_drewN ?_ _ | refine blk_drew ?_ | refine blk_alloc ?_ _)); exact BK299.out) hb)
                           have n4_ := Aside0.mk (below_step (by repeat (first | (with_reducible first | exact HB.out | apply below_alloc | apply pw_below_drewN | apply below_drew1 | refine below_set ?_ GE297.out | refine below_set ?_ GE299.out) | exact HB.out)) hb)
                           clear HO302
                           clear BK297
                           clear BK299
                           clear HB
                           have HO302 := n0_
                           have HO305 := n1_
                           have BK297 := n2_
                           have BK299 := n3_
                           have HB := n4_
                           clear n0_ n1_ n2_ n3_ n4_
                           (try clear hb)
                           (try clear hb2)
                           (try clear hk)
                           (try clear hi)
                           (try clear ho0)
                           refine hK.out _ _ ⟨(blk_cell BK297.out 0).trans rfl, (blk_cell BK297.out 1).trans rfl, (blk_cell BK297.out 2).trans rfl, (blk_cell BK297.out 3).trans rfl, (blk_cell BK297.out 4).trans rfl, (blk_cell BK297.out 5).trans rfl, (blk_cell BK297.out 6).trans rfl, (blk_cell BK299.out 0).trans rfl, (blk_cell BK299.out 1).trans rfl, (blk_cell BK299.out 2).trans rfl, (blk_cell BK299.out 3).trans rfl, (blk_cell BK299.out 4).trans rfl, (blk_cell BK299.out 5).trans rfl, (blk_cell BK299.out 6).trans rfl⟩ (fun hHeld => ?_)
                           clear hK K
                           refine norm_ (a' := ?_) ?_ ?_
                           rotate_left
                           ·show Act.put _ (some 17) _ = _
                            simp only [Act.put, List.setIfInBounds_toArray, List.set_cons_zero, List.set_cons_succ, i64_w, i32_w]
                            rfl
                           exact norm_ (by first | (simp only [putAll, Act.put, List.setIfInBounds_toArray, List.set_cons_zero, List.set_cons_succ]; done) | (simp only [putAll, Act.put, List.setIfInBounds_toArray, List.set_cons_zero, List.set_cons_succ]; rfl)) (hJ4 (v304) _ ⟨hHeld, (by (with_reducible repeat (first | apply Kd.V_alloc | apply Kd.V_drewN | apply Kd.V_drew)); exact HO302.out), (by (with_reducible repeat (first | apply Kd.V_alloc | apply Kd.V_drewN | apply Kd.V_drew)); exact HO305.out), (by (with_reducible repeat (first | refine blk_drewN ?_ _ | refine blk_drew ?_ | refine blk_alloc ?_ _)); exact BK297.out), (by (with_reducible repeat (first | refine blk_drewN ?_ _ | refine blk_drew ?_ | refine blk_alloc ?_ _)); exact BK299.out), (by repeat (first | (with_reducible first | exact HB.out | apply below_alloc | apply pw_below_drewN | apply below_drew1 | refine below_set ?_ GE297.out | refine below_set ?_ GE299.out) | exact HB.out))⟩)
                         ·skip
                          rintro v304 w28 ⟨hS_, h0_, h1_, h2_, h3_, h4_⟩
                          have n0_ : Aside0 (Kd.V (Kd.int .u8) 5 w28 w.heap.size (fun k_ => k_ ≠ gb297 ∧ k_ ≠ gb299) v301 t300) := ⟨h0_⟩
                          have n1_ : Aside0 (Kd.V (Kd.int .u8) 5 w28 w.heap.size (fun k_ => k_ ≠ gb297 ∧ k_ ≠ gb299) v304 t303) := ⟨h1_⟩
                          have n2_ : Aside0 (w28.heap[gb297]? = some (.cells #[.bool a0_0, .string a0_1, .string a0_2, .string a0_3, .int .u32 a0_4, .int .u64 a0_5, .bool a0_6] 34 (0, 0))) := ⟨h2_⟩
                          have n3_ : Aside0 (w28.heap[gb299]? = some (.cells #[.bool q30, .string q31, .string q32, .string q33, .int .u32 q34, .int .u64 q35, .bool q36] 34 (0, 0))) := ⟨h3_⟩
                          have n4_ : Aside0 (Below w.heap.size w w28) := ⟨h4_⟩
                          clear BK297
                          clear BK299
                          clear HB
                          clear h0_ h1_ h2_ h3_ h4_
                          have HO302 := n0_
                          have HO305 := n1_
                          have BK297 := n2_
                          have BK299 := n3_
                          have HB := n4_
                          clear n0_ n1_ n2_ n3_ n4_
                          have hHeld : w28.cell? ⟨gb297, 0, none⟩ = some (.bool a0_0) ∧ w28.cell? ⟨gb297, 1, none⟩ = some (.string a0_1) ∧ w28.cell? ⟨gb297, 2, none⟩ = some (.string a0_2) ∧ w28.cell? ⟨gb297, 3, none⟩ = some (.string a0_3) ∧ w28.cell? ⟨gb297, 4, none⟩ = some (.int .u32 a0_4) ∧ w28.cell? ⟨gb297, 5, none⟩ = some (.int .u64 a0_5) ∧ w28.cell? ⟨gb297, 6, none⟩ = some (.bool a0_6) ∧ w28.cell? ⟨gb299, 0, none⟩ = some (.bool q30) ∧ w28.cell? ⟨gb299, 1, none⟩ = some (.string q31) ∧ w28.cell? ⟨gb299, 2, none⟩ = some (.string q32) ∧ w28.cell? ⟨gb299, 3, none⟩ = some (.string q33) ∧ w28.cell? ⟨gb299, 4, none⟩ = some (.int .u32 q34) ∧ w28.cell? ⟨gb299, 5, none⟩ = some (.int .u64 q35) ∧ w28.cell? ⟨gb299, 6, none⟩ = some (.bool q36) := hS_
                          refine norm_ (a' := ?_) ?_ ?_
                          rotate_left
                          ·simp only [putAll, Act.put, List.setIfInBounds_toArray, List.set_cons_zero, List.set_cons_succ]
                           rfl
                          refine two_ (i := 2) (j := 5) (Ni := some 15) (Nj := some 18) #[true, true, true, true, true, false, false, false, false, false, false, false, false, false, false, false, false, false, false, false, false, false, false] #[true, true, false, true, true, true, false, false, false, false, false, false, false, false, false, false, false, false, false, false, false, false, false] rfl rfl rfl rfl (two_of HT_.out (by kernel_rfl)) (by decide) (by decide) (fun K hK => ?_) (fun K hK => ?_)
                          ·skip
                           have hcv29 := V_string (P := Tryd.prog) Tryd.underlying31 Tryd.underlying5 Tryd.underlying9 HO302.out
                           refine value_ (w1 := ?_) (v := ?_) (by rfl) rfl ?_ ?_
                           rotate_left 2
                           ·go_simp
                            constructor
                            ·rfl
                            ·rfl
                           clear hcv29
                           refine hK.out _ _ ⟨(blk_cell BK297.out 0).trans rfl, (blk_cell BK297.out 1).trans rfl, (blk_cell BK297.out 2).trans rfl, (blk_cell BK297.out 3).trans rfl, (blk_cell BK297.out 4).trans rfl, (blk_cell BK297.out 5).trans rfl, (blk_cell BK297.out 6).trans rfl, (blk_cell BK299.out 0).trans rfl, (blk_cell BK299.out 1).trans rfl, (blk_cell BK299.out 2).trans rfl, (blk_cell BK299.out 3).trans rfl, (blk_cell BK299.out 4).trans rfl, (blk_cell BK299.out 5).trans rfl, (blk_cell BK299.out 6).trans rfl⟩ (fun hHeld => ?_)
                           clear hK K
                           refine norm_ (a' := ?_) ?_ ?_
                           rotate_left
                           ·show Act.put _ (some 15) _ = _
                            simp only [Act.put, List.setIfInBounds_toArray, List.set_cons_zero, List.set_cons_succ, i64_w, i32_w]
                            rfl
                           exact norm_ (by first | (simp only [putAll, Act.put, List.setIfInBounds_toArray, List.set_cons_zero, List.set_cons_succ]; done) | (simp only [putAll, Act.put, List.setIfInBounds_toArray, List.set_cons_zero, List.set_cons_succ]; rfl)) (hJ2_4 (v304) _ ⟨hHeld, (by (with_reducible repeat (first | apply Kd.V_alloc | apply Kd.V_drewN | apply Kd.V_drew)); exact HO302.out), (by (with_reducible repeat (first | apply Kd.V_alloc | apply Kd.V_drewN | apply Kd.V_drew)); exact HO305.out), (by (with_reducible repeat (first | refine blk_drewN ?_ _ | refine blk_drew ?_ | refine blk_alloc ?_ _)); exact BK297.out), (by (with_reducible repeat (first | refine blk_drewN ?_ _ | refine blk_drew ?_ | refine blk_alloc ?_ _)); exact BK299.out), (by repeat (first | (with_reducible first | exact HB.out | apply below_alloc | apply pw_below_drewN | apply below_drew1 | refine below_set ?_ GE297.out | refine below_set ?_ GE299.out) | exact HB.out))⟩)
                          ·skip
                           have hcv29 := V_string (P := Tryd.prog) Tryd.underlying31 Tryd.underlying5 Tryd.underlying9 HO305.out
                           refine value_ (w1 := ?_) (v := ?_) (by rfl) rfl ?_ ?_
                           rotate_left 2
                           ·go_simp
                            constructor
                            ·rfl
                            ·rfl
                           clear hcv29
                           refine hK.out _ _ ⟨(blk_cell BK297.out 0).trans rfl, (blk_cell BK297.out 1).trans rfl, (blk_cell BK297.out 2).trans rfl, (blk_cell BK297.out 3).trans rfl, (blk_cell BK297.out 4).trans rfl, (blk_cell BK297.out 5).trans rfl, (blk_cell BK297.out 6).trans rfl, (blk_cell BK299.out 0).trans rfl, (blk_cell BK299.out 1).trans rfl, (blk_cell BK299.out 2).trans rfl, (blk_cell BK299.out 3).trans rfl, (blk_cell BK299.out 4).trans rfl, (blk_cell BK299.out 5).trans rfl, (blk_cell BK299.out 6).trans rfl⟩ (fun hHeld => ?_)
                           clear hK K
                           refine norm_ (a' := ?_) ?_ ?_
                           rotate_left
                           ·show Act.put _ (some 18) _ = _
                            simp only [Act.put, List.setIfInBounds_toArray, List.set_cons_zero, List.set_cons_succ, i64_w, i32_w]
                            rfl
                           exact norm_ (by first | (simp only [putAll, Act.put, List.setIfInBounds_toArray, List.set_cons_zero, List.set_cons_succ]; done) | (simp only [putAll, Act.put, List.setIfInBounds_toArray, List.set_cons_zero, List.set_cons_succ]; rfl)) (hJ4_5 (v304) _ ⟨hHeld, (by (with_reducible repeat (first | apply Kd.V_alloc | apply Kd.V_drewN | apply Kd.V_drew)); exact HO302.out), (by (with_reducible repeat (first | apply Kd.V_alloc | apply Kd.V_drewN | apply Kd.V_drew)); exact HO305.out), (by (with_reducible repeat (first | refine blk_drewN ?_ _ | refine blk_drew ?_ | refine blk_alloc ?_ _)); exact BK297.out), (by (with_reducible repeat (first | refine blk_drewN ?_ _ | refine blk_drew ?_ | refine blk_alloc ?_ _)); exact BK299.out), (by repeat (first | (with_reducible first | exact HB.out | apply below_alloc | apply pw_below_drewN | apply below_drew1 | refine below_set ?_ GE297.out | refine below_set ?_ GE299.out) | exact HB.out))⟩)
                        ·skip
                         rintro _ w28 ⟨hS_, h0_, h1_, h2_, h3_⟩
                         have n0_ : Aside0 (Kd.V (Kd.int .u8) 5 w28 w.heap.size (fun k_ => k_ ≠ gb297 ∧ k_ ≠ gb299) v301 t300) := ⟨h0_⟩
                         have n1_ : Aside0 (w28.heap[gb297]? = some (.cells #[.bool a0_0, .string a0_1, .string a0_2, .string a0_3, .int .u32 a0_4, .int .u64 a0_5, .bool a0_6] 34 (0, 0))) := ⟨h1_⟩
                         have n2_ : Aside0 (w28.heap[gb299]? = some (.cells #[.bool q30, .string q31, .string q32, .string q33, .int .u32 q34, .int .u64 q35, .bool q36] 34 (0, 0))) := ⟨h2_⟩
                         have n3_ : Aside0 (Below w.heap.size w w28) := ⟨h3_⟩
                         clear BK297
                         clear BK299
                         clear HB
                         clear h0_ h1_ h2_ h3_
                         have HO302 := n0_
                         have BK297 := n1_
                         have BK299 := n2_
                         have HB := n3_
                         clear n0_ n1_ n2_ n3_
                         have hHeld : w28.cell? ⟨gb297, 0, none⟩ = some (.bool a0_0) ∧ w28.cell? ⟨gb297, 1, none⟩ = some (.string a0_1) ∧ w28.cell? ⟨gb297, 2, none⟩ = some (.string a0_2) ∧ w28.cell? ⟨gb297, 3, none⟩ = some (.string a0_3) ∧ w28.cell? ⟨gb297, 4, none⟩ = some (.int .u32 a0_4) ∧ w28.cell? ⟨gb297, 5, none⟩ = some (.int .u64 a0_5) ∧ w28.cell? ⟨gb297, 6, none⟩ = some (.bool a0_6) ∧ w28.cell? ⟨gb299, 0, none⟩ = some (.bool q30) ∧ w28.cell? ⟨gb299, 1, none⟩ = some (.string q31) ∧ w28.cell? ⟨gb299, 2, none⟩ = some (.string q32) ∧ w28.cell? ⟨gb299, 3, none⟩ = some (.string q33) ∧ w28.cell? ⟨gb299, 4, none⟩ = some (.int .u32 q34) ∧ w28.cell? ⟨gb299, 5, none⟩ = some (.int .u64 q35) ∧ w28.cell? ⟨gb299, 6, none⟩ = some (.bool q36) := hS_
                         refine norm_ (a' := ?_) ?_ ?_
                         rotate_left
                         ·simp only [putAll, Act.put, List.setIfInBounds_toArray, List.set_cons_zero, List.set_cons_succ]
                          rfl
                         refine one_ (i := 4) (N := some 17) #[true, true, true, true, true, false, false, false, false, false, false, false, false, false, false, false, false, false, false, false, false, false, false] rfl rfl (one_of HT_.out (by kernel_rfl)) (by decide) (fun K hK => ?_)
                         refine goes_ Tryd.func10 (by kernel_rfl) rfl #[.agg #[.bool q30, .string q31, .string q32, .string q33, .int .u32 q34, .int .u64 q35, .bool q36]] (by rfl) rfl rfl (by (try simp only [List.map_toArray, List.map_cons, List.map_nil]); first | done | rfl | (simp only [List.length_drop, List.length_take]; rfl)) ?_
                         with_reducible refine (reply_Bytes.calls q30 q31 q32 q33 q34 q35 q36 t303 _ ?side1 A19.out).mono ?_
                         (case side1 => exact HLD.below (by repeat (first | (with_reducible first | exact HB.out | apply below_alloc | apply pw_below_drewN | apply below_drew1 | refine below_set ?_ GE297.out | refine below_set ?_ GE299.out) | exact HB.out)))
                         rintro e w29 ⟨v304, rfl, ho0, hb⟩
                         refine ⟨_, rfl, ?_⟩
                         have n0_ := Aside0.mk (Kd.V_below (by (with_reducible repeat (first | apply Kd.V_alloc | apply Kd.V_drewN | apply Kd.V_drew)); exact HO302.out) hb)
                         have n1_ := Aside0.mk (Kd.V_lower (Kd.V_mono (ok' := fun k_ => k_ ≠ gb297 ∧ k_ ≠ gb299) ho0 (fun k_ hk_ => ⟨(Kd.freshB (g := gb297) (o := .cells #[.bool a0_0, .string a0_1, .string a0_2, .string a0_3, .int .u32 a0_4, .int .u64 a0_5, .bool a0_6] 34 (0, 0)) (by (with_reducible repeat (first | refine blk_drewN ?_ _ | refine blk_drew ?_ | refine blk_alloc ?_ _)); exact BK297.out) k_ hk_), (Kd.freshB (g := gb299) (o := .cells #[.bool q30, .string q31, .string q32, .string q33, .int .u32 q34, .int .u64 q35, .bool q36] 34 (0, 0)) (by (with_reducible repeat (first | refine blk_drewN ?_ _ | refine blk_drew ?_ | refine blk_alloc ?_ _)); exact BK299.out) k_ hk_)⟩)) (below_size (by repeat (first | (with_reducible first | exact HB.out | apply below_alloc | apply pw_below_drewN | apply below_drew1 | refine below_set ?_ GE297.out | refine below_set ?_ GE299.out) | exact HB.out))))
                         have n2_ := Aside0.mk (blk_below (g := gb297) (o := .cells #[.bool a0_0, .string a0_1, .string a0_2, .string a0_3, .int .u32 a0_4, .int .u64 a0_5, .bool a0_6] 34 (0, 0)) (by (with_reducible repeat (first | refine blk_drewN ?_ _ | refine blk_drew ?_ | refine blk_alloc ?_ _)); exact BK297.out) hb)
                         have n3_ := Aside0.mk (blk_below (g := gb299) (o := .cells #[.bool q30, .string q31, .string q32, .string q33, .int .u32 q34, .int .u64 q35, .bool q36] 34 (0, 0)) (by (with_reducible repeat (first | refine blk_drewN ?_ _ | refine blk_drew ?_ | refine blk_alloc ?_ _)); exact BK299.out) hb)
                         have n4_ := Aside0.mk (below_step (by repeat (first | (with_reducible first | exact HB.out | apply below_alloc | apply pw_below_drewN | apply below_drew1 | refine below_set ?_ GE297.out | refine below_set ?_ GE299.out) | exact HB.out)) hb)
                         clear HO302
                         clear BK297
                         clear BK299
                         clear HB
                         have HO302 := n0_
                         have HO305 := n1_
                         have BK297 := n2_
                         have BK299 := n3_
                         have HB := n4_
                         clear n0_ n1_ n2_ n3_ n4_
                         (try clear hb)
                         (try clear hb2)
                         (try clear hk)
                         (try clear hi)
                         (try clear ho0)
                         refine hK.out _ _ ⟨(blk_cell BK297.out 0).trans rfl, (blk_cell BK297.out 1).trans rfl, (blk_cell BK297.out 2).trans rfl, (blk_cell BK297.out 3).trans rfl, (blk_cell BK297.out 4).trans rfl, (blk_cell BK297.out 5).trans rfl, (blk_cell BK297.out 6).trans rfl, (blk_cell BK299.out 0).trans rfl, (blk_cell BK299.out 1).trans rfl, (blk_cell BK299.out 2).trans rfl, (blk_cell BK299.out 3).trans rfl, (blk_cell BK299.out 4).trans rfl, (blk_cell BK299.out 5).trans rfl, (blk_cell BK299.out 6).trans rfl⟩ (fun hHeld => ?_)
                         clear hK K
                         refine norm_ (a' := ?_) ?_ ?_
                         rotate_left
                         ·show Act.put _ (some 17) _ = _
                          simp only [Act.put, List.setIfInBounds_toArray, List.set_cons_zero, List.set_cons_succ, i64_w, i32_w]
                          rfl
                         exact norm_ (by first | (simp only [putAll, Act.put, List.setIfInBounds_toArray, List.set_cons_zero, List.set_cons_succ]; done) | (simp only [putAll, Act.put, List.setIfInBounds_toArray, List.set_cons_zero, List.set_cons_succ]; rfl)) (hJ2_4 (v304) _ ⟨hHeld, (by (with_reducible repeat (first | apply Kd.V_alloc | apply Kd.V_drewN | apply Kd.V_drew)); exact HO302.out), (by (with_reducible repeat (first | apply Kd.V_alloc | apply Kd.V_drewN | apply Kd.V_drew)); exact HO305.out), (by (with_reducible repeat (first | refine blk_drewN ?_ _ | refine blk_drew ?_ | refine blk_alloc ?_ _)); exact BK297.out), (by (with_reducible repeat (first | refine blk_drewN ?_ _ | refine blk_drew ?_ | refine blk_alloc ?_ _)); exact BK299.out), (by repeat (first | (with_reducible first | exact HB.out | apply below_alloc | apply pw_below_drewN | apply below_drew1 | refine below_set ?_ GE297.out | refine below_set ?_ GE299.out) | exact HB.out))⟩)
                       ·skip
                        rintro v304 w29 ⟨hS_, h0_, h1_, h2_, h3_, h4_⟩
                        have n0_ : Aside0 (Kd.V (Kd.int .u8) 5 w29 w.heap.size (fun k_ => k_ ≠ gb297 ∧ k_ ≠ gb299) v301 t300) := ⟨h0_⟩
                        have n1_ : Aside0 (Kd.V (Kd.int .u8) 5 w29 w.heap.size (fun k_ => k_ ≠ gb297 ∧ k_ ≠ gb299) v304 t303) := ⟨h1_⟩
                        have n2_ : Aside0 (w29.heap[gb297]? = some (.cells #[.bool a0_0, .string a0_1, .string a0_2, .string a0_3, .int .u32 a0_4, .int .u64 a0_5, .bool a0_6] 34 (0, 0))) := ⟨h2_⟩
                        have n3_ : Aside0 (w29.heap[gb299]? = some (.cells #[.bool q30, .string q31, .string q32, .string q33, .int .u32 q34, .int .u64 q35, .bool q36] 34 (0, 0))) := ⟨h3_⟩
                        have n4_ : Aside0 (Below w.heap.size w w29) := ⟨h4_⟩
                        clear BK297
                        clear BK299
                        clear HB
                        clear h0_ h1_ h2_ h3_ h4_
                        have HO302 := n0_
                        have HO305 := n1_
                        have BK297 := n2_
                        have BK299 := n3_
                        have HB := n4_
                        clear n0_ n1_ n2_ n3_ n4_
                        have hHeld : w29.cell? ⟨gb297, 0, none⟩ = some (.bool a0_0) ∧ w29.cell? ⟨gb297, 1, none⟩ = some (.string a0_1) ∧ w29.cell? ⟨gb297, 2, none⟩ = some (.string a0_2) ∧ w29.cell? ⟨gb297, 3, none⟩ = some (.string a0_3) ∧ w29.cell? ⟨gb297, 4, none⟩ = some (.int .u32 a0_4) ∧ w29.cell? ⟨gb297, 5, none⟩ = some (.int .u64 a0_5) ∧ w29.cell? ⟨gb297, 6, none⟩ = some (.bool a0_6) ∧ w29.cell? ⟨gb299, 0, none⟩ = some (.bool q30) ∧ w29.cell? ⟨gb299, 1, none⟩ = some (.string q31) ∧ w29.cell? ⟨gb299, 2, none⟩ = some (.string q32) ∧ w29.cell? ⟨gb299, 3, none⟩ = some (.string q33) ∧ w29.cell? ⟨gb299, 4, none⟩ = some (.int .u32 q34) ∧ w29.cell? ⟨gb299, 5, none⟩ = some (.int .u64 q35) ∧ w29.cell? ⟨gb299, 6, none⟩ = some (.bool q36) := hS_
                        refine norm_ (a' := ?_) ?_ ?_
                        rotate_left
                        ·simp only [putAll, Act.put, List.setIfInBounds_toArray, List.set_cons_zero, List.set_cons_succ]
                         rfl
                        refine one_ (i := 2) (N := some 15) #[true, true, true, true, true, true, false, false, false, false, false, false, false, false, false, false, false, false, false, false, false, false, false] rfl rfl (one_of HT_.out (by kernel_rfl)) (by decide) (fun K hK => ?_)
                        have hcv30 := V_string (P := Tryd.prog) Tryd.underlying31 Tryd.underlying5 Tryd.underlying9 HO302.out
                        refine value_ (w1 := ?_) (v := ?_) (by rfl) rfl ?_ ?_
                        rotate_left 2
                        ·go_simp
                         constructor
                         ·rfl
                         ·rfl
                        clear hcv30
                        refine hK.out _ _ ⟨(blk_cell BK297.out 0).trans rfl, (blk_cell BK297.out 1).trans rfl, (blk_cell BK297.out 2).trans rfl, (blk_cell BK297.out 3).trans rfl, (blk_cell BK297.out 4).trans rfl, (blk_cell BK297.out 5).trans rfl, (blk_cell BK297.out 6).trans rfl, (blk_cell BK299.out 0).trans rfl, (blk_cell BK299.out 1).trans rfl, (blk_cell BK299.out 2).trans rfl, (blk_cell BK299.out 3).trans rfl, (blk_cell BK299.out 4).trans rfl, (blk_cell BK299.out 5).trans rfl, (blk_cell BK299.out 6).trans rfl⟩ (fun hHeld => ?_)
                        clear hK K
                        refine norm_ (a' := ?_) ?_ ?_
                        rotate_left
                        ·show Act.put _ (some 15) _ = _
                         simp only [Act.put, List.setIfInBounds_toArray, List.set_cons_zero, List.set_cons_succ, i64_w, i32_w]
                         rfl
                        refine pure_ (i := 6) (N := some 19) (v := ?_) (a' := ?_) #[true, true, true, true, true, true, true, false, false, false, false, false, false, false, false, false, false, false, false, false, false, false, false] rfl rfl (any_of HT_.out (by kernel_rfl)) (fun _ _ _ h => h) (Or.inl ⟨by rfl, ?_⟩) ?_ ?_
                        rotate_left
                        ·intro w'
                         go_simp
                         with_reducible rfl
                        rotate_left
                        ·simp only [Act.put, List.setIfInBounds_toArray, List.set_cons_zero, List.set_cons_succ, i64_w, i32_w]
                         rfl
                        refine pure_ (i := 7) (N := some 20) (v := ?_) (a' := ?_) #[true, true, true, true, true, true, true, true, false, false, false, false, false, false, false, false, false, false, false, false, false, false, false] rfl rfl (any_of HT_.out (by kernel_rfl)) (fun _ _ _ h => h) (Or.inl ⟨by rfl, ?_⟩) ?_ ?_
                        rotate_left
                        ·intro w'
                         go_simp
                         with_reducible rfl
                        rotate_left
                        ·simp only [Act.put, List.setIfInBounds_toArray, List.set_cons_zero, List.set_cons_succ, i64_w, i32_w]
                         rfl
                        refine take_ (i := 8) (N := some 21) (v := ?_) (a' := ?_) #[true, true, true, true, true, true, true, true, true, false, false, false, false, false, false, false, false, false, false, false, false, false, false] rfl rfl (take_ofW HT_.out HW_.out (by kernel_rfl)) (fun _ _ _ h => h) (Or.inl ⟨by rfl, ?_⟩) hHeld ?_ ?_
                        rotate_left
                        ·rintro w' ⟨s0, s1, s2, s3, s4, s5, s6, s7, s8, s9, s10, s11, s12, s13⟩
                         go_simp
                         with_reducible rfl
                        rotate_left
                        ·simp only [Act.put, List.setIfInBounds_toArray, List.set_cons_zero, List.set_cons_succ, i64_w, i32_w]
                         rfl
                        refine take_ (i := 9) (N := some 22) (v := ?_) (a' := ?_) #[true, true, true, true, true, true, true, true, true, true, false, false, false, false, false, false, false, false, false, false, false, false, false] rfl rfl (take_ofW HT_.out HW_.out (by kernel_rfl)) (fun _ _ _ h => h) (Or.inl ⟨by rfl, ?_⟩) hHeld ?_ ?_
                        rotate_left
                        ·rintro w' ⟨s0, s1, s2, s3, s4, s5, s6, s7, s8, s9, s10, s11, s12, s13⟩
                         go_simp
                         with_reducible rfl
                        rotate_left
                        ·simp only [Act.put, List.setIfInBounds_toArray, List.set_cons_zero, List.set_cons_succ, i64_w, i32_w]
                         rfl
                        refine take_ (i := 13) (N := some 26) (v := ?_) (a' := ?_) #[true, true, true, true, true, true, true, true, true, true, false, false, false, true, false, false, false, false, false, false, false, false, false] rfl rfl (take_ofW HT_.out HW_.out (by kernel_rfl)) (fun _ _ _ h => h) (Or.inl ⟨by rfl, ?_⟩) hHeld ?_ ?_
                        rotate_left
                        ·rintro w' ⟨s0, s1, s2, s3, s4, s5, s6, s7, s8, s9, s10, s11, s12, s13⟩
                         go_simp
                         with_reducible rfl
                        rotate_left
                        ·simp only [Act.put, List.setIfInBounds_toArray, List.set_cons_zero, List.set_cons_succ, i64_w, i32_w]
                         rfl
                        refine take_ (i := 16) (N := some 29) (v := ?_) (a' := ?_) #[true, true, true, true, true, true, true, true, true, true, false, false, false, true, false, false, true, false, false, false, false, false, false] rfl rfl (take_ofW HT_.out HW_.out (by kernel_rfl)) (fun _ _ _ h => h) (Or.inl ⟨by rfl, ?_⟩) hHeld ?_ ?_
                        rotate_left
                        ·rintro w' ⟨s0, s1, s2, s3, s4, s5, s6, s7, s8, s9, s10, s11, s12, s13⟩
                         go_simp
                         with_reducible rfl
                        rotate_left
                        ·simp only [Act.put, List.setIfInBounds_toArray, List.set_cons_zero, List.set_cons_succ, i64_w, i32_w]
                         rfl
                        exact norm_ (by first | (simp only [putAll, Act.put, List.setIfInBounds_toArray, List.set_cons_zero, List.set_cons_succ]; done) | (simp only [putAll, Act.put, List.setIfInBounds_toArray, List.set_cons_zero, List.set_cons_succ]; rfl)) (hJ2_4_5 (v304) _ ⟨hHeld, (by (with_reducible repeat (first | apply Kd.V_alloc | apply Kd.V_drewN | apply Kd.V_drew)); exact HO302.out), (by (with_reducible repeat (first | apply Kd.V_alloc | apply Kd.V_drewN | apply Kd.V_drew)); exact HO305.out), (by (with_reducible repeat (first | refine blk_drewN ?_ _ | refine blk_drew ?_ | refine blk_alloc ?_ _)); exact BK297.out), (by (with_reducible repeat (first | refine blk_drewN ?_ _ | refine blk_drew ?_ | refine blk_alloc ?_ _)); exact BK299.out), (by repeat (first | (with_reducible first | exact HB.out | apply below_alloc | apply pw_below_drewN | apply below_drew1 | refine below_set ?_ GE297.out | refine below_set ?_ GE299.out) | exact HB.out))⟩)
                      ·skip
                       rintro v304 w29 ⟨hS_, h0_, h1_, h2_, h3_, h4_⟩
                       have n0_ : Aside0 (Kd.V (Kd.int .u8) 5 w29 w.heap.size (fun k_ => k_ ≠ gb297 ∧ k_ ≠ gb299) v301 t300) := ⟨h0_⟩
                       have n1_ : Aside0 (Kd.V (Kd.int .u8) 5 w29 w.heap.size (fun k_ => k_ ≠ gb297 ∧ k_ ≠ gb299) v304 t303) := ⟨h1_⟩
                       have n2_ : Aside0 (w29.heap[gb297]? = some (.cells #[.bool a0_0, .string a0_1, .string a0_2, .string a0_3, .int .u32 a0_4, .int .u64 a0_5, .bool a0_6] 34 (0, 0))) := ⟨h2_⟩
                       have n3_ : Aside0 (w29.heap[gb299]? = some (.cells #[.bool q30, .string q31, .string q32, .string q33, .int .u32 q34, .int .u64 q35, .bool q36] 34 (0, 0))) := ⟨h3_⟩
                       have n4_ : Aside0 (Below w.heap.size w w29) := ⟨h4_⟩
                       clear BK297
                       clear BK299
                       clear HB
                       clear h0_ h1_ h2_ h3_ h4_
                       have HO302 := n0_
                       have HO305 := n1_
                       have BK297 := n2_
                       have BK299 := n3_
                       have HB := n4_
                       clear n0_ n1_ n2_ n3_ n4_
                       have hHeld : w29.cell? ⟨gb297, 0, none⟩ = some (.bool a0_0) ∧ w29.cell? ⟨gb297, 1, none⟩ = some (.string a0_1) ∧ w29.cell? ⟨gb297, 2, none⟩ = some (.string a0_2) ∧ w29.cell? ⟨gb297, 3, none⟩ = some (.string a0_3) ∧ w29.cell? ⟨gb297, 4, none⟩ = some (.int .u32 a0_4) ∧ w29.cell? ⟨gb297, 5, none⟩ = some (.int .u64 a0_5) ∧ w29.cell? ⟨gb297, 6, none⟩ = some (.bool a0_6) ∧ w29.cell? ⟨gb299, 0, none⟩ = some (.bool q30) ∧ w29.cell? ⟨gb299, 1, none⟩ = some (.string q31) ∧ w29.cell? ⟨gb299, 2, none⟩ = some (.string q32) ∧ w29.cell? ⟨gb299, 3, none⟩ = some (.string q33) ∧ w29.cell? ⟨gb299, 4, none⟩ = some (.int .u32 q34) ∧ w29.cell? ⟨gb299, 5, none⟩ = some (.int .u64 q35) ∧ w29.cell? ⟨gb299, 6, none⟩ = some (.bool q36) := hS_
                       refine norm_ (a' := ?_) ?_ ?_
                       rotate_left
                       ·simp only [putAll, Act.put, List.setIfInBounds_toArray, List.set_cons_zero, List.set_cons_succ]
                        rfl
                       refine one_ (i := 5) (N := some 18) #[true, true, true, true, true, true, false, false, false, false, false, false, false, false, false, false, false, false, false, false, false, false, false] rfl rfl (one_of HT_.out (by kernel_rfl)) (by decide) (fun K hK => ?_)
                       have hcv30 := V_string (P := Tryd.prog) Tryd.underlying31 Tryd.underlying5 Tryd.underlying9 HO305.out
                       refine value_ (w1 := ?_) (v := ?_) (by rfl) rfl ?_ ?_
                       rotate_left 2
                       ·go_simp
                        constructor
                        ·rfl
                        ·rfl
                       clear hcv30
                       refine hK.out _ _ ⟨(blk_cell BK297.out 0).trans rfl, (blk_cell BK297.out 1).trans rfl, (blk_cell BK297.out 2).trans rfl, (blk_cell BK297.out 3).trans rfl, (blk_cell BK297.out 4).trans rfl, (blk_cell BK297.out 5).trans rfl, (blk_cell BK297.out 6).trans rfl, (blk_cell BK299.out 0).trans rfl, (blk_cell BK299.out 1).trans rfl, (blk_cell BK299.out 2).trans rfl, (blk_cell BK299.out 3).trans rfl, (blk_cell BK299.out 4).trans rfl, (blk_cell BK299.out 5).trans rfl, (blk_cell BK299.out 6).trans rfl⟩ (fun hHeld => ?_)
                       clear hK K
                       refine norm_ (a' := ?_) ?_ ?_
                       rotate_left
                       ·show Act.put _ (some 18) _ = _
                        simp only [Act.put, List.setIfInBounds_toArray, List.set_cons_zero, List.set_cons_succ, i64_w, i32_w]
                        rfl
                       refine pure_ (i := 6) (N := some 19) (v := ?_) (a' := ?_) #[true, true, true, true, true, true, true, false, false, false, false, false, false, false, false, false, false, false, false, false, false, false, false] rfl rfl (any_of HT_.out (by kernel_rfl)) (fun _ _ _ h => h) (Or.inl ⟨by rfl, ?_⟩) ?_ ?_
                       rotate_left
                       ·intro w'
                        go_simp
                        with_reducible rfl
                       rotate_left
                       ·simp only [Act.put, List.setIfInBounds_toArray, List.set_cons_zero, List.set_cons_succ, i64_w, i32_w]
                        rfl
                       refine pure_ (i := 7) (N := some 20) (v := ?_) (a' := ?_) #[true, true, true, true, true, true, true, true, false, false, false, false, false, false, false, false, false, false, false, false, false, false, false] rfl rfl (any_of HT_.out (by kernel_rfl)) (fun _ _ _ h => h) (Or.inl ⟨by rfl, ?_⟩) ?_ ?_
                       rotate_left
                       ·intro w'
                        go_simp
                        with_reducible rfl
                       rotate_left
                       ·simp only [Act.put, List.setIfInBounds_toArray, List.set_cons_zero, List.set_cons_succ, i64_w, i32_w]
                        rfl
                       refine take_ (i := 8) (N := some 21) (v := ?_) (a' := ?_) #[true, true, true, true, true, true, true, true, true, false, false, false, false, false, false, false, false, false, false, false, false, false, false] rfl rfl (take_ofW HT_.out HW_.out (by kernel_rfl)) (fun _ _ _ h => h) (Or.inl ⟨by rfl, ?_⟩) hHeld ?_ ?_
                       rotate_left
                       ·rintro w' ⟨s0, s1, s2, s3, s4, s5, s6, s7, s8, s9, s10, s11, s12, s13⟩
                        go_simp
                        with_reducible rfl
                       rotate_left
                       ·simp only [Act.put, List.setIfInBounds_toArray, List.set_cons_zero, List.set_cons_succ, i64_w, i32_w]
                        rfl
                       refine take_ (i := 9) (N := some 22) (v := ?_) (a' := ?_) #[true, true, true, true, true, true, true, true, true, true, false, false, false, false, false, false, false, false, false, false, false, false, false] rfl rfl (take_ofW HT_.out HW_.out (by kernel_rfl)) (fun _ _ _ h => h) (Or.inl ⟨by rfl, ?_⟩) hHeld ?_ ?_
                       rotate_left
                       ·rintro w' ⟨s0, s1, s2, s3, s4, s5, s6, s7, s8, s9, s10, s11, s12, s13⟩
                        go_simp
                        with_reducible rfl
                       rotate_left
                       ·simp only [Act.put, List.setIfInBounds_toArray, List.set_cons_zero, List.set_cons_succ, i64_w, i32_w]
                        rfl
                       refine take_ (i := 13) (N := some 26) (v := ?_) (a' := ?_) #[true, true, true, true, true, true, true, true, true, true, false, false, false, true, false, false, false, false, false, false, false, false, false] rfl rfl (take_ofW HT_.out HW_.out (by kernel_rfl)) (fun _ _ _ h => h) (Or.inl ⟨by rfl, ?_⟩) hHeld ?_ ?_
                       rotate_left
                       ·rintro w' ⟨s0, s1, s2, s3, s4, s5, s6, s7, s8, s9, s10, s11, s12, s13⟩
                        go_simp
                        with_reducible rfl
                       rotate_left
                       ·simp only [Act.put, List.setIfInBounds_toArray, List.set_cons_zero, List.set_cons_succ, i64_w, i32_w]
                        rfl
                       refine take_ (i := 16) (N := some 29) (v := ?_) (a' := ?_) #[true, true, true, true, true, true, true, true, true, true, false, false, false, true, false, false, true, false, false, false, false, false, false] rfl rfl (take_ofW HT_.out HW_.out (by kernel_rfl)) (fun _ _ _ h => h) (Or.inl ⟨by rfl, ?_⟩) hHeld ?_ ?_
                       rotate_left
                       ·rintro w' ⟨s0, s1, s2, s3, s4, s5, s6, s7, s8, s9, s10, s11, s12, s13⟩
                        go_simp
                        with_reducible rfl
                       rotate_left
                       ·simp only [Act.put, List.setIfInBounds_toArray, List.set_cons_zero, List.set_cons_succ, i64_w, i32_w]
                        rfl
                       exact norm_ (by first | (simp only [putAll, Act.put, List.setIfInBounds_toArray, List.set_cons_zero, List.set_cons_succ]; done) | (simp only [putAll, Act.put, List.setIfInBounds_toArray, List.set_cons_zero, List.set_cons_succ]; rfl)) (hJ2_4_5 (v304) _ ⟨hHeld, (by (with_reducible repeat (first | apply Kd.V_alloc | apply Kd.V_drewN | apply Kd.V_drew)); exact HO302.out), (by (with_reducible repeat (first | apply Kd.V_alloc | apply Kd.V_drewN | apply Kd.V_drew)); exact HO305.out), (by (with_reducible repeat (first | refine blk_drewN ?_ _ | refine blk_drew ?_ | refine blk_alloc ?_ _)); exact BK297.out), (by (with_reducible repeat (first | refine blk_drewN ?_ _ | refine blk_drew ?_ | refine blk_alloc ?_ _)); exact BK299.out), (by repeat (first | (with_reducible first | exact HB.out | apply below_alloc | apply pw_below_drewN | apply below_drew1 | refine below_set ?_ GE297.out | refine below_set ?_ GE299.out) | exact HB.out))⟩)
                     ·skip
                      rintro v304 w30 ⟨hS_, h0_, h1_, h2_, h3_, h4_⟩
                      have n0_ : Aside0 (Kd.V (Kd.int .u8) 5 w30 w.heap.size (fun k_ => k_ ≠ gb297 ∧ k_ ≠ gb299) v301 t300) := ⟨h0_⟩
                      have n1_ : Aside0 (Kd.V (Kd.int .u8) 5 w30 w.heap.size (fun k_ => k_ ≠ gb297 ∧ k_ ≠ gb299) v304 t303) := ⟨h1_⟩
                      have n2_ : Aside0 (w30.heap[gb297]? = some (.cells #[.bool a0_0, .string a0_1, .string a0_2, .string a0_3, .int .u32 a0_4, .int .u64 a0_5, .bool a0_6] 34 (0, 0))) := ⟨h2_⟩
                      have n3_ : Aside0 (w30.heap[gb299]? = some (.cells #[.bool q30, .string q31, .string q32, .string q33, .int .u32 q34, .int .u64 q35, .bool q36] 34 (0, 0))) := ⟨h3_⟩
                      have n4_ : Aside0 (Below w.heap.size w w30) := ⟨h4_⟩
                      clear BK297
                      clear BK299
                      clear HB
                      clear h0_ h1_ h2_ h3_ h4_
                      have HO302 := n0_
                      have HO305 := n1_
                      have BK297 := n2_
                      have BK299 := n3_
                      have HB := n4_
                      clear n0_ n1_ n2_ n3_ n4_
                      have hHeld : w30.cell? ⟨gb297, 0, none⟩ = some (.bool a0_0) ∧ w30.cell? ⟨gb297, 1, none⟩ = some (.string a0_1) ∧ w30.cell? ⟨gb297, 2, none⟩ = some (.string a0_2) ∧ w30.cell? ⟨gb297, 3, none⟩ = some (.string a0_3) ∧ w30.cell? ⟨gb297, 4, none⟩ = some (.int .u32 a0_4) ∧ w30.cell? ⟨gb297, 5, none⟩ = some (.int .u64 a0_5) ∧ w30.cell? ⟨gb297, 6, none⟩ = some (.bool a0_6) ∧ w30.cell? ⟨gb299, 0, none⟩ = some (.bool q30) ∧ w30.cell? ⟨gb299, 1, none⟩ = some (.string q31) ∧ w30.cell? ⟨gb299, 2, none⟩ = some (.string q32) ∧ w30.cell? ⟨gb299, 3, none⟩ = some (.string q33) ∧ w30.cell? ⟨gb299, 4, none⟩ = some (.int .u32 q34) ∧ w30.cell? ⟨gb299, 5, none⟩ = some (.int .u64 q35) ∧ w30.cell? ⟨gb299, 6, none⟩ = some (.bool q36) := hS_
                      refine norm_ (a' := ?_) ?_ ?_
                      rotate_left
                      ·simp only [putAll, Act.put, List.setIfInBounds_toArray, List.set_cons_zero, List.set_cons_succ]
                       rfl
                      refine one_ (i := 10) (N := some 23) #[true, true, true, true, true, true, true, true, true, true, true, false, false, true, false, false, true, false, false, false, false, false, false] rfl rfl (one_of HT_.out (by kernel_rfl)) (by decide) (fun K hK => ?_)
                      refine Kd.R_lit_step k34 _ 34 ?hg (N := 23) ?hd (xs := ([(⟨a0_0, a0_1, a0_2, a0_3, a0_4, a0_5, a0_6⟩ : S34), (⟨q30, q31, q32, q33, q34, q35, q36⟩ : S34)] : List (S34))) (inner := [.bool a0_0, .string a0_1, .string a0_2, .string a0_3, .int .u32 a0_4, .int .u64 a0_5, .bool a0_6, .bool q30, .string q31, .string q32, .string q33, .int .u32 q34, .int .u64 q35, .bool q36]) (ok := fun _ => True) (okp := fun _ => True) ?hr ?hp (fun _ hk => hk) trivial (Below.refl _ _) (Nat.le_refl _) (by simp) ?_; (case hd => rfl); (case hg => rfl); (case hr => first | (go_simp; done) | (go_simp; rfl)); (case hp => exact (Reps.c7 (show Kd.M k34 _ _ _ (⟨a0_0, a0_1, a0_2, a0_3, a0_4, a0_5, a0_6⟩ : S34) [.bool a0_0, .string a0_1, .string a0_2, .string a0_3, .int .u32 a0_4, .int .u64 a0_5, .bool a0_6] from (k34_mkM _ _ _ (⟨a0_0, a0_1, a0_2, a0_3, a0_4, a0_5, a0_6⟩ : S34) )) (Reps.c7 (show Kd.M k34 _ _ _ (⟨q30, q31, q32, q33, q34, q35, q36⟩ : S34) [.bool q30, .string q31, .string q32, .string q33, .int .u32 q34, .int .u64 q35, .bool q36] from (k34_mkM _ _ _ (⟨q30, q31, q32, q33, q34, q35, q36⟩ : S34) )) (Reps.none _ _))))
                      intro v307 w31 ho32 hb hg_ hnew_
                      clear hg_ hnew_
                      (first | rw [← Ny306.out] at ho32 | (simp only [Int.reduceToNat] at ho32; rw [← Ny306.out] at ho32))
                      have n0_ := Aside0.mk (Kd.V_elder' (by (with_reducible repeat (first | apply Kd.V_alloc | apply Kd.V_drewN | apply Kd.V_drew)); exact HO302.out) (Kd.R_base ho32) hb)
                      have n1_ := Aside0.mk (Kd.V_elder' (by (with_reducible repeat (first | apply Kd.V_alloc | apply Kd.V_drewN | apply Kd.V_drew)); exact HO305.out) (Kd.R_base ho32) hb)
                      have n2_ := Aside0.mk (Kd.R_lower (Kd.R_newB (Kd.R_newB ho32 (g := gb297) (o := .cells #[.bool a0_0, .string a0_1, .string a0_2, .string a0_3, .int .u32 a0_4, .int .u64 a0_5, .bool a0_6] 34 (0, 0)) (by (with_reducible repeat (first | refine blk_drewN ?_ _ | refine blk_drew ?_ | refine blk_alloc ?_ _)); exact BK297.out)) (g := gb299) (o := .cells #[.bool q30, .string q31, .string q32, .string q33, .int .u32 q34, .int .u64 q35, .bool q36] 34 (0, 0)) (by (with_reducible repeat (first | refine blk_drewN ?_ _ | refine blk_drew ?_ | refine blk_alloc ?_ _)); exact BK299.out)) (below_size (by repeat (first | (with_reducible first | exact HB.out | apply below_alloc | apply pw_below_drewN | apply below_drew1 | refine below_set ?_ GE297.out | refine below_set ?_ GE299.out) | exact HB.out))))
                      have n3_ := Aside0.mk (blk_below (g := gb297) (o := .cells #[.bool a0_0, .string a0_1, .string a0_2, .string a0_3, .int .u32 a0_4, .int .u64 a0_5, .bool a0_6] 34 (0, 0)) (by (with_reducible repeat (first | refine blk_drewN ?_ _ | refine blk_drew ?_ | refine blk_alloc ?_ _)); exact BK297.out) hb)
                      have n4_ := Aside0.mk (blk_below (g := gb299) (o := .cells #[.bool q30, .string q31, .string q32, .string q33, .int .u32 q34, .int .u64 q35, .bool q36] 34 (0, 0)) (by (with_reducible repeat (first | refine blk_drewN ?_ _ | refine blk_drew ?_ | refine blk_alloc ?_ _)); exact BK299.out) hb)
                      have n5_ := Aside0.mk (below_step (by repeat (first | (with_reducible first | exact HB.out | apply below_alloc | apply pw_below_drewN | apply below_drew1 | refine below_set ?_ GE297.out | refine below_set ?_ GE299.out) | exact HB.out)) hb)
                      clear HO302
                      clear HO305
                      clear BK297
                      clear BK299
                      clear HB
                      have HO302 := n0_
                      have HO305 := n1_
                      have HO308 := n2_
                      have BK297 := n3_
                      have BK299 := n4_
                      have HB := n5_
                      clear n0_ n1_ n2_ n3_ n4_ n5_
                      clear hb ho32
                      refine hK.out _ _ ⟨(blk_cell BK297.out 0).trans rfl, (blk_cell BK297.out 1).trans rfl, (blk_cell BK297.out 2).trans rfl, (blk_cell BK297.out 3).trans rfl, (blk_cell BK297.out 4).trans rfl, (blk_cell BK297.out 5).trans rfl, (blk_cell BK297.out 6).trans rfl, (blk_cell BK299.out 0).trans rfl, (blk_cell BK299.out 1).trans rfl, (blk_cell BK299.out 2).trans rfl, (blk_cell BK299.out 3).trans rfl, (blk_cell BK299.out 4).trans rfl, (blk_cell BK299.out 5).trans rfl, (blk_cell BK299.out 6).trans rfl⟩ (fun hHeld => ?_)
                      clear hK K
                      refine norm_ (a' := ?_) ?_ ?_
                      rotate_left
                      ·show Act.put _ (some 23) _ = _
                       simp only [Act.put, List.setIfInBounds_toArray, List.set_cons_zero, List.set_cons_succ, i64_w, i32_w]
                       rfl
                      exact norm_ (by first | (simp only [putAll, Act.put, List.setIfInBounds_toArray, List.set_cons_zero, List.set_cons_succ]; done) | (simp only [putAll, Act.put, List.setIfInBounds_toArray, List.set_cons_zero, List.set_cons_succ]; rfl)) (hJ2_4_5_10 (v304, v307) _ ⟨hHeld, (by (with_reducible repeat (first | apply Kd.V_alloc | apply Kd.V_drewN | apply Kd.V_drew)); exact Kd.V_mono HO302.out (fun _ hk => ⟨hk.2, ⟨hk.1.1, hk.1.2⟩⟩)), (by (with_reducible repeat (first | apply Kd.V_alloc | apply Kd.V_drewN | apply Kd.V_drew)); exact Kd.V_mono HO305.out (fun _ hk => ⟨hk.2, ⟨hk.1.1, hk.1.2⟩⟩)), (by (with_reducible repeat (first | apply Kd.R_alloc | apply Kd.R_drewN | apply Kd.R_drew)); exact Kd.R_mono HO308.out (fun _ hk => ⟨hk.1.2, hk.2⟩)), (by (with_reducible repeat (first | refine blk_drewN ?_ _ | refine blk_drew ?_ | refine blk_alloc ?_ _)); exact BK297.out), (by (with_reducible repeat (first | refine blk_drewN ?_ _ | refine blk_drew ?_ | refine blk_alloc ?_ _)); exact BK299.out), (by repeat (first | (with_reducible first | exact HB.out | apply below_alloc | apply pw_below_drewN | apply below_drew1 | refine below_set ?_ GE297.out | refine below_set ?_ GE299.out) | exact HB.out))⟩)
                    ·skip
                     rintro ⟨v304, v307⟩ w32 ⟨hS_, h0_, h1_, h2_, h3_, h4_, h5_⟩
                     have n0_ : Aside0 (Kd.V (Kd.int .u8) 5 w32 w.heap.size (fun k_ => some k_ ≠ (v307 : Value).ownBlock ∧ k_ ≠ gb297 ∧ k_ ≠ gb299) v301 t300) := ⟨h0_⟩
                     have n1_ : Aside0 (Kd.V (Kd.int .u8) 5 w32 w.heap.size (fun k_ => some k_ ≠ (v307 : Value).ownBlock ∧ k_ ≠ gb297 ∧ k_ ≠ gb299) v304 t303) := ⟨h1_⟩
                     have n2_ : Aside0 (Kd.R k34 34 w32 w.heap.size (fun k_ => k_ ≠ gb297 ∧ k_ ≠ gb299) v307 y306) := ⟨h2_⟩
                     have n3_ : Aside0 (w32.heap[gb297]? = some (.cells #[.bool a0_0, .string a0_1, .string a0_2, .string a0_3, .int .u32 a0_4, .int .u64 a0_5, .bool a0_6] 34 (0, 0))) := ⟨h3_⟩
                     have n4_ : Aside0 (w32.heap[gb299]? = some (.cells #[.bool q30, .string q31, .string q32, .string q33, .int .u32 q34, .int .u64 q35, .bool q36] 34 (0, 0))) := ⟨h4_⟩
                     have n5_ : Aside0 (Below w.heap.size w w32) := ⟨h5_⟩
                     clear BK297
                     clear BK299
                     clear HB
                     clear h0_ h1_ h2_ h3_ h4_ h5_
                     have HO302 := n0_
                     have HO305 := n1_
                     have HO308 := n2_
                     have BK297 := n3_
                     have BK299 := n4_
                     have HB := n5_
                     clear n0_ n1_ n2_ n3_ n4_ n5_
                     have hHeld : w32.cell? ⟨gb297, 0, none⟩ = some (.bool a0_0) ∧ w32.cell? ⟨gb297, 1, none⟩ = some (.string a0_1) ∧ w32.cell? ⟨gb297, 2, none⟩ = some (.string a0_2) ∧ w32.cell? ⟨gb297, 3, none⟩ = some (.string a0_3) ∧ w32.cell? ⟨gb297, 4, none⟩ = some (.int .u32 a0_4) ∧ w32.cell? ⟨gb297, 5, none⟩ = some (.int .u64 a0_5) ∧ w32.cell? ⟨gb297, 6, none⟩ = some (.bool a0_6) ∧ w32.cell? ⟨gb299, 0, none⟩ = some (.bool q30) ∧ w32.cell? ⟨gb299, 1, none⟩ = some (.string q31) ∧ w32.cell? ⟨gb299, 2, none⟩ = some (.string q32) ∧ w32.cell? ⟨gb299, 3, none⟩ = some (.string q33) ∧ w32.cell? ⟨gb299, 4, none⟩ = some (.int .u32 q34) ∧ w32.cell? ⟨gb299, 5, none⟩ = some (.int .u64 q35) ∧ w32.cell? ⟨gb299, 6, none⟩ = some (.bool q36) := hS_
                     obtain ⟨Ao33, co33, eo33⟩ := Kd.R_slice HO308.out
                     (first | subst eo33 | (injection eo33 with f1_ f2_ f3_; have f4_ := f1_.symm; have f5_ := f3_.symm; clear f1_ f2_ f3_; subst f4_; subst f5_))
                     refine norm_ (a' := ?_) ?_ ?_
                     rotate_left
                     ·simp only [putAll, Act.put, List.setIfInBounds_toArray, List.set_cons_zero, List.set_cons_succ]
                      rfl
                     refine one_ (i := 11) (N := some 24) #[true, true, true, true, true, true, true, true, true, true, true, true, false, true, false, false, true, false, false, false, false, false, false] rfl rfl (one_of HT_.out (by kernel_rfl)) (by decide) (fun K hK => ?_)
                     refine goes_ Tryd.func11 (by kernel_rfl) rfl #[.slice Ao33 y306.length co33] (by rfl) rfl rfl (by (try simp only [List.map_toArray, List.map_cons, List.map_nil]); first | done | rfl | (simp only [List.length_drop, List.length_take]; rfl)) ?_
                     with_reducible refine (reply_All.calls kj3 _ _ y306 t309 _ ?side3 ?side1 ?side2 A21.out).mono ?_
                     (case side1 => repeat (first | exact (Kd.R_reads' HO308.out).2.2 | (with_reducible refine Kd.C_alloc ?_ _) | (with_reducible refine Kd.C_drewN ?_ _) | (with_reducible refine Kd.C_drew ?_)))
                     (case side2 => exact (Kd.R_reads' HO308.out).2.1)
                     (case side3 => exact HLD.below (by repeat (first | (with_reducible first | exact HB.out | apply below_alloc | apply pw_below_drewN | apply below_drew1 | refine below_set ?_ GE297.out | refine below_set ?_ GE299.out) | exact HB.out)))
                     rintro e w34 ⟨v310, rfl, ho0, hb⟩
                     refine ⟨_, rfl, ?_⟩
                     have n0_ := Aside0.mk (Kd.V_elder' (by (with_reducible repeat (first | apply Kd.V_alloc | apply Kd.V_drewN | apply Kd.V_drew)); exact HO302.out) (Kd.R_base ho0) hb)
                     have n1_ := Aside0.mk (Kd.V_elder' (by (with_reducible repeat (first | apply Kd.V_alloc | apply Kd.V_drewN | apply Kd.V_drew)); exact HO305.out) (Kd.R_base ho0) hb)
                     have n2_ := Aside0.mk (Kd.R_below (by (with_reducible repeat (first | apply Kd.R_alloc | apply Kd.R_drewN | apply Kd.R_drew)); exact HO308.out) hb)
                     have n3_ := Aside0.mk (Kd.R_lower ho0 (below_size (by repeat (first | (with_reducible first | exact HB.out | apply below_alloc | apply pw_below_drewN | apply below_drew1 | refine below_set ?_ GE297.out | refine below_set ?_ GE299.out) | exact HB.out))))
                     have n4_ := Aside0.mk (blk_below (g := gb297) (o := .cells #[.bool a0_0, .string a0_1, .string a0_2, .string a0_3, .int .u32 a0_4, .int .u64 a0_5, .bool a0_6] 34 (0, 0)) (by (with_reducible repeat (first | refine blk_drewN ?_ _ | refine blk_drew ?_ | refine blk_alloc ?_ _)); exact BK297.out) hb)
                     have n5_ := Aside0.mk (blk_below (g := gb299) (o := .cells #[.bool q30, .string q31, .string q32, .string q33, .int .u32 q34, .int .u64 q35, .bool q36] 34 (0, 0)) (by (with_reducible repeat (first | refine blk_drewN ?_ _ | refine blk_drew ?_ | refine blk_alloc ?_ _)); exact BK299.out) hb)
                     have n6_ := Aside0.mk (below_step (by repeat (first | (with_reducible first | exact HB.out | apply below_alloc | apply pw_below_drewN | apply below_drew1 | refine below_set ?_ GE297.out | refine below_set ?_ GE299.out) | exact HB.out)) hb)
                     clear HO302
                     clear HO305
                     clear HO308
                     clear BK297
                     clear BK299
                     clear HB
                     have HO302 := n0_
                     have HO305 := n1_
                     have HO308 := n2_
                     have HO311 := n3_
                     have BK297 := n4_
                     have BK299 := n5_
                     have HB := n6_
                     clear n0_ n1_ n2_ n3_ n4_ n5_ n6_
                     (try clear hb)
                     (try clear hb2)
                     (try clear hk)
                     (try clear hi)
                     (try clear ho0)
                     refine hK.out _ _ ⟨(blk_cell BK297.out 0).trans rfl, (blk_cell BK297.out 1).trans rfl, (blk_cell BK297.out 2).trans rfl, (blk_cell BK297.out 3).trans rfl, (blk_cell BK297.out 4).trans rfl, (blk_cell BK297.out 5).trans rfl, (blk_cell BK297.out 6).trans rfl, (blk_cell BK299.out 0).trans rfl, (blk_cell BK299.out 1).trans rfl, (blk_cell BK299.out 2).trans rfl, (blk_cell BK299.out 3).trans rfl, (blk_cell BK299.out 4).trans rfl, (blk_cell BK299.out 5).trans rfl, (blk_cell BK299.out 6).trans rfl⟩ (fun hHeld => ?_)
                     clear hK K
                     refine norm_ (a' := ?_) ?_ ?_
                     rotate_left
                     ·show Act.put _ (some 24) _ = _
                      simp only [Act.put, List.setIfInBounds_toArray, List.set_cons_zero, List.set_cons_succ, i64_w, i32_w]
                      rfl
                     exact norm_ (by first | (simp only [putAll, Act.put, List.setIfInBounds_toArray, List.set_cons_zero, List.set_cons_succ]; done) | (simp only [putAll, Act.put, List.setIfInBounds_toArray, List.set_cons_zero, List.set_cons_succ]; rfl)) (hJ2_4_5_10_11 (v304, .slice Ao33 y306.length co33, v310) _ ⟨hHeld, (by (with_reducible repeat (first | apply Kd.V_alloc | apply Kd.V_drewN | apply Kd.V_drew)); exact Kd.V_mono HO302.out (fun _ hk => ⟨hk.1.1, ⟨hk.2, ⟨hk.1.2.1, hk.1.2.2⟩⟩⟩)), (by (with_reducible repeat (first | apply Kd.V_alloc | apply Kd.V_drewN | apply Kd.V_drew)); exact Kd.V_mono HO305.out (fun _ hk => ⟨hk.1.1, ⟨hk.2, ⟨hk.1.2.1, hk.1.2.2⟩⟩⟩)), (by (with_reducible repeat (first | apply Kd.R_alloc | apply Kd.R_drewN | apply Kd.R_drew)); exact HO308.out), (by (with_reducible repeat (first | apply Kd.R_alloc | apply Kd.R_drewN | apply Kd.R_drew)); exact HO311.out), (by (with_reducible repeat (first | refine blk_drewN ?_ _ | refine blk_drew ?_ | refine blk_alloc ?_ _)); exact BK297.out), (by (with_reducible repeat (first | refine blk_drewN ?_ _ | refine blk_drew ?_ | refine blk_alloc ?_ _)); exact BK299.out), (by repeat (first | (with_reducible first | exact HB.out | apply below_alloc | apply pw_below_drewN | apply below_drew1 | refine below_set ?_ GE297.out | refine below_set ?_ GE299.out) | exact HB.out))⟩)
                   ·skip
                    rintro ⟨v304, v307, v310⟩ w34 ⟨hS_, h0_, h1_, h2_, h3_, h4_, h5_, h6_⟩
                    have n0_ : Aside0 (Kd.V (Kd.int .u8) 5 w34 w.heap.size (fun k_ => some k_ ≠ (v307 : Value).ownBlock ∧ some k_ ≠ (v310 : Value).ownBlock ∧ k_ ≠ gb297 ∧ k_ ≠ gb299) v301 t300) := ⟨h0_⟩
                    have n1_ : Aside0 (Kd.V (Kd.int .u8) 5 w34 w.heap.size (fun k_ => some k_ ≠ (v307 : Value).ownBlock ∧ some k_ ≠ (v310 : Value).ownBlock ∧ k_ ≠ gb297 ∧ k_ ≠ gb299) v304 t303) := ⟨h1_⟩
                    have n2_ : Aside0 (Kd.R k34 34 w34 w.heap.size (fun k_ => k_ ≠ gb297 ∧ k_ ≠ gb299) v307 y306) := ⟨h2_⟩
                    have n3_ : Aside0 (Kd.R (Kd.int .u8) 5 w34 w.heap.size (fun _ => True) v310 t309) := ⟨h3_⟩
                    have n4_ : Aside0 (w34.heap[gb297]? = some (.cells #[.bool a0_0, .string a0_1, .string a0_2, .string a0_3, .int .u32 a0_4, .int .u64 a0_5, .bool a0_6] 34 (0, 0))) := ⟨h4_⟩
                    have n5_ : Aside0 (w34.heap[gb299]? = some (.cells #[.bool q30, .string q31, .string q32, .string q33, .int .u32 q34, .int .u64 q35, .bool q36] 34 (0, 0))) := ⟨h5_⟩
                    have n6_ : Aside0 (Below w.heap.size w w34) := ⟨h6_⟩
                    clear BK297
                    clear BK299
                    clear HB
                    clear h0_ h1_ h2_ h3_ h4_ h5_ h6_
                    have HO302 := n0_
                    have HO305 := n1_
                    have HO308 := n2_
                    have HO311 := n3_
                    have BK297 := n4_
                    have BK299 := n5_
                    have HB := n6_
                    clear n0_ n1_ n2_ n3_ n4_ n5_ n6_
                    have hHeld : w34.cell? ⟨gb297, 0, none⟩ = some (.bool a0_0) ∧ w34.cell? ⟨gb297, 1, none⟩ = some (.string a0_1) ∧ w34.cell? ⟨gb297, 2, none⟩ = some (.string a0_2) ∧ w34.cell? ⟨gb297, 3, none⟩ = some (.string a0_3) ∧ w34.cell? ⟨gb297, 4, none⟩ = some (.int .u32 a0_4) ∧ w34.cell? ⟨gb297, 5, none⟩ = some (.int .u64 a0_5) ∧ w34.cell? ⟨gb297, 6, none⟩ = some (.bool a0_6) ∧ w34.cell? ⟨gb299, 0, none⟩ = some (.bool q30) ∧ w34.cell? ⟨gb299, 1, none⟩ = some (.string q31) ∧ w34.cell? ⟨gb299, 2, none⟩ = some (.string q32) ∧ w34.cell? ⟨gb299, 3, none⟩ = some (.string q33) ∧ w34.cell? ⟨gb299, 4, none⟩ = some (.int .u32 q34) ∧ w34.cell? ⟨gb299, 5, none⟩ = some (.int .u64 q35) ∧ w34.cell? ⟨gb299, 6, none⟩ = some (.bool q36) := hS_
                    refine norm_ (a' := ?_) ?_ ?_
                    rotate_left
                    ·simp only [putAll, Act.put, List.setIfInBounds_toArray, List.set_cons_zero, List.set_cons_succ]
                     rfl
                    refine two_ (i := 12) (j := 14) (Ni := some 25) (Nj := some 27) #[true, true, true, true, true, true, true, true, true, true, true, true, true, true, false, false, true, false, false, false, false, false, false] #[true, true, true, true, true, true, true, true, true, true, true, true, false, true, true, false, true, false, false, false, false, false, false] rfl rfl rfl rfl (two_of HT_.out (by kernel_rfl)) (by decide) (by decide) (fun K hK => ?_) (fun K hK => ?_)
                    ·skip
                     have hcv35 := own_string (P := Tryd.prog) Tryd.underlying31 Tryd.underlying5 Tryd.underlying9 (Kd.own_of_R HO311.out)
                     refine value_ (w1 := ?_) (v := ?_) (by rfl) rfl ?_ ?_
                     rotate_left 2
                     ·go_simp
                      constructor
                      ·rfl
                      ·rfl
                     clear hcv35
                     refine hK.out _ _ ⟨(blk_cell BK297.out 0).trans rfl, (blk_cell BK297.out 1).trans rfl, (blk_cell BK297.out 2).trans rfl, (blk_cell BK297.out 3).trans rfl, (blk_cell BK297.out 4).trans rfl, (blk_cell BK297.out 5).trans rfl, (blk_cell BK297.out 6).trans rfl, (blk_cell BK299.out 0).trans rfl, (blk_cell BK299.out 1).trans rfl, (blk_cell BK299.out 2).trans rfl, (blk_cell BK299.out 3).trans rfl, (blk_cell BK299.out 4).trans rfl, (blk_cell BK299.out 5).trans rfl, (blk_cell BK299.out 6).trans rfl⟩ (fun hHeld => ?_)
                     clear hK K
                     refine norm_ (a' := ?_) ?_ ?_
                     rotate_left
                     ·show Act.put _ (some 25) _ = _
                      simp only [Act.put, List.setIfInBounds_toArray, List.set_cons_zero, List.set_cons_succ, i64_w, i32_w]
                      rfl
                     exact norm_ (by first | (simp only [putAll, Act.put, List.setIfInBounds_toArray, List.set_cons_zero, List.set_cons_succ]; done) | (simp only [putAll, Act.put, List.setIfInBounds_toArray, List.set_cons_zero, List.set_cons_succ]; rfl)) (hJ2_4_5_10_11_12 (v304, v307, v310) _ ⟨hHeld, (by (with_reducible repeat (first | apply Kd.V_alloc | apply Kd.V_drewN | apply Kd.V_drew)); exact HO302.out), (by (with_reducible repeat (first | apply Kd.V_alloc | apply Kd.V_drewN | apply Kd.V_drew)); exact HO305.out), (by (with_reducible repeat (first | apply Kd.R_alloc | apply Kd.R_drewN | apply Kd.R_drew)); exact HO308.out), (by (with_reducible repeat (first | apply Kd.R_alloc | apply Kd.R_drewN | apply Kd.R_drew)); exact HO311.out), (by (with_reducible repeat (first | refine blk_drewN ?_ _ | refine blk_drew ?_ | refine blk_alloc ?_ _)); exact BK297.out), (by (with_reducible repeat (first | refine blk_drewN ?_ _ | refine blk_drew ?_ | refine blk_alloc ?_ _)); exact BK299.out), (by repeat (first | (with_reducible first | exact HB.out | apply below_alloc | apply pw_below_drewN | apply below_drew1 | refine below_set ?_ GE297.out | refine below_set ?_ GE299.out) | exact HB.out))⟩)
                    ·skip
                     refine goes_ Tryd.func10 (by kernel_rfl) rfl #[.agg #[.bool a0_0, .string a0_1, .string a0_2, .string a0_3, .int .u32 a0_4, .int .u64 a0_5, .bool a0_6]] (by rfl) rfl rfl (by (try simp only [List.map_toArray, List.map_cons, List.map_nil]); first | done | rfl | (simp only [List.length_drop, List.length_take]; rfl)) ?_
                     with_reducible refine (reply_Bytes.calls a0_0 a0_1 a0_2 a0_3 a0_4 a0_5 a0_6 t312 _ ?side1 A22.out).mono ?_
                     (case side1 => exact HLD.below (by repeat (first | (with_reducible first | exact HB.out | apply below_alloc | apply pw_below_drewN | apply below_drew1 | refine below_set ?_ GE297.out | refine below_set ?_ GE299.out) | exact HB.out)))
                     rintro e w35 ⟨v313, rfl, ho0, hb⟩
                     refine ⟨_, rfl, ?_⟩
                     have n0_ := Aside0.mk (Kd.V_below (by (with_reducible repeat (first | apply Kd.V_alloc | apply Kd.V_drewN | apply Kd.V_drew)); exact HO302.out) hb)
                     have n1_ := Aside0.mk (Kd.V_below (by (with_reducible repeat (first | apply Kd.V_alloc | apply Kd.V_drewN | apply Kd.V_drew)); exact HO305.out) hb)
                     have n2_ := Aside0.mk (Kd.R_below (by (with_reducible repeat (first | apply Kd.R_alloc | apply Kd.R_drewN | apply Kd.R_drew)); exact HO308.out) hb)
                     have n3_ := Aside0.mk (Kd.R_below (by (with_reducible repeat (first | apply Kd.R_alloc | apply Kd.R_drewN | apply Kd.R_drew)); exact HO311.out) hb)
                     have n4_ := Aside0.mk (Kd.V_lower (Kd.V_mono (ok' := fun k_ => some k_ ≠ (v307 : Value).ownBlock ∧ some k_ ≠ (v310 : Value).ownBlock ∧ k_ ≠ gb297 ∧ k_ ≠ gb299) ho0 (fun k_ hk_ => ⟨(Kd.fresh' (Kd.R_lt (by (with_reducible repeat (first | apply Kd.R_alloc | apply Kd.R_drewN | apply Kd.R_drew)); exact HO308.out)) k_ hk_), (Kd.fresh' (Kd.R_lt (by (with_reducible repeat (first | apply Kd.R_alloc | apply Kd.R_drewN | apply Kd.R_drew)); exact HO311.out)) k_ hk_), (Kd.freshB (g := gb297) (o := .cells #[.bool a0_0, .string a0_1, .string a0_2, .string a0_3, .int .u32 a0_4, .int .u64 a0_5, .bool a0_6] 34 (0, 0)) (by (with_reducible repeat (first | refine blk_drewN ?_ _ | refine blk_drew ?_ | refine blk_alloc ?_ _)); exact BK297.out) k_ hk_), (Kd.freshB (g := gb299) (o := .cells #[.bool q30, .string q31, .string q32, .string q33, .int .u32 q34, .int .u64 q35, .bool q36] 34 (0, 0)) (by (with_reducible repeat (first | refine blk_drewN ?_ _ | refine blk_drew ?_ | refine blk_alloc ?_ _)); exact BK299.out) k_ hk_)⟩)) (below_size (by repeat (first | (with_reducible first | exact HB.out | apply below_alloc | apply pw_below_drewN | apply below_drew1 | refine below_set ?_ GE297.out | refine below_set ?_ GE299.out) | exact HB.out))))
                     have n5_ := Aside0.mk (blk_below (g := gb297) (o := .cells #[.bool a0_0, .string a0_1, .string a0_2, .string a0_3, .int .u32 a0_4, .int .u64 a0_5, .bool a0_6] 34 (0, 0)) (by (with_reducible repeat (first | refine blk_drewN ?_ _ | refine blk_drew ?_ | refine blk_alloc ?_ _)); exact BK297.out) hb)
                     have n6_ := Aside0.mk (blk_below (g := gb299) (o := .cells #[.bool q30, .string q31, .string q32, .string q33, .int .u32 q34, .int .u64 q35, .bool q36] 34 (0, 0)) (by (with_reducible repeat (first | refine blk_drewN ?_ _ | refine blk_drew ?_ | refine blk_alloc ?_ _)); exact BK299.out) hb)
                     have n7_ := Aside0.mk (below_step (by repeat (first | (with_reducible first | exact HB.out | apply below_alloc | apply pw_below_drewN | apply below_drew1 | refine below_set ?_ GE297.out | refine below_set ?_ GE299.out) | exact HB.out)) hb)
                     clear HO302
                     clear HO305
                     clear HO308
                     clear HO311
                     clear BK297
                     clear BK299
                     clear HB
                     have HO302 := n0_
                     have HO305 := n1_
                     have HO308 := n2_
                     have HO311 := n3_
                     have HO314 := n4_
                     have BK297 := n5_
                     have BK299 := n6_
                     have HB := n7_
                     clear n0_ n1_ n2_ n3_ n4_ n5_ n6_ n7_
                     (try clear hb)
                     (try clear hb2)
                     (try clear hk)
                     (try clear hi)
                     (try clear ho0)
                     refine hK.out _ _ ⟨(blk_cell BK297.out 0).trans rfl, (blk_cell BK297.out 1).trans rfl, (blk_cell BK297.out 2).trans rfl, (blk_cell BK297.out 3).trans rfl, (blk_cell BK297.out 4).trans rfl, (blk_cell BK297.out 5).trans rfl, (blk_cell BK297.out 6).trans rfl, (blk_cell BK299.out 0).trans rfl, (blk_cell BK299.out 1).trans rfl, (blk_cell BK299.out 2).trans rfl, (blk_cell BK299.out 3).trans rfl, (blk_cell BK299.out 4).trans rfl, (blk_cell BK299.out 5).trans rfl, (blk_cell BK299.out 6).trans rfl⟩ (fun hHeld => ?_)
                     clear hK K
                     refine norm_ (a' := ?_) ?_ ?_
                     rotate_left
                     ·show Act.put _ (some 27) _ = _
                      simp only [Act.put, List.setIfInBounds_toArray, List.set_cons_zero, List.set_cons_succ, i64_w, i32_w]
                      rfl
                     exact norm_ (by first | (simp only [putAll, Act.put, List.setIfInBounds_toArray, List.set_cons_zero, List.set_cons_succ]; done) | (simp only [putAll, Act.put, List.setIfInBounds_toArray, List.set_cons_zero, List.set_cons_succ]; rfl)) (hJ2_4_5_10_11_14 (v304, v307, v310, v313) _ ⟨hHeld, (by (with_reducible repeat (first | apply Kd.V_alloc | apply Kd.V_drewN | apply Kd.V_drew)); exact HO302.out), (by (with_reducible repeat (first | apply Kd.V_alloc | apply Kd.V_drewN | apply Kd.V_drew)); exact HO305.out), (by (with_reducible repeat (first | apply Kd.R_alloc | apply Kd.R_drewN | apply Kd.R_drew)); exact HO308.out), (by (with_reducible repeat (first | apply Kd.R_alloc | apply Kd.R_drewN | apply Kd.R_drew)); exact HO311.out), (by (with_reducible repeat (first | apply Kd.V_alloc | apply Kd.V_drewN | apply Kd.V_drew)); exact HO314.out), (by (with_reducible repeat (first | refine blk_drewN ?_ _ | refine blk_drew ?_ | refine blk_alloc ?_ _)); exact BK297.out), (by (with_reducible repeat (first | refine blk_drewN ?_ _ | refine blk_drew ?_ | refine blk_alloc ?_ _)); exact BK299.out), (by repeat (first | (with_reducible first | exact HB.out | apply below_alloc | apply pw_below_drewN | apply below_drew1 | refine below_set ?_ GE297.out | refine below_set ?_ GE299.out) | exact HB.out))⟩)
                  ·skip
                   rintro ⟨v304, v307, v310, v313⟩ w35 ⟨hS_, h0_, h1_, h2_, h3_, h4_, h5_, h6_, h7_⟩
                   have n0_ : Aside0 (Kd.V (Kd.int .u8) 5 w35 w.heap.size (fun k_ => some k_ ≠ (v307 : Value).ownBlock ∧ some k_ ≠ (v310 : Value).ownBlock ∧ k_ ≠ gb297 ∧ k_ ≠ gb299) v301 t300) := ⟨h0_⟩
                   have n1_ : Aside0 (Kd.V (Kd.int .u8) 5 w35 w.heap.size (fun k_ => some k_ ≠ (v307 : Value).ownBlock ∧ some k_ ≠ (v310 : Value).ownBlock ∧ k_ ≠ gb297 ∧ k_ ≠ gb299) v304 t303) := ⟨h1_⟩
                   have n2_ : Aside0 (Kd.R k34 34 w35 w.heap.size (fun k_ => k_ ≠ gb297 ∧ k_ ≠ gb299) v307 y306) := ⟨h2_⟩
                   have n3_ : Aside0 (Kd.R (Kd.int .u8) 5 w35 w.heap.size (fun _ => True) v310 t309) := ⟨h3_⟩
                   have n4_ : Aside0 (Kd.V (Kd.int .u8) 5 w35 w.heap.size (fun k_ => some k_ ≠ (v307 : Value).ownBlock ∧ some k_ ≠ (v310 : Value).ownBlock ∧ k_ ≠ gb297 ∧ k_ ≠ gb299) v313 t312) := ⟨h4_⟩
                   have n5_ : Aside0 (w35.heap[gb297]? = some (.cells #[.bool a0_0, .string a0_1, .string a0_2, .string a0_3, .int .u32 a0_4, .int .u64 a0_5, .bool a0_6] 34 (0, 0))) := ⟨h5_⟩
                   have n6_ : Aside0 (w35.heap[gb299]? = some (.cells #[.bool q30, .string q31, .string q32, .string q33, .int .u32 q34, .int .u64 q35, .bool q36] 34 (0, 0))) := ⟨h6_⟩
                   have n7_ : Aside0 (Below w.heap.size w w35) := ⟨h7_⟩
                   clear BK297
                   clear BK299
                   clear HB
                   clear h0_ h1_ h2_ h3_ h4_ h5_ h6_ h7_
                   have HO302 := n0_
                   have HO305 := n1_
                   have HO308 := n2_
                   have HO311 := n3_
                   have HO314 := n4_
                   have BK297 := n5_
                   have BK299 := n6_
                   have HB := n7_
                   clear n0_ n1_ n2_ n3_ n4_ n5_ n6_ n7_
                   have hHeld : w35.cell? ⟨gb297, 0, none⟩ = some (.bool a0_0) ∧ w35.cell? ⟨gb297, 1, none⟩ = some (.string a0_1) ∧ w35.cell? ⟨gb297, 2, none⟩ = some (.string a0_2) ∧ w35.cell? ⟨gb297, 3, none⟩ = some (.string a0_3) ∧ w35.cell? ⟨gb297, 4, none⟩ = some (.int .u32 a0_4) ∧ w35.cell? ⟨gb297, 5, none⟩ = some (.int .u64 a0_5) ∧ w35.cell? ⟨gb297, 6, none⟩ = some (.bool a0_6) ∧ w35.cell? ⟨gb299, 0, none⟩ = some (.bool q30) ∧ w35.cell? ⟨gb299, 1, none⟩ = some (.string q31) ∧ w35.cell? ⟨gb299, 2, none⟩ = some (.string q32) ∧ w35.cell? ⟨gb299, 3, none⟩ = some (.string q33) ∧ w35.cell? ⟨gb299, 4, none⟩ = some (.int .u32 q34) ∧ w35.cell? ⟨gb299, 5, none⟩ = some (.int .u64 q35) ∧ w35.cell? ⟨gb299, 6, none⟩ = some (.bool q36) := hS_
                   refine norm_ (a' := ?_) ?_ ?_
                   rotate_left
                   ·simp only [putAll, Act.put, List.setIfInBounds_toArray, List.set_cons_zero, List.set_cons_succ]
                    rfl
                   refine three_ (i := 12) (j := 15) (k := 17) (Ni := some 25) (Nj := some 28) (Nk := some 30) #[true, true, true, true, true, true, true, true, true, true, true, true, true, true, true, false, true, false, false, false, false, false, false] #[true, true, true, true, true, true, true, true, true, true, true, true, false, true, true, true, true, false, false, false, false, false, false] #[true, true, true, true, true, true, true, true, true, true, true, true, false, true, true, false, true, true, false, false, false, false, false] rfl rfl rfl rfl rfl rfl (three_of HT_.out (by kernel_rfl)) (by decide) (by decide) (by decide) (fun K hK => ?_) (fun K hK => ?_) (fun K hK => ?_)
                   ·skip
                    have hcv36 := own_string (P := Tryd.prog) Tryd.underlying31 Tryd.underlying5 Tryd.underlying9 (Kd.own_of_R HO311.out)
                    refine value_ (w1 := ?_) (v := ?_) (by rfl) rfl ?_ ?_
                    rotate_left 2
                    ·go_simp
                     constructor
                     ·rfl
                     ·rfl
                    clear hcv36
                    refine hK.out _ _ ⟨(blk_cell BK297.out 0).trans rfl, (blk_cell BK297.out 1).trans rfl, (blk_cell BK297.out 2).trans rfl, (blk_cell BK297.out 3).trans rfl, (blk_cell BK297.out 4).trans rfl, (blk_cell BK297.out 5).trans rfl, (blk_cell BK297.out 6).trans rfl, (blk_cell BK299.out 0).trans rfl, (blk_cell BK299.out 1).trans rfl, (blk_cell BK299.out 2).trans rfl, (blk_cell BK299.out 3).trans rfl, (blk_cell BK299.out 4).trans rfl, (blk_cell BK299.out 5).trans rfl, (blk_cell BK299.out 6).trans rfl⟩ (fun hHeld => ?_)
                    clear hK K
                    refine norm_ (a' := ?_) ?_ ?_
                    rotate_left
                    ·show Act.put _ (some 25) _ = _
                     simp only [Act.put, List.setIfInBounds_toArray, List.set_cons_zero, List.set_cons_succ, i64_w, i32_w]
                     rfl
                    exact norm_ (by first | (simp only [putAll, Act.put, List.setIfInBounds_toArray, List.set_cons_zero, List.set_cons_succ]; done) | (simp only [putAll, Act.put, List.setIfInBounds_toArray, List.set_cons_zero, List.set_cons_succ]; rfl)) (hJ2_4_5_10_11_12_14 (v304, v307, v310, v313) _ ⟨hHeld, (by (with_reducible repeat (first | apply Kd.V_alloc | apply Kd.V_drewN | apply Kd.V_drew)); exact HO302.out), (by (with_reducible repeat (first | apply Kd.V_alloc | apply Kd.V_drewN | apply Kd.V_drew)); exact HO305.out), (by (with_reducible repeat (first | apply Kd.R_alloc | apply Kd.R_drewN | apply Kd.R_drew)); exact HO308.out), (by (with_reducible repeat (first | apply Kd.R_alloc | apply Kd.R_drewN | apply Kd.R_drew)); exact HO311.out), (by (with_reducible repeat (first | apply Kd.V_alloc | apply Kd.V_drewN | apply Kd.V_drew)); exact HO314.out), (by (with_reducible repeat (first | refine blk_drewN ?_ _ | refine blk_drew ?_ | refine blk_alloc ?_ _)); exact BK297.out), (by (with_reducible repeat (first | refine blk_drewN ?_ _ | refine blk_drew ?_ | refine blk_alloc ?_ _)); exact BK299.out), (by repeat (first | (with_reducible first | exact HB.out | apply below_alloc | apply pw_below_drewN | apply below_drew1 | refine below_set ?_ GE297.out | refine below_set ?_ GE299.out) | exact HB.out))⟩)
                   ·skip
                    have hcv36 := V_string (P := Tryd.prog) Tryd.underlying31 Tryd.underlying5 Tryd.underlying9 HO314.out
                    refine value_ (w1 := ?_) (v := ?_) (by rfl) rfl ?_ ?_
                    rotate_left 2
                    ·go_simp
                     constructor
                     ·rfl
                     ·rfl
                    clear hcv36
                    refine hK.out _ _ ⟨(blk_cell BK297.out 0).trans rfl, (blk_cell BK297.out 1).trans rfl, (blk_cell BK297.out 2).trans rfl, (blk_cell BK297.out 3).trans rfl, (blk_cell BK297.out 4).trans rfl, (blk_cell BK297.out 5).trans rfl, (blk_cell BK297.out 6).trans rfl, (blk_cell BK299.out 0).trans rfl, (blk_cell BK299.out 1).trans rfl, (blk_cell BK299.out 2).trans rfl, (blk_cell BK299.out 3).trans rfl, (blk_cell BK299.out 4).trans rfl, (blk_cell BK299.out 5).trans rfl, (blk_cell BK299.out 6).trans rfl⟩ (fun hHeld => ?_)
                    clear hK K
                    refine norm_ (a' := ?_) ?_ ?_
                    rotate_left
                    ·show Act.put _ (some 28) _ = _
                     simp only [Act.put, List.setIfInBounds_toArray, List.set_cons_zero, List.set_cons_succ, i64_w, i32_w]
                     rfl
                    exact norm_ (by first | (simp only [putAll, Act.put, List.setIfInBounds_toArray, List.set_cons_zero, List.set_cons_succ]; done) | (simp only [putAll, Act.put, List.setIfInBounds_toArray, List.set_cons_zero, List.set_cons_succ]; rfl)) (hJ2_4_5_10_11_14_15 (v304, v307, v310, v313) _ ⟨hHeld, (by (with_reducible repeat (first | apply Kd.V_alloc | apply Kd.V_drewN | apply Kd.V_drew)); exact HO302.out), (by (with_reducible repeat (first | apply Kd.V_alloc | apply Kd.V_drewN | apply Kd.V_drew)); exact HO305.out), (by (with_reducible repeat (first | apply Kd.R_alloc | apply Kd.R_drewN | apply Kd.R_drew)); exact HO308.out), (by (with_reducible repeat (first | apply Kd.R_alloc | apply Kd.R_drewN | apply Kd.R_drew)); exact HO311.out), (by (with_reducible repeat (first | apply Kd.V_alloc | apply Kd.V_drewN | apply Kd.V_drew)); exact HO314.out), (by (with_reducible repeat (first | refine blk_drewN ?_ _ | refine blk_drew ?_ | refine blk_alloc ?_ _)); exact BK297.out), (by (with_reducible repeat (first | refine blk_drewN ?_ _ | refine blk_drew ?_ | refine blk_alloc ?_ _)); exact BK299.out), (by repeat (first | (with_reducible first | exact HB.out | apply below_alloc | apply pw_below_drewN | apply below_drew1 | refine below_set ?_ GE297.out | refine below_set ?_ GE299.out) | exact HB.out))⟩)
                   ·skip
                    refine goes_ Tryd.func10 (by kernel_rfl) rfl #[.agg #[.bool q30, .string q31, .string q32, .string q33, .int .u32 q34, .int .u64 q35, .bool q36]] (by rfl) rfl rfl (by (try simp only [List.map_toArray, List.map_cons, List.map_nil]); first | done | rfl | (simp only [List.length_drop, List.length_take]; rfl)) ?_
                    with_reducible refine (reply_Bytes.calls q30 q31 q32 q33 q34 q35 q36 t315 _ ?side1 A23.out).mono ?_
                    (case side1 => exact HLD.below (by repeat (first | (with_reducible first | exact HB.out | apply below_alloc | apply pw_below_drewN | apply below_drew1 | refine below_set ?_ GE297.out | refine below_set ?_ GE299.out) | exact HB.out)))
                    rintro e w36 ⟨v316, rfl, ho0, hb⟩
                    refine ⟨_, rfl, ?_⟩
                    have n0_ := Aside0.mk (Kd.V_below (by (with_reducible repeat (first | apply Kd.V_alloc | apply Kd.V_drewN | apply Kd.V_drew)); exact HO302.out) hb)
                    have n1_ := Aside0.mk (Kd.V_below (by (with_reducible repeat (first | apply Kd.V_alloc | apply Kd.V_drewN | apply Kd.V_drew)); exact HO305.out) hb)
                    have n2_ := Aside0.mk (Kd.R_below (by (with_reducible repeat (first | apply Kd.R_alloc | apply Kd.R_drewN | apply Kd.R_drew)); exact HO308.out) hb)
                    have n3_ := Aside0.mk (Kd.R_below (by (with_reducible repeat (first | apply Kd.R_alloc | apply Kd.R_drewN | apply Kd.R_drew)); exact HO311.out) hb)
                    have n4_ := Aside0.mk (Kd.V_below (by (with_reducible repeat (first | apply Kd.V_alloc | apply Kd.V_drewN | apply Kd.V_drew)); exact HO314.out) hb)
                    have n5_ := Aside0.mk (Kd.V_lower (Kd.V_mono (ok' := fun k_ => some k_ ≠ (v307 : Value).ownBlock ∧ some k_ ≠ (v310 : Value).ownBlock ∧ k_ ≠ gb297 ∧ k_ ≠ gb299) ho0 (fun k_ hk_ => ⟨(Kd.fresh' (Kd.R_lt (by (with_reducible repeat (first | apply Kd.R_alloc | apply Kd.R_drewN | apply Kd.R_drew)); exact HO308.out)) k_ hk_), (Kd.fresh' (Kd.R_lt (by (with_reducible repeat (first | apply Kd.R_alloc | apply Kd.R_drewN | apply Kd.R_drew)); exact HO311.out)) k_ hk_), (Kd.freshB (g := gb297) (o := .cells #[.bool a0_0, .string a0_1, .string a0_2, .string a0_3, .int .u32 a0_4, .int .u64 a0_5, .bool a0_6] 34 (0, 0)) (by (with_reducible repeat (first | refine blk_drewN ?_ _ | refine blk_drew ?_ | refine blk_alloc ?_ _)); exact BK297.out) k_ hk_), (Kd.freshB (g := gb299) (o := .cells #[.bool q30, .string q31, .string q32, .string q33, .int .u32 q34, .int .u64 q35, .bool q36] 34 (0, 0)) (by (with_reducible repeat (first | refine blk_drewN ?_ _ | refine blk_drew ?_ | refine blk_alloc ?_ _)); exact BK299.out) k_ hk_)⟩)) (below_size (by repeat (first | (with_reducible first | exact HB.out | apply below_alloc | apply pw_below_drewN | apply below_drew1 | refine below_set ?_ GE297.out | refine below_set ?_ GE299.out) | exact HB.out))))
                    have n6_ := Aside0.mk (blk_below (g := gb297) (o := .cells #[.bool a0_0, .string a0_1, .string a0_2, .string a0_3, .int .u32 a0_4, .int .u64 a0_5, .bool a0_6] 34 (0, 0)) (by (with_reducible repeat (first | refine blk_drewN ?_ _ | refine blk_drew ?_ | refine blk_alloc ?_ _)); exact BK297.out) hb)
                    have n7_ := Aside0.mk (blk_below (g := gb299) (o := .cells #[.bool q30, .string q31, .string q32, .string q33, .int .u32 q34, .int .u64 q35, .bool q36] 34 (0, 0)) (by (with_reducible repeat (first | refine blk_drewN ?_ _ | refine blk_drew ?_ | refine blk_alloc ?_ _)); exact BK299.out) hb)
                    have n8_ := Aside0.mk (below_step (by repeat (first | (with_reducible first | exact HB.out | apply below_alloc | apply pw_below_drewN | apply below_drew1 | refine below_set ?_ GE297.out | refine below_set ?_ GE299.out) | exact HB.out)) hb)
                    clear HO302
                    clear HO305
                    clear HO308
                    clear HO311
                    clear HO314
                    clear BK297
                    clear BK299
                    clear HB
                    have HO302 := n0_
                    have HO305 := n1_
                    have HO308 := n2_
                    have HO311 := n3_
                    have HO314 := n4_
                    have HO317 := n5_
                    have BK297 := n6_
                    have BK299 := n7_
                    have HB := n8_
                    clear n0_ n1_ n2_ n3_ n4_ n5_ n6_ n7_ n8_
                    (try clear hb)
                    (try clear hb2)
                    (try clear hk)
                    (try clear hi)
                    (try clear ho0)
                    refine hK.out _ _ ⟨(blk_cell BK297.out 0).trans rfl, (blk_cell BK297.out 1).trans rfl, (blk_cell BK297.out 2).trans rfl, (blk_cell BK297.out 3).trans rfl, (blk_cell BK297.out 4).trans rfl, (blk_cell BK297.out 5).trans rfl, (blk_cell BK297.out 6).trans rfl, (blk_cell BK299.out 0).trans rfl, (blk_cell BK299.out 1).trans rfl, (blk_cell BK299.out 2).trans rfl, (blk_cell BK299.out 3).trans rfl, (blk_cell BK299.out 4).trans rfl, (blk_cell BK299.out 5).trans rfl, (blk_cell BK299.out 6).trans rfl⟩ (fun hHeld => ?_)
                    clear hK K
                    refine norm_ (a' := ?_) ?_ ?_
                    rotate_left
                    ·show Act.put _ (some 30) _ = _
                     simp only [Act.put, List.setIfInBounds_toArray, List.set_cons_zero, List.set_cons_succ, i64_w, i32_w]
                     rfl
                    exact norm_ (by first | (simp only [putAll, Act.put, List.setIfInBounds_toArray, List.set_cons_zero, List.set_cons_succ]; done) | (simp only [putAll, Act.put, List.setIfInBounds_toArray, List.set_cons_zero, List.set_cons_succ]; rfl)) (hJ2_4_5_10_11_14_17 (v304, v307, v310, v313, v316) _ ⟨hHeld, (by (with_reducible repeat (first | apply Kd.V_alloc | apply Kd.V_drewN | apply Kd.V_drew)); exact HO302.out), (by (with_reducible repeat (first | apply Kd.V_alloc | apply Kd.V_drewN | apply Kd.V_drew)); exact HO305.out), (by (with_reducible repeat (first | apply Kd.R_alloc | apply Kd.R_drewN | apply Kd.R_drew)); exact HO308.out), (by (with_reducible repeat (first | apply Kd.R_alloc | apply Kd.R_drewN | apply Kd.R_drew)); exact HO311.out), (by (with_reducible repeat (first | apply Kd.V_alloc | apply Kd.V_drewN | apply Kd.V_drew)); exact HO314.out), (by (with_reducible repeat (first | apply Kd.V_alloc | apply Kd.V_drewN | apply Kd.V_drew)); exact HO317.out), (by (with_reducible repeat (first | refine blk_drewN ?_ _ | refine blk_drew ?_ | refine blk_alloc ?_ _)); exact BK297.out), (by (with_reducible repeat (first | refine blk_drewN ?_ _ | refine blk_drew ?_ | refine blk_alloc ?_ _)); exact BK299.out), (by repeat (first | (with_reducible first | exact HB.out | apply below_alloc | apply pw_below_drewN | apply below_drew1 | refine below_set ?_ GE297.out | refine below_set ?_ GE299.out) | exact HB.out))⟩)
                 ·skip
                  rintro ⟨v304, v307, v310⟩ w35 ⟨hS_, h0_, h1_, h2_, h3_, h4_, h5_, h6_⟩
                  have n0_ : Aside0 (Kd.V (Kd.int .u8) 5 w35 w.heap.size (fun k_ => some k_ ≠ (v307 : Value).ownBlock ∧ some k_ ≠ (v310 : Value).ownBlock ∧ k_ ≠ gb297 ∧ k_ ≠ gb299) v301 t300) := ⟨h0_⟩
                  have n1_ : Aside0 (Kd.V (Kd.int .u8) 5 w35 w.heap.size (fun k_ => some k_ ≠ (v307 : Value).ownBlock ∧ some k_ ≠ (v310 : Value).ownBlock ∧ k_ ≠ gb297 ∧ k_ ≠ gb299) v304 t303) := ⟨h1_⟩
                  have n2_ : Aside0 (Kd.R k34 34 w35 w.heap.size (fun k_ => k_ ≠ gb297 ∧ k_ ≠ gb299) v307 y306) := ⟨h2_⟩
                  have n3_ : Aside0 (Kd.R (Kd.int .u8) 5 w35 w.heap.size (fun _ => True) v310 t309) := ⟨h3_⟩
                  have n4_ : Aside0 (w35.heap[gb297]? = some (.cells #[.bool a0_0, .string a0_1, .string a0_2, .string a0_3, .int .u32 a0_4, .int .u64 a0_5, .bool a0_6] 34 (0, 0))) := ⟨h4_⟩
                  have n5_ : Aside0 (w35.heap[gb299]? = some (.cells #[.bool q30, .string q31, .string q32, .string q33, .int .u32 q34, .int .u64 q35, .bool q36] 34 (0, 0))) := ⟨h5_⟩
                  have n6_ : Aside0 (Below w.heap.size w w35) := ⟨h6_⟩
                  clear BK297
                  clear BK299
                  clear HB
                  clear h0_ h1_ h2_ h3_ h4_ h5_ h6_
                  have HO302 := n0_
                  have HO305 := n1_
                  have HO308 := n2_
                  have HO311 := n3_
                  have BK297 := n4_
                  have BK299 := n5_
                  have HB := n6_
                  clear n0_ n1_ n2_ n3_ n4_ n5_ n6_
                  have hHeld : w35.cell? ⟨gb297, 0, none⟩ = some (.bool a0_0) ∧ w35.cell? ⟨gb297, 1, none⟩ = some (.string a0_1) ∧ w35.cell? ⟨gb297, 2, none⟩ = some (.string a0_2) ∧ w35.cell? ⟨gb297, 3, none⟩ = some (.string a0_3) ∧ w35.cell? ⟨gb297, 4, none⟩ = some (.int .u32 a0_4) ∧ w35.cell? ⟨gb297, 5, none⟩ = some (.int .u64 a0_5) ∧ w35.cell? ⟨gb297, 6, none⟩ = some (.bool a0_6) ∧ w35.cell? ⟨gb299, 0, none⟩ = some (.bool q30) ∧ w35.cell? ⟨gb299, 1, none⟩ = some (.string q31) ∧ w35.cell? ⟨gb299, 2, none⟩ = some (.string q32) ∧ w35.cell? ⟨gb299, 3, none⟩ = some (.string q33) ∧ w35.cell? ⟨gb299, 4, none⟩ = some (.int .u32 q34) ∧ w35.cell? ⟨gb299, 5, none⟩ = some (.int .u64 q35) ∧ w35.cell? ⟨gb299, 6, none⟩ = some (.bool q36) := hS_
                  refine norm_ (a' := ?_) ?_ ?_
                  rotate_left
                  ·simp only [putAll, Act.put, List.setIfInBounds_toArray, List.set_cons_zero, List.set_cons_succ]
                   rfl
                  refine one_ (i := 14) (N := some 27) #[true, true, true, true, true, true, true, true, true, true, true, true, true, true, true, false, true, false, false, false, false, false, false] rfl rfl (one_of HT_.out (by kernel_rfl)) (by decide) (fun K hK => ?_)
                  refine goes_ Tryd.func10 (by kernel_rfl) rfl #[.agg #[.bool a0_0, .string a0_1, .string a0_2, .string a0_3, .int .u32 a0_4, .int .u64 a0_5, .bool a0_6]] (by rfl) rfl rfl (by (try simp only [List.map_toArray, List.map_cons, List.map_nil]); first | done | rfl | (simp only [List.length_drop, List.length_take]; rfl)) ?_
                  with_reducible refine (reply_Bytes.calls a0_0 a0_1 a0_2 a0_3 a0_4 a0_5 a0_6 t312 _ ?side1 A22.out).mono ?_
                  (case side1 => exact HLD.below (by repeat (first | (with_reducible first | exact HB.out | apply below_alloc | apply pw_below_drewN | apply below_drew1 | refine below_set ?_ GE297.out | refine below_set ?_ GE299.out) | exact HB.out)))
                  rintro e w36 ⟨v313, rfl, ho0, hb⟩
                  refine ⟨_, rfl, ?_⟩
                  have n0_ := Aside0.mk (Kd.V_below (by (with_reducible repeat (first | apply Kd.V_alloc | apply Kd.V_drewN | apply Kd.V_drew)); exact HO302.out) hb)
                  have n1_ := Aside0.mk (Kd.V_below (by (with_reducible repeat (first | apply Kd.V_alloc | apply Kd.V_drewN | apply Kd.V_drew)); exact HO305.out) hb)
                  have n2_ := Aside0.mk (Kd.R_below (by (with_reducible repeat (first | apply Kd.R_alloc | apply Kd.R_drewN | apply Kd.R_drew)); exact HO308.out) hb)
                  have n3_ := Aside0.mk (Kd.R_below (by (with_reducible repeat (first | apply Kd.R_alloc | apply Kd.R_drewN | apply Kd.R_drew)); exact HO311.out) hb)
                  have n4_ := Aside0.mk (Kd.V_lower (Kd.V_mono (ok' := fun k_ => some k_ ≠ (v307 : Value).ownBlock ∧ some k_ ≠ (v310 : Value).ownBlock ∧ k_ ≠ gb297 ∧ k_ ≠ gb299) ho0 (fun k_ hk_ => ⟨(Kd.fresh' (Kd.R_lt (by (with_reducible repeat (first | apply Kd.R_alloc | apply Kd.R_drewN | apply Kd.R_drew)); exact HO308.out)) k_ hk_), (Kd.fresh' (Kd.R_lt (by (with_reducible repeat (first | apply Kd.R_alloc | apply Kd.R_drewN | apply Kd.R_drew)); exact HO311.out)) k_ hk_), (Kd.freshB (g := gb297) (o := .cells #[.bool a0_0, .string a0_1, .string a0_2, .string a0_3, .int .u32 a0_4, .int .u64 a0_5, .bool a0_6] 34 (0, 0)) (by (with_reducible repeat (first | refine blk_drewN ?_ _ | refine blk_drew ?_ | refine blk_alloc ?_ _)); exact BK297.out) k_ hk_), (Kd.freshB (g := gb299) (o := .cells #[.bool q30, .string q31, .string q32, .string q33, .int .u32 q34, .int .u64 q35, .bool q36] 34 (0, 0)) (by (with_reducible repeat (first | refine blk_drewN ?_ _ | refine blk_drew ?_ | refine blk_alloc ?_ _)); exact BK299.out) k_ hk_)⟩)) (below_size (by repeat (first | (with_reducible first | exact HB.out | apply below_alloc | apply pw_below_drewN | apply below_drew1 | refine below_set ?_ GE297.out | refine below_set ?_ GE299.out) | exact HB.out))))
                  have n5_ := Aside0.mk (blk_below (g := gb297) (o := .cells #[.bool a0_0, .string a0_1, .string a0_2, .string a0_3, .int .u32 a0_4, .int .u64 a0_5, .bool a0_6] 34 (0, 0)) (by (with_reducible repeat (first | refine blk_drewN ?_ _ | refine blk_drew ?_ | refine blk_alloc ?_ _)); exact BK297.out) hb)
                  have n6_ := Aside0.mk (blk_below (g := gb299) (o := .cells #[.bool q30, .string q31, .string q32, .string q33, .int .u32 q34, .int .u64 q35, .bool q36] 34 (0, 0)) (by (with_reducible repeat (first | refine blk_drewN ?_ _ | refine blk_drew ?_ | refine blk_alloc ?_ _)); exact BK299.out) hb)
                  have n7_ := Aside0.mk (below_step (by repeat (first | (with_reducible first | exact HB.out | apply below_alloc | apply pw_below_drewN | apply below_drew1 | refine below_set ?_ GE297.out | refine below_set ?_ GE299.out) | exact HB.out)) hb)
                  clear HO302
                  clear HO305
                  clear HO308
                  clear HO311
                  clear BK297
                  clear BK299
                  clear HB
                  have HO302 := n0_
                  have HO305 := n1_
                  have HO308 := n2_
                  have HO311 := n3_
                  have HO314 := n4_
                  have BK297 := n5_
                  have BK299 := n6_
                  have HB := n7_
                  clear n0_ n1_ n2_ n3_ n4_ n5_ n6_ n7_
                  (try clear hb)
                  (try clear hb2)
                  (try clear hk)
                  (try clear hi)
                  (try clear ho0)
                  refine hK.out _ _ ⟨(blk_cell BK297.out 0).trans rfl, (blk_cell BK297.out 1).trans rfl, (blk_cell BK297.out 2).trans rfl, (blk_cell BK297.out 3).trans rfl, (blk_cell BK297.out 4).trans rfl, (blk_cell BK297.out 5).trans rfl, (blk_cell BK297.out 6).trans rfl, (blk_cell BK299.out 0).trans rfl, (blk_cell BK299.out 1).trans rfl, (blk_cell BK299.out 2).trans rfl, (blk_cell BK299.out 3).trans rfl, (blk_cell BK299.out 4).trans rfl, (blk_cell BK299.out 5).trans rfl, (blk_cell BK299.out 6).trans rfl⟩ (fun hHeld => ?_)
                  clear hK K
                  refine norm_ (a' := ?_) ?_ ?_
                  rotate_left
                  ·show Act.put _ (some 27) _ = _
                   simp only [Act.put, List.setIfInBounds_toArray, List.set_cons_zero, List.set_cons_succ, i64_w, i32_w]
                   rfl
                  exact norm_ (by first | (simp only [putAll, Act.put, List.setIfInBounds_toArray, List.set_cons_zero, List.set_cons_succ]; done) | (simp only [putAll, Act.put, List.setIfInBounds_toArray, List.set_cons_zero, List.set_cons_succ]; rfl)) (hJ2_4_5_10_11_12_14 (v304, v307, v310, v313) _ ⟨hHeld, (by (with_reducible repeat (first | apply Kd.V_alloc | apply Kd.V_drewN | apply Kd.V_drew)); exact HO302.out), (by (with_reducible repeat (first | apply Kd.V_alloc | apply Kd.V_drewN | apply Kd.V_drew)); exact HO305.out), (by (with_reducible repeat (first | apply Kd.R_alloc | apply Kd.R_drewN | apply Kd.R_drew)); exact HO308.out), (by (with_reducible repeat (first | apply Kd.R_alloc | apply Kd.R_drewN | apply Kd.R_drew)); exact HO311.out), (by (with_reducible repeat (first | apply Kd.V_alloc | apply Kd.V_drewN | apply Kd.V_drew)); exact HO314.out), (by (with_reducible repeat (first | refine blk_drewN ?_ _ | refine blk_drew ?_ | refine blk_alloc ?_ _)); exact BK297.out), (by (with_reducible repeat (first | refine blk_drewN ?_ _ | refine blk_drew ?_ | refine blk_alloc ?_ _)); exact BK299.out), (by repeat (first | (with_reducible first | exact HB.out | apply below_alloc | apply pw_below_drewN | apply below_drew1 | refine below_set ?_ GE297.out | refine below_set ?_ GE299.out) | exact HB.out))⟩)
                ·skip
                 rintro ⟨v304, v307, v310, v313, v316⟩ w36 ⟨hS_, h0_, h1_, h2_, h3_, h4_, h5_, h6_, h7_, h8_⟩
                 have n0_ : Aside0 (Kd.V (Kd.int .u8) 5 w36 w.heap.size (fun k_ => some k_ ≠ (v307 : Value).ownBlock ∧ some k_ ≠ (v310 : Value).ownBlock ∧ k_ ≠ gb297 ∧ k_ ≠ gb299) v301 t300) := ⟨h0_⟩
                 have n1_ : Aside0 (Kd.V (Kd.int .u8) 5 w36 w.heap.size (fun k_ => some k_ ≠ (v307 : Value).ownBlock ∧ some k_ ≠ (v310 : Value).ownBlock ∧ k_ ≠ gb297 ∧ k_ ≠ gb299) v304 t303) := ⟨h1_⟩
                 have n2_ : Aside0 (Kd.R k34 34 w36 w.heap.size (fun k_ => k_ ≠ gb297 ∧ k_ ≠ gb299) v307 y306) := ⟨h2_⟩
                 have n3_ : Aside0 (Kd.R (Kd.int .u8) 5 w36 w.heap.size (fun _ => True) v310 t309) := ⟨h3_⟩
                 have n4_ : Aside0 (Kd.V (Kd.int .u8) 5 w36 w.heap.size (fun k_ => some k_ ≠ (v307 : Value).ownBlock ∧ some k_ ≠ (v310 : Value).ownBlock ∧ k_ ≠ gb297 ∧ k_ ≠ gb299) v313 t312) := ⟨h4_⟩
                 have n5_ : Aside0 (Kd.V (Kd.int .u8) 5 w36 w.heap.size (fun k_ => some k_ ≠ (v307 : Value).ownBlock ∧ some k_ ≠ (v310 : Value).ownBlock ∧ k_ ≠ gb297 ∧ k_ ≠ gb299) v316 t315) := ⟨h5_⟩
                 have n6_ : Aside0 (w36.heap[gb297]? = some (.cells #[.bool a0_0, .string a0_1, .string a0_2, .string a0_3, .int .u32 a0_4, .int .u64 a0_5, .bool a0_6] 34 (0, 0))) := ⟨h6_⟩
                 have n7_ : Aside0 (w36.heap[gb299]? = some (.cells #[.bool q30, .string q31, .string q32, .string q33, .int .u32 q34, .int .u64 q35, .bool q36] 34 (0, 0))) := ⟨h7_⟩
                 have n8_ : Aside0 (Below w.heap.size w w36) := ⟨h8_⟩
                 clear BK297
                 clear BK299
                 clear HB
                 clear h0_ h1_ h2_ h3_ h4_ h5_ h6_ h7_ h8_
                 have HO302 := n0_
                 have HO305 := n1_
                 have HO308 := n2_
                 have HO311 := n3_
                 have HO314 := n4_
                 have HO317 := n5_
                 have BK297 := n6_
                 have BK299 := n7_
                 have HB := n8_
                 clear n0_ n1_ n2_ n3_ n4_ n5_ n6_ n7_ n8_
                 have hHeld : w36.cell? ⟨gb297, 0, none⟩ = some (.bool a0_0) ∧ w36.cell? ⟨gb297, 1, none⟩ = some (.string a0_1) ∧ w36.cell? ⟨gb297, 2, none⟩ = some (.string a0_2) ∧ w36.cell? ⟨gb297, 3, none⟩ = some (.string a0_3) ∧ w36.cell? ⟨gb297, 4, none⟩ = some (.int .u32 a0_4) ∧ w36.cell? ⟨gb297, 5, none⟩ = some (.int .u64 a0_5) ∧ w36.cell? ⟨gb297, 6, none⟩ = some (.bool a0_6) ∧ w36.cell? ⟨gb299, 0, none⟩ = some (.bool q30) ∧ w36.cell? ⟨gb299, 1, none⟩ = some (.string q31) ∧ w36.cell? ⟨gb299, 2, none⟩ = some (.string q32) ∧ w36.cell? ⟨gb299, 3, none⟩ = some (.string q33) ∧ w36.cell? ⟨gb299, 4, none⟩ = some (.int .u32 q34) ∧ w36.cell? ⟨gb299, 5, none⟩ = some (.int .u64 q35) ∧ w36.cell? ⟨gb299, 6, none⟩ = some (.bool q36) := hS_
                 refine norm_ (a' := ?_) ?_ ?_
                 rotate_left
                 ·simp only [putAll, Act.put, List.setIfInBounds_toArray, List.set_cons_zero, List.set_cons_succ]
                  rfl
                 refine three_ (i := 12) (j := 15) (k := 18) (Ni := some 25) (Nj := some 28) (Nk := some 31) #[true, true, true, true, true, true, true, true, true, true, true, true, true, true, true, false, true, true, false, false, false, false, false] #[true, true, true, true, true, true, true, true, true, true, true, true, false, true, true, true, true, true, false, false, false, false, false] #[true, true, true, true, true, true, true, true, true, true, true, true, false, true, true, false, true, true, true, false, false, false, false] rfl rfl rfl rfl rfl rfl (three_of HT_.out (by kernel_rfl)) (by decide) (by decide) (by decide) (fun K hK => ?_) (fun K hK => ?_) (fun K hK => ?_)
                 ·skip
                  have hcv37 := own_string (P := Tryd.prog) Tryd.underlying31 Tryd.underlying5 Tryd.underlying9 (Kd.own_of_R HO311.out)
                  refine value_ (w1 := ?_) (v := ?_) (by rfl) rfl ?_ ?_
                  rotate_left 2
                  ·go_simp
                   constructor
                   ·rfl
                   ·rfl
                  clear hcv37
                  refine hK.out _ _ ⟨(blk_cell BK297.out 0).trans rfl, (blk_cell BK297.out 1).trans rfl, (blk_cell BK297.out 2).trans rfl, (blk_cell BK297.out 3).trans rfl, (blk_cell BK297.out 4).trans rfl, (blk_cell BK297.out 5).trans rfl, (blk_cell BK297.out 6).trans rfl, (blk_cell BK299.out 0).trans rfl, (blk_cell BK299.out 1).trans rfl, (blk_cell BK299.out 2).trans rfl, (blk_cell BK299.out 3).trans rfl, (blk_cell BK299.out 4).trans rfl, (blk_cell BK299.out 5).trans rfl, (blk_cell BK299.out 6).trans rfl⟩ (fun hHeld => ?_)
                  clear hK K
                  refine norm_ (a' := ?_) ?_ ?_
                  rotate_left
                  ·show Act.put _ (some 25) _ = _
                   simp only [Act.put, List.setIfInBounds_toArray, List.set_cons_zero, List.set_cons_succ, i64_w, i32_w]
                   rfl
                  exact norm_ (by first | (simp only [putAll, Act.put, List.setIfInBounds_toArray, List.set_cons_zero, List.set_cons_succ]; done) | (simp only [putAll, Act.put, List.setIfInBounds_toArray, List.set_cons_zero, List.set_cons_succ]; rfl)) (hJ2_4_5_10_11_12_14_17 (v304, v307, v310, v313, v316) _ ⟨hHeld, (by (with_reducible repeat (first | apply Kd.V_alloc | apply Kd.V_drewN | apply Kd.V_drew)); exact HO302.out), (by (with_reducible repeat (first | apply Kd.V_alloc | apply Kd.V_drewN | apply Kd.V_drew)); exact HO305.out), (by (with_reducible repeat (first | apply Kd.R_alloc | apply Kd.R_drewN | apply Kd.R_drew)); exact HO308.out), (by (with_reducible repeat (first | apply Kd.R_alloc | apply Kd.R_drewN | apply Kd.R_drew)); exact HO311.out), (by (with_reducible repeat (first | apply Kd.V_alloc | apply Kd.V_drewN | apply Kd.V_drew)); exact HO314.out), (by (with_reducible repeat (first | apply Kd.V_alloc | apply Kd.V_drewN | apply Kd.V_drew)); exact HO317.out), (by (with_reducible repeat (first | refine blk_drewN ?_ _ | refine blk_drew ?_ | refine blk_alloc ?_ _)); exact BK297.out), (by (with_reducible repeat (first | refine blk_drewN ?_ _ | refine blk_drew ?_ | refine blk_alloc ?_ _)); exact BK299.out), (by repeat (first | (with_reducible first | exact HB.out | apply below_alloc | apply pw_below_drewN | apply below_drew1 | refine below_set ?_ GE297.out | refine below_set ?_ GE299.out) | exact HB.out))⟩)
                 ·skip
                  have hcv37 := V_string (P := Tryd.prog) Tryd.underlying31 Tryd.underlying5 Tryd.underlying9 HO314.out
                  refine value_ (w1 := ?_) (v := ?_) (by rfl) rfl ?_ ?_
                  rotate_left 2
                  ·go_simp
                   constructor
                   ·rfl
                   ·rfl
                  clear hcv37
                  refine hK.out _ _ ⟨(blk_cell BK297.out 0).trans rfl, (blk_cell BK297.out 1).trans rfl, (blk_cell BK297.out 2).trans rfl, (blk_cell BK297.out 3).trans rfl, (blk_cell BK297.out 4).trans rfl, (blk_cell BK297.out 5).trans rfl, (blk_cell BK297.out 6).trans rfl, (blk_cell BK299.out 0).trans rfl, (blk_cell BK299.out 1).trans rfl, (blk_cell BK299.out 2).trans rfl, (blk_cell BK299.out 3).trans rfl, (blk_cell BK299.out 4).trans rfl, (blk_cell BK299.out 5).trans rfl, (blk_cell BK299.out 6).trans rfl⟩ (fun hHeld => ?_)
                  clear hK K
                  refine norm_ (a' := ?_) ?_ ?_
                  rotate_left
                  ·show Act.put _ (some 28) _ = _
                   simp only [Act.put, List.setIfInBounds_toArray, List.set_cons_zero, List.set_cons_succ, i64_w, i32_w]
                   rfl
                  exact norm_ (by first | (simp only [putAll, Act.put, List.setIfInBounds_toArray, List.set_cons_zero, List.set_cons_succ]; done) | (simp only [putAll, Act.put, List.setIfInBounds_toArray, List.set_cons_zero, List.set_cons_succ]; rfl)) (hJ2_4_5_10_11_14_15_17 (v304, v307, v310, v313, v316) _ ⟨hHeld, (by (with_reducible repeat (first | apply Kd.V_alloc | apply Kd.V_drewN | apply Kd.V_drew)); exact HO302.out), (by (with_reducible repeat (first | apply Kd.V_alloc | apply Kd.V_drewN | apply Kd.V_drew)); exact HO305.out), (by (with_reducible repeat (first | apply Kd.R_alloc | apply Kd.R_drewN | apply Kd.R_drew)); exact HO308.out), (by (with_reducible repeat (first | apply Kd.R_alloc | apply Kd.R_drewN | apply Kd.R_drew)); exact HO311.out), (by (with_reducible repeat (first | apply Kd.V_alloc | apply Kd.V_drewN | apply Kd.V_drew)); exact HO314.out), (by (with_reducible repeat (first | apply Kd.V_alloc | apply Kd.V_drewN | apply Kd.V_drew)); exact HO317.out), (by (with_reducible repeat (first | refine blk_drewN ?_ _ | refine blk_drew ?_ | refine blk_alloc ?_ _)); exact BK297.out), (by (with_reducible repeat (first | refine blk_drewN ?_ _ | refine blk_drew ?_ | refine blk_alloc ?_ _)); exact BK299.out), (by repeat (first | (with_reducible first | exact HB.out | apply below_alloc | apply pw_below_drewN | apply below_drew1 | refine below_set ?_ GE297.out | refine below_set ?_ GE299.out) | exact HB.out))⟩)
                 ·skip
                  have hcv37 := V_string (P := Tryd.prog) Tryd.underlying31 Tryd.underlying5 Tryd.underlying9 HO317.out
                  refine value_ (w1 := ?_) (v := ?_) (by rfl) rfl ?_ ?_
                  rotate_left 2
                  ·go_simp
                   constructor
                   ·rfl
                   ·rfl
                  clear hcv37
                  refine hK.out _ _ ⟨(blk_cell BK297.out 0).trans rfl, (blk_cell BK297.out 1).trans rfl, (blk_cell BK297.out 2).trans rfl, (blk_cell BK297.out 3).trans rfl, (blk_cell BK297.out 4).trans rfl, (blk_cell BK297.out 5).trans rfl, (blk_cell BK297.out 6).trans rfl, (blk_cell BK299.out 0).trans rfl, (blk_cell BK299.out 1).trans rfl, (blk_cell BK299.out 2).trans rfl, (blk_cell BK299.out 3).trans rfl, (blk_cell BK299.out 4).trans rfl, (blk_cell BK299.out 5).trans rfl, (blk_cell BK299.out 6).trans rfl⟩ (fun hHeld => ?_)
                  clear hK K
                  refine norm_ (a' := ?_) ?_ ?_
                  rotate_left
                  ·show Act.put _ (some 31) _ = _
                   simp only [Act.put, List.setIfInBounds_toArray, List.set_cons_zero, List.set_cons_succ, i64_w, i32_w]
                   rfl
                  exact norm_ (by first | (simp only [putAll, Act.put, List.setIfInBounds_toArray, List.set_cons_zero, List.set_cons_succ]; done) | (simp only [putAll, Act.put, List.setIfInBounds_toArray, List.set_cons_zero, List.set_cons_succ]; rfl)) (hJ2_4_5_10_11_14_17_18 (v304, v307, v310, v313, v316) _ ⟨hHeld, (by (with_reducible repeat (first | apply Kd.V_alloc | apply Kd.V_drewN | apply Kd.V_drew)); exact HO302.out), (by (with_reducible repeat (first | apply Kd.V_alloc | apply Kd.V_drewN | apply Kd.V_drew)); exact HO305.out), (by (with_reducible repeat (first | apply Kd.R_alloc | apply Kd.R_drewN | apply Kd.R_drew)); exact HO308.out), (by (with_reducible repeat (first | apply Kd.R_alloc | apply Kd.R_drewN | apply Kd.R_drew)); exact HO311.out), (by (with_reducible repeat (first | apply Kd.V_alloc | apply Kd.V_drewN | apply Kd.V_drew)); exact HO314.out), (by (with_reducible repeat (first | apply Kd.V_alloc | apply Kd.V_drewN | apply Kd.V_drew)); exact HO317.out), (by (with_reducible repeat (first | refine blk_drewN ?_ _ | refine blk_drew ?_ | refine blk_alloc ?_ _)); exact BK297.out), (by (with_reducible repeat (first | refine blk_drewN ?_ _ | refine blk_drew ?_ | refine blk_alloc ?_ _)); exact BK299.out), (by repeat (first | (with_reducible first | exact HB.out | apply below_alloc | apply pw_below_drewN | apply below_drew1 | refine below_set ?_ GE297.out | refine below_set ?_ GE299.out) | exact HB.out))⟩)
               ·skip
                rintro ⟨v304, v307, v310, v313⟩ w36 ⟨hS_, h0_, h1_, h2_, h3_, h4_, h5_, h6_, h7_⟩
                have n0_ : Aside0 (Kd.V (Kd.int .u8) 5 w36 w.heap.size (fun k_ => some k_ ≠ (v307 : Value).ownBlock ∧ some k_ ≠ (v310 : Value).ownBlock ∧ k_ ≠ gb297 ∧ k_ ≠ gb299) v301 t300) := ⟨h0_⟩
                have n1_ : Aside0 (Kd.V (Kd.int .u8) 5 w36 w.heap.size (fun k_ => some k_ ≠ (v307 : Value).ownBlock ∧ some k_ ≠ (v310 : Value).ownBlock ∧ k_ ≠ gb297 ∧ k_ ≠ gb299) v304 t303) := ⟨h1_⟩
                have n2_ : Aside0 (Kd.R k34 34 w36 w.heap.size (fun k_ => k_ ≠ gb297 ∧ k_ ≠ gb299) v307 y306) := ⟨h2_⟩
                have n3_ : Aside0 (Kd.R (Kd.int .u8) 5 w36 w.heap.size (fun _ => True) v310 t309) := ⟨h3_⟩
                have n4_ : Aside0 (Kd.V (Kd.int .u8) 5 w36 w.heap.size (fun k_ => some k_ ≠ (v307 : Value).ownBlock ∧ some k_ ≠ (v310 : Value).ownBlock ∧ k_ ≠ gb297 ∧ k_ ≠ gb299) v313 t312) := ⟨h4_⟩
                have n5_ : Aside0 (w36.heap[gb297]? = some (.cells #[.bool a0_0, .string a0_1, .string a0_2, .string a0_3, .int .u32 a0_4, .int .u64 a0_5, .bool a0_6] 34 (0, 0))) := ⟨h5_⟩
                have n6_ : Aside0 (w36.heap[gb299]? = some (.cells #[.bool q30, .string q31, .string q32, .string q33, .int .u32 q34, .int .u64 q35, .bool q36] 34 (0, 0))) := ⟨h6_⟩
                have n7_ : Aside0 (Below w.heap.size w w36) := ⟨h7_⟩
                clear BK297
                clear BK299
                clear HB
                clear h0_ h1_ h2_ h3_ h4_ h5_ h6_ h7_
                have HO302 := n0_
                have HO305 := n1_
                have HO308 := n2_
                have HO311 := n3_
                have HO314 := n4_
                have BK297 := n5_
                have BK299 := n6_
                have HB := n7_
                clear n0_ n1_ n2_ n3_ n4_ n5_ n6_ n7_
                have hHeld : w36.cell? ⟨gb297, 0, none⟩ = some (.bool a0_0) ∧ w36.cell? ⟨gb297, 1, none⟩ = some (.string a0_1) ∧ w36.cell? ⟨gb297, 2, none⟩ = some (.string a0_2) ∧ w36.cell? ⟨gb297, 3, none⟩ = some (.string a0_3) ∧ w36.cell? ⟨gb297, 4, none⟩ = some (.int .u32 a0_4) ∧ w36.cell? ⟨gb297, 5, none⟩ = some (.int .u64 a0_5) ∧ w36.cell? ⟨gb297, 6, none⟩ = some (.bool a0_6) ∧ w36.cell? ⟨gb299, 0, none⟩ = some (.bool q30) ∧ w36.cell? ⟨gb299, 1, none⟩ = some (.string q31) ∧ w36.cell? ⟨gb299, 2, none⟩ = some (.string q32) ∧ w36.cell? ⟨gb299, 3, none⟩ = some (.string q33) ∧ w36.cell? ⟨gb299, 4, none⟩ = some (.int .u32 q34) ∧ w36.cell? ⟨gb299, 5, none⟩ = some (.int .u64 q35) ∧ w36.cell? ⟨gb299, 6, none⟩ = some (.bool q36) := hS_
                refine norm_ (a' := ?_) ?_ ?_
                rotate_left
                ·simp only [putAll, Act.put, List.setIfInBounds_toArray, List.set_cons_zero, List.set_cons_succ]
                 rfl
                refine two_ (i := 12) (j := 17) (Ni := some 25) (Nj := some 30) #[true, true, true, true, true, true, true, true, true, true, true, true, true, true, true, true, true, false, false, false, false, false, false] #[true, true, true, true, true, true, true, true, true, true, true, true, false, true, true, true, true, true, false, false, false, false, false] rfl rfl rfl rfl (two_of HT_.out (by kernel_rfl)) (by decide) (by decide) (fun K hK => ?_) (fun K hK => ?_)
                ·skip
                 have hcv37 := own_string (P := Tryd.prog) Tryd.underlying31 Tryd.underlying5 Tryd.underlying9 (Kd.own_of_R HO311.out)
                 refine value_ (w1 := ?_) (v := ?_) (by rfl) rfl ?_ ?_
                 rotate_left 2
                 ·go_simp
                  constructor
                  ·rfl
                  ·rfl
                 clear hcv37
                 refine hK.out _ _ ⟨(blk_cell BK297.out 0).trans rfl, (blk_cell BK297.out 1).trans rfl, (blk_cell BK297.out 2).trans rfl, (blk_cell BK297.out 3).trans rfl, (blk_cell BK297.out 4).trans rfl, (blk_cell BK297.out 5).trans rfl, (blk_cell BK297.out 6).trans rfl, (blk_cell BK299.out 0).trans rfl, (blk_cell BK299.out 1).trans rfl, (blk_cell BK299.out 2).trans rfl, (blk_cell BK299.out 3).trans rfl, (blk_cell BK299.out 4).trans rfl, (blk_cell BK299.out 5).trans rfl, (blk_cell BK299.out 6).trans rfl⟩ (fun hHeld => ?_)
                 clear hK K
                 refine norm_ (a' := ?_) ?_ ?_
                 rotate_left
                 ·show Act.put _ (some 25) _ = _
                  simp only [Act.put, List.setIfInBounds_toArray, List.set_cons_zero, List.set_cons_succ, i64_w, i32_w]
                  rfl
                 exact norm_ (by first | (simp only [putAll, Act.put, List.setIfInBounds_toArray, List.set_cons_zero, List.set_cons_succ]; done) | (simp only [putAll, Act.put, List.setIfInBounds_toArray, List.set_cons_zero, List.set_cons_succ]; rfl)) (hJ2_4_5_10_11_12_14_15 (v304, v307, v310, v313) _ ⟨hHeld, (by (with_reducible repeat (first | apply Kd.V_alloc | apply Kd.V_drewN | apply Kd.V_drew)); exact HO302.out), (by (with_reducible repeat (first | apply Kd.V_alloc | apply Kd.V_drewN | apply Kd.V_drew)); exact HO305.out), (by (with_reducible repeat (first | apply Kd.R_alloc | apply Kd.R_drewN | apply Kd.R_drew)); exact HO308.out), (by (with_reducible repeat (first | apply Kd.R_alloc | apply Kd.R_drewN | apply Kd.R_drew)); exact HO311.out), (by (with_reducible repeat (first | apply Kd.V_alloc | apply Kd.V_drewN | apply Kd.V_drew)); exact HO314.out), (by (with_reducible repeat (first | refine blk_drewN ?_ _ | refine blk_drew ?_ | refine blk_alloc ?_ _)); exact BK297.out), (by (with_reducible repeat (first | refine blk_drewN ?_ _ | refine blk_drew ?_ | refine blk_alloc ?_ _)); exact BK299.out), (by repeat (first | (with_reducible first | exact HB.out | apply below_alloc | apply pw_below_drewN | apply below_drew1 | refine below_set ?_ GE297.out | refine below_set ?_ GE299.out) | exact HB.out))⟩)
                ·skip
                 refine goes_ Tryd.func10 (by kernel_rfl) rfl #[.agg #[.bool q30, .string q31, .string q32, .string q33, .int .u32 q34, .int .u64 q35, .bool q36]] (by rfl) rfl rfl (by (try simp only [List.map_toArray, List.map_cons, List.map_nil]); first | done | rfl | (simp only [List.length_drop, List.length_take]; rfl)) ?_
                 with_reducible refine (reply_Bytes.calls q30 q31 q32 q33 q34 q35 q36 t315 _ ?side1 A23.out).mono ?_
                 (case side1 => exact HLD.below (by repeat (first | (with_reducible first | exact HB.out | apply below_alloc | apply pw_below_drewN | apply below_drew1 | refine below_set ?_ GE297.out | refine below_set ?_ GE299.out) | exact HB.out)))
                 rintro e w37 ⟨v316, rfl, ho0, hb⟩
                 refine ⟨_, rfl, ?_⟩
                 have n0_ := Aside0.mk (Kd.V_below (by (with_reducible repeat (first | apply Kd.V_alloc | apply Kd.V_drewN | apply Kd.V_drew)); exact HO302.out) hb)
                 have n1_ := Aside0.mk (Kd.V_below (by (with_reducible repeat (first | apply Kd.V_alloc | apply Kd.V_drewN | apply Kd.V_drew)); exact HO305.out) hb)
                 have n2_ := Aside0.mk (Kd.R_below (by (with_reducible repeat (first | apply Kd.R_alloc | apply Kd.R_drewN | apply Kd.R_drew)); exact HO308.out) hb)
                 have n3_ := Aside0.mk (Kd.R_below (by (with_reducible repeat (first | apply Kd.R_alloc | apply Kd.R_drewN | apply Kd.R_drew)); exact HO311.out) hb)
                 have n4_ := Aside0.mk (Kd.V_below (by (with_reducible repeat (first | apply Kd.V_alloc | apply Kd.V_drewN | apply Kd.V_drew)); exact HO314.out) hb)
                 have n5_ := Aside0.mk (Kd.V_lower (Kd.V_mono (ok' := fun k_ => some k_ ≠ (v307 : Value).ownBlock ∧ some k_ ≠ (v310 : Value).ownBlock ∧ k_ ≠ gb297 ∧ k_ ≠ gb299) ho0 (fun k_ hk_ => ⟨(Kd.fresh' (Kd.R_lt (by (with_reducible repeat (first | apply Kd.R_alloc | apply Kd.R_drewN | apply Kd.R_drew)); exact HO308.out)) k_ hk_), (Kd.fresh' (Kd.R_lt (by (with_reducible repeat (first | apply Kd.R_alloc | apply Kd.R_drewN | apply Kd.R_drew)); exact HO311.out)) k_ hk_), (Kd.freshB (g := gb297) (o := .cells #[.bool a0_0, .string a0_1, .string a0_2, .string a0_3, .int .u32 a0_4, .int .u64 a0_5, .bool a0_6] 34 (0, 0)) (by (with_reducible repeat (first | refine blk_drewN ?_ _ | refine blk_drew ?_ | refine blk_alloc ?_ _)); exact BK297.out) k_ hk_), (Kd.freshB (g := gb299) (o := .cells #[.bool q30, .string q31, .string q32, .string q33, .int .u32 q34, .int .u64 q35, .bool q36] 34 (0, 0)) (by (with_reducible repeat (first | refine blk_drewN ?_ _ | refine blk_drew ?_ | refine blk_alloc ?_ _)); exact BK299.out) k_ hk_)⟩)) (below_size (by repeat (first | (with_reducible first | exact HB.out | apply below_alloc | apply pw_below_drewN | apply below_drew1 | refine below_set ?_ GE297.out | refine below_set ?_ GE299.out) | exact HB.out))))
                 have n6_ := Aside0.mk (blk_below (g := gb297) (o := .cells #[.bool a0_0, .string a0_1, .string a0_2, .string a0_3, .int .u32 a0_4, .int .u64 a0_5, .bool a0_6] 34 (0, 0)) (by (with_reducible repeat (first | refine blk_drewN ?_ _ | refine blk_drew ?_ | refine blk_alloc ?_ _)); exact BK297.out) hb)
                 have n7_ := Aside0.mk (blk_below (g := gb299) (o := .cells #[.bool q30, .string q31, .string q32, .string q33, .int .u32 q34, .int .u64 q35, .bool q36] 34 (0, 0)) (by (with_reducible repeat (first | refine blk_drewN ?_ _ | refine blk_drew ?_ | refine blk_alloc ?_ _)); exact BK299.out) hb)
                 have n8_ := Aside0.mk (below_step (by repeat (first | (with_reducible first | exact HB.out | apply below_alloc | apply pw_below_drewN | apply below_drew1 | refine below_set ?_ GE297.out | refine below_set ?_ GE299.out) | exact HB.out)) hb)
                 clear HO302
                 clear HO305
                 clear HO308
                 clear HO311
                 clear HO314
                 clear BK297
                 clear BK299
                 clear HB
                 have HO302 := n0_
                 have HO305 := n1_
                 have HO308 := n2_
                 have HO311 := n3_
                 have HO314 := n4_
                 have HO317 := n5_
                 have BK297 := n6_
                 have BK299 := n7_
                 have HB := n8_
                 clear n0_ n1_ n2_ n3_ n4_ n5_ n6_ n7_ n8_
                 (try clear hb)
                 (try clear hb2)
                 (try clear hk)
                 (try clear hi)
                 (try clear ho0)
                 refine hK.out _ _ ⟨(blk_cell BK297.out 0).trans rfl, (blk_cell BK297.out 1).trans rfl, (blk_cell BK297.out 2).trans rfl, (blk_cell BK297.out 3).trans rfl, (blk_cell BK297.out 4).trans rfl, (blk_cell BK297.out 5).trans rfl, (blk_cell BK297.out 6).trans rfl, (blk_cell BK299.out 0).trans rfl, (blk_cell BK299.out 1).trans rfl, (blk_cell BK299.out 2).trans rfl, (blk_cell BK299.out 3).trans rfl, (blk_cell BK299.out 4).trans rfl, (blk_cell BK299.out 5).trans rfl, (blk_cell BK299.out 6).trans rfl⟩ (fun hHeld => ?_)
                 clear hK K
                 refine norm_ (a' := ?_) ?_ ?_
                 rotate_left
                 ·show Act.put _ (some 30) _ = _
                  simp only [Act.put, List.setIfInBounds_toArray, List.set_cons_zero, List.set_cons_succ, i64_w, i32_w]
                  rfl
                 exact norm_ (by first | (simp only [putAll, Act.put, List.setIfInBounds_toArray, List.set_cons_zero, List.set_cons_succ]; done) | (simp only [putAll, Act.put, List.setIfInBounds_toArray, List.set_cons_zero, List.set_cons_succ]; rfl)) (hJ2_4_5_10_11_14_15_17 (v304, v307, v310, v313, v316) _ ⟨hHeld, (by (with_reducible repeat (first | apply Kd.V_alloc | apply Kd.V_drewN | apply Kd.V_drew)); exact HO302.out), (by (with_reducible repeat (first | apply Kd.V_alloc | apply Kd.V_drewN | apply Kd.V_drew)); exact HO305.out), (by (with_reducible repeat (first | apply Kd.R_alloc | apply Kd.R_drewN | apply Kd.R_drew)); exact HO308.out), (by (with_reducible repeat (first | apply Kd.R_alloc | apply Kd.R_drewN | apply Kd.R_drew)); exact HO311.out), (by (with_reducible repeat (first | apply Kd.V_alloc | apply Kd.V_drewN | apply Kd.V_drew)); exact HO314.out), (by (with_reducible repeat (first | apply Kd.V_alloc | apply Kd.V_drewN | apply Kd.V_drew)); exact HO317.out), (by (with_reducible repeat (first | refine blk_drewN ?_ _ | refine blk_drew ?_ | refine blk_alloc ?_ _)); exact BK297.out), (by (with_reducible repeat (first | refine blk_drewN ?_ _ | refine blk_drew ?_ | refine blk_alloc ?_ _)); exact BK299.out), (by repeat (first | (with_reducible first | exact HB.out | apply below_alloc | apply pw_below_drewN | apply below_drew1 | refine below_set ?_ GE297.out | refine below_set ?_ GE299.out) | exact HB.out))⟩)
              ·skip
               rintro ⟨v304, v307, v310, v313⟩ w36 ⟨hS_, h0_, h1_, h2_, h3_, h4_, h5_, h6_, h7_⟩
               have n0_ : Aside0 (Kd.V (Kd.int .u8) 5 w36 w.heap.size (fun k_ => some k_ ≠ (v307 : Value).ownBlock ∧ some k_ ≠ (v310 : Value).ownBlock ∧ k_ ≠ gb297 ∧ k_ ≠ gb299) v301 t300) := ⟨h0_⟩
               have n1_ : Aside0 (Kd.V (Kd.int .u8) 5 w36 w.heap.size (fun k_ => some k_ ≠ (v307 : Value).ownBlock ∧ some k_ ≠ (v310 : Value).ownBlock ∧ k_ ≠ gb297 ∧ k_ ≠ gb299) v304 t303) := ⟨h1_⟩
               have n2_ : Aside0 (Kd.R k34 34 w36 w.heap.size (fun k_ => k_ ≠ gb297 ∧ k_ ≠ gb299) v307 y306) := ⟨h2_⟩
               have n3_ : Aside0 (Kd.R (Kd.int .u8) 5 w36 w.heap.size (fun _ => True) v310 t309) := ⟨h3_⟩
               have n4_ : Aside0 (Kd.V (Kd.int .u8) 5 w36 w.heap.size (fun k_ => some k_ ≠ (v307 : Value).ownBlock ∧ some k_ ≠ (v310 : Value).ownBlock ∧ k_ ≠ gb297 ∧ k_ ≠ gb299) v313 t312) := ⟨h4_⟩
               have n5_ : Aside0 (w36.heap[gb297]? = some (.cells #[.bool a0_0, .string a0_1, .string a0_2, .string a0_3, .int .u32 a0_4, .int .u64 a0_5, .bool a0_6] 34 (0, 0))) := ⟨h5_⟩
               have n6_ : Aside0 (w36.heap[gb299]? = some (.cells #[.bool q30, .string q31, .string q32, .string q33, .int .u32 q34, .int .u64 q35, .bool q36] 34 (0, 0))) := ⟨h6_⟩
               have n7_ : Aside0 (Below w.heap.size w w36) := ⟨h7_⟩
               clear BK297
               clear BK299
               clear HB
               clear h0_ h1_ h2_ h3_ h4_ h5_ h6_ h7_
               have HO302 := n0_
               have HO305 := n1_
               have HO308 := n2_
               have HO311 := n3_
               have HO314 := n4_
               have BK297 := n5_
               have BK299 := n6_
               have HB := n7_
               clear n0_ n1_ n2_ n3_ n4_ n5_ n6_ n7_
               have hHeld : w36.cell? ⟨gb297, 0, none⟩ = some (.bool a0_0) ∧ w36.cell? ⟨gb297, 1, none⟩ = some (.string a0_1) ∧ w36.cell? ⟨gb297, 2, none⟩ = some (.string a0_2) ∧ w36.cell? ⟨gb297, 3, none⟩ = some (.string a0_3) ∧ w36.cell? ⟨gb297, 4, none⟩ = some (.int .u32 a0_4) ∧ w36.cell? ⟨gb297, 5, none⟩ = some (.int .u64 a0_5) ∧ w36.cell? ⟨gb297, 6, none⟩ = some (.bool a0_6) ∧ w36.cell? ⟨gb299, 0, none⟩ = some (.bool q30) ∧ w36.cell? ⟨gb299, 1, none⟩ = some (.string q31) ∧ w36.cell? ⟨gb299, 2, none⟩ = some (.string q32) ∧ w36.cell? ⟨gb299, 3, none⟩ = some (.string q33) ∧ w36.cell? ⟨gb299, 4, none⟩ = some (.int .u32 q34) ∧ w36.cell? ⟨gb299, 5, none⟩ = some (.int .u64 q35) ∧ w36.cell? ⟨gb299, 6, none⟩ = some (.bool q36) := hS_
               refine norm_ (a' := ?_) ?_ ?_
               rotate_left
               ·simp only [putAll, Act.put, List.setIfInBounds_toArray, List.set_cons_zero, List.set_cons_succ]
                rfl
               refine two_ (i := 15) (j := 17) (Ni := some 28) (Nj := some 30) #[true, true, true, true, true, true, true, true, true, true, true, true, true, true, true, true, true, false, false, false, false, false, false] #[true, true, true, true, true, true, true, true, true, true, true, true, true, true, true, false, true, true, false, false, false, false, false] rfl rfl rfl rfl (two_of HT_.out (by kernel_rfl)) (by decide) (by decide) (fun K hK => ?_) (fun K hK => ?_)
               ·skip
                have hcv37 := V_string (P := Tryd.prog) Tryd.underlying31 Tryd.underlying5 Tryd.underlying9 HO314.out
                refine value_ (w1 := ?_) (v := ?_) (by rfl) rfl ?_ ?_
                rotate_left 2
                ·go_simp
                 constructor
                 ·rfl
                 ·rfl
                clear hcv37
                refine hK.out _ _ ⟨(blk_cell BK297.out 0).trans rfl, (blk_cell BK297.out 1).trans rfl, (blk_cell BK297.out 2).trans rfl, (blk_cell BK297.out 3).trans rfl, (blk_cell BK297.out 4).trans rfl, (blk_cell BK297.out 5).trans rfl, (blk_cell BK297.out 6).trans rfl, (blk_cell BK299.out 0).trans rfl, (blk_cell BK299.out 1).trans rfl, (blk_cell BK299.out 2).trans rfl, (blk_cell BK299.out 3).trans rfl, (blk_cell BK299.out 4).trans rfl, (blk_cell BK299.out 5).trans rfl, (blk_cell BK299.out 6).trans rfl⟩ (fun hHeld => ?_)
                clear hK K
                refine norm_ (a' := ?_) ?_ ?_
                rotate_left
                ·show Act.put _ (some 28) _ = _
                 simp only [Act.put, List.setIfInBounds_toArray, List.set_cons_zero, List.set_cons_succ, i64_w, i32_w]
                 rfl
                exact norm_ (by first | (simp only [putAll, Act.put, List.setIfInBounds_toArray, List.set_cons_zero, List.set_cons_succ]; done) | (simp only [putAll, Act.put, List.setIfInBounds_toArray, List.set_cons_zero, List.set_cons_succ]; rfl)) (hJ2_4_5_10_11_12_14_15 (v304, v307, v310, v313) _ ⟨hHeld, (by (with_reducible repeat (first | apply Kd.V_alloc | apply Kd.V_drewN | apply Kd.V_drew)); exact HO302.out), (by (with_reducible repeat (first | apply Kd.V_alloc | apply Kd.V_drewN | apply Kd.V_drew)); exact HO305.out), (by (with_reducible repeat (first | apply Kd.R_alloc | apply Kd.R_drewN | apply Kd.R_drew)); exact HO308.out), (by (with_reducible repeat (first | apply Kd.R_alloc | apply Kd.R_drewN | apply Kd.R_drew)); exact HO311.out), (by (with_reducible repeat (first | apply Kd.V_alloc | apply Kd.V_drewN | apply Kd.V_drew)); exact HO314.out), (by (with_reducible repeat (first | refine blk_drewN ?_ _ | refine blk_drew ?_ | refine blk_alloc ?_ _)); exact BK297.out), (by (with_reducible repeat (first | refine blk_drewN ?_ _ | refine blk_drew ?_ | refine blk_alloc ?_ _)); exact BK299.out), (by repeat (first | (with_reducible first | exact HB.out | apply below_alloc | apply pw_below_drewN | apply below_drew1 | refine below_set ?_ GE297.out | refine below_set ?_ GE299.out) | exact HB.out))⟩)
               ·skip
                refine goes_ Tryd.func10 (by kernel_rfl) rfl #[.agg #[.bool q30, .string q31, .string q32, .string q33, .int .u32 q34, .int .u64 q35, .bool q36]] (by rfl) rfl rfl (by (try simp only [List.map_toArray, List.map_cons, List.map_nil]); first | done | rfl | (simp only [List.length_drop, List.length_take]; rfl)) ?_
                with_reducible refine (reply_Bytes.calls q30 q31 q32 q33 q34 q35 q36 t315 _ ?side1 A23.out).mono ?_
                (case side1 => exact HLD.below (by repeat (first | (with_reducible first | exact HB.out | apply below_alloc | apply pw_below_drewN | apply below_drew1 | refine below_set ?_ GE297.out | refine below_set ?_ GE299.out) | exact HB.out)))
                rintro e w37 ⟨v316, rfl, ho0, hb⟩
                refine ⟨_, rfl, ?_⟩
                have n0_ := Aside0.mk (Kd.V_below (by (with_reducible repeat (first | apply Kd.V_alloc | apply Kd.V_drewN | apply Kd.V_drew)); exact HO302.out) hb)
                have n1_ := Aside0.mk (Kd.V_below (by (with_reducible repeat (first | apply Kd.V_alloc | apply Kd.V_drewN | apply Kd.V_drew)); exact HO305.out) hb)
                have n2_ := Aside0.mk (Kd.R_below (by (with_reducible repeat (first | apply Kd.R_alloc | apply Kd.R_drewN | apply Kd.R_drew)); exact HO308.out) hb)
                have n3_ := Aside0.mk (Kd.R_below (by (with_reducible repeat (first | apply Kd.R_alloc | apply Kd.R_drewN | apply Kd.R_drew)); exact HO311.out) hb)
                have n4_ := Aside0.mk (Kd.V_below (by (with_reducible repeat (first | apply Kd.V_alloc | apply Kd.V_drewN | apply Kd.V_drew)); exact HO314.out) hb)
                have n5_ := Aside0.mk (Kd.V_lower (Kd.V_mono (ok' := fun k_ => some k_ ≠ (v307 : Value).ownBlock ∧ some k_ ≠ (v310 : Value).ownBlock ∧ k_ ≠ gb297 ∧ k_ ≠ gb299) ho0 (fun k_ hk_ => ⟨(Kd.fresh' (Kd.R_lt (by (with_reducible repeat (first | apply Kd.R_alloc | apply Kd.R_drewN | apply Kd.R_drew)); exact HO308.out)) k_ hk_), (Kd.fresh' (Kd.R_lt (by (with_reducible repeat (first | apply Kd.R_alloc | apply Kd.R_drewN | apply Kd.R_drew)); exact HO311.out)) k_ hk_), (Kd.freshB (g := gb297) (o := .cells #[.bool a0_0, .string a0_1, .string a0_2, .string a0_3, .int .u32 a0_4, .int .u64 a0_5, .bool a0_6] 34 (0, 0)) (by (with_reducible repeat (first | refine blk_drewN ?_ _ | refine blk_drew ?_ | refine blk_alloc ?_ _)); exact BK297.out) k_ hk_), (Kd.freshB (g := gb299) (o := .cells #[.bool q30, .string q31, .string q32, .string q33, .int .u32 q34, .int .u64 q35, .bool q36] 34 (0, 0)) (by (with_reducible repeat (first | refine blk_drewN ?_ _ | refine blk_drew ?_ | refine blk_alloc ?_ _)); exact BK299.out) k_ hk_)⟩)) (below_size (by repeat (first | (with_reducible first | exact HB.out | apply below_alloc | apply pw_below_drewN | apply below_drew1 | refine below_set ?_ GE297.out | refine below_set ?_ GE299.out) | exact HB.out))))
                have n6_ := Aside0.mk (blk_below (g := gb297) (o := .cells #[.bool a0_0, .string a0_1, .string a0_2, .string a0_3, .int .u32 a0_4, .int .u64 a0_5, .bool a0_6] 34 (0, 0)) (by (with_reducible repeat (first | refine blk_drewN ?_ _ | refine blk_drew ?_ | refine blk_alloc ?_ _)); exact BK297.out) hb)
                have n7_ := Aside0.mk (blk_below (g := gb299) (o := .cells #[.bool q30, .string q31, .string q32, .string q33, .int .u32 q34, .int .u64 q35, .bool q36] 34 (0, 0)) (by (with_reducible repeat (first | refine blk_drewN ?_ _ | refine blk_drew ?_ | refine blk_alloc ?_ _)); exact BK299.out) hb)
                have n8_ := Aside0.mk (below_step (by repeat (first | (with_reducible first | exact HB.out | apply below_alloc | apply pw_below_drewN | apply below_drew1 | refine below_set ?_ GE297.out | refine below_set ?_ GE299.out) | exact HB.out)) hb)
                clear HO302
                clear HO305
                clear HO308
                clear HO311
                clear HO314
                clear BK297
                clear BK299
                clear HB
                have HO302 := n0_
                have HO305 := n1_
                have HO308 := n2_
                have HO311 := n3_
                have HO314 := n4_
                have HO317 := n5_
                have BK297 := n6_
                have BK299 := n7_
                have HB := n8_
                clear n0_ n1_ n2_ n3_ n4_ n5_ n6_ n7_ n8_
                (try clear hb)
                (try clear hb2)
                (try clear hk)
                (try clear hi)
                (try clear ho0)
                refine hK.out _ _ ⟨(blk_cell BK297.out 0).trans rfl, (blk_cell BK297.out 1).trans rfl, (blk_cell BK297.out 2).trans rfl, (blk_cell BK297.out 3).trans rfl, (blk_cell BK297.out 4).trans rfl, (blk_cell BK297.out 5).trans rfl, (blk_cell BK297.out 6).trans rfl, (blk_cell BK299.out 0).trans rfl, (blk_cell BK299.out 1).trans rfl, (blk_cell BK299.out 2).trans rfl, (blk_cell BK299.out 3).trans rfl, (blk_cell BK299.out 4).trans rfl, (blk_cell BK299.out 5).trans rfl, (blk_cell BK299.out 6).trans rfl⟩ (fun hHeld => ?_)
                clear hK K
                refine norm_ (a' := ?_) ?_ ?_
                rotate_left
                ·show Act.put _ (some 30) _ = _
                 simp only [Act.put, List.setIfInBounds_toArray, List.set_cons_zero, List.set_cons_succ, i64_w, i32_w]
                 rfl
                exact norm_ (by first | (simp only [putAll, Act.put, List.setIfInBounds_toArray, List.set_cons_zero, List.set_cons_succ]; done) | (simp only [putAll, Act.put, List.setIfInBounds_toArray, List.set_cons_zero, List.set_cons_succ]; rfl)) (hJ2_4_5_10_11_12_14_17 (v304, v307, v310, v313, v316) _ ⟨hHeld, (by (with_reducible repeat (first | apply Kd.V_alloc | apply Kd.V_drewN | apply Kd.V_drew)); exact HO302.out), (by (with_reducible repeat (first | apply Kd.V_alloc | apply Kd.V_drewN | apply Kd.V_drew)); exact HO305.out), (by (with_reducible repeat (first | apply Kd.R_alloc | apply Kd.R_drewN | apply Kd.R_drew)); exact HO308.out), (by (with_reducible repeat (first | apply Kd.R_alloc | apply Kd.R_drewN | apply Kd.R_drew)); exact HO311.out), (by (with_reducible repeat (first | apply Kd.V_alloc | apply Kd.V_drewN | apply Kd.V_drew)); exact HO314.out), (by (with_reducible repeat (first | apply Kd.V_alloc | apply Kd.V_drewN | apply Kd.V_drew)); exact HO317.out), (by (with_reducible repeat (first | refine blk_drewN ?_ _ | refine blk_drew ?_ | refine blk_alloc ?_ _)); exact BK297.out), (by (with_reducible repeat (first | refine blk_drewN ?_ _ | refine blk_drew ?_ | refine blk_alloc ?_ _)); exact BK299.out), (by repeat (first | (with_reducible first | exact HB.out | apply below_alloc | apply pw_below_drewN | apply below_drew1 | refine below_set ?_ GE297.out | refine below_set ?_ GE299.out) | exact HB.out))⟩)
             ·skip
              rintro ⟨v304, v307, v310, v313, v316⟩ w37 ⟨hS_, h0_, h1_, h2_, h3_, h4_, h5_, h6_, h7_, h8_⟩
              have n0_ : Aside0 (Kd.V (Kd.int .u8) 5 w37 w.heap.size (fun k_ => some k_ ≠ (v307 : Value).ownBlock ∧ some k_ ≠ (v310 : Value).ownBlock ∧ k_ ≠ gb297 ∧ k_ ≠ gb299) v301 t300) := ⟨h0_⟩
              have n1_ : Aside0 (Kd.V (Kd.int .u8) 5 w37 w.heap.size (fun k_ => some k_ ≠ (v307 : Value).ownBlock ∧ some k_ ≠ (v310 : Value).ownBlock ∧ k_ ≠ gb297 ∧ k_ ≠ gb299) v304 t303) := ⟨h1_⟩
              have n2_ : Aside0 (Kd.R k34 34 w37 w.heap.size (fun k_ => k_ ≠ gb297 ∧ k_ ≠ gb299) v307 y306) := ⟨h2_⟩
              have n3_ : Aside0 (Kd.R (Kd.int .u8) 5 w37 w.heap.size (fun _ => True) v310 t309) := ⟨h3_⟩
              have n4_ : Aside0 (Kd.V (Kd.int .u8) 5 w37 w.heap.size (fun k_ => some k_ ≠ (v307 : Value).ownBlock ∧ some k_ ≠ (v310 : Value).ownBlock ∧ k_ ≠ gb297 ∧ k_ ≠ gb299) v313 t312) := ⟨h4_⟩
              have n5_ : Aside0 (Kd.V (Kd.int .u8) 5 w37 w.heap.size (fun k_ => some k_ ≠ (v307 : Value).ownBlock ∧ some k_ ≠ (v310 : Value).ownBlock ∧ k_ ≠ gb297 ∧ k_ ≠ gb299) v316 t315) := ⟨h5_⟩
              have n6_ : Aside0 (w37.heap[gb297]? = some (.cells #[.bool a0_0, .string a0_1, .string a0_2, .string a0_3, .int .u32 a0_4, .int .u64 a0_5, .bool a0_6] 34 (0, 0))) := ⟨h6_⟩
              have n7_ : Aside0 (w37.heap[gb299]? = some (.cells #[.bool q30, .string q31, .string q32, .string q33, .int .u32 q34, .int .u64 q35, .bool q36] 34 (0, 0))) := ⟨h7_⟩
              have n8_ : Aside0 (Below w.heap.size w w37) := ⟨h8_⟩
              clear BK297
              clear BK299
              clear HB
              clear h0_ h1_ h2_ h3_ h4_ h5_ h6_ h7_ h8_
              have HO302 := n0_
              have HO305 := n1_
              have HO308 := n2_
              have HO311 := n3_
              have HO314 := n4_
              have HO317 := n5_
              have BK297 := n6_
              have BK299 := n7_
              have HB := n8_
              clear n0_ n1_ n2_ n3_ n4_ n5_ n6_ n7_ n8_
              have hHeld : w37.cell? ⟨gb297, 0, none⟩ = some (.bool a0_0) ∧ w37.cell? ⟨gb297, 1, none⟩ = some (.string a0_1) ∧ w37.cell? ⟨gb297, 2, none⟩ = some (.string a0_2) ∧ w37.cell? ⟨gb297, 3, none⟩ = some (.string a0_3) ∧ w37.cell? ⟨gb297, 4, none⟩ = some (.int .u32 a0_4) ∧ w37.cell? ⟨gb297, 5, none⟩ = some (.int .u64 a0_5) ∧ w37.cell? ⟨gb297, 6, none⟩ = some (.bool a0_6) ∧ w37.cell? ⟨gb299, 0, none⟩ = some (.bool q30) ∧ w37.cell? ⟨gb299, 1, none⟩ = some (.string q31) ∧ w37.cell? ⟨gb299, 2, none⟩ = some (.string q32) ∧ w37.cell? ⟨gb299, 3, none⟩ = some (.string q33) ∧ w37.cell? ⟨gb299, 4, none⟩ = some (.int .u32 q34) ∧ w37.cell? ⟨gb299, 5, none⟩ = some (.int .u64 q35) ∧ w37.cell? ⟨gb299, 6, none⟩ = some (.bool q36) := hS_
              refine norm_ (a' := ?_) ?_ ?_
              rotate_left
              ·simp only [putAll, Act.put, List.setIfInBounds_toArray, List.set_cons_zero, List.set_cons_succ]
               rfl
              refine two_ (i := 12) (j := 15) (Ni := some 25) (Nj := some 28) #[true, true, true, true, true, true, true, true, true, true, true, true, true, true, true, false, true, true, true, false, false, false, false] #[true, true, true, true, true, true, true, true, true, true, true, true, false, true, true, true, true, true, true, false, false, false, false] rfl rfl rfl rfl (two_of HT_.out (by kernel_rfl)) (by decide) (by decide) (fun K hK => ?_) (fun K hK => ?_)
              ·skip
               have hcv38 := own_string (P := Tryd.prog) Tryd.underlying31 Tryd.underlying5 Tryd.underlying9 (Kd.own_of_R HO311.out)
               refine value_ (w1 := ?_) (v := ?_) (by rfl) rfl ?_ ?_
               rotate_left 2
               ·go_simp
                constructor
                ·rfl
                ·rfl
               clear hcv38
               refine hK.out _ _ ⟨(blk_cell BK297.out 0).trans rfl, (blk_cell BK297.out 1).trans rfl, (blk_cell BK297.out 2).trans rfl, (blk_cell BK297.out 3).trans rfl, (blk_cell BK297.out 4).trans rfl, (blk_cell BK297.out 5).trans rfl, (blk_cell BK297.out 6).trans rfl, (blk_cell BK299.out 0).trans rfl, (blk_cell BK299.out 1).trans rfl, (blk_cell BK299.out 2).trans rfl, (blk_cell BK299.out 3).trans rfl, (blk_cell BK299.out 4).trans rfl, (blk_cell BK299.out 5).trans rfl, (blk_cell BK299.out 6).trans rfl⟩ (fun hHeld => ?_)
               clear hK K
               refine norm_ (a' := ?_) ?_ ?_
               rotate_left
               ·show Act.put _ (some 25) _ = _
                simp only [Act.put, List.setIfInBounds_toArray, List.set_cons_zero, List.set_cons_succ, i64_w, i32_w]
                rfl
               exact norm_ (by first | (simp only [putAll, Act.put, List.setIfInBounds_toArray, List.set_cons_zero, List.set_cons_succ]; done) | (simp only [putAll, Act.put, List.setIfInBounds_toArray, List.set_cons_zero, List.set_cons_succ]; rfl)) (hJ2_4_5_10_11_12_14_17_18 (v304, v307, v310, v313, v316) _ ⟨hHeld, (by (with_reducible repeat (first | apply Kd.V_alloc | apply Kd.V_drewN | apply Kd.V_drew)); exact HO302.out), (by (with_reducible repeat (first | apply Kd.V_alloc | apply Kd.V_drewN | apply Kd.V_drew)); exact HO305.out), (by (with_reducible repeat (first | apply Kd.R_alloc | apply Kd.R_drewN | apply Kd.R_drew)); exact HO308.out), (by (with_reducible repeat (first | apply Kd.R_alloc | apply Kd.R_drewN | apply Kd.R_drew)); exact HO311.out), (by (with_reducible repeat (first | apply Kd.V_alloc | apply Kd.V_drewN | apply Kd.V_drew)); exact HO314.out), (by (with_reducible repeat (first | apply Kd.V_alloc | apply Kd.V_drewN | apply Kd.V_drew)); exact HO317.out), (by (with_reducible repeat (first | refine blk_drewN ?_ _ | refine blk_drew ?_ | refine blk_alloc ?_ _)); exact BK297.out), (by (with_reducible repeat (first | refine blk_drewN ?_ _ | refine blk_drew ?_ | refine blk_alloc ?_ _)); exact BK299.out), (by repeat (first | (with_reducible first | exact HB.out | apply below_alloc | apply pw_below_drewN | apply below_drew1 | refine below_set ?_ GE297.out | refine below_set ?_ GE299.out) | exact HB.out))⟩)
              ·skip
               have hcv38 := V_string (P := Tryd.prog) Tryd.underlying31 Tryd.underlying5 Tryd.underlying9 HO314.out
               refine value_ (w1 := ?_) (v := ?_) (by rfl) rfl ?_ ?_
               rotate_left 2
               ·go_simp
                constructor
                ·rfl
                ·rfl
               clear hcv38
               refine hK.out _ _ ⟨(blk_cell BK297.out 0).trans rfl, (blk_cell BK297.out 1).trans rfl, (blk_cell BK297.out 2).trans rfl, (blk_cell BK297.out 3).trans rfl, (blk_cell BK297.out 4).trans rfl, (blk_cell BK297.out 5).trans rfl, (blk_cell BK297.out 6).trans rfl, (blk_cell BK299.out 0).trans rfl, (blk_cell BK299.out 1).trans rfl, (blk_cell BK299.out 2).trans rfl, (blk_cell BK299.out 3).trans rfl, (blk_cell BK299.out 4).trans rfl, (blk_cell BK299.out 5).trans rfl, (blk_cell BK299.out 6).trans rfl⟩ (fun hHeld => ?_)
               clear hK K
               refine norm_ (a' := ?_) ?_ ?_
               rotate_left
               ·show Act.put _ (some 28) _ = _
                simp only [Act.put, List.setIfInBounds_toArray, List.set_cons_zero, List.set_cons_succ, i64_w, i32_w]
                rfl
               refine pure_ (i := 19) (N := some 32) (v := ?_) (a' := ?_) #[true, true, true, true, true, true, true, true, true, true, true, true, false, true, true, true, true, true, true, true, false, false, false] rfl rfl (any_of HT_.out (by kernel_rfl)) (fun _ _ _ h => h) (Or.inl ⟨by rfl, ?_⟩) ?_ ?_
               rotate_left
               ·intro w'
                go_simp
                with_reducible rfl
               rotate_left
               ·simp only [Act.put, List.setIfInBounds_toArray, List.set_cons_zero, List.set_cons_succ, i64_w, i32_w]
                rfl
               exact norm_ (by first | (simp only [putAll, Act.put, List.setIfInBounds_toArray, List.set_cons_zero, List.set_cons_succ]; done) | (simp only [putAll, Act.put, List.setIfInBounds_toArray, List.set_cons_zero, List.set_cons_succ]; rfl)) (hJ2_4_5_10_11_14_15_17_18 (v304, v307, v310, v313, v316) _ ⟨hHeld, (by (with_reducible repeat (first | apply Kd.V_alloc | apply Kd.V_drewN | apply Kd.V_drew)); exact HO302.out), (by (with_reducible repeat (first | apply Kd.V_alloc | apply Kd.V_drewN | apply Kd.V_drew)); exact HO305.out), (by (with_reducible repeat (first | apply Kd.R_alloc | apply Kd.R_drewN | apply Kd.R_drew)); exact HO308.out), (by (with_reducible repeat (first | apply Kd.R_alloc | apply Kd.R_drewN | apply Kd.R_drew)); exact HO311.out), (by (with_reducible repeat (first | apply Kd.V_alloc | apply Kd.V_drewN | apply Kd.V_drew)); exact HO314.out), (by (with_reducible repeat (first | apply Kd.V_alloc | apply Kd.V_drewN | apply Kd.V_drew)); exact HO317.out), (by (with_reducible repeat (first | refine blk_drewN ?_ _ | refine blk_drew ?_ | refine blk_alloc ?_ _)); exact BK297.out), (by (with_reducible repeat (first | refine blk_drewN ?_ _ | refine blk_drew ?_ | refine blk_alloc ?_ _)); exact BK299.out), (by repeat (first | (with_reducible first | exact HB.out | apply below_alloc | apply pw_below_drewN | apply below_drew1 | refine below_set ?_ GE297.out | refine below_set ?_ GE299.out) | exact HB.out))⟩)
            ·skip
             rintro ⟨v304, v307, v310, v313, v316⟩ w37 ⟨hS_, h0_, h1_, h2_, h3_, h4_, h5_, h6_, h7_, h8_⟩
             have n0_ : Aside0 (Kd.V (Kd.int .u8) 5 w37 w.heap.size (fun k_ => some k_ ≠ (v307 : Value).ownBlock ∧ some k_ ≠ (v310 : Value).ownBlock ∧ k_ ≠ gb297 ∧ k_ ≠ gb299) v301 t300) := ⟨h0_⟩
             have n1_ : Aside0 (Kd.V (Kd.int .u8) 5 w37 w.heap.size (fun k_ => some k_ ≠ (v307 : Value).ownBlock ∧ some k_ ≠ (v310 : Value).ownBlock ∧ k_ ≠ gb297 ∧ k_ ≠ gb299) v304 t303) := ⟨h1_⟩
             have n2_ : Aside0 (Kd.R k34 34 w37 w.heap.size (fun k_ => k_ ≠ gb297 ∧ k_ ≠ gb299) v307 y306) := ⟨h2_⟩
             have n3_ : Aside0 (Kd.R (Kd.int .u8) 5 w37 w.heap.size (fun _ => True) v310 t309) := ⟨h3_⟩
             have n4_ : Aside0 (Kd.V (Kd.int .u8) 5 w37 w.heap.size (fun k_ => some k_ ≠ (v307 : Value).ownBlock ∧ some k_ ≠ (v310 : Value).ownBlock ∧ k_ ≠ gb297 ∧ k_ ≠ gb299) v313 t312) := ⟨h4_⟩
             have n5_ : Aside0 (Kd.V (Kd.int .u8) 5 w37 w.heap.size (fun k_ => some k_ ≠ (v307 : Value).ownBlock ∧ some k_ ≠ (v310 : Value).ownBlock ∧ k_ ≠ gb297 ∧ k_ ≠ gb299) v316 t315) := ⟨h5_⟩
             have n6_ : Aside0 (w37.heap[gb297]? = some (.cells #[.bool a0_0, .string a0_1, .string a0_2, .string a0_3, .int .u32 a0_4, .int .u64 a0_5, .bool a0_6] 34 (0, 0))) := ⟨h6_⟩
             have n7_ : Aside0 (w37.heap[gb299]? = some (.cells #[.bool q30, .string q31, .string q32, .string q33, .int .u32 q34, .int .u64 q35, .bool q36] 34 (0, 0))) := ⟨h7_⟩
             have n8_ : Aside0 (Below w.heap.size w w37) := ⟨h8_⟩
             clear BK297
             clear BK299
             clear HB
             clear h0_ h1_ h2_ h3_ h4_ h5_ h6_ h7_ h8_
             have HO302 := n0_
             have HO305 := n1_
             have HO308 := n2_
             have HO311 := n3_
             have HO314 := n4_
             have HO317 := n5_
             have BK297 := n6_
             have BK299 := n7_
             have HB := n8_
             clear n0_ n1_ n2_ n3_ n4_ n5_ n6_ n7_ n8_
             have hHeld : w37.cell? ⟨gb297, 0, none⟩ = some (.bool a0_0) ∧ w37.cell? ⟨gb297, 1, none⟩ = some (.string a0_1) ∧ w37.cell? ⟨gb297, 2, none⟩ = some (.string a0_2) ∧ w37.cell? ⟨gb297, 3, none⟩ = some (.string a0_3) ∧ w37.cell? ⟨gb297, 4, none⟩ = some (.int .u32 a0_4) ∧ w37.cell? ⟨gb297, 5, none⟩ = some (.int .u64 a0_5) ∧ w37.cell? ⟨gb297, 6, none⟩ = some (.bool a0_6) ∧ w37.cell? ⟨gb299, 0, none⟩ = some (.bool q30) ∧ w37.cell? ⟨gb299, 1, none⟩ = some (.string q31) ∧ w37.cell? ⟨gb299, 2, none⟩ = some (.string q32) ∧ w37.cell? ⟨gb299, 3, none⟩ = some (.string q33) ∧ w37.cell? ⟨gb299, 4, none⟩ = some (.int .u32 q34) ∧ w37.cell? ⟨gb299, 5, none⟩ = some (.int .u64 q35) ∧ w37.cell? ⟨gb299, 6, none⟩ = some (.bool q36) := hS_
             refine norm_ (a' := ?_) ?_ ?_
             rotate_left
             ·simp only [putAll, Act.put, List.setIfInBounds_toArray, List.set_cons_zero, List.set_cons_succ]
              rfl
             refine two_ (i := 12) (j := 18) (Ni := some 25) (Nj := some 31) #[true, true, true, true, true, true, true, true, true, true, true, true, true, true, true, true, true, true, false, false, false, false, false] #[true, true, true, true, true, true, true, true, true, true, true, true, false, true, true, true, true, true, true, false, false, false, false] rfl rfl rfl rfl (two_of HT_.out (by kernel_rfl)) (by decide) (by decide) (fun K hK => ?_) (fun K hK => ?_)
             ·skip
              have hcv38 := own_string (P := Tryd.prog) Tryd.underlying31 Tryd.underlying5 Tryd.underlying9 (Kd.own_of_R HO311.out)
              refine value_ (w1 := ?_) (v := ?_) (by rfl) rfl ?_ ?_
              rotate_left 2
              ·go_simp
               constructor
               ·rfl
               ·rfl
              clear hcv38
              refine hK.out _ _ ⟨(blk_cell BK297.out 0).trans rfl, (blk_cell BK297.out 1).trans rfl, (blk_cell BK297.out 2).trans rfl, (blk_cell BK297.out 3).trans rfl, (blk_cell BK297.out 4).trans rfl, (blk_cell BK297.out 5).trans rfl, (blk_cell BK297.out 6).trans rfl, (blk_cell BK299.out 0).trans rfl, (blk_cell BK299.out 1).trans rfl, (blk_cell BK299.out 2).trans rfl, (blk_cell BK299.out 3).trans rfl, (blk_cell BK299.out 4).trans rfl, (blk_cell BK299.out 5).trans rfl, (blk_cell BK299.out 6).trans rfl⟩ (fun hHeld => ?_)
              clear hK K
              refine norm_ (a' := ?_) ?_ ?_
              rotate_left
              ·show Act.put _ (some 25) _ = _
               simp only [Act.put, List.setIfInBounds_toArray, List.set_cons_zero, List.set_cons_succ, i64_w, i32_w]
               rfl
              exact norm_ (by first | (simp only [putAll, Act.put, List.setIfInBounds_toArray, List.set_cons_zero, List.set_cons_succ]; done) | (simp only [putAll, Act.put, List.setIfInBounds_toArray, List.set_cons_zero, List.set_cons_succ]; rfl)) (hJ2_4_5_10_11_12_14_15_17 (v304, v307, v310, v313, v316) _ ⟨hHeld, (by (with_reducible repeat (first | apply Kd.V_alloc | apply Kd.V_drewN | apply Kd.V_drew)); exact HO302.out), (by (with_reducible repeat (first | apply Kd.V_alloc | apply Kd.V_drewN | apply Kd.V_drew)); exact HO305.out), (by (with_reducible repeat (first | apply Kd.R_alloc | apply Kd.R_drewN | apply Kd.R_drew)); exact HO308.out), (by (with_reducible repeat (first | apply Kd.R_alloc | apply Kd.R_drewN | apply Kd.R_drew)); exact HO311.out), (by (with_reducible repeat (first | apply Kd.V_alloc | apply Kd.V_drewN | apply Kd.V_drew)); exact HO314.out), (by (with_reducible repeat (first | apply Kd.V_alloc | apply Kd.V_drewN | apply Kd.V_drew)); exact HO317.out), (by (with_reducible repeat (first | refine blk_drewN ?_ _ | refine blk_drew ?_ | refine blk_alloc ?_ _)); exact BK297.out), (by (with_reducible repeat (first | refine blk_drewN ?_ _ | refine blk_drew ?_ | refine blk_alloc ?_ _)); exact BK299.out), (by repeat (first | (with_reducible first | exact HB.out | apply below_alloc | apply pw_below_drewN | apply below_drew1 | refine below_set ?_ GE297.out | refine below_set ?_ GE299.out) | exact HB.out))⟩)
             ·skip
              have hcv38 := V_string (P := Tryd.prog) Tryd.underlying31 Tryd.underlying5 Tryd.underlying9 HO317.out
              refine value_ (w1 := ?_) (v := ?_) (by rfl) rfl ?_ ?_
              rotate_left 2
              ·go_simp
               constructor
               ·rfl
               ·rfl
              clear hcv38
              refine hK.out _ _ ⟨(blk_cell BK297.out 0).trans rfl, (blk_cell BK297.out 1).trans rfl, (blk_cell BK297.out 2).trans rfl, (blk_cell BK297.out 3).trans rfl, (blk_cell BK297.out 4).trans rfl, (blk_cell BK297.out 5).trans rfl, (blk_cell BK297.out 6).trans rfl, (blk_cell BK299.out 0).trans rfl, (blk_cell BK299.out 1).trans rfl, (blk_cell BK299.out 2).trans rfl, (blk_cell BK299.out 3).trans rfl, (blk_cell BK299.out 4).trans rfl, (blk_cell BK299.out 5).trans rfl, (blk_cell BK299.out 6).trans rfl⟩ (fun hHeld => ?_)
              clear hK K
              refine norm_ (a' := ?_) ?_ ?_
              rotate_left
              ·show Act.put _ (some 31) _ = _
               simp only [Act.put, List.setIfInBounds_toArray, List.set_cons_zero, List.set_cons_succ, i64_w, i32_w]
               rfl
              refine pure_ (i := 19) (N := some 32) (v := ?_) (a' := ?_) #[true, true, true, true, true, true, true, true, true, true, true, true, false, true, true, true, true, true, true, true, false, false, false] rfl rfl (any_of HT_.out (by kernel_rfl)) (fun _ _ _ h => h) (Or.inl ⟨by rfl, ?_⟩) ?_ ?_
              rotate_left
              ·intro w'
               go_simp
               with_reducible rfl
              rotate_left
              ·simp only [Act.put, List.setIfInBounds_toArray, List.set_cons_zero, List.set_cons_succ, i64_w, i32_w]
               rfl
              exact norm_ (by first | (simp only [putAll, Act.put, List.setIfInBounds_toArray, List.set_cons_zero, List.set_cons_succ]; done) | (simp only [putAll, Act.put, List.setIfInBounds_toArray, List.set_cons_zero, List.set_cons_succ]; rfl)) (hJ2_4_5_10_11_14_15_17_18 (v304, v307, v310, v313, v316) _ ⟨hHeld, (by (with_reducible repeat (first | apply Kd.V_alloc | apply Kd.V_drewN | apply Kd.V_drew)); exact HO302.out), (by (with_reducible repeat (first | apply Kd.V_alloc | apply Kd.V_drewN | apply Kd.V_drew)); exact HO305.out), (by (with_reducible repeat (first | apply Kd.R_alloc | apply Kd.R_drewN | apply Kd.R_drew)); exact HO308.out), (by (with_reducible repeat (first | apply Kd.R_alloc | apply Kd.R_drewN | apply Kd.R_drew)); exact HO311.out), (by (with_reducible repeat (first | apply Kd.V_alloc | apply Kd.V_drewN | apply Kd.V_drew)); exact HO314.out), (by (with_reducible repeat (first | apply Kd.V_alloc | apply Kd.V_drewN | apply Kd.V_drew)); exact HO317.out), (by (with_reducible repeat (first | refine blk_drewN ?_ _ | refine blk_drew ?_ | refine blk_alloc ?_ _)); exact BK297.out), (by (with_reducible repeat (first | refine blk_drewN ?_ _ | refine blk_drew ?_ | refine blk_alloc ?_ _)); exact BK299.out), (by repeat (first | (with_reducible first | exact HB.out | apply below_alloc | apply pw_below_drewN | apply below_drew1 | refine below_set ?_ GE297.out | refine below_set ?_ GE299.out) | exact HB.out))⟩)
           ·skip
            rintro ⟨v304, v307, v310, v313, v316⟩ w37 ⟨hS_, h0_, h1_, h2_, h3_, h4_, h5_, h6_, h7_, h8_⟩
            have n0_ : Aside0 (Kd.V (Kd.int .u8) 5 w37 w.heap.size (fun k_ => some k_ ≠ (v307 : Value).ownBlock ∧ some k_ ≠ (v310 : Value).ownBlock ∧ k_ ≠ gb297 ∧ k_ ≠ gb299) v301 t300) := ⟨h0_⟩
            have n1_ : Aside0 (Kd.V (Kd.int .u8) 5 w37 w.heap.size (fun k_ => some k_ ≠ (v307 : Value).ownBlock ∧ some k_ ≠ (v310 : Value).ownBlock ∧ k_ ≠ gb297 ∧ k_ ≠ gb299) v304 t303) := ⟨h1_⟩
            have n2_ : Aside0 (Kd.R k34 34 w37 w.heap.size (fun k_ => k_ ≠ gb297 ∧ k_ ≠ gb299) v307 y306) := ⟨h2_⟩
            have n3_ : Aside0 (Kd.R (Kd.int .u8) 5 w37 w.heap.size (fun _ => True) v310 t309) := ⟨h3_⟩
            have n4_ : Aside0 (Kd.V (Kd.int .u8) 5 w37 w.heap.size (fun k_ => some k_ ≠ (v307 : Value).ownBlock ∧ some k_ ≠ (v310 : Value).ownBlock ∧ k_ ≠ gb297 ∧ k_ ≠ gb299) v313 t312) := ⟨h4_⟩
            have n5_ : Aside0 (Kd.V (Kd.int .u8) 5 w37 w.heap.size (fun k_ => some k_ ≠ (v307 : Value).ownBlock ∧ some k_ ≠ (v310 : Value).ownBlock ∧ k_ ≠ gb297 ∧ k_ ≠ gb299) v316 t315) := ⟨h5_⟩
            have n6_ : Aside0 (w37.heap[gb297]? = some (.cells #[.bool a0_0, .string a0_1, .string a0_2, .string a0_3, .int .u32 a0_4, .int .u64 a0_5, .bool a0_6] 34 (0, 0))) := ⟨h6_⟩
            have n7_ : Aside0 (w37.heap[gb299]? = some (.cells #[.bool q30, .string q31, .string q32, .string q33, .int .u32 q34, .int .u64 q35, .bool q36] 34 (0, 0))) := ⟨h7_⟩
            have n8_ : Aside0 (Below w.heap.size w w37) := ⟨h8_⟩
            clear BK297
            clear BK299
            clear HB
            clear h0_ h1_ h2_ h3_ h4_ h5_ h6_ h7_ h8_
            have HO302 := n0_
            have HO305 := n1_
            have HO308 := n2_
            have HO311 := n3_
            have HO314 := n4_
            have HO317 := n5_
            have BK297 := n6_
            have BK299 := n7_
            have HB := n8_
            clear n0_ n1_ n2_ n3_ n4_ n5_ n6_ n7_ n8_
            have hHeld : w37.cell? ⟨gb297, 0, none⟩ = some (.bool a0_0) ∧ w37.cell? ⟨gb297, 1, none⟩ = some (.string a0_1) ∧ w37.cell? ⟨gb297, 2, none⟩ = some (.string a0_2) ∧ w37.cell? ⟨gb297, 3, none⟩ = some (.string a0_3) ∧ w37.cell? ⟨gb297, 4, none⟩ = some (.int .u32 a0_4) ∧ w37.cell? ⟨gb297, 5, none⟩ = some (.int .u64 a0_5) ∧ w37.cell? ⟨gb297, 6, none⟩ = some (.bool a0_6) ∧ w37.cell? ⟨gb299, 0, none⟩ = some (.bool q30) ∧ w37.cell? ⟨gb299, 1, none⟩ = some (.string q31) ∧ w37.cell? ⟨gb299, 2, none⟩ = some (.string q32) ∧ w37.cell? ⟨gb299, 3, none⟩ = some (.string q33) ∧ w37.cell? ⟨gb299, 4, none⟩ = some (.int .u32 q34) ∧ w37.cell? ⟨gb299, 5, none⟩ = some (.int .u64 q35) ∧ w37.cell? ⟨gb299, 6, none⟩ = some (.bool q36) := hS_
            refine norm_ (a' := ?_) ?_ ?_
            rotate_left
            ·simp only [putAll, Act.put, List.setIfInBounds_toArray, List.set_cons_zero, List.set_cons_succ]
             rfl
            refine two_ (i := 15) (j := 18) (Ni := some 28) (Nj := some 31) #[true, true, true, true, true, true, true, true, true, true, true, true, true, true, true, true, true, true, false, false, false, false, false] #[true, true, true, true, true, true, true, true, true, true, true, true, true, true, true, false, true, true, true, false, false, false, false] rfl rfl rfl rfl (two_of HT_.out (by kernel_rfl)) (by decide) (by decide) (fun K hK => ?_) (fun K hK => ?_)
            ·skip
             have hcv38 := V_string (P := Tryd.prog) Tryd.underlying31 Tryd.underlying5 Tryd.underlying9 HO314.out
             refine value_ (w1 := ?_) (v := ?_) (by rfl) rfl ?_ ?_
             rotate_left 2
             ·go_simp
              constructor
              ·rfl
              ·rfl
             clear hcv38
             refine hK.out _ _ ⟨(blk_cell BK297.out 0).trans rfl, (blk_cell BK297.out 1).trans rfl, (blk_cell BK297.out 2).trans rfl, (blk_cell BK297.out 3).trans rfl, (blk_cell BK297.out 4).trans rfl, (blk_cell BK297.out 5).trans rfl, (blk_cell BK297.out 6).trans rfl, (blk_cell BK299.out 0).trans rfl, (blk_cell BK299.out 1).trans rfl, (blk_cell BK299.out 2).trans rfl, (blk_cell BK299.out 3).trans rfl, (blk_cell BK299.out 4).trans rfl, (blk_cell BK299.out 5).trans rfl, (blk_cell BK299.out 6).trans rfl⟩ (fun hHeld => ?_)
             clear hK K
             refine norm_ (a' := ?_) ?_ ?_
             rotate_left
             ·show Act.put _ (some 28) _ = _
              simp only [Act.put, List.setIfInBounds_toArray, List.set_cons_zero, List.set_cons_succ, i64_w, i32_w]
              rfl
             exact norm_ (by first | (simp only [putAll, Act.put, List.setIfInBounds_toArray, List.set_cons_zero, List.set_cons_succ]; done) | (simp only [putAll, Act.put, List.setIfInBounds_toArray, List.set_cons_zero, List.set_cons_succ]; rfl)) (hJ2_4_5_10_11_12_14_15_17 (v304, v307, v310, v313, v316) _ ⟨hHeld, (by (with_reducible repeat (first | apply Kd.V_alloc | apply Kd.V_drewN | apply Kd.V_drew)); exact HO302.out), (by (with_reducible repeat (first | apply Kd.V_alloc | apply Kd.V_drewN | apply Kd.V_drew)); exact HO305.out), (by (with_reducible repeat (first | apply Kd.R_alloc | apply Kd.R_drewN | apply Kd.R_drew)); exact HO308.out), (by (with_reducible repeat (first | apply Kd.R_alloc | apply Kd.R_drewN | apply Kd.R_drew)); exact HO311.out), (by (with_reducible repeat (first | apply Kd.V_alloc | apply Kd.V_drewN | apply Kd.V_drew)); exact HO314.out), (by (with_reducible repeat (first | apply Kd.V_alloc | apply Kd.V_drewN | apply Kd.V_drew)); exact HO317.out), (by (with_reducible repeat (first | refine blk_drewN ?_ _ | refine blk_drew ?_ | refine blk_alloc ?_ _)); exact BK297.out), (by (with_reducible repeat (first | refine blk_drewN ?_ _ | refine blk_drew ?_ | refine blk_alloc ?_ _)); exact BK299.out), (by repeat (first | (with_reducible first | exact HB.out | apply below_alloc | apply pw_below_drewN | apply below_drew1 | refine below_set ?_ GE297.out | refine below_set ?_ GE299.out) | exact HB.out))⟩)
            ·skip
             have hcv38 := V_string (P := Tryd.prog) Tryd.underlying31 Tryd.underlying5 Tryd.underlying9 HO317.out
             refine value_ (w1 := ?_) (v := ?_) (by rfl) rfl ?_ ?_
             rotate_left 2
             ·go_simp
              constructor
              ·rfl
              ·rfl
             clear hcv38
             refine hK.out _ _ ⟨(blk_cell BK297.out 0).trans rfl, (blk_cell BK297.out 1).trans rfl, (blk_cell BK297.out 2).trans rfl, (blk_cell BK297.out 3).trans rfl, (blk_cell BK297.out 4).trans rfl, (blk_cell BK297.out 5).trans rfl, (blk_cell BK297.out 6).trans rfl, (blk_cell BK299.out 0).trans rfl, (blk_cell BK299.out 1).trans rfl, (blk_cell BK299.out 2).trans rfl, (blk_cell BK299.out 3).trans rfl, (blk_cell BK299.out 4).trans rfl, (blk_cell BK299.out 5).trans rfl, (blk_cell BK299.out 6).trans rfl⟩ (fun hHeld => ?_)
             clear hK K
             refine norm_ (a' := ?_) ?_ ?_
             rotate_left
             ·show Act.put _ (some 31) _ = _
              simp only [Act.put, List.setIfInBounds_toArray, List.set_cons_zero, List.set_cons_succ, i64_w, i32_w]
              rfl
             exact norm_ (by first | (simp only [putAll, Act.put, List.setIfInBounds_toArray, List.set_cons_zero, List.set_cons_succ]; done) | (simp only [putAll, Act.put, List.setIfInBounds_toArray, List.set_cons_zero, List.set_cons_succ]; rfl)) (hJ2_4_5_10_11_12_14_17_18 (v304, v307, v310, v313, v316) _ ⟨hHeld, (by (with_reducible repeat (first | apply Kd.V_alloc | apply Kd.V_drewN | apply Kd.V_drew)); exact HO302.out), (by (with_reducible repeat (first | apply Kd.V_alloc | apply Kd.V_drewN | apply Kd.V_drew)); exact HO305.out), (by (with_reducible repeat (first | apply Kd.R_alloc | apply Kd.R_drewN | apply Kd.R_drew)); exact HO308.out), (by (with_reducible repeat (first | apply Kd.R_alloc | apply Kd.R_drewN | apply Kd.R_drew)); exact HO311.out), (by (with_reducible repeat (first | apply Kd.V_alloc | apply Kd.V_drewN | apply Kd.V_drew)); exact HO314.out), (by (with_reducible repeat (first | apply Kd.V_alloc | apply Kd.V_drewN | apply Kd.V_drew)); exact HO317.out), (by (with_reducible repeat (first | refine blk_drewN ?_ _ | refine blk_drew ?_ | refine blk_alloc ?_ _)); exact BK297.out), (by (with_reducible repeat (first | refine blk_drewN ?_ _ | refine blk_drew ?_ | refine blk_alloc ?_ _)); exact BK299.out), (by repeat (first | (with_reducible first | exact HB.out | apply below_alloc | apply pw_below_drewN | apply below_drew1 | refine below_set ?_ GE297.out | refine below_set ?_ GE299.out) | exact HB.out))⟩)
          ·skip
           rintro ⟨v304, v307, v310, v313⟩ w37 ⟨hS_, h0_, h1_, h2_, h3_, h4_, h5_, h6_, h7_⟩
           have n0_ : Aside0 (Kd.V (Kd.int .u8) 5 w37 w.heap.size (fun k_ => some k_ ≠ (v307 : Value).ownBlock ∧ some k_ ≠ (v310 : Value).ownBlock ∧ k_ ≠ gb297 ∧ k_ ≠ gb299) v301 t300) := ⟨h0_⟩
           have n1_ : Aside0 (Kd.V (Kd.int .u8) 5 w37 w.heap.size (fun k_ => some k_ ≠ (v307 : Value).ownBlock ∧ some k_ ≠ (v310 : Value).ownBlock ∧ k_ ≠ gb297 ∧ k_ ≠ gb299) v304 t303) := ⟨h1_⟩
           have n2_ : Aside0 (Kd.R k34 34 w37 w.heap.size (fun k_ => k_ ≠ gb297 ∧ k_ ≠ gb299) v307 y306) := ⟨h2_⟩
           have n3_ : Aside0 (Kd.R (Kd.int .u8) 5 w37 w.heap.size (fun _ => True) v310 t309) := ⟨h3_⟩
           have n4_ : Aside0 (Kd.V (Kd.int .u8) 5 w37 w.heap.size (fun k_ => some k_ ≠ (v307 : Value).ownBlock ∧ some k_ ≠ (v310 : Value).ownBlock ∧ k_ ≠ gb297 ∧ k_ ≠ gb299) v313 t312) := ⟨h4_⟩
           have n5_ : Aside0 (w37.heap[gb297]? = some (.cells #[.bool a0_0, .string a0_1, .string a0_2, .string a0_3, .int .u32 a0_4, .int .u64 a0_5, .bool a0_6] 34 (0, 0))) := ⟨h5_⟩
           have n6_ : Aside0 (w37.heap[gb299]? = some (.cells #[.bool q30, .string q31, .string q32, .string q33, .int .u32 q34, .int .u64 q35, .bool q36] 34 (0, 0))) := ⟨h6_⟩
           have n7_ : Aside0 (Below w.heap.size w w37) := ⟨h7_⟩
           clear BK297
           clear BK299
           clear HB
           clear h0_ h1_ h2_ h3_ h4_ h5_ h6_ h7_
           have HO302 := n0_
           have HO305 := n1_
           have HO308 := n2_
           have HO311 := n3_
           have HO314 := n4_
           have BK297 := n5_
           have BK299 := n6_
           have HB := n7_
           clear n0_ n1_ n2_ n3_ n4_ n5_ n6_ n7_
           have hHeld : w37.cell? ⟨gb297, 0, none⟩ = some (.bool a0_0) ∧ w37.cell? ⟨gb297, 1, none⟩ = some (.string a0_1) ∧ w37.cell? ⟨gb297, 2, none⟩ = some (.string a0_2) ∧ w37.cell? ⟨gb297, 3, none⟩ = some (.string a0_3) ∧ w37.cell? ⟨gb297, 4, none⟩ = some (.int .u32 a0_4) ∧ w37.cell? ⟨gb297, 5, none⟩ = some (.int .u64 a0_5) ∧ w37.cell? ⟨gb297, 6, none⟩ = some (.bool a0_6) ∧ w37.cell? ⟨gb299, 0, none⟩ = some (.bool q30) ∧ w37.cell? ⟨gb299, 1, none⟩ = some (.string q31) ∧ w37.cell? ⟨gb299, 2, none⟩ = some (.string q32) ∧ w37.cell? ⟨gb299, 3, none⟩ = some (.string q33) ∧ w37.cell? ⟨gb299, 4, none⟩ = some (.int .u32 q34) ∧ w37.cell? ⟨gb299, 5, none⟩ = some (.int .u64 q35) ∧ w37.cell? ⟨gb299, 6, none⟩ = some (.bool q36) := hS_
           refine norm_ (a' := ?_) ?_ ?_
           rotate_left
           ·simp only [putAll, Act.put, List.setIfInBounds_toArray, List.set_cons_zero, List.set_cons_succ]
            rfl
           refine one_ (i := 17) (N := some 30) #[true, true, true, true, true, true, true, true, true, true, true, true, true, true, true, true, true, true, false, false, false, false, false] rfl rfl (one_of HT_.out (by kernel_rfl)) (by decide) (fun K hK => ?_)
           refine goes_ Tryd.func10 (by kernel_rfl) rfl #[.agg #[.bool q30, .string q31, .string q32, .string q33, .int .u32 q34, .int .u64 q35, .bool q36]] (by rfl) rfl rfl (by (try simp only [List.map_toArray, List.map_cons, List.map_nil]); first | done | rfl | (simp only [List.length_drop, List.length_take]; rfl)) ?_
           with_reducible refine (reply_Bytes.calls q30 q31 q32 q33 q34 q35 q36 t315 _ ?side1 A23.out).mono ?_
           (case side1 => exact HLD.below (by repeat (first | (with_reducible first | exact HB.out | apply below_alloc | apply pw_below_drewN | apply below_drew1 | refine below_set ?_ GE297.out | refine below_set ?_ GE299.out) | exact HB.out)))
           rintro e w38 ⟨v316, rfl, ho0, hb⟩
           refine ⟨_, rfl, ?_⟩
           have n0_ := Aside0.mk (Kd.V_below (by (with_reducible repeat (first | apply Kd.V_alloc | apply Kd.V_drewN | apply Kd.V_drew)); exact HO302.out) hb)
           have n1_ := Aside0.mk (Kd.V_below (by (with_reducible repeat (first | apply Kd.V_alloc | apply Kd.V_drewN | apply Kd.V_drew)); exact HO305.out) hb)
           have n2_ := Aside0.mk (Kd.R_below (by (with_reducible repeat (first | apply Kd.R_alloc | apply Kd.R_drewN | apply Kd.R_drew)); exact HO308.out) hb)
           have n3_ := Aside0.mk (Kd.R_below (by (with_reducible repeat (first | apply Kd.R_alloc | apply Kd.R_drewN | apply Kd.R_drew)); exact HO311.out) hb)
           have n4_ := Aside0.mk (Kd.V_below (by (with_reducible repeat (first | apply Kd.V_alloc | apply Kd.V_drewN | apply Kd.V_drew)); exact HO314.out) hb)
           have n5_ := Aside0.mk (Kd.V_lower (Kd.V_mono (ok' := fun k_ => some k_ ≠ (v307 : Value).ownBlock ∧ some k_ ≠ (v310 : Value).ownBlock ∧ k_ ≠ gb297 ∧ k_ ≠ gb299) ho0 (fun k_ hk_ => ⟨(Kd.fresh' (Kd.R_lt (by (with_reducible repeat (first | apply Kd.R_alloc | apply Kd.R_drewN | apply Kd.R_drew)); exact HO308.out)) k_ hk_), (Kd.fresh' (Kd.R_lt (by (with_reducible repeat (first | apply Kd.R_alloc | apply Kd.R_drewN | apply Kd.R_drew)); exact HO311.out)) k_ hk_), (Kd.freshB (g := gb297) (o := .cells #[.bool a0_0, .string a0_1, .string a0_2, .string a0_3, .int .u32 a0_4, .int .u64 a0_5, .bool a0_6] 34 (0, 0)) (by (with_reducible repeat (first | refine blk_drewN ?_ _ | refine blk_drew ?_ | refine blk_alloc ?_ _)); exact BK297.out) k_ hk_), (Kd.freshB (g := gb299) (o := .cells #[.bool q30, .string q31, .string q32, .string q33, .int .u32 q34, .int .u64 q35, .bool q36] 34 (0, 0)) (by (with_reducible repeat (first | refine blk_drewN ?_ _ | refine blk_drew ?_ | refine blk_alloc ?_ _)); exact BK299.out) k_ hk_)⟩)) (below_size (by repeat (first | (with_reducible first | exact HB.out | apply below_alloc | apply pw_below_drewN | apply below_drew1 | refine below_set ?_ GE297.out | refine below_set ?_ GE299.out) | exact HB.out))))
           have n6_ := Aside0.mk (blk_below (g := gb297) (o := .cells #[.bool a0_0, .string a0_1, .string a0_2, .string a0_3, .int .u32 a0_4, .int .u64 a0_5, .bool a0_6] 34 (0, 0)) (by (with_reducible repeat (first | refine blk_drewN ?_ _ | refine blk_drew ?_ | refine blk_alloc ?_ _)); exact BK297.out) hb)
           have n7_ := Aside0.mk (blk_below (g := gb299) (o := .cells #[.bool q30, .string q31, .string q32, .string q33, .int .u32 q34, .int .u64 q35, .bool q36] 34 (0, 0)) (by (with_reducible repeat (first | refine blk_drewN ?_ _ | refine blk_drew ?_ | refine blk_alloc ?_ _)); exact BK299.out) hb)
           have n8_ := Aside0.mk (below_step (by repeat (first | (with_reducible first | exact HB.out | apply below_alloc | apply pw_below_drewN | apply below_drew1 | refine below_set ?_ GE297.out | refine below_set ?_ GE299.out) | exact HB.out)) hb)
           clear HO302
           clear HO305
           clear HO308
           clear HO311
           clear HO314
           clear BK297
           clear BK299
           clear HB
           have HO302 := n0_
           have HO305 := n1_
           have HO308 := n2_
           have HO311 := n3_
           have HO314 := n4_
           have HO317 := n5_
           have BK297 := n6_
           have BK299 := n7_
           have HB := n8_
           clear n0_ n1_ n2_ n3_ n4_ n5_ n6_ n7_ n8_
           (try clear hb)
           (try clear hb2)
           (try clear hk)
           (try clear hi)
           (try clear ho0)
           refine hK.out _ _ ⟨(blk_cell BK297.out 0).trans rfl, (blk_cell BK297.out 1).trans rfl, (blk_cell BK297.out 2).trans rfl, (blk_cell BK297.out 3).trans rfl, (blk_cell BK297.out 4).trans rfl, (blk_cell BK297.out 5).trans rfl, (blk_cell BK297.out 6).trans rfl, (blk_cell BK299.out 0).trans rfl, (blk_cell BK299.out 1).trans rfl, (blk_cell BK299.out 2).trans rfl, (blk_cell BK299.out 3).trans rfl, (blk_cell BK299.out 4).trans rfl, (blk_cell BK299.out 5).trans rfl, (blk_cell BK299.out 6).trans rfl⟩ (fun hHeld => ?_)
           clear hK K
           refine norm_ (a' := ?_) ?_ ?_
           rotate_left
           ·show Act.put _ (some 30) _ = _
            simp only [Act.put, List.setIfInBounds_toArray, List.set_cons_zero, List.set_cons_succ, i64_w, i32_w]
            rfl
           exact norm_ (by first | (simp only [putAll, Act.put, List.setIfInBounds_toArray, List.set_cons_zero, List.set_cons_succ]; done) | (simp only [putAll, Act.put, List.setIfInBounds_toArray, List.set_cons_zero, List.set_cons_succ]; rfl)) (hJ2_4_5_10_11_12_14_15_17 (v304, v307, v310, v313, v316) _ ⟨hHeld, (by (with_reducible repeat (first | apply Kd.V_alloc | apply Kd.V_drewN | apply Kd.V_drew)); exact HO302.out), (by (with_reducible repeat (first | apply Kd.V_alloc | apply Kd.V_drewN | apply Kd.V_drew)); exact HO305.out), (by (with_reducible repeat (first | apply Kd.R_alloc | apply Kd.R_drewN | apply Kd.R_drew)); exact HO308.out), (by (with_reducible repeat (first | apply Kd.R_alloc | apply Kd.R_drewN | apply Kd.R_drew)); exact HO311.out), (by (with_reducible repeat (first | apply Kd.V_alloc | apply Kd.V_drewN | apply Kd.V_drew)); exact HO314.out), (by (with_reducible repeat (first | apply Kd.V_alloc | apply Kd.V_drewN | apply Kd.V_drew)); exact HO317.out), (by (with_reducible repeat (first | refine blk_drewN ?_ _ | refine blk_drew ?_ | refine blk_alloc ?_ _)); exact BK297.out), (by (with_reducible repeat (first | refine blk_drewN ?_ _ | refine blk_drew ?_ | refine blk_alloc ?_ _)); exact BK299.out), (by repeat (first | (with_reducible first | exact HB.out | apply below_alloc | apply pw_below_drewN | apply below_drew1 | refine below_set ?_ GE297.out | refine below_set ?_ GE299.out) | exact HB.out))⟩)
         ·skip
          rintro ⟨v304, v307, v310, v313, v316⟩ w38 ⟨hS_, h0_, h1_, h2_, h3_, h4_, h5_, h6_, h7_, h8_⟩
          have n0_ : Aside0 (Kd.V (Kd.int .u8) 5 w38 w.heap.size (fun k_ => some k_ ≠ (v307 : Value).ownBlock ∧ some k_ ≠ (v310 : Value).ownBlock ∧ k_ ≠ gb297 ∧ k_ ≠ gb299) v301 t300) := ⟨h0_⟩
          have n1_ : Aside0 (Kd.V (Kd.int .u8) 5 w38 w.heap.size (fun k_ => some k_ ≠ (v307 : Value).ownBlock ∧ some k_ ≠ (v310 : Value).ownBlock ∧ k_ ≠ gb297 ∧ k_ ≠ gb299) v304 t303) := ⟨h1_⟩
          have n2_ : Aside0 (Kd.R k34 34 w38 w.heap.size (fun k_ => k_ ≠ gb297 ∧ k_ ≠ gb299) v307 y306) := ⟨h2_⟩
          have n3_ : Aside0 (Kd.R (Kd.int .u8) 5 w38 w.heap.size (fun _ => True) v310 t309) := ⟨h3_⟩
          have n4_ : Aside0 (Kd.V (Kd.int .u8) 5 w38 w.heap.size (fun k_ => some k_ ≠ (v307 : Value).ownBlock ∧ some k_ ≠ (v310 : Value).ownBlock ∧ k_ ≠ gb297 ∧ k_ ≠ gb299) v313 t312) := ⟨h4_⟩
          have n5_ : Aside0 (Kd.V (Kd.int .u8) 5 w38 w.heap.size (fun k_ => some k_ ≠ (v307 : Value).ownBlock ∧ some k_ ≠ (v310 : Value).ownBlock ∧ k_ ≠ gb297 ∧ k_ ≠ gb299) v316 t315) := ⟨h5_⟩
          have n6_ : Aside0 (w38.heap[gb297]? = some (.cells #[.bool a0_0, .string a0_1, .string a0_2, .string a0_3, .int .u32 a0_4, .int .u64 a0_5, .bool a0_6] 34 (0, 0))) := ⟨h6_⟩
          have n7_ : Aside0 (w38.heap[gb299]? = some (.cells #[.bool q30, .string q31, .string q32, .string q33, .int .u32 q34, .int .u64 q35, .bool q36] 34 (0, 0))) := ⟨h7_⟩
          have n8_ : Aside0 (Below w.heap.size w w38) := ⟨h8_⟩
          clear BK297
          clear BK299
          clear HB
          clear h0_ h1_ h2_ h3_ h4_ h5_ h6_ h7_ h8_
          have HO302 := n0_
          have HO305 := n1_
          have HO308 := n2_
          have HO311 := n3_
          have HO314 := n4_
          have HO317 := n5_
          have BK297 := n6_
          have BK299 := n7_
          have HB := n8_
          clear n0_ n1_ n2_ n3_ n4_ n5_ n6_ n7_ n8_
          have hHeld : w38.cell? ⟨gb297, 0, none⟩ = some (.bool a0_0) ∧ w38.cell? ⟨gb297, 1, none⟩ = some (.string a0_1) ∧ w38.cell? ⟨gb297, 2, none⟩ = some (.string a0_2) ∧ w38.cell? ⟨gb297, 3, none⟩ = some (.string a0_3) ∧ w38.cell? ⟨gb297, 4, none⟩ = some (.int .u32 a0_4) ∧ w38.cell? ⟨gb297, 5, none⟩ = some (.int .u64 a0_5) ∧ w38.cell? ⟨gb297, 6, none⟩ = some (.bool a0_6) ∧ w38.cell? ⟨gb299, 0, none⟩ = some (.bool q30) ∧ w38.cell? ⟨gb299, 1, none⟩ = some (.string q31) ∧ w38.cell? ⟨gb299, 2, none⟩ = some (.string q32) ∧ w38.cell? ⟨gb299, 3, none⟩ = some (.string q33) ∧ w38.cell? ⟨gb299, 4, none⟩ = some (.int .u32 q34) ∧ w38.cell? ⟨gb299, 5, none⟩ = some (.int .u64 q35) ∧ w38.cell? ⟨gb299, 6, none⟩ = some (.bool q36) := hS_
          refine norm_ (a' := ?_) ?_ ?_
          rotate_left
          ·simp only [putAll, Act.put, List.setIfInBounds_toArray, List.set_cons_zero, List.set_cons_succ]
           rfl
          refine one_ (i := 12) (N := some 25) #[true, true, true, true, true, true, true, true, true, true, true, true, true, true, true, true, true, true, true, true, false, false, false] rfl rfl (one_of HT_.out (by kernel_rfl)) (by decide) (fun K hK => ?_)
          have hcv39 := own_string (P := Tryd.prog) Tryd.underlying31 Tryd.underlying5 Tryd.underlying9 (Kd.own_of_R HO311.out)
          refine value_ (w1 := ?_) (v := ?_) (by rfl) rfl ?_ ?_
          rotate_left 2
          ·go_simp
           constructor
           ·rfl
           ·rfl
          clear hcv39
          refine hK.out _ _ ⟨(blk_cell BK297.out 0).trans rfl, (blk_cell BK297.out 1).trans rfl, (blk_cell BK297.out 2).trans rfl, (blk_cell BK297.out 3).trans rfl, (blk_cell BK297.out 4).trans rfl, (blk_cell BK297.out 5).trans rfl, (blk_cell BK297.out 6).trans rfl, (blk_cell BK299.out 0).trans rfl, (blk_cell BK299.out 1).trans rfl, (blk_cell BK299.out 2).trans rfl, (blk_cell BK299.out 3).trans rfl, (blk_cell BK299.out 4).trans rfl, (blk_cell BK299.out 5).trans rfl, (blk_cell BK299.out 6).trans rfl⟩ (fun hHeld => ?_)
          clear hK K
          refine norm_ (a' := ?_) ?_ ?_
          rotate_left
          ·show Act.put _ (some 25) _ = _
           simp only [Act.put, List.setIfInBounds_toArray, List.set_cons_zero, List.set_cons_succ, i64_w, i32_w]
           rfl
          exact norm_ (by first | (simp only [putAll, Act.put, List.setIfInBounds_toArray, List.set_cons_zero, List.set_cons_succ]; done) | (simp only [putAll, Act.put, List.setIfInBounds_toArray, List.set_cons_zero, List.set_cons_succ]; rfl)) (hJ2_4_5_10_11_12_14_15_17_18 (v304, v307, v310, v313, v316) _ ⟨hHeld, (by (with_reducible repeat (first | apply Kd.V_alloc | apply Kd.V_drewN | apply Kd.V_drew)); exact HO302.out), (by (with_reducible repeat (first | apply Kd.V_alloc | apply Kd.V_drewN | apply Kd.V_drew)); exact HO305.out), (by (with_reducible repeat (first | apply Kd.R_alloc | apply Kd.R_drewN | apply Kd.R_drew)); exact HO308.out), (by (with_reducible repeat (first | apply Kd.R_alloc | apply Kd.R_drewN | apply Kd.R_drew)); exact HO311.out), (by (with_reducible repeat (first | apply Kd.V_alloc | apply Kd.V_drewN | apply Kd.V_drew)); exact HO314.out), (by (with_reducible repeat (first | apply Kd.V_alloc | apply Kd.V_drewN | apply Kd.V_drew)); exact HO317.out), (by (with_reducible repeat (first | refine blk_drewN ?_ _ | refine blk_drew ?_ | refine blk_alloc ?_ _)); exact BK297.out), (by (with_reducible repeat (first | refine blk_drewN ?_ _ | refine blk_drew ?_ | refine blk_alloc ?_ _)); exact BK299.out), (by repeat (first | (with_reducible first | exact HB.out | apply below_alloc | apply pw_below_drewN | apply below_drew1 | refine below_set ?_ GE297.out | refine below_set ?_ GE299.out) | exact HB.out))⟩)
        ·skip
         rintro ⟨v304, v307, v310, v313, v316⟩ w38 ⟨hS_, h0_, h1_, h2_, h3_, h4_, h5_, h6_, h7_, h8_⟩
         have n0_ : Aside0 (Kd.V (Kd.int .u8) 5 w38 w.heap.size (fun k_ => some k_ ≠ (v307 : Value).ownBlock ∧ some k_ ≠ (v310 : Value).ownBlock ∧ k_ ≠ gb297 ∧ k_ ≠ gb299) v301 t300) := ⟨h0_⟩
         have n1_ : Aside0 (Kd.V (Kd.int .u8) 5 w38 w.heap.size (fun k_ => some k_ ≠ (v307 : Value).ownBlock ∧ some k_ ≠ (v310 : Value).ownBlock ∧ k_ ≠ gb297 ∧ k_ ≠ gb299) v304 t303) := ⟨h1_⟩
         have n2_ : Aside0 (Kd.R k34 34 w38 w.heap.size (fun k_ => k_ ≠ gb297 ∧ k_ ≠ gb299) v307 y306) := ⟨h2_⟩
         have n3_ : Aside0 (Kd.R (Kd.int .u8) 5 w38 w.heap.size (fun _ => True) v310 t309) := ⟨h3_⟩
         have n4_ : Aside0 (Kd.V (Kd.int .u8) 5 w38 w.heap.size (fun k_ => some k_ ≠ (v307 : Value).ownBlock ∧ some k_ ≠ (v310 : Value).ownBlock ∧ k_ ≠ gb297 ∧ k_ ≠ gb299) v313 t312) := ⟨h4_⟩
         have n5_ : Aside0 (Kd.V (Kd.int .u8) 5 w38 w.heap.size (fun k_ => some k_ ≠ (v307 : Value).ownBlock ∧ some k_ ≠ (v310 : Value).ownBlock ∧ k_ ≠ gb297 ∧ k_ ≠ gb299) v316 t315) := ⟨h5_⟩
         have n6_ : Aside0 (w38.heap[gb297]? = some (.cells #[.bool a0_0, .string a0_1, .string a0_2, .string a0_3, .int .u32 a0_4, .int .u64 a0_5, .bool a0_6] 34 (0, 0))) := ⟨h6_⟩
         have n7_ : Aside0 (w38.heap[gb299]? = some (.cells #[.bool q30, .string q31, .string q32, .string q33, .int .u32 q34, .int .u64 q35, .bool q36] 34 (0, 0))) := ⟨h7_⟩
         have n8_ : Aside0 (Below w.heap.size w w38) := ⟨h8_⟩
         clear BK297
         clear BK299
         clear HB
         clear h0_ h1_ h2_ h3_ h4_ h5_ h6_ h7_ h8_
         have HO302 := n0_
         have HO305 := n1_
         have HO308 := n2_
         have HO311 := n3_
         have HO314 := n4_
         have HO317 := n5_
         have BK297 := n6_
         have BK299 := n7_
         have HB := n8_
         clear n0_ n1_ n2_ n3_ n4_ n5_ n6_ n7_ n8_
         have hHeld : w38.cell? ⟨gb297, 0, none⟩ = some (.bool a0_0) ∧ w38.cell? ⟨gb297, 1, none⟩ = some (.string a0_1) ∧ w38.cell? ⟨gb297, 2, none⟩ = some (.string a0_2) ∧ w38.cell? ⟨gb297, 3, none⟩ = some (.string a0_3) ∧ w38.cell? ⟨gb297, 4, none⟩ = some (.int .u32 a0_4) ∧ w38.cell? ⟨gb297, 5, none⟩ = some (.int .u64 a0_5) ∧ w38.cell? ⟨gb297, 6, none⟩ = some (.bool a0_6) ∧ w38.cell? ⟨gb299, 0, none⟩ = some (.bool q30) ∧ w38.cell? ⟨gb299, 1, none⟩ = some (.string q31) ∧ w38.cell? ⟨gb299, 2, none⟩ = some (.string q32) ∧ w38.cell? ⟨gb299, 3, none⟩ = some (.string q33) ∧ w38.cell? ⟨gb299, 4, none⟩ = some (.int .u32 q34) ∧ w38.cell? ⟨gb299, 5, none⟩ = some (.int .u64 q35) ∧ w38.cell? ⟨gb299, 6, none⟩ = some (.bool q36) := hS_
         refine norm_ (a' := ?_) ?_ ?_
         rotate_left
         ·simp only [putAll, Act.put, List.setIfInBounds_toArray, List.set_cons_zero, List.set_cons_succ]
          rfl
         refine one_ (i := 15) (N := some 28) #[true, true, true, true, true, true, true, true, true, true, true, true, true, true, true, true, true, true, true, false, false, false, false] rfl rfl (one_of HT_.out (by kernel_rfl)) (by decide) (fun K hK => ?_)
         have hcv39 := V_string (P := Tryd.prog) Tryd.underlying31 Tryd.underlying5 Tryd.underlying9 HO314.out
         refine value_ (w1 := ?_) (v := ?_) (by rfl) rfl ?_ ?_
         rotate_left 2
         ·go_simp
          constructor
          ·rfl
          ·rfl
         clear hcv39
         refine hK.out _ _ ⟨(blk_cell BK297.out 0).trans rfl, (blk_cell BK297.out 1).trans rfl, (blk_cell BK297.out 2).trans rfl, (blk_cell BK297.out 3).trans rfl, (blk_cell BK297.out 4).trans rfl, (blk_cell BK297.out 5).trans rfl, (blk_cell BK297.out 6).trans rfl, (blk_cell BK299.out 0).trans rfl, (blk_cell BK299.out 1).trans rfl, (blk_cell BK299.out 2).trans rfl, (blk_cell BK299.out 3).trans rfl, (blk_cell BK299.out 4).trans rfl, (blk_cell BK299.out 5).trans rfl, (blk_cell BK299.out 6).trans rfl⟩ (fun hHeld => ?_)
         clear hK K
         refine norm_ (a' := ?_) ?_ ?_
         rotate_left
         ·show Act.put _ (some 28) _ = _
          simp only [Act.put, List.setIfInBounds_toArray, List.set_cons_zero, List.set_cons_succ, i64_w, i32_w]
          rfl
         refine pure_ (i := 19) (N := some 32) (v := ?_) (a' := ?_) #[true, true, true, true, true, true, true, true, true, true, true, true, true, true, true, true, true, true, true, true, false, false, false] rfl rfl (any_of HT_.out (by kernel_rfl)) (fun _ _ _ h => h) (Or.inl ⟨by rfl, ?_⟩) ?_ ?_
         rotate_left
         ·intro w'
          go_simp
          with_reducible rfl
         rotate_left
         ·simp only [Act.put, List.setIfInBounds_toArray, List.set_cons_zero, List.set_cons_succ, i64_w, i32_w]
          rfl
         exact norm_ (by first | (simp only [putAll, Act.put, List.setIfInBounds_toArray, List.set_cons_zero, List.set_cons_succ]; done) | (simp only [putAll, Act.put, List.setIfInBounds_toArray, List.set_cons_zero, List.set_cons_succ]; rfl)) (hJ2_4_5_10_11_12_14_15_17_18 (v304, v307, v310, v313, v316) _ ⟨hHeld, (by (with_reducible repeat (first | apply Kd.V_alloc | apply Kd.V_drewN | apply Kd.V_drew)); exact HO302.out), (by (with_reducible repeat (first | apply Kd.V_alloc | apply Kd.V_drewN | apply Kd.V_drew)); exact HO305.out), (by (with_reducible repeat (first | apply Kd.R_alloc | apply Kd.R_drewN | apply Kd.R_drew)); exact HO308.out), (by (with_reducible repeat (first | apply Kd.R_alloc | apply Kd.R_drewN | apply Kd.R_drew)); exact HO311.out), (by (with_reducible repeat (first | apply Kd.V_alloc | apply Kd.V_drewN | apply Kd.V_drew)); exact HO314.out), (by (with_reducible repeat (first | apply Kd.V_alloc | apply Kd.V_drewN | apply Kd.V_drew)); exact HO317.out), (by (with_reducible repeat (first | refine blk_drewN ?_ _ | refine blk_drew ?_ | refine blk_alloc ?_ _)); exact BK297.out), (by (with_reducible repeat (first | refine blk_drewN ?_ _ | refine blk_drew ?_ | refine blk_alloc ?_ _)); exact BK299.out), (by repeat (first | (with_reducible first | exact HB.out | apply below_alloc | apply pw_below_drewN | apply below_drew1 | refine below_set ?_ GE297.out | refine below_set ?_ GE299.out) | exact HB.out))⟩)
       ·skip
        rintro ⟨v304, v307, v310, v313, v316⟩ w38 ⟨hS_, h0_, h1_, h2_, h3_, h4_, h5_, h6_, h7_, h8_⟩
        have n0_ : Aside0 (Kd.V (Kd.int .u8) 5 w38 w.heap.size (fun k_ => some k_ ≠ (v307 : Value).ownBlock ∧ some k_ ≠ (v310 : Value).ownBlock ∧ k_ ≠ gb297 ∧ k_ ≠ gb299) v301 t300) := ⟨h0_⟩
        have n1_ : Aside0 (Kd.V (Kd.int .u8) 5 w38 w.heap.size (fun k_ => some k_ ≠ (v307 : Value).ownBlock ∧ some k_ ≠ (v310 : Value).ownBlock ∧ k_ ≠ gb297 ∧ k_ ≠ gb299) v304 t303) := ⟨h1_⟩
        have n2_ : Aside0 (Kd.R k34 34 w38 w.heap.size (fun k_ => k_ ≠ gb297 ∧ k_ ≠ gb299) v307 y306) := ⟨h2_⟩
        have n3_ : Aside0 (Kd.R (Kd.int .u8) 5 w38 w.heap.size (fun _ => True) v310 t309) := ⟨h3_⟩
        have n4_ : Aside0 (Kd.V (Kd.int .u8) 5 w38 w.heap.size (fun k_ => some k_ ≠ (v307 : Value).ownBlock ∧ some k_ ≠ (v310 : Value).ownBlock ∧ k_ ≠ gb297 ∧ k_ ≠ gb299) v313 t312) := ⟨h4_⟩
        have n5_ : Aside0 (Kd.V (Kd.int .u8) 5 w38 w.heap.size (fun k_ => some k_ ≠ (v307 : Value).ownBlock ∧ some k_ ≠ (v310 : Value).ownBlock ∧ k_ ≠ gb297 ∧ k_ ≠ gb299) v316 t315) := ⟨h5_⟩
        have n6_ : Aside0 (w38.heap[gb297]? = some (.cells #[.bool a0_0, .string a0_1, .string a0_2, .string a0_3, .int .u32 a0_4, .int .u64 a0_5, .bool a0_6] 34 (0, 0))) := ⟨h6_⟩
        have n7_ : Aside0 (w38.heap[gb299]? = some (.cells #[.bool q30, .string q31, .string q32, .string q33, .int .u32 q34, .int .u64 q35, .bool q36] 34 (0, 0))) := ⟨h7_⟩
        have n8_ : Aside0 (Below w.heap.size w w38) := ⟨h8_⟩
        clear BK297
        clear BK299
        clear HB
        clear h0_ h1_ h2_ h3_ h4_ h5_ h6_ h7_ h8_
        have HO302 := n0_
        have HO305 := n1_
        have HO308 := n2_
        have HO311 := n3_
        have HO314 := n4_
        have HO317 := n5_
        have BK297 := n6_
        have BK299 := n7_
        have HB := n8_
        clear n0_ n1_ n2_ n3_ n4_ n5_ n6_ n7_ n8_
        have hHeld : w38.cell? ⟨gb297, 0, none⟩ = some (.bool a0_0) ∧ w38.cell? ⟨gb297, 1, none⟩ = some (.string a0_1) ∧ w38.cell? ⟨gb297, 2, none⟩ = some (.string a0_2) ∧ w38.cell? ⟨gb297, 3, none⟩ = some (.string a0_3) ∧ w38.cell? ⟨gb297, 4, none⟩ = some (.int .u32 a0_4) ∧ w38.cell? ⟨gb297, 5, none⟩ = some (.int .u64 a0_5) ∧ w38.cell? ⟨gb297, 6, none⟩ = some (.bool a0_6) ∧ w38.cell? ⟨gb299, 0, none⟩ = some (.bool q30) ∧ w38.cell? ⟨gb299, 1, none⟩ = some (.string q31) ∧ w38.cell? ⟨gb299, 2, none⟩ = some (.string q32) ∧ w38.cell? ⟨gb299, 3, none⟩ = some (.string q33) ∧ w38.cell? ⟨gb299, 4, none⟩ = some (.int .u32 q34) ∧ w38.cell? ⟨gb299, 5, none⟩ = some (.int .u64 q35) ∧ w38.cell? ⟨gb299, 6, none⟩ = some (.bool q36) := hS_
        refine norm_ (a' := ?_) ?_ ?_
        rotate_left
        ·simp only [putAll, Act.put, List.setIfInBounds_toArray, List.set_cons_zero, List.set_cons_succ]
         rfl
        refine one_ (i := 18) (N := some 31) #[true, true, true, true, true, true, true, true, true, true, true, true, true, true, true, true, true, true, true, false, false, false, false] rfl rfl (one_of HT_.out (by kernel_rfl)) (by decide) (fun K hK => ?_)
        have hcv39 := V_string (P := Tryd.prog) Tryd.underlying31 Tryd.underlying5 Tryd.underlying9 HO317.out
        refine value_ (w1 := ?_) (v := ?_) (by rfl) rfl ?_ ?_
        rotate_left 2
        ·go_simp
         constructor
         ·rfl
         ·rfl
        clear hcv39
        refine hK.out _ _ ⟨(blk_cell BK297.out 0).trans rfl, (blk_cell BK297.out 1).trans rfl, (blk_cell BK297.out 2).trans rfl, (blk_cell BK297.out 3).trans rfl, (blk_cell BK297.out 4).trans rfl, (blk_cell BK297.out 5).trans rfl, (blk_cell BK297.out 6).trans rfl, (blk_cell BK299.out 0).trans rfl, (blk_cell BK299.out 1).trans rfl, (blk_cell BK299.out 2).trans rfl, (blk_cell BK299.out 3).trans rfl, (blk_cell BK299.out 4).trans rfl, (blk_cell BK299.out 5).trans rfl, (blk_cell BK299.out 6).trans rfl⟩ (fun hHeld => ?_)
        clear hK K
        refine norm_ (a' := ?_) ?_ ?_
        rotate_left
        ·show Act.put _ (some 31) _ = _
         simp only [Act.put, List.setIfInBounds_toArray, List.set_cons_zero, List.set_cons_succ, i64_w, i32_w]
         rfl
        refine pure_ (i := 19) (N := some 32) (v := ?_) (a' := ?_) #[true, true, true, true, true, true, true, true, true, true, true, true, true, true, true, true, true, true, true, true, false, false, false] rfl rfl (any_of HT_.out (by kernel_rfl)) (fun _ _ _ h => h) (Or.inl ⟨by rfl, ?_⟩) ?_ ?_
        rotate_left
        ·intro w'
         go_simp
         with_reducible rfl
        rotate_left
        ·simp only [Act.put, List.setIfInBounds_toArray, List.set_cons_zero, List.set_cons_succ, i64_w, i32_w]
         rfl
        exact norm_ (by first | (simp only [putAll, Act.put, List.setIfInBounds_toArray, List.set_cons_zero, List.set_cons_succ]; done) | (simp only [putAll, Act.put, List.setIfInBounds_toArray, List.set_cons_zero, List.set_cons_succ]; rfl)) (hJ2_4_5_10_11_12_14_15_17_18 (v304, v307, v310, v313, v316) _ ⟨hHeld, (by (with_reducible repeat (first | apply Kd.V_alloc | apply Kd.V_drewN | apply Kd.V_drew)); exact HO302.out), (by (with_reducible repeat (first | apply Kd.V_alloc | apply Kd.V_drewN | apply Kd.V_drew)); exact HO305.out), (by (with_reducible repeat (first | apply Kd.R_alloc | apply Kd.R_drewN | apply Kd.R_drew)); exact HO308.out), (by (with_reducible repeat (first | apply Kd.R_alloc | apply Kd.R_drewN | apply Kd.R_drew)); exact HO311.out), (by (with_reducible repeat (first | apply Kd.V_alloc | apply Kd.V_drewN | apply Kd.V_drew)); exact HO314.out), (by (with_reducible repeat (first | apply Kd.V_alloc | apply Kd.V_drewN | apply Kd.V_drew)); exact HO317.out), (by (with_reducible repeat (first | refine blk_drewN ?_ _ | refine blk_drew ?_ | refine blk_alloc ?_ _)); exact BK297.out), (by (with_reducible repeat (first | refine blk_drewN ?_ _ | refine blk_drew ?_ | refine blk_alloc ?_ _)); exact BK299.out), (by repeat (first | (with_reducible first | exact HB.out | apply below_alloc | apply pw_below_drewN | apply below_drew1 | refine below_set ?_ GE297.out | refine below_set ?_ GE299.out) | exact HB.out))⟩)
      rintro ⟨v304, v307, v310, v313, v316⟩ w39 ⟨hS_, h0_, h1_, h2_, h3_, h4_, h5_, h6_, h7_, h8_⟩
      have n0_ : Aside0 (Kd.V (Kd.int .u8) 5 w39 w.heap.size (fun k_ => some k_ ≠ (v307 : Value).ownBlock ∧ some k_ ≠ (v310 : Value).ownBlock ∧ k_ ≠ gb297 ∧ k_ ≠ gb299) v301 t300) := ⟨h0_⟩
      have n1_ : Aside0 (Kd.V (Kd.int .u8) 5 w39 w.heap.size (fun k_ => some k_ ≠ (v307 : Value).ownBlock ∧ some k_ ≠ (v310 : Value).ownBlock ∧ k_ ≠ gb297 ∧ k_ ≠ gb299) v304 t303) := ⟨h1_⟩
      have n2_ : Aside0 (Kd.R k34 34 w39 w.heap.size (fun k_ => k_ ≠ gb297 ∧ k_ ≠ gb299) v307 y306) := ⟨h2_⟩
      have n3_ : Aside0 (Kd.R (Kd.int .u8) 5 w39 w.heap.size (fun _ => True) v310 t309) := ⟨h3_⟩
      have n4_ : Aside0 (Kd.V (Kd.int .u8) 5 w39 w.heap.size (fun k_ => some k_ ≠ (v307 : Value).ownBlock ∧ some k_ ≠ (v310 : Value).ownBlock ∧ k_ ≠ gb297 ∧ k_ ≠ gb299) v313 t312) := ⟨h4_⟩
      have n5_ : Aside0 (Kd.V (Kd.int .u8) 5 w39 w.heap.size (fun k_ => some k_ ≠ (v307 : Value).ownBlock ∧ some k_ ≠ (v310 : Value).ownBlock ∧ k_ ≠ gb297 ∧ k_ ≠ gb299) v316 t315) := ⟨h5_⟩
      have n6_ : Aside0 (w39.heap[gb297]? = some (.cells #[.bool a0_0, .string a0_1, .string a0_2, .string a0_3, .int .u32 a0_4, .int .u64 a0_5, .bool a0_6] 34 (0, 0))) := ⟨h6_⟩
      have n7_ : Aside0 (w39.heap[gb299]? = some (.cells #[.bool q30, .string q31, .string q32, .string q33, .int .u32 q34, .int .u64 q35, .bool q36] 34 (0, 0))) := ⟨h7_⟩
      have n8_ : Aside0 (Below w.heap.size w w39) := ⟨h8_⟩
      clear BK297
      clear BK299
      clear HB
      clear h0_ h1_ h2_ h3_ h4_ h5_ h6_ h7_ h8_
      have HO302 := n0_
      have HO305 := n1_
      have HO308 := n2_
      have HO311 := n3_
      have HO314 := n4_
      have HO317 := n5_
      have BK297 := n6_
      have BK299 := n7_
      have HB := n8_
      clear n0_ n1_ n2_ n3_ n4_ n5_ n6_ n7_ n8_
      have hHeld : w39.cell? ⟨gb297, 0, none⟩ = some (.bool a0_0) ∧ w39.cell? ⟨gb297, 1, none⟩ = some (.string a0_1) ∧ w39.cell? ⟨gb297, 2, none⟩ = some (.string a0_2) ∧ w39.cell? ⟨gb297, 3, none⟩ = some (.string a0_3) ∧ w39.cell? ⟨gb297, 4, none⟩ = some (.int .u32 a0_4) ∧ w39.cell? ⟨gb297, 5, none⟩ = some (.int .u64 a0_5) ∧ w39.cell? ⟨gb297, 6, none⟩ = some (.bool a0_6) ∧ w39.cell? ⟨gb299, 0, none⟩ = some (.bool q30) ∧ w39.cell? ⟨gb299, 1, none⟩ = some (.string q31) ∧ w39.cell? ⟨gb299, 2, none⟩ = some (.string q32) ∧ w39.cell? ⟨gb299, 3, none⟩ = some (.string q33) ∧ w39.cell? ⟨gb299, 4, none⟩ = some (.int .u32 q34) ∧ w39.cell? ⟨gb299, 5, none⟩ = some (.int .u64 q35) ∧ w39.cell? ⟨gb299, 6, none⟩ = some (.bool q36) := hS_
      refine norm_ (a' := ?_) ?_ ?_
      rotate_left
      ·simp only [putAll, Act.put, List.setIfInBounds_toArray, List.set_cons_zero, List.set_cons_succ]
       rfl
      refine pure_ (i := 20) (N := some 33) (v := ?_) (a' := ?_) #[true, true, true, true, true, true, true, true, true, true, true, true, true, true, true, true, true, true, true, true, true, false, false] rfl rfl (any_of HT_.out (by kernel_rfl)) (fun _ _ _ h => h) (Or.inl ⟨by rfl, ?_⟩) ?_ ?_
      rotate_left
      ·intro w'
       go_simp
       with_reducible rfl
      rotate_left
      ·simp only [Act.put, List.setIfInBounds_toArray, List.set_cons_zero, List.set_cons_succ, i64_w, i32_w]
       rfl
      refine pure_ (i := 21) (N := some 34) (v := ?_) (a' := ?_) #[true, true, true, true, true, true, true, true, true, true, true, true, true, true, true, true, true, true, true, true, true, true, false] rfl rfl (any_of HT_.out (by kernel_rfl)) (fun _ _ _ h => h) (Or.inl ⟨by rfl, ?_⟩) ?_ ?_
      rotate_left
      ·intro w'
       go_simp
       with_reducible rfl
      rotate_left
      ·simp only [Act.put, List.setIfInBounds_toArray, List.set_cons_zero, List.set_cons_succ, i64_w, i32_w]
       rfl
      refine pure_ (i := 22) (N := some 2) (v := ?_) (a' := ?_) #[true, true, true, true, true, true, true, true, true, true, true, true, true, true, true, true, true, true, true, true, true, true, true] rfl rfl (any_of HT_.out (by kernel_rfl)) (fun _ _ _ h => h) (Or.inl ⟨by rfl, ?_⟩) ?_ ?_
      rotate_left
      ·intro w'
       go_simp
       with_reducible rfl
      rotate_left
      ·simp only [Act.put, List.setIfInBounds_toArray, List.set_cons_zero, List.set_cons_succ, i64_w, i32_w]
       rfl
      refine done_ (done_of HT_.out (by kernel_rfl)) ?_
      try go_wp2
      go_ret
      exact ⟨by first | rfl | (simp [errW_none, errW_some] <;> rfl) | (simp [*, errW_none, errW_some] <;> rfl), by repeat (first | (with_reducible first | exact HB.out | apply below_alloc | apply pw_below_drewN | apply below_drew1 | refine below_set ?_ GE297.out | refine below_set ?_ GE299.out) | exact HB.out)⟩
     ·rw [if_neg c24] at H
      exact absurd H (by simp)
    ·rw [if_neg c20] at H
     exact absurd ((Option.some.inj H).trans hr_) (by decide)
 ·replace c3 := Bool.eq_false_iff.mpr c3
  subst c3
  have H1 : (some false) = some r := by rw [if_neg (show ¬ (false = true) by decide)] at H; exact H
  clear H
  have H := H1
  clear H1
  obtain rfl := Option.some.inj H
  go_enter Tryd.func6, Tryd.ntmps6
  go_wp2_with (first | ((with_reducible refine gate_dst (N := 1) rfl ?_); (try (refine gate_guard (by rfl) ?_; dsimp only)); refine box_event ?hg (N := 1) ?hd (cs := #[.bool a0_0, .string a0_1, .string a0_2, .string a0_3, .int .u32 a0_4, .int .u64 a0_5, .bool a0_6]) (t := 34) ?hr ?_; (case hd => rfl); (case hg => rfl); (case hr => first | (go_simp; done) | (go_simp; rfl)); intro gb297 hg w46 hbox hb; have n0_ := Aside0.mk (below_step (by repeat (first | (with_reducible first | exact HB.out | apply below_alloc | apply pw_below_drewN | apply below_drew1) | exact HB.out)) hb); have n1_ := Aside0.mk (hbox); have n2_ := Aside0.mk ((by rw [hg]; exact (below_size (by repeat (first | (with_reducible first | exact HB.out | apply below_alloc | apply pw_below_drewN | apply below_drew1) | exact HB.out))) : w.heap.size ≤ gb297)); have n3_ := Aside0.mk ((by rw [hg]; exact (below_size (by repeat (first | (with_reducible first | exact HB.out | apply below_alloc | apply pw_below_drewN | apply below_drew1) | exact HB.out))) : w.heap.size ≤ gb297)); clear HB; have HB := n0_; have BK297 := n1_; have GW297 := n2_; have GE297 := n3_; clear n0_ n1_ n2_ n3_; clear hb hbox hg) | ((with_reducible refine gate_callee (f := 7) rfl ?_); refine goesL_ (some 4) rfl rfl Tryd.func7 (by kernel_rfl) rfl #[] rfl (by (try simp only [List.map_toArray, List.map_cons, List.map_nil]); first | done | rfl | (simp only [List.length_drop, List.length_take]; rfl)) ?_; (with_reducible refine (cellaretlaw19_awake.calls k  false _ ?side1 A2.out).mono ?_); (case side1 => exact HLD.below (by repeat (first | (with_reducible first | exact HB.out | apply below_alloc | apply pw_below_drewN | apply below_drew1 | refine below_set ?_ GE297.out) | exact HB.out))); rintro e w47 ⟨rfl, hb⟩; refine ⟨_, rfl, ?_⟩; have n0_ := Aside0.mk (blk_below (g := gb297) (o := .cells #[.bool a0_0, .string a0_1, .string a0_2, .string a0_3, .int .u32 a0_4, .int .u64 a0_5, .bool a0_6] 34 (0, 0)) (by (with_reducible repeat (first | refine blk_drewN ?_ _ | refine blk_drew ?_ | refine blk_alloc ?_ _)); exact BK297.out) hb); have n1_ := Aside0.mk (below_step (by repeat (first | (with_reducible first | exact HB.out | apply below_alloc | apply pw_below_drewN | apply below_drew1 | refine below_set ?_ GE297.out) | exact HB.out)) hb); clear BK297; clear HB; have BK297 := n0_; have HB := n1_; clear n0_ n1_; (try clear hb); (try clear hb2); (try clear hk); (try clear hi)))
  go_ret
  exact ⟨by first | rfl | (simp [errW_none, errW_some] <;> rfl) | (simp [*, errW_none, errW_some] <;> rfl), by repeat (first | (with_reducible first | exact HB.out | apply below_alloc | apply pw_below_drewN | apply below_drew1 | refine below_set ?_ GE297.out) | exact HB.out)⟩

end Go.Proofs.YtgopcfkofjipjaaDoor.H
