/-
  Printed by this session's hybrid.py (it runs the kit's print over contracts of our own for library functions): plain functions with the answers of Go functions, and that the calls come to them. Their conditions stand in each head.
-/
import Derived.Test.YtgopcfkofjipjaaDoorHX0
import Derived.Test.YtgopcfkofjipjaaDoorHX6
import Derived.Test.YtgopcfkofjipjaaDoorHX15
import Derived.Test.YtgopcfkofjipjaaDoorHX16
import Derived.Test.YtgopcfkofjipjaaDoorHX17
import Derived.Test.YtgopcfkofjipjaaDoorHX21
namespace Go.Proofs.YtgopcfkofjipjaaDoor.H
open Go.RowKit Go.Proofs.YtgopcfkofjipjaaDoorW.PrintWords Go.Proofs.YtgopcfkofjipjaaDoorW.PrintLast Go.Proofs.YtgopcfkofjipjaaDoorW.PrintMore
attribute [local go_sem] max2_int min2_int max_two min_two max_three min_three max_four min_four   -- for this text's walks alone
set_option linter.unusedVariables false
set_option linter.unusedSimpArgs false

/-! ### cellaretlaw19_ReplyCut: function 5 -/
mutual
def cellaretlaw19_ReplyCut.l0 : Nat → List (S29) → Int → Int → Option (Bool)
  | 0, _, _, _ => none
  | k + 1, x0, x1, x5 => if x5 < (x0.length : Int) then (if 0 ≤ x5 then ((cellaretlaw19_fair.f k ((rd_T29 x0 x5).f0) ((rd_T29 x0 x5).f1) ((rd_T29 x0 x5).f2) ((rd_T29 x0 x5).f3) ((rd_T29 x0 x5).f4) ((rd_T29 x0 x5).f5) ((rd_T29 x0 x5).f6)).bind fun t269 => (if t269 = true then (if (((rd_T29 x0 x5).f3).size : Int) > 1500 then (some true) else (cellaretlaw19_ReplyCut.l0 k x0 x1 (wrap64 (x5 + 1)))) else (some true))) else (none)) else ((cellaretref17_AnsBack.f k x0).bind fun t271 => ((reply_All.f k t271).bind fun t274 => (if x1 < 0 then (cellaretlaw19_ReplyCut.j1 k x0 x1 t274 true) else (cellaretlaw19_ReplyCut.j1 k x0 x1 t274 (decide (x1 > (t274.length : Int)))))))
def cellaretlaw19_ReplyCut.j1 : Nat → List (S29) → Int → List Int → Bool → Option (Bool)
  | 0, _, _, _, _ => none
  | k + 1, x0, x1, x6, x49 => if x49 = true then (some true) else (if 0 ≤ x1 then (if x1 ≤ (x6.length : Int) then ((reply_Read.f k (x6.take (x1 : Int).toNat)).bind fun bt281 => ((reply_Read.f k x6).bind fun bt285 => (if bt281.2 > x1 then (some false) else (if bt285.2 = (x6.length : Int) then (if (bt285.1.length : Int) = (x0.length : Int) then (if (bt281.1.length : Int) > (bt285.1.length : Int) then (some false) else (if 0 ≤ bt281.2 then (if bt281.2 ≤ (x6.length : Int) then ((reply_Read.f k (x6.drop (bt281.2 : Int).toNat)).bind fun bt293 => (if bt293.2 = (wrap64 ((x6.length : Int) - bt281.2)) then (some ((wrap64 ((bt281.1.length : Int) + (bt293.1.length : Int))) == (bt285.1.length : Int))) else (some false))) else (none)) else (none))) else (some false)) else (some false))))) else (none)) else (none))
end
def cellaretlaw19_ReplyCut.f (k : Nat) (l0 : List (S29)) (a1 : Int) : Option (Bool) := (cellaretlaw19_awake.f k).bind fun t267 => (if t267 = true then (if (l0.length : Int) > 20 then (some true) else (cellaretlaw19_ReplyCut.l0 k l0 a1 0)) else (some false))
theorem cellaretlaw19_ReplyCut.mono_l : ∀ k, (∀ y0 y1 y2, LeO (cellaretlaw19_ReplyCut.l0 k y0 y1 y2) (cellaretlaw19_ReplyCut.l0 (k + 1) y0 y1 y2)) ∧ (∀ y0 y1 y2 y3, LeO (cellaretlaw19_ReplyCut.j1 k y0 y1 y2 y3) (cellaretlaw19_ReplyCut.j1 (k + 1) y0 y1 y2 y3))
  | 0 => ⟨fun _ _ _ r h => by simp [cellaretlaw19_ReplyCut.l0] at h, fun _ _ _ _ r h => by simp [cellaretlaw19_ReplyCut.j1] at h⟩
  | k + 1 => by
    obtain ⟨ih0, ih1⟩ := cellaretlaw19_ReplyCut.mono_l k
    refine ⟨?_, ?_⟩
    · intro y0 y1 y2
      unfold cellaretlaw19_ReplyCut.l0
      repeat' first
      | (with_reducible exact ih0 _ _ _)
      | (with_reducible exact ih1 _ _ _ _)
      | (with_reducible exact cellaretlaw19_awake.mono _)
      | (with_reducible exact cellaretlaw19_fair.mono _ _ _ _ _ _ _ _)
      | (with_reducible exact cellaretref17_AnsBack.mono _ _)
      | (with_reducible exact reply_All.mono _ _)
      | (with_reducible exact reply_Read.mono _ _)
      | (with_reducible exact LeO.refl _)
      | (with_reducible exact LeO.none _)
      | (with_reducible refine LeO.ite ?_ ?_)
      | (with_reducible refine LeO.bind ?_ (fun _ => ?_))
      | exact ih0 _ _ _
      | exact ih1 _ _ _ _
      | exact cellaretlaw19_awake.mono _
      | exact cellaretlaw19_fair.mono _ _ _ _ _ _ _ _
      | exact cellaretref17_AnsBack.mono _ _
      | exact reply_All.mono _ _
      | exact reply_Read.mono _ _
      | exact LeO.none _
      | refine LeO.ite ?_ ?_
      | refine LeO.bind ?_ (fun _ => ?_)
    · intro y0 y1 y2 y3
      unfold cellaretlaw19_ReplyCut.j1
      repeat' first
      | (with_reducible exact ih0 _ _ _)
      | (with_reducible exact ih1 _ _ _ _)
      | (with_reducible exact cellaretlaw19_awake.mono _)
      | (with_reducible exact cellaretlaw19_fair.mono _ _ _ _ _ _ _ _)
      | (with_reducible exact cellaretref17_AnsBack.mono _ _)
      | (with_reducible exact reply_All.mono _ _)
      | (with_reducible exact reply_Read.mono _ _)
      | (with_reducible exact LeO.refl _)
      | (with_reducible exact LeO.none _)
      | (with_reducible refine LeO.ite ?_ ?_)
      | (with_reducible refine LeO.bind ?_ (fun _ => ?_))
      | exact ih0 _ _ _
      | exact ih1 _ _ _ _
      | exact cellaretlaw19_awake.mono _
      | exact cellaretlaw19_fair.mono _ _ _ _ _ _ _ _
      | exact cellaretref17_AnsBack.mono _ _
      | exact reply_All.mono _ _
      | exact reply_Read.mono _ _
      | exact LeO.none _
      | refine LeO.ite ?_ ?_
      | refine LeO.bind ?_ (fun _ => ?_)
theorem cellaretlaw19_ReplyCut.mono : ∀ a0 a1 k, LeO (cellaretlaw19_ReplyCut.f k a0 a1) (cellaretlaw19_ReplyCut.f (k + 1) a0 a1) := by
  intro a0 a1 k
  obtain ⟨ih0, ih1⟩ := cellaretlaw19_ReplyCut.mono_l k
  unfold cellaretlaw19_ReplyCut.f
  repeat' first
      | (with_reducible exact ih0 _ _ _)
      | (with_reducible exact ih1 _ _ _ _)
      | (with_reducible exact cellaretlaw19_awake.mono _)
      | (with_reducible exact cellaretlaw19_fair.mono _ _ _ _ _ _ _ _)
      | (with_reducible exact cellaretref17_AnsBack.mono _ _)
      | (with_reducible exact reply_All.mono _ _)
      | (with_reducible exact reply_Read.mono _ _)
      | (with_reducible exact LeO.refl _)
      | (with_reducible exact LeO.none _)
      | (with_reducible refine LeO.ite ?_ ?_)
      | (with_reducible refine LeO.bind ?_ (fun _ => ?_))
      | exact ih0 _ _ _
      | exact ih1 _ _ _ _
      | exact cellaretlaw19_awake.mono _
      | exact cellaretlaw19_fair.mono _ _ _ _ _ _ _ _
      | exact cellaretref17_AnsBack.mono _ _
      | exact reply_All.mono _ _
      | exact reply_Read.mono _ _
      | exact LeO.none _
      | refine LeO.ite ?_ ?_
      | refine LeO.bind ?_ (fun _ => ?_)
set_option maxHeartbeats 8000000 in
set_option maxRecDepth 100000 in
theorem cellaretlaw19_ReplyCut.calls (k : Nat) (A0 : Option Addr) (c0 : Nat) (l0 : List (S29)) (a1 : Int) (r : Bool) (w : World) (HLD : LaidA w) (hr0 : Kd.C k29 w A0 l0.length l0) (hc0 : l0.length ≤ c0) (h : cellaretlaw19_ReplyCut.f k l0 a1 = some r) :
  Calls Tryd.prog 5 #[.slice A0 l0.length c0, .int .i64 a1] w fun e w' => e = .returned (.bool r) ∧ Below w.heap.size w w' := by
 have hu29 := Tryd.underlying29
 have HR0 := Aside0.mk hr0
 have HC0 := Aside0.mk hc0
 clear hr0 hc0
 have HB := Aside0.mk (Below.refl w.heap.size w)
 have H : ((cellaretlaw19_awake.f k).bind fun t267 => (if t267 = true then (if (l0.length : Int) > 20 then (some true) else (cellaretlaw19_ReplyCut.l0 k l0 a1 0)) else (some false))) = some r := h
 clear h
 replace H := Option.bind_eq_some_iff.mp H
 obtain ⟨t267, A30, H⟩ := H
 replace H : (if t267 = true then (if (l0.length : Int) > 20 then (some true) else (cellaretlaw19_ReplyCut.l0 k l0 a1 0)) else (some false)) = some r := H
 have A3 := Aside0.mk A30
 clear A30
 by_cases c4 : t267 = true
 ·subst c4
  have H1 : (if (l0.length : Int) > 20 then (some true) else (cellaretlaw19_ReplyCut.l0 k l0 a1 0)) = some r := by rw [if_pos rfl] at H; exact H
  clear H
  have H := H1
  clear H1
  by_cases c5 : (l0.length : Int) > 20
  ·rw [if_pos c5] at H
   have c5b0 : decide (20 < (l0.length : Int)) = true := decide_eq_true c5
   have c5b1 : decide (20 < l0.length) = true := decide_eq_true (by omega)
   clear c5
   obtain rfl := Option.some.inj H
   go_enter Tryd.func5, Tryd.ntmps5
   go_wp2_with (first | ((with_reducible refine gate_callee (f := 7) rfl ?_); refine goesL_ (some 13) rfl rfl Tryd.func7 (by kernel_rfl) rfl #[] rfl (by (try simp only [List.map_toArray, List.map_cons, List.map_nil]); first | done | rfl | (simp only [List.length_drop, List.length_take]; rfl)) ?_; (with_reducible refine (cellaretlaw19_awake.calls k  true _ ?side1 A3.out).mono ?_); (case side1 => exact HLD.below (by repeat (first | (with_reducible first | exact HB.out | apply below_alloc | apply pw_below_drewN | apply below_drew1) | exact HB.out))); rintro e w6 ⟨rfl, hb⟩; refine ⟨_, rfl, ?_⟩; have n0_ := Aside0.mk (below_step (by repeat (first | (with_reducible first | exact HB.out | apply below_alloc | apply pw_below_drewN | apply below_drew1) | exact HB.out)) hb); clear HB; have HB := n0_; clear n0_; (try clear hb); (try clear hb2); (try clear hk); (try clear hi)))
   go_ret
   exact ⟨by first | rfl | (simp [errW_none, errW_some] <;> rfl) | (simp [*, errW_none, errW_some] <;> rfl), by repeat (first | (with_reducible first | exact HB.out | apply below_alloc | apply pw_below_drewN | apply below_drew1) | exact HB.out)⟩
  ·rw [if_neg c5] at H
   have c5b0 : decide (20 < (l0.length : Int)) = false := decide_eq_false c5
   have c5b1 : decide (20 < l0.length) = false := decide_eq_false (by omega)
   clear c5
   have H' := Aside0.mk H
   clear H
   go_enter Tryd.func5, Tryd.ntmps5
   go_wp2_with (first | ((with_reducible refine gate_callee (f := 7) rfl ?_); refine goesL_ (some 13) rfl rfl Tryd.func7 (by kernel_rfl) rfl #[] rfl (by (try simp only [List.map_toArray, List.map_cons, List.map_nil]); first | done | rfl | (simp only [List.length_drop, List.length_take]; rfl)) ?_; (with_reducible refine (cellaretlaw19_awake.calls k  true _ ?side1 A3.out).mono ?_); (case side1 => exact HLD.below (by repeat (first | (with_reducible first | exact HB.out | apply below_alloc | apply pw_below_drewN | apply below_drew1) | exact HB.out))); rintro e w7 ⟨rfl, hb⟩; refine ⟨_, rfl, ?_⟩; have n0_ := Aside0.mk (below_step (by repeat (first | (with_reducible first | exact HB.out | apply below_alloc | apply pw_below_drewN | apply below_drew1) | exact HB.out)) hb); clear HB; have HB := n0_; clear n0_; (try clear hb); (try clear hb2); (try clear hk); (try clear hi)))
   go_loopg [5] k (fun kq v5 w' => ∃ (x5_1 : Int), v5 = .int .i64 x5_1 ∧ Aside0 (cellaretlaw19_ReplyCut.l0 kq l0 a1 x5_1 = some r) ∧ Aside0 (kq ≤ k) ∧ Aside0 (Below w.heap.size w w'))
   case atStart => exact ⟨(0), (by first | rfl | (simp; done) | (simp [*]; done)), H', ⟨Nat.le_refl _⟩, ⟨by repeat (first | (with_reducible first | exact HB.out | apply below_alloc | apply pw_below_drewN | apply below_drew1) | exact HB.out)⟩⟩
   case round =>
    clear H'
    try clear p2
    try clear c4
    try clear c5
    try clear c5b0
    try clear c5b1
    try clear c7
    obtain ⟨x5_1, rfl, HA, HK1, HB⟩ := hrel
    cases gk with
    | zero => exact absurd HA.out (by simp [cellaretlaw19_ReplyCut.l0])
    | succ k1 =>
     have H := HA.out
     clear HA
     simp only [cellaretlaw19_ReplyCut.l0] at H
     by_cases c8 : x5_1 < (l0.length : Int)
     ·rw [if_pos c8] at H
      have c8b0 : decide (x5_1 < (l0.length : Int)) = true := decide_eq_true c8
      clear c8
      by_cases c9 : 0 ≤ x5_1
      ·rw [if_pos c9] at H
       have c9b0 : decide (0 ≤ x5_1) = true := decide_eq_true c9
       clear c9
       replace H := Option.bind_eq_some_iff.mp H
       obtain ⟨t269, A100, H⟩ := H
       replace H : (if t269 = true then (if (((rd_T29 l0 x5_1).f3).size : Int) > 1500 then (some true) else (cellaretlaw19_ReplyCut.l0 k1 l0 a1 (wrap64 (x5_1 + 1)))) else (some true)) = some r := H
       have A10 := Aside0.mk A100
       clear A100
       by_cases c11 : t269 = true
       ·subst c11
        have H1 : (if (((rd_T29 l0 x5_1).f3).size : Int) > 1500 then (some true) else (cellaretlaw19_ReplyCut.l0 k1 l0 a1 (wrap64 (x5_1 + 1)))) = some r := by rw [if_pos rfl] at H; exact H
        clear H
        have H := H1
        clear H1
        by_cases c12 : (((rd_T29 l0 x5_1).f3).size : Int) > 1500
        ·rw [if_pos c12] at H
         have c12b0 : decide (1500 < (((rd_T29 l0 x5_1).f3).size : Int)) = true := decide_eq_true c12
         have c12b1 : decide (1500 < ((rd_T29 l0 x5_1).f3).size) = true := decide_eq_true (by omega)
         clear c12
         obtain rfl := Option.some.inj H
         have p268 : 0 ≤ (x5_1 : Int) := of_decide_eq_true (by first | (with_reducible assumption) | assumption)
         have q268 : x5_1 < (l0.length : Int) := of_decide_eq_true (by first | (with_reducible assumption) | assumption)
         obtain ⟨ad268, e268, hx268_0, hx268_1, hx268_2, hx268_3, hx268_4, hx268_5, hx268_6⟩ := at_T29 HR0.out x5_1 p268 q268
         cases e268
         replace hx268_0 := (HB.out.cell (World.block_lt_of_cell? w _ hx268_0)).trans hx268_0
         replace hx268_1 := (HB.out.cell (World.block_lt_of_cell? w _ hx268_1)).trans hx268_1
         replace hx268_2 := (HB.out.cell (World.block_lt_of_cell? w _ hx268_2)).trans hx268_2
         replace hx268_3 := (HB.out.cell (World.block_lt_of_cell? w _ hx268_3)).trans hx268_3
         replace hx268_4 := (HB.out.cell (World.block_lt_of_cell? w _ hx268_4)).trans hx268_4
         replace hx268_5 := (HB.out.cell (World.block_lt_of_cell? w _ hx268_5)).trans hx268_5
         replace hx268_6 := (HB.out.cell (World.block_lt_of_cell? w _ hx268_6)).trans hx268_6
         replace p268 := eq_true p268
         replace q268 := eq_true q268
         go_wp2_with (first | ((with_reducible refine gate_callee (f := 12) rfl ?_); refine goesL_ (some 28) rfl rfl Tryd.func12 (by kernel_rfl) rfl #[.agg #[.bool ((rd_T29 l0 x5_1).f0), .string ((rd_T29 l0 x5_1).f1), .string ((rd_T29 l0 x5_1).f2), .string ((rd_T29 l0 x5_1).f3), .int .u32 ((rd_T29 l0 x5_1).f4), .int .u64 ((rd_T29 l0 x5_1).f5), .bool ((rd_T29 l0 x5_1).f6)]] rfl (by (try simp only [List.map_toArray, List.map_cons, List.map_nil]); first | done | rfl | (simp only [List.length_drop, List.length_take]; rfl)) ?_; (with_reducible refine (cellaretlaw19_fair.calls k1 ((rd_T29 l0 x5_1).f0) ((rd_T29 l0 x5_1).f1) ((rd_T29 l0 x5_1).f2) ((rd_T29 l0 x5_1).f3) ((rd_T29 l0 x5_1).f4) ((rd_T29 l0 x5_1).f5) ((rd_T29 l0 x5_1).f6) true _ A10.out).mono ?_); rintro e w13 ⟨rfl, hb⟩; refine ⟨_, rfl, ?_⟩; have n0_ := Aside0.mk (below_step (by repeat (first | (with_reducible first | exact HB.out | apply below_alloc | apply pw_below_drewN | apply below_drew1) | exact HB.out)) hb); clear HB; have HB := n0_; clear n0_; (try clear hb); (try clear hb2); (try clear hk); (try clear hi); have p270 : 0 ≤ (x5_1 : Int) := of_decide_eq_true (by first | (with_reducible assumption) | assumption); have q270 : x5_1 < (l0.length : Int) := of_decide_eq_true (by first | (with_reducible assumption) | assumption); obtain ⟨ad270, e270, hx270_0, hx270_1, hx270_2, hx270_3, hx270_4, hx270_5, hx270_6⟩ := at_T29 HR0.out x5_1 p270 q270; obtain rfl : ad268 = ad270 := (by injection e270); replace hx270_0 := (HB.out.cell (World.block_lt_of_cell? w _ hx270_0)).trans hx270_0; replace hx270_1 := (HB.out.cell (World.block_lt_of_cell? w _ hx270_1)).trans hx270_1; replace hx270_2 := (HB.out.cell (World.block_lt_of_cell? w _ hx270_2)).trans hx270_2; replace hx270_3 := (HB.out.cell (World.block_lt_of_cell? w _ hx270_3)).trans hx270_3; replace hx270_4 := (HB.out.cell (World.block_lt_of_cell? w _ hx270_4)).trans hx270_4; replace hx270_5 := (HB.out.cell (World.block_lt_of_cell? w _ hx270_5)).trans hx270_5; replace hx270_6 := (HB.out.cell (World.block_lt_of_cell? w _ hx270_6)).trans hx270_6; replace p270 := eq_true p270; replace q270 := eq_true q270))
         go_ret
         exact ⟨by first | rfl | (simp [errW_none, errW_some] <;> rfl) | (simp [*, errW_none, errW_some] <;> rfl), by repeat (first | (with_reducible first | exact HB.out | apply below_alloc | apply pw_below_drewN | apply below_drew1) | exact HB.out)⟩
        ·rw [if_neg c12] at H
         have c12b0 : decide (1500 < (((rd_T29 l0 x5_1).f3).size : Int)) = false := decide_eq_false c12
         have c12b1 : decide (1500 < ((rd_T29 l0 x5_1).f3).size) = false := decide_eq_false (by omega)
         clear c12
         have H' := Aside0.mk H
         clear H
         have p268 : 0 ≤ (x5_1 : Int) := of_decide_eq_true (by first | (with_reducible assumption) | assumption)
         have q268 : x5_1 < (l0.length : Int) := of_decide_eq_true (by first | (with_reducible assumption) | assumption)
         obtain ⟨ad268, e268, hx268_0, hx268_1, hx268_2, hx268_3, hx268_4, hx268_5, hx268_6⟩ := at_T29 HR0.out x5_1 p268 q268
         cases e268
         replace hx268_0 := (HB.out.cell (World.block_lt_of_cell? w _ hx268_0)).trans hx268_0
         replace hx268_1 := (HB.out.cell (World.block_lt_of_cell? w _ hx268_1)).trans hx268_1
         replace hx268_2 := (HB.out.cell (World.block_lt_of_cell? w _ hx268_2)).trans hx268_2
         replace hx268_3 := (HB.out.cell (World.block_lt_of_cell? w _ hx268_3)).trans hx268_3
         replace hx268_4 := (HB.out.cell (World.block_lt_of_cell? w _ hx268_4)).trans hx268_4
         replace hx268_5 := (HB.out.cell (World.block_lt_of_cell? w _ hx268_5)).trans hx268_5
         replace hx268_6 := (HB.out.cell (World.block_lt_of_cell? w _ hx268_6)).trans hx268_6
         replace p268 := eq_true p268
         replace q268 := eq_true q268
         go_wp2_with (first | ((with_reducible refine gate_callee (f := 12) rfl ?_); refine goesL_ (some 28) rfl rfl Tryd.func12 (by kernel_rfl) rfl #[.agg #[.bool ((rd_T29 l0 x5_1).f0), .string ((rd_T29 l0 x5_1).f1), .string ((rd_T29 l0 x5_1).f2), .string ((rd_T29 l0 x5_1).f3), .int .u32 ((rd_T29 l0 x5_1).f4), .int .u64 ((rd_T29 l0 x5_1).f5), .bool ((rd_T29 l0 x5_1).f6)]] rfl (by (try simp only [List.map_toArray, List.map_cons, List.map_nil]); first | done | rfl | (simp only [List.length_drop, List.length_take]; rfl)) ?_; (with_reducible refine (cellaretlaw19_fair.calls k1 ((rd_T29 l0 x5_1).f0) ((rd_T29 l0 x5_1).f1) ((rd_T29 l0 x5_1).f2) ((rd_T29 l0 x5_1).f3) ((rd_T29 l0 x5_1).f4) ((rd_T29 l0 x5_1).f5) ((rd_T29 l0 x5_1).f6) true _ A10.out).mono ?_); rintro e w14 ⟨rfl, hb⟩; refine ⟨_, rfl, ?_⟩; have n0_ := Aside0.mk (below_step (by repeat (first | (with_reducible first | exact HB.out | apply below_alloc | apply pw_below_drewN | apply below_drew1) | exact HB.out)) hb); clear HB; have HB := n0_; clear n0_; (try clear hb); (try clear hb2); (try clear hk); (try clear hi); have p270 : 0 ≤ (x5_1 : Int) := of_decide_eq_true (by first | (with_reducible assumption) | assumption); have q270 : x5_1 < (l0.length : Int) := of_decide_eq_true (by first | (with_reducible assumption) | assumption); obtain ⟨ad270, e270, hx270_0, hx270_1, hx270_2, hx270_3, hx270_4, hx270_5, hx270_6⟩ := at_T29 HR0.out x5_1 p270 q270; obtain rfl : ad268 = ad270 := (by injection e270); replace hx270_0 := (HB.out.cell (World.block_lt_of_cell? w _ hx270_0)).trans hx270_0; replace hx270_1 := (HB.out.cell (World.block_lt_of_cell? w _ hx270_1)).trans hx270_1; replace hx270_2 := (HB.out.cell (World.block_lt_of_cell? w _ hx270_2)).trans hx270_2; replace hx270_3 := (HB.out.cell (World.block_lt_of_cell? w _ hx270_3)).trans hx270_3; replace hx270_4 := (HB.out.cell (World.block_lt_of_cell? w _ hx270_4)).trans hx270_4; replace hx270_5 := (HB.out.cell (World.block_lt_of_cell? w _ hx270_5)).trans hx270_5; replace hx270_6 := (HB.out.cell (World.block_lt_of_cell? w _ hx270_6)).trans hx270_6; replace p270 := eq_true p270; replace q270 := eq_true q270))
         go_roundg k1
         case measure => have := HK1.out; omega
         case rel => exact ⟨(wrap64 (x5_1 + 1)), (by first | rfl | (simp; done) | (simp [*]; done)), H', ⟨by have := HK1.out; omega⟩, ⟨by repeat (first | (with_reducible first | exact HB.out | apply below_alloc | apply pw_below_drewN | apply below_drew1) | exact HB.out)⟩⟩
       ·replace c11 := Bool.eq_false_iff.mpr c11
        subst c11
        have H1 : (some true) = some r := by rw [if_neg (show ¬ (false = true) by decide)] at H; exact H
        clear H
        have H := H1
        clear H1
        obtain rfl := Option.some.inj H
        have p268 : 0 ≤ (x5_1 : Int) := of_decide_eq_true (by first | (with_reducible assumption) | assumption)
        have q268 : x5_1 < (l0.length : Int) := of_decide_eq_true (by first | (with_reducible assumption) | assumption)
        obtain ⟨ad268, e268, hx268_0, hx268_1, hx268_2, hx268_3, hx268_4, hx268_5, hx268_6⟩ := at_T29 HR0.out x5_1 p268 q268
        cases e268
        replace hx268_0 := (HB.out.cell (World.block_lt_of_cell? w _ hx268_0)).trans hx268_0
        replace hx268_1 := (HB.out.cell (World.block_lt_of_cell? w _ hx268_1)).trans hx268_1
        replace hx268_2 := (HB.out.cell (World.block_lt_of_cell? w _ hx268_2)).trans hx268_2
        replace hx268_3 := (HB.out.cell (World.block_lt_of_cell? w _ hx268_3)).trans hx268_3
        replace hx268_4 := (HB.out.cell (World.block_lt_of_cell? w _ hx268_4)).trans hx268_4
        replace hx268_5 := (HB.out.cell (World.block_lt_of_cell? w _ hx268_5)).trans hx268_5
        replace hx268_6 := (HB.out.cell (World.block_lt_of_cell? w _ hx268_6)).trans hx268_6
        replace p268 := eq_true p268
        replace q268 := eq_true q268
        go_wp2_with (first | ((with_reducible refine gate_callee (f := 12) rfl ?_); refine goesL_ (some 28) rfl rfl Tryd.func12 (by kernel_rfl) rfl #[.agg #[.bool ((rd_T29 l0 x5_1).f0), .string ((rd_T29 l0 x5_1).f1), .string ((rd_T29 l0 x5_1).f2), .string ((rd_T29 l0 x5_1).f3), .int .u32 ((rd_T29 l0 x5_1).f4), .int .u64 ((rd_T29 l0 x5_1).f5), .bool ((rd_T29 l0 x5_1).f6)]] rfl (by (try simp only [List.map_toArray, List.map_cons, List.map_nil]); first | done | rfl | (simp only [List.length_drop, List.length_take]; rfl)) ?_; (with_reducible refine (cellaretlaw19_fair.calls k1 ((rd_T29 l0 x5_1).f0) ((rd_T29 l0 x5_1).f1) ((rd_T29 l0 x5_1).f2) ((rd_T29 l0 x5_1).f3) ((rd_T29 l0 x5_1).f4) ((rd_T29 l0 x5_1).f5) ((rd_T29 l0 x5_1).f6) false _ A10.out).mono ?_); rintro e w15 ⟨rfl, hb⟩; refine ⟨_, rfl, ?_⟩; have n0_ := Aside0.mk (below_step (by repeat (first | (with_reducible first | exact HB.out | apply below_alloc | apply pw_below_drewN | apply below_drew1) | exact HB.out)) hb); clear HB; have HB := n0_; clear n0_; (try clear hb); (try clear hb2); (try clear hk); (try clear hi)))
        go_ret
        exact ⟨by first | rfl | (simp [errW_none, errW_some] <;> rfl) | (simp [*, errW_none, errW_some] <;> rfl), by repeat (first | (with_reducible first | exact HB.out | apply below_alloc | apply pw_below_drewN | apply below_drew1) | exact HB.out)⟩
      ·rw [if_neg c9] at H
       exact absurd H (by simp)
     ·rw [if_neg c8] at H
      have c8b0 : decide (x5_1 < (l0.length : Int)) = false := decide_eq_false c8
      clear c8
      replace H := Option.bind_eq_some_iff.mp H
      obtain ⟨t271, A160, H⟩ := H
      replace H : ((reply_All.f k1 t271).bind fun t274 => (if a1 < 0 then (cellaretlaw19_ReplyCut.j1 k1 l0 a1 t274 true) else (cellaretlaw19_ReplyCut.j1 k1 l0 a1 t274 (decide (a1 > (t274.length : Int)))))) = some r := H
      have A16 := Aside0.mk A160
      clear A160
      replace H := Option.bind_eq_some_iff.mp H
      obtain ⟨t274, A170, H⟩ := H
      replace H : (if a1 < 0 then (cellaretlaw19_ReplyCut.j1 k1 l0 a1 t274 true) else (cellaretlaw19_ReplyCut.j1 k1 l0 a1 t274 (decide (a1 > (t274.length : Int))))) = some r := H
      have A17 := Aside0.mk A170
      clear A170
      have HC18 := Aside0.mk H
      clear H
      go_upto_region 11 with (first | ((with_reducible refine gate_callee (f := 8) rfl ?_); refine goesL_ (some 40) rfl rfl Tryd.func8 (by kernel_rfl) rfl #[.slice A0 l0.length c0] rfl (by (try simp only [List.map_toArray, List.map_cons, List.map_nil]); first | done | rfl | (simp only [List.length_drop, List.length_take]; rfl)) ?_; (with_reducible refine (cellaretref17_AnsBack.calls k1 _ _ l0 t271 _ ?side1 ?side2 A16.out).mono ?_); (case side1 => repeat (first | exact (Kd.C_below HR0.out HB.out) | (with_reducible refine Kd.C_alloc ?_ _) | (with_reducible refine Kd.C_drewN ?_ _) | (with_reducible refine Kd.C_drew ?_))); (case side2 => exact HC0.out); rintro e w19 ⟨v272, rfl, ho0, hb⟩; refine ⟨_, rfl, ?_⟩; have n0_ := Aside0.mk (Kd.R_lower ho0 (below_size (by repeat (first | (with_reducible first | exact HB.out | apply below_alloc | apply pw_below_drewN | apply below_drew1) | exact HB.out)))); have n1_ := Aside0.mk (below_step (by repeat (first | (with_reducible first | exact HB.out | apply below_alloc | apply pw_below_drewN | apply below_drew1) | exact HB.out)) hb); clear HB; have HO273 := n0_; have HB := n1_; clear n0_ n1_; (try clear hb); (try clear hb2); (try clear hk); (try clear hi); (try clear ho0); obtain ⟨Ao20, co20, eo20⟩ := Kd.R_slice HO273.out; subst eo20) | ((with_reducible refine gate_callee (f := 11) rfl ?_); refine goesL_ (some 41) rfl rfl Tryd.func11 (by kernel_rfl) rfl #[.slice Ao20 t271.length co20] rfl (by (try simp only [List.map_toArray, List.map_cons, List.map_nil]); first | done | rfl | (simp only [List.length_drop, List.length_take]; rfl)) ?_; (with_reducible refine (reply_All.calls k1 _ _ t271 t274 _ ?side3 ?side1 ?side2 A17.out).mono ?_); (case side1 => repeat (first | exact (Kd.R_reads' HO273.out).2.2 | (with_reducible refine Kd.C_alloc ?_ _) | (with_reducible refine Kd.C_drewN ?_ _) | (with_reducible refine Kd.C_drew ?_))); (case side2 => exact (Kd.R_reads' HO273.out).2.1); (case side3 => exact HLD.below (by repeat (first | (with_reducible first | exact HB.out | apply below_alloc | apply pw_below_drewN | apply below_drew1) | exact HB.out))); rintro e w21 ⟨v275, rfl, ho0, hb⟩; refine ⟨_, rfl, ?_⟩; have n0_ := Aside0.mk (Kd.R_below (by (with_reducible repeat (first | apply Kd.R_alloc | apply Kd.R_drewN | apply Kd.R_drew)); exact HO273.out) hb); have n1_ := Aside0.mk (Kd.R_lower ho0 (below_size (by repeat (first | (with_reducible first | exact HB.out | apply below_alloc | apply pw_below_drewN | apply below_drew1) | exact HB.out)))); have n2_ := Aside0.mk (below_step (by repeat (first | (with_reducible first | exact HB.out | apply below_alloc | apply pw_below_drewN | apply below_drew1) | exact HB.out)) hb); clear HO273; clear HB; have HO273 := n0_; have HO276 := n1_; have HB := n2_; clear n0_ n1_ n2_; (try clear hb); (try clear hb2); (try clear hk); (try clear hi); (try clear ho0)))
      (try simp only [Act.put, List.setIfInBounds_toArray, List.set_cons_zero, List.set_cons_succ])
      go_cut [49] (fun v49 wc => ∃ (kq : Nat) (x49_17 : Bool), v49 = .bool x49_17 ∧ Aside0 (cellaretlaw19_ReplyCut.j1 kq l0 a1 t274 x49_17 = some r) ∧ Aside0 (kq ≤ k1) ∧ Aside0 (Kd.R (Kd.int .u8) 5 wc w.heap.size (fun _ => True) v275 t274) ∧ Aside0 (Below w.heap.size w wc))
      case first =>
       have H := HC18.out
       clear HC18
       by_cases c22 : a1 < 0
       ·rw [if_pos c22] at H
        have c22b0 : decide (a1 < 0) = true := decide_eq_true c22
        clear c22
        (first | rw [c22b0] | (simp only [i64_w, i32_w]; rw [c22b0]) | skip)
        have H' := Aside0.mk H
        clear H
        go_wp2
        go_meet
        case rel => exact ⟨_, (true), (by first | rfl | (simp; done) | (simp [*]; done)), H', ⟨by have := HK1.out; first | omega | exact Nat.le_refl _⟩, ⟨by (with_reducible repeat (first | apply Kd.R_alloc | apply Kd.R_drewN | apply Kd.R_drew)); exact HO276.out⟩, ⟨by repeat (first | (with_reducible first | exact HB.out | apply below_alloc | apply pw_below_drewN | apply below_drew1) | exact HB.out)⟩⟩
       ·rw [if_neg c22] at H
        have c22b0 : decide (a1 < 0) = false := decide_eq_false c22
        clear c22
        (first | rw [c22b0] | (simp only [i64_w, i32_w]; rw [c22b0]) | skip)
        have H' := Aside0.mk H
        clear H
        obtain ⟨Ao23, co23, eo23⟩ := Kd.R_slice HO276.out
        subst eo23
        go_wp2
        go_meet
        case rel => exact ⟨_, (decide (a1 > (t274.length : Int))), (by first | rfl | (simp; done) | (simp [*]; done)), H', ⟨by have := HK1.out; first | omega | exact Nat.le_refl _⟩, ⟨by (with_reducible repeat (first | apply Kd.R_alloc | apply Kd.R_drewN | apply Kd.R_drew)); exact HO276.out⟩, ⟨by repeat (first | (with_reducible first | exact HB.out | apply below_alloc | apply pw_below_drewN | apply below_drew1) | exact HB.out)⟩⟩
      case rest =>
       clear HC18
       try clear c1
       try clear c2
       try clear p2
       try clear q2
       try clear hx2
       try clear c4
       try clear c5
       try clear c5b0
       try clear c5b1
       try clear p6
       try clear c7
       try clear c8
       try clear c8b0
       try clear c9
       try clear c9b0
       try clear c11
       try clear c12
       try clear c12b0
       try clear c12b1
       try clear c22
       try clear c22b0
       try clear hx268_0
       try clear hx268_1
       try clear hx268_2
       try clear hx268_3
       try clear hx268_4
       try clear hx268_5
       try clear hx268_6
       try clear hx270_0
       try clear hx270_1
       try clear hx270_2
       try clear hx270_3
       try clear hx270_4
       try clear hx270_5
       try clear hx270_6
       try clear p2
       try clear p268
       try clear p270
       try clear q268
       try clear q270
       obtain ⟨kq, x49_17, rfl, HA, HJ17, HO_6, HB⟩ := hcut
       cases kq with
       | zero => exact absurd HA.out (by simp [cellaretlaw19_ReplyCut.j1])
       | succ kj17 =>
        have H := HA.out
        clear HA
        simp only [cellaretlaw19_ReplyCut.j1] at H
        by_cases c24 : x49_17 = true
        ·subst c24
         have H1 : (some true) = some r := by rw [if_pos rfl] at H; exact H
         clear H
         have H := H1
         clear H1
         obtain rfl := Option.some.inj H
         go_wp2
         go_ret
         exact ⟨by first | rfl | (simp [errW_none, errW_some] <;> rfl) | (simp [*, errW_none, errW_some] <;> rfl), by repeat (first | (with_reducible first | exact HB.out | apply below_alloc | apply pw_below_drewN | apply below_drew1) | exact HB.out)⟩
        ·replace c24 := Bool.eq_false_iff.mpr c24
         subst c24
         have H1 : (if 0 ≤ a1 then (if a1 ≤ (t274.length : Int) then ((reply_Read.f kj17 (t274.take (a1 : Int).toNat)).bind fun bt281 => ((reply_Read.f kj17 t274).bind fun bt285 => (if bt281.2 > a1 then (some false) else (if bt285.2 = (t274.length : Int) then (if (bt285.1.length : Int) = (l0.length : Int) then (if (bt281.1.length : Int) > (bt285.1.length : Int) then (some false) else (if 0 ≤ bt281.2 then (if bt281.2 ≤ (t274.length : Int) then ((reply_Read.f kj17 (t274.drop (bt281.2 : Int).toNat)).bind fun bt293 => (if bt293.2 = (wrap64 ((t274.length : Int) - bt281.2)) then (some ((wrap64 ((bt281.1.length : Int) + (bt293.1.length : Int))) == (bt285.1.length : Int))) else (some false))) else (none)) else (none))) else (some false)) else (some false))))) else (none)) else (none)) = some r := by rw [if_neg (show ¬ (false = true) by decide)] at H; exact H
         clear H
         have H := H1
         clear H1
         by_cases c25 : 0 ≤ a1
         ·rw [if_pos c25] at H
          have c25b0 := eq_true c25
          have c25b1 : decide (0 ≤ a1) = true := decide_eq_true c25
          clear c25
          by_cases c26 : a1 ≤ (t274.length : Int)
          ·rw [if_pos c26] at H
           have c26b0 := eq_true c26
           have c26b1 : decide (a1 ≤ (t274.length : Int)) = true := decide_eq_true c26
           clear c26
           obtain ⟨y277, hy277⟩ : ∃ y_ : List Int, y_ = (t274.take (a1 : Int).toNat) := ⟨_, rfl⟩
           replace H : ((reply_Read.f kj17 y277).bind fun bt281 => ((reply_Read.f kj17 t274).bind fun bt285 => (if bt281.2 > a1 then (some false) else (if bt285.2 = (t274.length : Int) then (if (bt285.1.length : Int) = (l0.length : Int) then (if (bt281.1.length : Int) > (bt285.1.length : Int) then (some false) else (if 0 ≤ bt281.2 then (if bt281.2 ≤ (t274.length : Int) then ((reply_Read.f kj17 (t274.drop (bt281.2 : Int).toNat)).bind fun bt293 => (if bt293.2 = (wrap64 ((t274.length : Int) - bt281.2)) then (some ((wrap64 ((bt281.1.length : Int) + (bt293.1.length : Int))) == (bt285.1.length : Int))) else (some false))) else (none)) else (none))) else (some false)) else (some false))))) = some r := by first | (rw [hy277]; with_reducible exact H) | (have H2_ := (Option.bind_some _ _).symm.trans H; rw [hy277]; with_reducible exact H2_) | (have H2_ := (Option.bind_some _ _).symm.trans H; with_reducible exact H2_) | with_reducible exact H | (rw [hy277]; exact H) | exact H
           have Ny277 := Aside0.mk hy277
           clear hy277
           replace H := Option.bind_eq_some_iff.mp H
           obtain ⟨⟨t281, t282⟩, A270, H⟩ := H
           replace H : ((reply_Read.f kj17 t274).bind fun bt285 => (if t282 > a1 then (some false) else (if bt285.2 = (t274.length : Int) then (if (bt285.1.length : Int) = (l0.length : Int) then (if (t281.length : Int) > (bt285.1.length : Int) then (some false) else (if 0 ≤ t282 then (if t282 ≤ (t274.length : Int) then ((reply_Read.f kj17 (t274.drop (t282 : Int).toNat)).bind fun bt293 => (if bt293.2 = (wrap64 ((t274.length : Int) - t282)) then (some ((wrap64 ((t281.length : Int) + (bt293.1.length : Int))) == (bt285.1.length : Int))) else (some false))) else (none)) else (none))) else (some false)) else (some false)))) = some r := H
           have A27 := Aside0.mk A270
           clear A270
           replace H := Option.bind_eq_some_iff.mp H
           obtain ⟨⟨t285, t286⟩, A280, H⟩ := H
           replace H : (if t282 > a1 then (some false) else (if t286 = (t274.length : Int) then (if (t285.length : Int) = (l0.length : Int) then (if (t281.length : Int) > (t285.length : Int) then (some false) else (if 0 ≤ t282 then (if t282 ≤ (t274.length : Int) then ((reply_Read.f kj17 (t274.drop (t282 : Int).toNat)).bind fun bt293 => (if bt293.2 = (wrap64 ((t274.length : Int) - t282)) then (some ((wrap64 ((t281.length : Int) + (bt293.1.length : Int))) == (t285.length : Int))) else (some false))) else (none)) else (none))) else (some false)) else (some false))) = some r := H
           have A28 := Aside0.mk A280
           clear A280
           by_cases c29 : t282 > a1
           ·rw [if_pos c29] at H
            have c29b0 : decide (a1 < t282) = true := decide_eq_true c29
            clear c29
            obtain rfl := Option.some.inj H
            obtain ⟨Ao31, co31, eo31⟩ := Kd.R_slice HO_6.out
            subst eo31
            have q30 : (a1 : Int) ≤ ((t274.length : Int) : Int) := of_decide_eq_true (by first | (with_reducible assumption) | assumption)
            obtain ⟨i030, hi030, _, hsz30, _⟩ := info_parts info5
            have hroom30 : t274.length ≤ co31 := (Kd.R_reads' HO_6.out).2.1
            have hC30 : Kd.C (Kd.int .u8) _ Ao31 t274.length t274 := (Kd.R_reads' HO_6.out).2.2
            have hcut30 := cut_to (P := Tryd.prog) 31 5 .i64 Tryd.underlying31 hi030 Ao31 t274.length co31 a1 (of_decide_eq_true (by first | (with_reducible assumption) | assumption)) q30 hroom30
            have hr30 := Kd.C_take (m := (a1 : Int).toNat) hC30 (by omega)
            have hy30 : y277.length = (a1 : Int).toNat := (by rw [Ny277.out, List.length_take]; omega)
            rw [← Ny277.out] at hr30
            rw [← hy30] at hcut30
            have HR280 := Aside0.mk hr30
            have HC280 := Aside0.mk (show y277.length ≤ co31 from by omega)
            clear hr30 hC30 hroom30 hi030 hsz30
            have KY30 := Aside0.mk hy30
            clear hy30
            have KL30 := Aside0.mk (show (a1 : Int).toNat ≤ t274.length from by omega)
            replace q30 := eq_true q30
            go_wp2_with (first | ((with_reducible refine gate_callee (f := 14) rfl ?_); refine goesL_ (some 54) rfl rfl Tryd.func14 (by kernel_rfl) rfl #[.slice Ao31 y277.length co31] rfl (by (try simp only [List.map_toArray, List.map_cons, List.map_nil]); first | done | rfl | (simp only [List.length_drop, List.length_take]; rfl)) ?_; (with_reducible refine (reply_Read.calls kj17 _ _ y277 t281 t282 _ ?side3 ?side1 ?side2 A27.out).mono ?_); (case side1 => repeat (first | exact (by repeat (first | (with_reducible exact HR280.out) | (with_reducible refine Kd.C_alloc ?_ _) | (with_reducible refine Kd.C_drewN ?_ _) | (with_reducible refine Kd.C_drew ?_) | exact HR280.out)) | (with_reducible refine Kd.C_alloc ?_ _) | (with_reducible refine Kd.C_drewN ?_ _) | (with_reducible refine Kd.C_drew ?_))); (case side2 => exact HC280.out); (case side3 => exact HLD.below (by repeat (first | (with_reducible first | exact HB.out | apply below_alloc | apply pw_below_drewN | apply below_drew1) | exact HB.out))); rintro e w32 ⟨v283, rfl, ho0, hb⟩; refine ⟨_, rfl, ?_⟩; have n0_ := Aside0.mk (Kd.R_below (by (with_reducible repeat (first | apply Kd.R_alloc | apply Kd.R_drewN | apply Kd.R_drew)); exact HO_6.out) hb); have n1_ := Aside0.mk (Kd.R_lower ho0 (below_size (by repeat (first | (with_reducible first | exact HB.out | apply below_alloc | apply pw_below_drewN | apply below_drew1) | exact HB.out)))); have n2_ := Aside0.mk (Kd.C_below (by repeat (first | (with_reducible exact HR280.out) | (with_reducible refine Kd.C_alloc ?_ _) | (with_reducible refine Kd.C_drewN ?_ _) | (with_reducible refine Kd.C_drew ?_) | exact HR280.out)) hb); have n3_ := Aside0.mk (below_step (by repeat (first | (with_reducible first | exact HB.out | apply below_alloc | apply pw_below_drewN | apply below_drew1) | exact HB.out)) hb); clear HO_6; clear HR280; clear HB; have HO_6 := n0_; have HO284 := n1_; have HR280 := n2_; have HB := n3_; clear n0_ n1_ n2_ n3_; (try clear hb); (try clear hb2); (try clear hk); (try clear hi); (try clear ho0)) | ((with_reducible refine gate_callee (f := 14) rfl ?_); refine goesL_ (some 59) rfl rfl Tryd.func14 (by kernel_rfl) rfl #[.slice Ao31 t274.length co31] rfl (by (try simp only [List.map_toArray, List.map_cons, List.map_nil]); first | done | rfl | (simp only [List.length_drop, List.length_take]; rfl)) ?_; (with_reducible refine (reply_Read.calls kj17 _ _ t274 t285 t286 _ ?side3 ?side1 ?side2 A28.out).mono ?_); (case side1 => repeat (first | exact (Kd.R_reads' HO_6.out).2.2 | (with_reducible refine Kd.C_alloc ?_ _) | (with_reducible refine Kd.C_drewN ?_ _) | (with_reducible refine Kd.C_drew ?_))); (case side2 => exact (Kd.R_reads' HO_6.out).2.1); (case side3 => exact HLD.below (by repeat (first | (with_reducible first | exact HB.out | apply below_alloc | apply pw_below_drewN | apply below_drew1) | exact HB.out))); rintro e w33 ⟨v287, rfl, ho0, hb⟩; refine ⟨_, rfl, ?_⟩; have n0_ := Aside0.mk (Kd.R_below (by (with_reducible repeat (first | apply Kd.R_alloc | apply Kd.R_drewN | apply Kd.R_drew)); exact HO_6.out) hb); have n1_ := Aside0.mk (Kd.R_elder' (by (with_reducible repeat (first | apply Kd.R_alloc | apply Kd.R_drewN | apply Kd.R_drew)); exact HO284.out) (Kd.R_base ho0) hb); have n2_ := Aside0.mk (Kd.R_lower (Kd.R_new' ho0 (Kd.R_lt (by (with_reducible repeat (first | apply Kd.R_alloc | apply Kd.R_drewN | apply Kd.R_drew)); exact HO284.out))) (below_size (by repeat (first | (with_reducible first | exact HB.out | apply below_alloc | apply pw_below_drewN | apply below_drew1) | exact HB.out)))); have n3_ := Aside0.mk (Kd.C_below (by repeat (first | (with_reducible exact HR280.out) | (with_reducible refine Kd.C_alloc ?_ _) | (with_reducible refine Kd.C_drewN ?_ _) | (with_reducible refine Kd.C_drew ?_) | exact HR280.out)) hb); have n4_ := Aside0.mk (below_step (by repeat (first | (with_reducible first | exact HB.out | apply below_alloc | apply pw_below_drewN | apply below_drew1) | exact HB.out)) hb); clear HO_6; clear HO284; clear HR280; clear HB; have HO_6 := n0_; have HO284 := n1_; have HO288 := n2_; have HR280 := n3_; have HB := n4_; clear n0_ n1_ n2_ n3_ n4_; (try clear hb); (try clear hb2); (try clear hk); (try clear hi); (try clear ho0)))
            go_ret
            exact ⟨by first | rfl | (simp [errW_none, errW_some] <;> rfl) | (simp [*, errW_none, errW_some] <;> rfl), by repeat (first | (with_reducible first | exact HB.out | apply below_alloc | apply pw_below_drewN | apply below_drew1) | exact HB.out)⟩
           ·rw [if_neg c29] at H
            have c29b0 : decide (a1 < t282) = false := decide_eq_false c29
            clear c29
            by_cases c34 : t286 = (t274.length : Int)
            ·rw [if_pos c34] at H
             have c34b0 : (t286 == (t274.length : Int)) = true := beq_iff_eq.mpr c34
             have c34b1 : (t286 != (t274.length : Int)) = false := bne_eq_false_iff_eq.mpr c34
             clear c34
             by_cases c35 : (t285.length : Int) = (l0.length : Int)
             ·rw [if_pos c35] at H
              have c35b0 : ((t285.length : Int) == (l0.length : Int)) = true := beq_iff_eq.mpr c35
              have c35b1 : ((t285.length : Int) != (l0.length : Int)) = false := bne_eq_false_iff_eq.mpr c35
              have c35b2 : (t285.length == l0.length) = true := by first | simpa using c35 | (simp at c35 ⊢; omega)
              clear c35
              by_cases c36 : (t281.length : Int) > (t285.length : Int)
              ·rw [if_pos c36] at H
               have c36b0 : decide ((t285.length : Int) < (t281.length : Int)) = true := decide_eq_true c36
               have c36b1 : decide (t285.length < t281.length) = true := decide_eq_true (Int.ofNat_lt.mp c36)
               clear c36
               obtain rfl := Option.some.inj H
               obtain ⟨Ao38, co38, eo38⟩ := Kd.R_slice HO_6.out
               subst eo38
               have q37 : (a1 : Int) ≤ ((t274.length : Int) : Int) := of_decide_eq_true (by first | (with_reducible assumption) | assumption)
               obtain ⟨i037, hi037, _, hsz37, _⟩ := info_parts info5
               have hroom37 : t274.length ≤ co38 := (Kd.R_reads' HO_6.out).2.1
               have hC37 : Kd.C (Kd.int .u8) _ Ao38 t274.length t274 := (Kd.R_reads' HO_6.out).2.2
               have hcut37 := cut_to (P := Tryd.prog) 31 5 .i64 Tryd.underlying31 hi037 Ao38 t274.length co38 a1 (of_decide_eq_true (by first | (with_reducible assumption) | assumption)) q37 hroom37
               have hr37 := Kd.C_take (m := (a1 : Int).toNat) hC37 (by omega)
               have hy37 : y277.length = (a1 : Int).toNat := (by rw [Ny277.out, List.length_take]; omega)
               rw [← Ny277.out] at hr37
               rw [← hy37] at hcut37
               have HR280 := Aside0.mk hr37
               have HC280 := Aside0.mk (show y277.length ≤ co38 from by omega)
               clear hr37 hC37 hroom37 hi037 hsz37
               have KY37 := Aside0.mk hy37
               clear hy37
               have KL37 := Aside0.mk (show (a1 : Int).toNat ≤ t274.length from by omega)
               replace q37 := eq_true q37
               go_wp2_with (first | ((with_reducible refine gate_callee (f := 14) rfl ?_); refine goesL_ (some 54) rfl rfl Tryd.func14 (by kernel_rfl) rfl #[.slice Ao38 y277.length co38] rfl (by (try simp only [List.map_toArray, List.map_cons, List.map_nil]); first | done | rfl | (simp only [List.length_drop, List.length_take]; rfl)) ?_; (with_reducible refine (reply_Read.calls kj17 _ _ y277 t281 t282 _ ?side3 ?side1 ?side2 A27.out).mono ?_); (case side1 => repeat (first | exact (by repeat (first | (with_reducible exact HR280.out) | (with_reducible refine Kd.C_alloc ?_ _) | (with_reducible refine Kd.C_drewN ?_ _) | (with_reducible refine Kd.C_drew ?_) | exact HR280.out)) | (with_reducible refine Kd.C_alloc ?_ _) | (with_reducible refine Kd.C_drewN ?_ _) | (with_reducible refine Kd.C_drew ?_))); (case side2 => exact HC280.out); (case side3 => exact HLD.below (by repeat (first | (with_reducible first | exact HB.out | apply below_alloc | apply pw_below_drewN | apply below_drew1) | exact HB.out))); rintro e w39 ⟨v283, rfl, ho0, hb⟩; refine ⟨_, rfl, ?_⟩; have n0_ := Aside0.mk (Kd.R_below (by (with_reducible repeat (first | apply Kd.R_alloc | apply Kd.R_drewN | apply Kd.R_drew)); exact HO_6.out) hb); have n1_ := Aside0.mk (Kd.R_lower ho0 (below_size (by repeat (first | (with_reducible first | exact HB.out | apply below_alloc | apply pw_below_drewN | apply below_drew1) | exact HB.out)))); have n2_ := Aside0.mk (Kd.C_below (by repeat (first | (with_reducible exact HR280.out) | (with_reducible refine Kd.C_alloc ?_ _) | (with_reducible refine Kd.C_drewN ?_ _) | (with_reducible refine Kd.C_drew ?_) | exact HR280.out)) hb); have n3_ := Aside0.mk (below_step (by repeat (first | (with_reducible first | exact HB.out | apply below_alloc | apply pw_below_drewN | apply below_drew1) | exact HB.out)) hb); clear HO_6; clear HR280; clear HB; have HO_6 := n0_; have HO284 := n1_; have HR280 := n2_; have HB := n3_; clear n0_ n1_ n2_ n3_; (try clear hb); (try clear hb2); (try clear hk); (try clear hi); (try clear ho0)) | ((with_reducible refine gate_callee (f := 14) rfl ?_); refine goesL_ (some 59) rfl rfl Tryd.func14 (by kernel_rfl) rfl #[.slice Ao38 t274.length co38] rfl (by (try simp only [List.map_toArray, List.map_cons, List.map_nil]); first | done | rfl | (simp only [List.length_drop, List.length_take]; rfl)) ?_; (with_reducible refine (reply_Read.calls kj17 _ _ t274 t285 t286 _ ?side3 ?side1 ?side2 A28.out).mono ?_); (case side1 => repeat (first | exact (Kd.R_reads' HO_6.out).2.2 | (with_reducible refine Kd.C_alloc ?_ _) | (with_reducible refine Kd.C_drewN ?_ _) | (with_reducible refine Kd.C_drew ?_))); (case side2 => exact (Kd.R_reads' HO_6.out).2.1); (case side3 => exact HLD.below (by repeat (first | (with_reducible first | exact HB.out | apply below_alloc | apply pw_below_drewN | apply below_drew1) | exact HB.out))); rintro e w40 ⟨v287, rfl, ho0, hb⟩; refine ⟨_, rfl, ?_⟩; have n0_ := Aside0.mk (Kd.R_below (by (with_reducible repeat (first | apply Kd.R_alloc | apply Kd.R_drewN | apply Kd.R_drew)); exact HO_6.out) hb); have n1_ := Aside0.mk (Kd.R_elder' (by (with_reducible repeat (first | apply Kd.R_alloc | apply Kd.R_drewN | apply Kd.R_drew)); exact HO284.out) (Kd.R_base ho0) hb); have n2_ := Aside0.mk (Kd.R_lower (Kd.R_new' ho0 (Kd.R_lt (by (with_reducible repeat (first | apply Kd.R_alloc | apply Kd.R_drewN | apply Kd.R_drew)); exact HO284.out))) (below_size (by repeat (first | (with_reducible first | exact HB.out | apply below_alloc | apply pw_below_drewN | apply below_drew1) | exact HB.out)))); have n3_ := Aside0.mk (Kd.C_below (by repeat (first | (with_reducible exact HR280.out) | (with_reducible refine Kd.C_alloc ?_ _) | (with_reducible refine Kd.C_drewN ?_ _) | (with_reducible refine Kd.C_drew ?_) | exact HR280.out)) hb); have n4_ := Aside0.mk (below_step (by repeat (first | (with_reducible first | exact HB.out | apply below_alloc | apply pw_below_drewN | apply below_drew1) | exact HB.out)) hb); clear HO_6; clear HO284; clear HR280; clear HB; have HO_6 := n0_; have HO284 := n1_; have HO288 := n2_; have HR280 := n3_; have HB := n4_; clear n0_ n1_ n2_ n3_ n4_; (try clear hb); (try clear hb2); (try clear hk); (try clear hi); (try clear ho0); obtain ⟨Ao41, co41, eo41⟩ := Kd.R_slice HO288.out; subst eo41; obtain ⟨Ao42, co42, eo42⟩ := Kd.R_slice HO284.out; subst eo42))
               go_ret
               exact ⟨by first | rfl | (simp [errW_none, errW_some] <;> rfl) | (simp [*, errW_none, errW_some] <;> rfl), by repeat (first | (with_reducible first | exact HB.out | apply below_alloc | apply pw_below_drewN | apply below_drew1) | exact HB.out)⟩
              ·rw [if_neg c36] at H
               have c36b0 : decide ((t285.length : Int) < (t281.length : Int)) = false := decide_eq_false c36
               have c36b1 : decide (t285.length < t281.length) = false := decide_eq_false (fun h => c36 (Int.ofNat_lt.mpr h))
               clear c36
               by_cases c43 : 0 ≤ t282
               ·rw [if_pos c43] at H
                have c43b0 := eq_true c43
                have c43b1 : decide (0 ≤ t282) = true := decide_eq_true c43
                clear c43
                by_cases c44 : t282 ≤ (t274.length : Int)
                ·rw [if_pos c44] at H
                 have c44b0 := eq_true c44
                 have c44b1 : decide (t282 ≤ (t274.length : Int)) = true := decide_eq_true c44
                 clear c44
                 obtain ⟨y289, hy289⟩ : ∃ y_ : List Int, y_ = (t274.drop (t282 : Int).toNat) := ⟨_, rfl⟩
                 replace H : ((reply_Read.f kj17 y289).bind fun bt293 => (if bt293.2 = (wrap64 ((t274.length : Int) - t282)) then (some ((wrap64 ((t281.length : Int) + (bt293.1.length : Int))) == (t285.length : Int))) else (some false))) = some r := by first | (rw [hy289]; with_reducible exact H) | (have H2_ := (Option.bind_some _ _).symm.trans H; rw [hy289]; with_reducible exact H2_) | (have H2_ := (Option.bind_some _ _).symm.trans H; with_reducible exact H2_) | with_reducible exact H | (rw [hy289]; exact H) | exact H
                 have Ny289 := Aside0.mk hy289
                 clear hy289
                 replace H := Option.bind_eq_some_iff.mp H
                 obtain ⟨⟨t293, t294⟩, A450, H⟩ := H
                 replace H : (if t294 = (wrap64 ((t274.length : Int) - t282)) then (some ((wrap64 ((t281.length : Int) + (t293.length : Int))) == (t285.length : Int))) else (some false)) = some r := H
                 have A45 := Aside0.mk A450
                 clear A450
                 by_cases c46 : t294 = (wrap64 ((t274.length : Int) - t282))
                 ·rw [if_pos c46] at H
                  have c46b0 : (t294 == (wrap64 ((t274.length : Int) - t282))) = true := beq_iff_eq.mpr c46
                  have c46b1 : (t294 != (wrap64 ((t274.length : Int) - t282))) = false := bne_eq_false_iff_eq.mpr c46
                  clear c46
                  obtain rfl := Option.some.inj H
                  obtain ⟨Ao48, co48, eo48⟩ := Kd.R_slice HO_6.out
                  subst eo48
                  have q47 : (a1 : Int) ≤ ((t274.length : Int) : Int) := of_decide_eq_true (by first | (with_reducible assumption) | assumption)
                  obtain ⟨i047, hi047, _, hsz47, _⟩ := info_parts info5
                  have hroom47 : t274.length ≤ co48 := (Kd.R_reads' HO_6.out).2.1
                  have hC47 : Kd.C (Kd.int .u8) _ Ao48 t274.length t274 := (Kd.R_reads' HO_6.out).2.2
                  have hcut47 := cut_to (P := Tryd.prog) 31 5 .i64 Tryd.underlying31 hi047 Ao48 t274.length co48 a1 (of_decide_eq_true (by first | (with_reducible assumption) | assumption)) q47 hroom47
                  have hr47 := Kd.C_take (m := (a1 : Int).toNat) hC47 (by omega)
                  have hy47 : y277.length = (a1 : Int).toNat := (by rw [Ny277.out, List.length_take]; omega)
                  rw [← Ny277.out] at hr47
                  rw [← hy47] at hcut47
                  have HR280 := Aside0.mk hr47
                  have HC280 := Aside0.mk (show y277.length ≤ co48 from by omega)
                  clear hr47 hC47 hroom47 hi047 hsz47
                  have KY47 := Aside0.mk hy47
                  clear hy47
                  have KL47 := Aside0.mk (show (a1 : Int).toNat ≤ t274.length from by omega)
                  replace q47 := eq_true q47
                  go_wp2_with (first | ((with_reducible refine gate_callee (f := 14) rfl ?_); refine goesL_ (some 54) rfl rfl Tryd.func14 (by kernel_rfl) rfl #[.slice Ao48 y277.length co48] rfl (by (try simp only [List.map_toArray, List.map_cons, List.map_nil]); first | done | rfl | (simp only [List.length_drop, List.length_take]; rfl)) ?_; (with_reducible refine (reply_Read.calls kj17 _ _ y277 t281 t282 _ ?side3 ?side1 ?side2 A27.out).mono ?_); (case side1 => repeat (first | exact (by repeat (first | (with_reducible exact HR280.out) | (with_reducible refine Kd.C_alloc ?_ _) | (with_reducible refine Kd.C_drewN ?_ _) | (with_reducible refine Kd.C_drew ?_) | exact HR280.out)) | (with_reducible refine Kd.C_alloc ?_ _) | (with_reducible refine Kd.C_drewN ?_ _) | (with_reducible refine Kd.C_drew ?_))); (case side2 => exact HC280.out); (case side3 => exact HLD.below (by repeat (first | (with_reducible first | exact HB.out | apply below_alloc | apply pw_below_drewN | apply below_drew1) | exact HB.out))); rintro e w49 ⟨v283, rfl, ho0, hb⟩; refine ⟨_, rfl, ?_⟩; have n0_ := Aside0.mk (Kd.R_below (by (with_reducible repeat (first | apply Kd.R_alloc | apply Kd.R_drewN | apply Kd.R_drew)); exact HO_6.out) hb); have n1_ := Aside0.mk (Kd.R_lower ho0 (below_size (by repeat (first | (with_reducible first | exact HB.out | apply below_alloc | apply pw_below_drewN | apply below_drew1) | exact HB.out)))); have n2_ := Aside0.mk (Kd.C_below (by repeat (first | (with_reducible exact HR280.out) | (with_reducible refine Kd.C_alloc ?_ _) | (with_reducible refine Kd.C_drewN ?_ _) | (with_reducible refine Kd.C_drew ?_) | exact HR280.out)) hb); have n3_ := Aside0.mk (below_step (by repeat (first | (with_reducible first | exact HB.out | apply below_alloc | apply pw_below_drewN | apply below_drew1) | exact HB.out)) hb); clear HO_6; clear HR280; clear HB; have HO_6 := n0_; have HO284 := n1_; have HR280 := n2_; have HB := n3_; clear n0_ n1_ n2_ n3_; (try clear hb); (try clear hb2); (try clear hk); (try clear hi); (try clear ho0)) | ((with_reducible refine gate_callee (f := 14) rfl ?_); refine goesL_ (some 59) rfl rfl Tryd.func14 (by kernel_rfl) rfl #[.slice Ao48 t274.length co48] rfl (by (try simp only [List.map_toArray, List.map_cons, List.map_nil]); first | done | rfl | (simp only [List.length_drop, List.length_take]; rfl)) ?_; (with_reducible refine (reply_Read.calls kj17 _ _ t274 t285 t286 _ ?side3 ?side1 ?side2 A28.out).mono ?_); (case side1 => repeat (first | exact (Kd.R_reads' HO_6.out).2.2 | (with_reducible refine Kd.C_alloc ?_ _) | (with_reducible refine Kd.C_drewN ?_ _) | (with_reducible refine Kd.C_drew ?_))); (case side2 => exact (Kd.R_reads' HO_6.out).2.1); (case side3 => exact HLD.below (by repeat (first | (with_reducible first | exact HB.out | apply below_alloc | apply pw_below_drewN | apply below_drew1) | exact HB.out))); rintro e w50 ⟨v287, rfl, ho0, hb⟩; refine ⟨_, rfl, ?_⟩; have n0_ := Aside0.mk (Kd.R_below (by (with_reducible repeat (first | apply Kd.R_alloc | apply Kd.R_drewN | apply Kd.R_drew)); exact HO_6.out) hb); have n1_ := Aside0.mk (Kd.R_elder' (by (with_reducible repeat (first | apply Kd.R_alloc | apply Kd.R_drewN | apply Kd.R_drew)); exact HO284.out) (Kd.R_base ho0) hb); have n2_ := Aside0.mk (Kd.R_lower (Kd.R_new' ho0 (Kd.R_lt (by (with_reducible repeat (first | apply Kd.R_alloc | apply Kd.R_drewN | apply Kd.R_drew)); exact HO284.out))) (below_size (by repeat (first | (with_reducible first | exact HB.out | apply below_alloc | apply pw_below_drewN | apply below_drew1) | exact HB.out)))); have n3_ := Aside0.mk (Kd.C_below (by repeat (first | (with_reducible exact HR280.out) | (with_reducible refine Kd.C_alloc ?_ _) | (with_reducible refine Kd.C_drewN ?_ _) | (with_reducible refine Kd.C_drew ?_) | exact HR280.out)) hb); have n4_ := Aside0.mk (below_step (by repeat (first | (with_reducible first | exact HB.out | apply below_alloc | apply pw_below_drewN | apply below_drew1) | exact HB.out)) hb); clear HO_6; clear HO284; clear HR280; clear HB; have HO_6 := n0_; have HO284 := n1_; have HO288 := n2_; have HR280 := n3_; have HB := n4_; clear n0_ n1_ n2_ n3_ n4_; (try clear hb); (try clear hb2); (try clear hk); (try clear hi); (try clear ho0); obtain ⟨Ao51, co51, eo51⟩ := Kd.R_slice HO288.out; subst eo51; obtain ⟨Ao52, co52, eo52⟩ := Kd.R_slice HO284.out; subst eo52; have q53 : (t282 : Int) ≤ ((t274.length : Int) : Int) := of_decide_eq_true (by first | (with_reducible assumption) | assumption); obtain ⟨i053, hi053, _, hsz53, _⟩ := info_parts info5; have hroom53 : t274.length ≤ co48 := (Kd.R_reads' HO_6.out).2.1; have hC53 : Kd.C (Kd.int .u8) _ Ao48 t274.length t274 := (Kd.R_reads' HO_6.out).2.2; have q053 : (0 : Int) ≤ (t282 : Int) := of_decide_eq_true (by first | (with_reducible assumption) | assumption); have hcut53 := cut_from (P := Tryd.prog) 31 5 .i64 Tryd.underlying31 hi053 1 hsz53 Ao48 t274.length co48 t282 q053 q53; have hr53 := Kd.C_drop (m := (t282 : Int).toNat) (c := co48) hC53 (by omega) hroom53; obtain ⟨A53, hA53⟩ : ∃ A1, A1 = (if co48 = (t282 : Int).toNat then Ao48 else (Ao48 : Option Addr).map (·.add ((t282 : Int).toNat * 1))) := ⟨_, rfl⟩; obtain ⟨c53, hc53⟩ : ∃ c1, c1 = co48 - (t282 : Int).toNat := ⟨_, rfl⟩; have hy53 : y289.length = t274.length - (t282 : Int).toNat := (by rw [Ny289.out, List.length_drop] <;> omega); rw [show (t274).drop (t282 : Int).toNat = y289 from Ny289.out.symm] at hr53; replace hr53 : Kd.C (Kd.int .u8) _ A53 y289.length y289 := (by rw [hA53]; exact hr53); rw [← hy53, ← hA53, ← hc53] at hcut53; have HR292 := Aside0.mk hr53; have HC292 := Aside0.mk (show y289.length ≤ c53 from by rw [hy53, hc53]; exact Nat.sub_le_sub_right hroom53 _); clear hr53 hC53 hroom53 hi053 hsz53 hc53; have KY53 := Aside0.mk hy53; have KA53 := Aside0.mk hA53; clear hy53 hA53; have KL53 := Aside0.mk (show (t282 : Int).toNat ≤ t274.length from by omega); replace q53 := eq_true q53) | ((with_reducible refine gate_callee (f := 14) rfl ?_); refine goesL_ (some 89) rfl rfl Tryd.func14 (by kernel_rfl) rfl #[.slice A53 y289.length c53] rfl (by (try simp only [List.map_toArray, List.map_cons, List.map_nil]); first | done | rfl | (simp only [List.length_drop, List.length_take]; rfl)) ?_; (with_reducible refine (reply_Read.calls kj17 _ _ y289 t293 t294 _ ?side3 ?side1 ?side2 A45.out).mono ?_); (case side1 => repeat (first | exact (by repeat (first | (with_reducible exact HR292.out) | (with_reducible refine Kd.C_alloc ?_ _) | (with_reducible refine Kd.C_drewN ?_ _) | (with_reducible refine Kd.C_drew ?_) | exact HR292.out)) | (with_reducible refine Kd.C_alloc ?_ _) | (with_reducible refine Kd.C_drewN ?_ _) | (with_reducible refine Kd.C_drew ?_))); (case side2 => exact HC292.out); (case side3 => exact HLD.below (by repeat (first | (with_reducible first | exact HB.out | apply below_alloc | apply pw_below_drewN | apply below_drew1) | exact HB.out))); rintro e w54 ⟨v295, rfl, ho0, hb⟩; refine ⟨_, rfl, ?_⟩; have n0_ := Aside0.mk (Kd.R_below (by (with_reducible repeat (first | apply Kd.R_alloc | apply Kd.R_drewN | apply Kd.R_drew)); exact HO_6.out) hb); have n1_ := Aside0.mk (Kd.R_elder' (by (with_reducible repeat (first | apply Kd.R_alloc | apply Kd.R_drewN | apply Kd.R_drew)); exact HO284.out) (Kd.R_base ho0) hb); have n2_ := Aside0.mk (Kd.R_elder' (by (with_reducible repeat (first | apply Kd.R_alloc | apply Kd.R_drewN | apply Kd.R_drew)); exact HO288.out) (Kd.R_base ho0) hb); have n3_ := Aside0.mk (Kd.R_lower (Kd.R_new' (Kd.R_new' ho0 (Kd.R_lt (by (with_reducible repeat (first | apply Kd.R_alloc | apply Kd.R_drewN | apply Kd.R_drew)); exact HO284.out))) (Kd.R_lt (by (with_reducible repeat (first | apply Kd.R_alloc | apply Kd.R_drewN | apply Kd.R_drew)); exact HO288.out))) (below_size (by repeat (first | (with_reducible first | exact HB.out | apply below_alloc | apply pw_below_drewN | apply below_drew1) | exact HB.out)))); have n4_ := Aside0.mk (Kd.C_below (by repeat (first | (with_reducible exact HR280.out) | (with_reducible refine Kd.C_alloc ?_ _) | (with_reducible refine Kd.C_drewN ?_ _) | (with_reducible refine Kd.C_drew ?_) | exact HR280.out)) hb); have n5_ := Aside0.mk (Kd.C_below (by repeat (first | (with_reducible exact HR292.out) | (with_reducible refine Kd.C_alloc ?_ _) | (with_reducible refine Kd.C_drewN ?_ _) | (with_reducible refine Kd.C_drew ?_) | exact HR292.out)) hb); have n6_ := Aside0.mk (below_step (by repeat (first | (with_reducible first | exact HB.out | apply below_alloc | apply pw_below_drewN | apply below_drew1) | exact HB.out)) hb); clear HO_6; clear HO284; clear HO288; clear HR280; clear HR292; clear HB; have HO_6 := n0_; have HO284 := n1_; have HO288 := n2_; have HO296 := n3_; have HR280 := n4_; have HR292 := n5_; have HB := n6_; clear n0_ n1_ n2_ n3_ n4_ n5_ n6_; (try clear hb); (try clear hb2); (try clear hk); (try clear hi); (try clear ho0); obtain ⟨Ao55, co55, eo55⟩ := Kd.R_slice HO296.out; subst eo55))
                  go_ret
                  exact ⟨by first | rfl | (simp [errW_none, errW_some] <;> rfl) | (simp [*, errW_none, errW_some] <;> rfl), by repeat (first | (with_reducible first | exact HB.out | apply below_alloc | apply pw_below_drewN | apply below_drew1) | exact HB.out)⟩
                 ·rw [if_neg c46] at H
                  have c46b0 : (t294 == (wrap64 ((t274.length : Int) - t282))) = false := beq_eq_false_iff_ne.mpr c46
                  have c46b1 : (t294 != (wrap64 ((t274.length : Int) - t282))) = true := bne_iff_ne.mpr c46
                  obtain rfl := Option.some.inj H
                  obtain ⟨Ao57, co57, eo57⟩ := Kd.R_slice HO_6.out
                  subst eo57
                  have q56 : (a1 : Int) ≤ ((t274.length : Int) : Int) := of_decide_eq_true (by first | (with_reducible assumption) | assumption)
                  obtain ⟨i056, hi056, _, hsz56, _⟩ := info_parts info5
                  have hroom56 : t274.length ≤ co57 := (Kd.R_reads' HO_6.out).2.1
                  have hC56 : Kd.C (Kd.int .u8) _ Ao57 t274.length t274 := (Kd.R_reads' HO_6.out).2.2
                  have hcut56 := cut_to (P := Tryd.prog) 31 5 .i64 Tryd.underlying31 hi056 Ao57 t274.length co57 a1 (of_decide_eq_true (by first | (with_reducible assumption) | assumption)) q56 hroom56
                  have hr56 := Kd.C_take (m := (a1 : Int).toNat) hC56 (by omega)
                  have hy56 : y277.length = (a1 : Int).toNat := (by rw [Ny277.out, List.length_take]; omega)
                  rw [← Ny277.out] at hr56
                  rw [← hy56] at hcut56
                  have HR280 := Aside0.mk hr56
                  have HC280 := Aside0.mk (show y277.length ≤ co57 from by omega)
                  clear hr56 hC56 hroom56 hi056 hsz56
                  have KY56 := Aside0.mk hy56
                  clear hy56
                  have KL56 := Aside0.mk (show (a1 : Int).toNat ≤ t274.length from by omega)
                  replace q56 := eq_true q56
                  go_wp2_with (first | ((with_reducible refine gate_callee (f := 14) rfl ?_); refine goesL_ (some 54) rfl rfl Tryd.func14 (by kernel_rfl) rfl #[.slice Ao57 y277.length co57] rfl (by (try simp only [List.map_toArray, List.map_cons, List.map_nil]); first | done | rfl | (simp only [List.length_drop, List.length_take]; rfl)) ?_; (with_reducible refine (reply_Read.calls kj17 _ _ y277 t281 t282 _ ?side3 ?side1 ?side2 A27.out).mono ?_); (case side1 => repeat (first | exact (by repeat (first | (with_reducible exact HR280.out) | (with_reducible refine Kd.C_alloc ?_ _) | (with_reducible refine Kd.C_drewN ?_ _) | (with_reducible refine Kd.C_drew ?_) | exact HR280.out)) | (with_reducible refine Kd.C_alloc ?_ _) | (with_reducible refine Kd.C_drewN ?_ _) | (with_reducible refine Kd.C_drew ?_))); (case side2 => exact HC280.out); (case side3 => exact HLD.below (by repeat (first | (with_reducible first | exact HB.out | apply below_alloc | apply pw_below_drewN | apply below_drew1) | exact HB.out))); rintro e w58 ⟨v283, rfl, ho0, hb⟩; refine ⟨_, rfl, ?_⟩; have n0_ := Aside0.mk (Kd.R_below (by (with_reducible repeat (first | apply Kd.R_alloc | apply Kd.R_drewN | apply Kd.R_drew)); exact HO_6.out) hb); have n1_ := Aside0.mk (Kd.R_lower ho0 (below_size (by repeat (first | (with_reducible first | exact HB.out | apply below_alloc | apply pw_below_drewN | apply below_drew1) | exact HB.out)))); have n2_ := Aside0.mk (Kd.C_below (by repeat (first | (with_reducible exact HR280.out) | (with_reducible refine Kd.C_alloc ?_ _) | (with_reducible refine Kd.C_drewN ?_ _) | (with_reducible refine Kd.C_drew ?_) | exact HR280.out)) hb); have n3_ := Aside0.mk (below_step (by repeat (first | (with_reducible first | exact HB.out | apply below_alloc | apply pw_below_drewN | apply below_drew1) | exact HB.out)) hb); clear HO_6; clear HR280; clear HB; have HO_6 := n0_; have HO284 := n1_; have HR280 := n2_; have HB := n3_; clear n0_ n1_ n2_ n3_; (try clear hb); (try clear hb2); (try clear hk); (try clear hi); (try clear ho0)) | ((with_reducible refine gate_callee (f := 14) rfl ?_); refine goesL_ (some 59) rfl rfl Tryd.func14 (by kernel_rfl) rfl #[.slice Ao57 t274.length co57] rfl (by (try simp only [List.map_toArray, List.map_cons, List.map_nil]); first | done | rfl | (simp only [List.length_drop, List.length_take]; rfl)) ?_; (with_reducible refine (reply_Read.calls kj17 _ _ t274 t285 t286 _ ?side3 ?side1 ?side2 A28.out).mono ?_); (case side1 => repeat (first | exact (Kd.R_reads' HO_6.out).2.2 | (with_reducible refine Kd.C_alloc ?_ _) | (with_reducible refine Kd.C_drewN ?_ _) | (with_reducible refine Kd.C_drew ?_))); (case side2 => exact (Kd.R_reads' HO_6.out).2.1); (case side3 => exact HLD.below (by repeat (first | (with_reducible first | exact HB.out | apply below_alloc | apply pw_below_drewN | apply below_drew1) | exact HB.out))); rintro e w59 ⟨v287, rfl, ho0, hb⟩; refine ⟨_, rfl, ?_⟩; have n0_ := Aside0.mk (Kd.R_below (by (with_reducible repeat (first | apply Kd.R_alloc | apply Kd.R_drewN | apply Kd.R_drew)); exact HO_6.out) hb); have n1_ := Aside0.mk (Kd.R_elder' (by (with_reducible repeat (first | apply Kd.R_alloc | apply Kd.R_drewN | apply Kd.R_drew)); exact HO284.out) (Kd.R_base ho0) hb); have n2_ := Aside0.mk (Kd.R_lower (Kd.R_new' ho0 (Kd.R_lt (by (with_reducible repeat (first | apply Kd.R_alloc | apply Kd.R_drewN | apply Kd.R_drew)); exact HO284.out))) (below_size (by repeat (first | (with_reducible first | exact HB.out | apply below_alloc | apply pw_below_drewN | apply below_drew1) | exact HB.out)))); have n3_ := Aside0.mk (Kd.C_below (by repeat (first | (with_reducible exact HR280.out) | (with_reducible refine Kd.C_alloc ?_ _) | (with_reducible refine Kd.C_drewN ?_ _) | (with_reducible refine Kd.C_drew ?_) | exact HR280.out)) hb); have n4_ := Aside0.mk (below_step (by repeat (first | (with_reducible first | exact HB.out | apply below_alloc | apply pw_below_drewN | apply below_drew1) | exact HB.out)) hb); clear HO_6; clear HO284; clear HR280; clear HB; have HO_6 := n0_; have HO284 := n1_; have HO288 := n2_; have HR280 := n3_; have HB := n4_; clear n0_ n1_ n2_ n3_ n4_; (try clear hb); (try clear hb2); (try clear hk); (try clear hi); (try clear ho0); obtain ⟨Ao60, co60, eo60⟩ := Kd.R_slice HO288.out; subst eo60; obtain ⟨Ao61, co61, eo61⟩ := Kd.R_slice HO284.out; subst eo61; have q62 : (t282 : Int) ≤ ((t274.length : Int) : Int) := of_decide_eq_true (by first | (with_reducible assumption) | assumption); obtain ⟨i062, hi062, _, hsz62, _⟩ := info_parts info5; have hroom62 : t274.length ≤ co57 := (Kd.R_reads' HO_6.out).2.1; have hC62 : Kd.C (Kd.int .u8) _ Ao57 t274.length t274 := (Kd.R_reads' HO_6.out).2.2; have q062 : (0 : Int) ≤ (t282 : Int) := of_decide_eq_true (by first | (with_reducible assumption) | assumption); have hcut62 := cut_from (P := Tryd.prog) 31 5 .i64 Tryd.underlying31 hi062 1 hsz62 Ao57 t274.length co57 t282 q062 q62; have hr62 := Kd.C_drop (m := (t282 : Int).toNat) (c := co57) hC62 (by omega) hroom62; obtain ⟨A62, hA62⟩ : ∃ A1, A1 = (if co57 = (t282 : Int).toNat then Ao57 else (Ao57 : Option Addr).map (·.add ((t282 : Int).toNat * 1))) := ⟨_, rfl⟩; obtain ⟨c62, hc62⟩ : ∃ c1, c1 = co57 - (t282 : Int).toNat := ⟨_, rfl⟩; have hy62 : y289.length = t274.length - (t282 : Int).toNat := (by rw [Ny289.out, List.length_drop] <;> omega); rw [show (t274).drop (t282 : Int).toNat = y289 from Ny289.out.symm] at hr62; replace hr62 : Kd.C (Kd.int .u8) _ A62 y289.length y289 := (by rw [hA62]; exact hr62); rw [← hy62, ← hA62, ← hc62] at hcut62; have HR292 := Aside0.mk hr62; have HC292 := Aside0.mk (show y289.length ≤ c62 from by rw [hy62, hc62]; exact Nat.sub_le_sub_right hroom62 _); clear hr62 hC62 hroom62 hi062 hsz62 hc62; have KY62 := Aside0.mk hy62; have KA62 := Aside0.mk hA62; clear hy62 hA62; have KL62 := Aside0.mk (show (t282 : Int).toNat ≤ t274.length from by omega); replace q62 := eq_true q62) | ((with_reducible refine gate_callee (f := 14) rfl ?_); refine goesL_ (some 89) rfl rfl Tryd.func14 (by kernel_rfl) rfl #[.slice A62 y289.length c62] rfl (by (try simp only [List.map_toArray, List.map_cons, List.map_nil]); first | done | rfl | (simp only [List.length_drop, List.length_take]; rfl)) ?_; (with_reducible refine (reply_Read.calls kj17 _ _ y289 t293 t294 _ ?side3 ?side1 ?side2 A45.out).mono ?_); (case side1 => repeat (first | exact (by repeat (first | (with_reducible exact HR292.out) | (with_reducible refine Kd.C_alloc ?_ _) | (with_reducible refine Kd.C_drewN ?_ _) | (with_reducible refine Kd.C_drew ?_) | exact HR292.out)) | (with_reducible refine Kd.C_alloc ?_ _) | (with_reducible refine Kd.C_drewN ?_ _) | (with_reducible refine Kd.C_drew ?_))); (case side2 => exact HC292.out); (case side3 => exact HLD.below (by repeat (first | (with_reducible first | exact HB.out | apply below_alloc | apply pw_below_drewN | apply below_drew1) | exact HB.out))); rintro e w63 ⟨v295, rfl, ho0, hb⟩; refine ⟨_, rfl, ?_⟩; have n0_ := Aside0.mk (Kd.R_below (by (with_reducible repeat (first | apply Kd.R_alloc | apply Kd.R_drewN | apply Kd.R_drew)); exact HO_6.out) hb); have n1_ := Aside0.mk (Kd.R_elder' (by (with_reducible repeat (first | apply Kd.R_alloc | apply Kd.R_drewN | apply Kd.R_drew)); exact HO284.out) (Kd.R_base ho0) hb); have n2_ := Aside0.mk (Kd.R_elder' (by (with_reducible repeat (first | apply Kd.R_alloc | apply Kd.R_drewN | apply Kd.R_drew)); exact HO288.out) (Kd.R_base ho0) hb); have n3_ := Aside0.mk (Kd.R_lower (Kd.R_new' (Kd.R_new' ho0 (Kd.R_lt (by (with_reducible repeat (first | apply Kd.R_alloc | apply Kd.R_drewN | apply Kd.R_drew)); exact HO284.out))) (Kd.R_lt (by (with_reducible repeat (first | apply Kd.R_alloc | apply Kd.R_drewN | apply Kd.R_drew)); exact HO288.out))) (below_size (by repeat (first | (with_reducible first | exact HB.out | apply below_alloc | apply pw_below_drewN | apply below_drew1) | exact HB.out)))); have n4_ := Aside0.mk (Kd.C_below (by repeat (first | (with_reducible exact HR280.out) | (with_reducible refine Kd.C_alloc ?_ _) | (with_reducible refine Kd.C_drewN ?_ _) | (with_reducible refine Kd.C_drew ?_) | exact HR280.out)) hb); have n5_ := Aside0.mk (Kd.C_below (by repeat (first | (with_reducible exact HR292.out) | (with_reducible refine Kd.C_alloc ?_ _) | (with_reducible refine Kd.C_drewN ?_ _) | (with_reducible refine Kd.C_drew ?_) | exact HR292.out)) hb); have n6_ := Aside0.mk (below_step (by repeat (first | (with_reducible first | exact HB.out | apply below_alloc | apply pw_below_drewN | apply below_drew1) | exact HB.out)) hb); clear HO_6; clear HO284; clear HO288; clear HR280; clear HR292; clear HB; have HO_6 := n0_; have HO284 := n1_; have HO288 := n2_; have HO296 := n3_; have HR280 := n4_; have HR292 := n5_; have HB := n6_; clear n0_ n1_ n2_ n3_ n4_ n5_ n6_; (try clear hb); (try clear hb2); (try clear hk); (try clear hi); (try clear ho0)))
                  go_ret
                  exact ⟨by first | rfl | (simp [errW_none, errW_some] <;> rfl) | (simp [*, errW_none, errW_some] <;> rfl), by repeat (first | (with_reducible first | exact HB.out | apply below_alloc | apply pw_below_drewN | apply below_drew1) | exact HB.out)⟩
                ·rw [if_neg c44] at H
                 exact absurd H (by simp)
               ·rw [if_neg c43] at H
                exact absurd H (by simp)
             ·rw [if_neg c35] at H
              have c35b0 : ((t285.length : Int) == (l0.length : Int)) = false := beq_eq_false_iff_ne.mpr c35
              have c35b1 : ((t285.length : Int) != (l0.length : Int)) = true := bne_iff_ne.mpr c35
              have c35b2 : (t285.length == l0.length) = false := by first | simpa using c35 | (simp at c35 ⊢; omega)
              obtain rfl := Option.some.inj H
              obtain ⟨Ao65, co65, eo65⟩ := Kd.R_slice HO_6.out
              subst eo65
              have q64 : (a1 : Int) ≤ ((t274.length : Int) : Int) := of_decide_eq_true (by first | (with_reducible assumption) | assumption)
              obtain ⟨i064, hi064, _, hsz64, _⟩ := info_parts info5
              have hroom64 : t274.length ≤ co65 := (Kd.R_reads' HO_6.out).2.1
              have hC64 : Kd.C (Kd.int .u8) _ Ao65 t274.length t274 := (Kd.R_reads' HO_6.out).2.2
              have hcut64 := cut_to (P := Tryd.prog) 31 5 .i64 Tryd.underlying31 hi064 Ao65 t274.length co65 a1 (of_decide_eq_true (by first | (with_reducible assumption) | assumption)) q64 hroom64
              have hr64 := Kd.C_take (m := (a1 : Int).toNat) hC64 (by omega)
              have hy64 : y277.length = (a1 : Int).toNat := (by rw [Ny277.out, List.length_take]; omega)
              rw [← Ny277.out] at hr64
              rw [← hy64] at hcut64
              have HR280 := Aside0.mk hr64
              have HC280 := Aside0.mk (show y277.length ≤ co65 from by omega)
              clear hr64 hC64 hroom64 hi064 hsz64
              have KY64 := Aside0.mk hy64
              clear hy64
              have KL64 := Aside0.mk (show (a1 : Int).toNat ≤ t274.length from by omega)
              replace q64 := eq_true q64
              go_wp2_with (first | ((with_reducible refine gate_callee (f := 14) rfl ?_); refine goesL_ (some 54) rfl rfl Tryd.func14 (by kernel_rfl) rfl #[.slice Ao65 y277.length co65] rfl (by (try simp only [List.map_toArray, List.map_cons, List.map_nil]); first | done | rfl | (simp only [List.length_drop, List.length_take]; rfl)) ?_; (with_reducible refine (reply_Read.calls kj17 _ _ y277 t281 t282 _ ?side3 ?side1 ?side2 A27.out).mono ?_); (case side1 => repeat (first | exact (by repeat (first | (with_reducible exact HR280.out) | (with_reducible refine Kd.C_alloc ?_ _) | (with_reducible refine Kd.C_drewN ?_ _) | (with_reducible refine Kd.C_drew ?_) | exact HR280.out)) | (with_reducible refine Kd.C_alloc ?_ _) | (with_reducible refine Kd.C_drewN ?_ _) | (with_reducible refine Kd.C_drew ?_))); (case side2 => exact HC280.out); (case side3 => exact HLD.below (by repeat (first | (with_reducible first | exact HB.out | apply below_alloc | apply pw_below_drewN | apply below_drew1) | exact HB.out))); rintro e w66 ⟨v283, rfl, ho0, hb⟩; refine ⟨_, rfl, ?_⟩; have n0_ := Aside0.mk (Kd.R_below (by (with_reducible repeat (first | apply Kd.R_alloc | apply Kd.R_drewN | apply Kd.R_drew)); exact HO_6.out) hb); have n1_ := Aside0.mk (Kd.R_lower ho0 (below_size (by repeat (first | (with_reducible first | exact HB.out | apply below_alloc | apply pw_below_drewN | apply below_drew1) | exact HB.out)))); have n2_ := Aside0.mk (Kd.C_below (by repeat (first | (with_reducible exact HR280.out) | (with_reducible refine Kd.C_alloc ?_ _) | (with_reducible refine Kd.C_drewN ?_ _) | (with_reducible refine Kd.C_drew ?_) | exact HR280.out)) hb); have n3_ := Aside0.mk (below_step (by repeat (first | (with_reducible first | exact HB.out | apply below_alloc | apply pw_below_drewN | apply below_drew1) | exact HB.out)) hb); clear HO_6; clear HR280; clear HB; have HO_6 := n0_; have HO284 := n1_; have HR280 := n2_; have HB := n3_; clear n0_ n1_ n2_ n3_; (try clear hb); (try clear hb2); (try clear hk); (try clear hi); (try clear ho0)) | ((with_reducible refine gate_callee (f := 14) rfl ?_); refine goesL_ (some 59) rfl rfl Tryd.func14 (by kernel_rfl) rfl #[.slice Ao65 t274.length co65] rfl (by (try simp only [List.map_toArray, List.map_cons, List.map_nil]); first | done | rfl | (simp only [List.length_drop, List.length_take]; rfl)) ?_; (with_reducible refine (reply_Read.calls kj17 _ _ t274 t285 t286 _ ?side3 ?side1 ?side2 A28.out).mono ?_); (case side1 => repeat (first | exact (Kd.R_reads' HO_6.out).2.2 | (with_reducible refine Kd.C_alloc ?_ _) | (with_reducible refine Kd.C_drewN ?_ _) | (with_reducible refine Kd.C_drew ?_))); (case side2 => exact (Kd.R_reads' HO_6.out).2.1); (case side3 => exact HLD.below (by repeat (first | (with_reducible first | exact HB.out | apply below_alloc | apply pw_below_drewN | apply below_drew1) | exact HB.out))); rintro e w67 ⟨v287, rfl, ho0, hb⟩; refine ⟨_, rfl, ?_⟩; have n0_ := Aside0.mk (Kd.R_below (by (with_reducible repeat (first | apply Kd.R_alloc | apply Kd.R_drewN | apply Kd.R_drew)); exact HO_6.out) hb); have n1_ := Aside0.mk (Kd.R_elder' (by (with_reducible repeat (first | apply Kd.R_alloc | apply Kd.R_drewN | apply Kd.R_drew)); exact HO284.out) (Kd.R_base ho0) hb); have n2_ := Aside0.mk (Kd.R_lower (Kd.R_new' ho0 (Kd.R_lt (by (with_reducible repeat (first | apply Kd.R_alloc | apply Kd.R_drewN | apply Kd.R_drew)); exact HO284.out))) (below_size (by repeat (first | (with_reducible first | exact HB.out | apply below_alloc | apply pw_below_drewN | apply below_drew1) | exact HB.out)))); have n3_ := Aside0.mk (Kd.C_below (by repeat (first | (with_reducible exact HR280.out) | (with_reducible refine Kd.C_alloc ?_ _) | (with_reducible refine Kd.C_drewN ?_ _) | (with_reducible refine Kd.C_drew ?_) | exact HR280.out)) hb); have n4_ := Aside0.mk (below_step (by repeat (first | (with_reducible first | exact HB.out | apply below_alloc | apply pw_below_drewN | apply below_drew1) | exact HB.out)) hb); clear HO_6; clear HO284; clear HR280; clear HB; have HO_6 := n0_; have HO284 := n1_; have HO288 := n2_; have HR280 := n3_; have HB := n4_; clear n0_ n1_ n2_ n3_ n4_; (try clear hb); (try clear hb2); (try clear hk); (try clear hi); (try clear ho0); obtain ⟨Ao68, co68, eo68⟩ := Kd.R_slice HO288.out; subst eo68))
              go_ret
              exact ⟨by first | rfl | (simp [errW_none, errW_some] <;> rfl) | (simp [*, errW_none, errW_some] <;> rfl), by repeat (first | (with_reducible first | exact HB.out | apply below_alloc | apply pw_below_drewN | apply below_drew1) | exact HB.out)⟩
            ·rw [if_neg c34] at H
             have c34b0 : (t286 == (t274.length : Int)) = false := beq_eq_false_iff_ne.mpr c34
             have c34b1 : (t286 != (t274.length : Int)) = true := bne_iff_ne.mpr c34
             obtain rfl := Option.some.inj H
             obtain ⟨Ao70, co70, eo70⟩ := Kd.R_slice HO_6.out
             subst eo70
             have q69 : (a1 : Int) ≤ ((t274.length : Int) : Int) := of_decide_eq_true (by first | (with_reducible assumption) | assumption)
             obtain ⟨i069, hi069, _, hsz69, _⟩ := info_parts info5
             have hroom69 : t274.length ≤ co70 := (Kd.R_reads' HO_6.out).2.1
             have hC69 : Kd.C (Kd.int .u8) _ Ao70 t274.length t274 := (Kd.R_reads' HO_6.out).2.2
             have hcut69 := cut_to (P := Tryd.prog) 31 5 .i64 Tryd.underlying31 hi069 Ao70 t274.length co70 a1 (of_decide_eq_true (by first | (with_reducible assumption) | assumption)) q69 hroom69
             have hr69 := Kd.C_take (m := (a1 : Int).toNat) hC69 (by omega)
             have hy69 : y277.length = (a1 : Int).toNat := (by rw [Ny277.out, List.length_take]; omega)
             rw [← Ny277.out] at hr69
             rw [← hy69] at hcut69
             have HR280 := Aside0.mk hr69
             have HC280 := Aside0.mk (show y277.length ≤ co70 from by omega)
             clear hr69 hC69 hroom69 hi069 hsz69
             have KY69 := Aside0.mk hy69
             clear hy69
             have KL69 := Aside0.mk (show (a1 : Int).toNat ≤ t274.length from by omega)
             replace q69 := eq_true q69
             go_wp2_with (first | ((with_reducible refine gate_callee (f := 14) rfl ?_); refine goesL_ (some 54) rfl rfl Tryd.func14 (by kernel_rfl) rfl #[.slice Ao70 y277.length co70] rfl (by (try simp only [List.map_toArray, List.map_cons, List.map_nil]); first | done | rfl | (simp only [List.length_drop, List.length_take]; rfl)) ?_; (with_reducible refine (reply_Read.calls kj17 _ _ y277 t281 t282 _ ?side3 ?side1 ?side2 A27.out).mono ?_); (case side1 => repeat (first | exact (by repeat (first | (with_reducible exact HR280.out) | (with_reducible refine Kd.C_alloc ?_ _) | (with_reducible refine Kd.C_drewN ?_ _) | (with_reducible refine Kd.C_drew ?_) | exact HR280.out)) | (with_reducible refine Kd.C_alloc ?_ _) | (with_reducible refine Kd.C_drewN ?_ _) | (with_reducible refine Kd.C_drew ?_))); (case side2 => exact HC280.out); (case side3 => exact HLD.below (by repeat (first | (with_reducible first | exact HB.out | apply below_alloc | apply pw_below_drewN | apply below_drew1) | exact HB.out))); rintro e w71 ⟨v283, rfl, ho0, hb⟩; refine ⟨_, rfl, ?_⟩; have n0_ := Aside0.mk (Kd.R_below (by (with_reducible repeat (first | apply Kd.R_alloc | apply Kd.R_drewN | apply Kd.R_drew)); exact HO_6.out) hb); have n1_ := Aside0.mk (Kd.R_lower ho0 (below_size (by repeat (first | (with_reducible first | exact HB.out | apply below_alloc | apply pw_below_drewN | apply below_drew1) | exact HB.out)))); have n2_ := Aside0.mk (Kd.C_below (by repeat (first | (with_reducible exact HR280.out) | (with_reducible refine Kd.C_alloc ?_ _) | (with_reducible refine Kd.C_drewN ?_ _) | (with_reducible refine Kd.C_drew ?_) | exact HR280.out)) hb); have n3_ := Aside0.mk (below_step (by repeat (first | (with_reducible first | exact HB.out | apply below_alloc | apply pw_below_drewN | apply below_drew1) | exact HB.out)) hb); clear HO_6; clear HR280; clear HB; have HO_6 := n0_; have HO284 := n1_; have HR280 := n2_; have HB := n3_; clear n0_ n1_ n2_ n3_; (try clear hb); (try clear hb2); (try clear hk); (try clear hi); (try clear ho0)) | ((with_reducible refine gate_callee (f := 14) rfl ?_); refine goesL_ (some 59) rfl rfl Tryd.func14 (by kernel_rfl) rfl #[.slice Ao70 t274.length co70] rfl (by (try simp only [List.map_toArray, List.map_cons, List.map_nil]); first | done | rfl | (simp only [List.length_drop, List.length_take]; rfl)) ?_; (with_reducible refine (reply_Read.calls kj17 _ _ t274 t285 t286 _ ?side3 ?side1 ?side2 A28.out).mono ?_); (case side1 => repeat (first | exact (Kd.R_reads' HO_6.out).2.2 | (with_reducible refine Kd.C_alloc ?_ _) | (with_reducible refine Kd.C_drewN ?_ _) | (with_reducible refine Kd.C_drew ?_))); (case side2 => exact (Kd.R_reads' HO_6.out).2.1); (case side3 => exact HLD.below (by repeat (first | (with_reducible first | exact HB.out | apply below_alloc | apply pw_below_drewN | apply below_drew1) | exact HB.out))); rintro e w72 ⟨v287, rfl, ho0, hb⟩; refine ⟨_, rfl, ?_⟩; have n0_ := Aside0.mk (Kd.R_below (by (with_reducible repeat (first | apply Kd.R_alloc | apply Kd.R_drewN | apply Kd.R_drew)); exact HO_6.out) hb); have n1_ := Aside0.mk (Kd.R_elder' (by (with_reducible repeat (first | apply Kd.R_alloc | apply Kd.R_drewN | apply Kd.R_drew)); exact HO284.out) (Kd.R_base ho0) hb); have n2_ := Aside0.mk (Kd.R_lower (Kd.R_new' ho0 (Kd.R_lt (by (with_reducible repeat (first | apply Kd.R_alloc | apply Kd.R_drewN | apply Kd.R_drew)); exact HO284.out))) (below_size (by repeat (first | (with_reducible first | exact HB.out | apply below_alloc | apply pw_below_drewN | apply below_drew1) | exact HB.out)))); have n3_ := Aside0.mk (Kd.C_below (by repeat (first | (with_reducible exact HR280.out) | (with_reducible refine Kd.C_alloc ?_ _) | (with_reducible refine Kd.C_drewN ?_ _) | (with_reducible refine Kd.C_drew ?_) | exact HR280.out)) hb); have n4_ := Aside0.mk (below_step (by repeat (first | (with_reducible first | exact HB.out | apply below_alloc | apply pw_below_drewN | apply below_drew1) | exact HB.out)) hb); clear HO_6; clear HO284; clear HR280; clear HB; have HO_6 := n0_; have HO284 := n1_; have HO288 := n2_; have HR280 := n3_; have HB := n4_; clear n0_ n1_ n2_ n3_ n4_; (try clear hb); (try clear hb2); (try clear hk); (try clear hi); (try clear ho0)))
             go_ret
             exact ⟨by first | rfl | (simp [errW_none, errW_some] <;> rfl) | (simp [*, errW_none, errW_some] <;> rfl), by repeat (first | (with_reducible first | exact HB.out | apply below_alloc | apply pw_below_drewN | apply below_drew1) | exact HB.out)⟩
          ·rw [if_neg c26] at H
           exact absurd H (by simp)
         ·rw [if_neg c25] at H
          exact absurd H (by simp)
 ·replace c4 := Bool.eq_false_iff.mpr c4
  subst c4
  have H1 : (some false) = some r := by rw [if_neg (show ¬ (false = true) by decide)] at H; exact H
  clear H
  have H := H1
  clear H1
  obtain rfl := Option.some.inj H
  go_enter Tryd.func5, Tryd.ntmps5
  go_wp2_with (first | ((with_reducible refine gate_callee (f := 7) rfl ?_); refine goesL_ (some 13) rfl rfl Tryd.func7 (by kernel_rfl) rfl #[] rfl (by (try simp only [List.map_toArray, List.map_cons, List.map_nil]); first | done | rfl | (simp only [List.length_drop, List.length_take]; rfl)) ?_; (with_reducible refine (cellaretlaw19_awake.calls k  false _ ?side1 A3.out).mono ?_); (case side1 => exact HLD.below (by repeat (first | (with_reducible first | exact HB.out | apply below_alloc | apply pw_below_drewN | apply below_drew1) | exact HB.out))); rintro e w73 ⟨rfl, hb⟩; refine ⟨_, rfl, ?_⟩; have n0_ := Aside0.mk (below_step (by repeat (first | (with_reducible first | exact HB.out | apply below_alloc | apply pw_below_drewN | apply below_drew1) | exact HB.out)) hb); clear HB; have HB := n0_; clear n0_; (try clear hb); (try clear hb2); (try clear hk); (try clear hi)))
  go_ret
  exact ⟨by first | rfl | (simp [errW_none, errW_some] <;> rfl) | (simp [*, errW_none, errW_some] <;> rfl), by repeat (first | (with_reducible first | exact HB.out | apply below_alloc | apply pw_below_drewN | apply below_drew1) | exact HB.out)⟩

end Go.Proofs.YtgopcfkofjipjaaDoor.H
-- thinned
