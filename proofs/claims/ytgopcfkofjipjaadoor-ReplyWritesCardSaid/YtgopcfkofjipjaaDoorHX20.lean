/-
  Printed by this session's hybrid.py (it runs the kit's print over contracts of our own for library functions): plain functions with the answers of Go functions, and that the calls come to them. Their conditions stand in each head.
-/
import Derived.Test.YtgopcfkofjipjaaDoorHX0
import Derived.Test.YtgopcfkofjipjaaDoorHX5
import Derived.Test.YtgopcfkofjipjaaDoorHX6
import Derived.Test.YtgopcfkofjipjaaDoorHX16
import Derived.Test.YtgopcfkofjipjaaDoorHX17
import Derived.Test.YtgopcfkofjipjaaDoorHX19
namespace Go.Proofs.YtgopcfkofjipjaaDoor.H
open Go.RowKit Go.Proofs.YtgopcfkofjipjaaDoorW.PrintWords Go.Proofs.YtgopcfkofjipjaaDoorW.PrintLast Go.Proofs.YtgopcfkofjipjaaDoorW.PrintMore
attribute [local go_sem] max2_int min2_int max_two min_two max_three min_three max_four min_four   -- for this text's walks alone
set_option linter.unusedVariables false
set_option linter.unusedSimpArgs false

/-! ### cellaretlaw19_ReplyWrites: function 3 -/
mutual
def cellaretlaw19_ReplyWrites.l0 : Nat → List (S29) → ByteArray → List (S34) → Int → Option (Bool)
  | 0, _, _, _, _ => none
  | k + 1, x0, x3, x4, x5 => if x5 < (x0.length : Int) then (if 0 ≤ x5 then (if (((rd_T29 x0 x5).f3).size : Int) > 2000 then (cellaretlaw19_ReplyWrites.j1 k x0 x3 x4 x5 true) else (if (((rd_T29 x0 x5).f2).size : Int) > 1000 then (cellaretlaw19_ReplyWrites.j1 k x0 x3 x4 x5 true) else (cellaretlaw19_ReplyWrites.j1 k x0 x3 x4 x5 (decide ((((rd_T29 x0 x5).f1).size : Int) > 2000))))) else (none)) else ((reply_All.f k x4).bind fun t230 => (some ((strOfNums t230).toList == x3.toList)))
def cellaretlaw19_ReplyWrites.j1 : Nat → List (S29) → ByteArray → List (S34) → Int → Bool → Option (Bool)
  | 0, _, _, _, _, _ => none
  | k + 1, x0, x3, x4, x5, x44 => if x44 = true then (some true) else (if 0 ≤ x5 then (if x5 < (x0.length : Int) then ((cellaretref18_Bytes.f k ((rd_T29 x0 x5).f0) ((rd_T29 x0 x5).f1) ((rd_T29 x0 x5).f2) ((rd_T29 x0 x5).f3) ((rd_T29 x0 x5).f4) ((rd_T29 x0 x5).f5) ((rd_T29 x0 x5).f6)).bind fun t237 => (if x5 < (x4.length : Int) then ((reply_Bytes.f ((rd_T34 x4 x5).f0) ((rd_T34 x4 x5).f1) ((rd_T34 x4 x5).f2) ((rd_T34 x4 x5).f3) ((rd_T34 x4 x5).f4) ((rd_T34 x4 x5).f5) ((rd_T34 x4 x5).f6)).bind fun t239 => (if (strOfNums t239).toList = t237.toList then (if x3.size + t237.size ≤ 9223372036854775807 then (cellaretlaw19_ReplyWrites.l0 k x0 (x3 ++ t237) x4 (wrap64 (x5 + 1))) else (none)) else (some false))) else (none))) else (none)) else (none))
end
def cellaretlaw19_ReplyWrites.f (k : Nat) (l0 : List (S29)) : Option (Bool) := (cellaretlaw19_awake.f k).bind fun t226 => (if t226 = true then (if (l0.length : Int) > 40 then (some true) else ((cellaretref17_AnsBack.f k l0).bind fun t227 => (cellaretlaw19_ReplyWrites.l0 k l0 (⟨#[]⟩ : ByteArray) t227 0))) else (some false))
theorem cellaretlaw19_ReplyWrites.mono_l : ∀ k, (∀ y0 y1 y2 y3, LeO (cellaretlaw19_ReplyWrites.l0 k y0 y1 y2 y3) (cellaretlaw19_ReplyWrites.l0 (k + 1) y0 y1 y2 y3)) ∧ (∀ y0 y1 y2 y3 y4, LeO (cellaretlaw19_ReplyWrites.j1 k y0 y1 y2 y3 y4) (cellaretlaw19_ReplyWrites.j1 (k + 1) y0 y1 y2 y3 y4))
  | 0 => ⟨fun _ _ _ _ r h => by simp [cellaretlaw19_ReplyWrites.l0] at h, fun _ _ _ _ _ r h => by simp [cellaretlaw19_ReplyWrites.j1] at h⟩
  | k + 1 => by
    obtain ⟨ih0, ih1⟩ := cellaretlaw19_ReplyWrites.mono_l k
    refine ⟨?_, ?_⟩
    · intro y0 y1 y2 y3
      unfold cellaretlaw19_ReplyWrites.l0
      repeat' first
      | (with_reducible exact ih0 _ _ _ _)
      | (with_reducible exact ih1 _ _ _ _ _)
      | (with_reducible exact cellaretlaw19_awake.mono _)
      | (with_reducible exact cellaretref17_AnsBack.mono _ _)
      | (with_reducible exact cellaretref18_Bytes.mono _ _ _ _ _ _ _ _)
      | (with_reducible exact reply_All.mono _ _)
      | (with_reducible exact LeO.refl _)
      | (with_reducible exact LeO.none _)
      | (with_reducible refine LeO.ite ?_ ?_)
      | (with_reducible refine LeO.bind ?_ (fun _ => ?_))
      | exact ih0 _ _ _ _
      | exact ih1 _ _ _ _ _
      | exact cellaretlaw19_awake.mono _
      | exact cellaretref17_AnsBack.mono _ _
      | exact cellaretref18_Bytes.mono _ _ _ _ _ _ _ _
      | exact reply_All.mono _ _
      | exact LeO.none _
      | refine LeO.ite ?_ ?_
      | refine LeO.bind ?_ (fun _ => ?_)
    · intro y0 y1 y2 y3 y4
      unfold cellaretlaw19_ReplyWrites.j1
      repeat' first
      | (with_reducible exact ih0 _ _ _ _)
      | (with_reducible exact ih1 _ _ _ _ _)
      | (with_reducible exact cellaretlaw19_awake.mono _)
      | (with_reducible exact cellaretref17_AnsBack.mono _ _)
      | (with_reducible exact cellaretref18_Bytes.mono _ _ _ _ _ _ _ _)
      | (with_reducible exact reply_All.mono _ _)
      | (with_reducible exact LeO.refl _)
      | (with_reducible exact LeO.none _)
      | (with_reducible refine LeO.ite ?_ ?_)
      | (with_reducible refine LeO.bind ?_ (fun _ => ?_))
      | exact ih0 _ _ _ _
      | exact ih1 _ _ _ _ _
      | exact cellaretlaw19_awake.mono _
      | exact cellaretref17_AnsBack.mono _ _
      | exact cellaretref18_Bytes.mono _ _ _ _ _ _ _ _
      | exact reply_All.mono _ _
      | exact LeO.none _
      | refine LeO.ite ?_ ?_
      | refine LeO.bind ?_ (fun _ => ?_)
theorem cellaretlaw19_ReplyWrites.mono : ∀ a0 k, LeO (cellaretlaw19_ReplyWrites.f k a0) (cellaretlaw19_ReplyWrites.f (k + 1) a0) := by
  intro a0 k
  obtain ⟨ih0, ih1⟩ := cellaretlaw19_ReplyWrites.mono_l k
  unfold cellaretlaw19_ReplyWrites.f
  repeat' first
      | (with_reducible exact ih0 _ _ _ _)
      | (with_reducible exact ih1 _ _ _ _ _)
      | (with_reducible exact cellaretlaw19_awake.mono _)
      | (with_reducible exact cellaretref17_AnsBack.mono _ _)
      | (with_reducible exact cellaretref18_Bytes.mono _ _ _ _ _ _ _ _)
      | (with_reducible exact reply_All.mono _ _)
      | (with_reducible exact LeO.refl _)
      | (with_reducible exact LeO.none _)
      | (with_reducible refine LeO.ite ?_ ?_)
      | (with_reducible refine LeO.bind ?_ (fun _ => ?_))
      | exact ih0 _ _ _ _
      | exact ih1 _ _ _ _ _
      | exact cellaretlaw19_awake.mono _
      | exact cellaretref17_AnsBack.mono _ _
      | exact cellaretref18_Bytes.mono _ _ _ _ _ _ _ _
      | exact reply_All.mono _ _
      | exact LeO.none _
      | refine LeO.ite ?_ ?_
      | refine LeO.bind ?_ (fun _ => ?_)
set_option maxHeartbeats 8000000 in
set_option maxRecDepth 100000 in
theorem cellaretlaw19_ReplyWrites.calls (k : Nat) (A0 : Option Addr) (c0 : Nat) (l0 : List (S29)) (r : Bool) (w : World) (HLD : LaidA w) (hr0 : Kd.C k29 w A0 l0.length l0) (hc0 : l0.length ≤ c0) (h : cellaretlaw19_ReplyWrites.f k l0 = some r) :
    Calls Tryd.prog 3 #[.slice A0 l0.length c0] w fun e w' => e = .returned (.bool r) ∧ Below w.heap.size w w' := by
  have hu29 := Tryd.underlying29
  have hu34 := Tryd.underlying34
  have HR0 := Aside0.mk hr0
  have HC0 := Aside0.mk hc0
  clear hr0 hc0
  have HB := Aside0.mk (Below.refl w.heap.size w)
  have H : ((cellaretlaw19_awake.f k).bind fun t226 => (if t226 = true then (if (l0.length : Int) > 40 then (some true) else ((cellaretref17_AnsBack.f k l0).bind fun t227 => (cellaretlaw19_ReplyWrites.l0 k l0 (⟨#[]⟩ : ByteArray) t227 0))) else (some false))) = some r := h
  clear h
  replace H := Option.bind_eq_some_iff.mp H
  obtain ⟨t226, A20, H⟩ := H
  replace H : (if t226 = true then (if (l0.length : Int) > 40 then (some true) else ((cellaretref17_AnsBack.f k l0).bind fun t227 => (cellaretlaw19_ReplyWrites.l0 k l0 (⟨#[]⟩ : ByteArray) t227 0))) else (some false)) = some r := H
  have A2 := Aside0.mk A20
  clear A20
  by_cases c3 : t226 = true
  · subst c3
    have H1 : (if (l0.length : Int) > 40 then (some true) else ((cellaretref17_AnsBack.f k l0).bind fun t227 => (cellaretlaw19_ReplyWrites.l0 k l0 (⟨#[]⟩ : ByteArray) t227 0))) = some r := by rw [if_pos rfl] at H; exact H
    clear H
    have H := H1
    clear H1
    by_cases c4 : (l0.length : Int) > 40
    · rw [if_pos c4] at H
      have c4b0 : decide (40 < (l0.length : Int)) = true := decide_eq_true c4
      have c4b1 : decide (40 < l0.length) = true := decide_eq_true (by omega)
      clear c4
      obtain rfl := Option.some.inj H
      go_enter Tryd.func3, Tryd.ntmps3
      go_wp2_with (first | ((with_reducible refine gate_callee (f := 7) rfl ?_); refine goesL_ (some 7) rfl rfl Tryd.func7 (by kernel_rfl) rfl #[] rfl (by (try simp only [List.map_toArray, List.map_cons, List.map_nil]); first | done | rfl | (simp only [List.length_drop, List.length_take]; rfl)) ?_; (with_reducible refine (cellaretlaw19_awake.calls k  true _ ?side1 A2.out).mono ?_); (case side1 => exact HLD.below (by repeat (first | (with_reducible first | exact HB.out | apply below_alloc | apply pw_below_drewN | apply below_drew1) | exact HB.out))); rintro e w5 ⟨rfl, hb⟩; refine ⟨_, rfl, ?_⟩; have n0_ := Aside0.mk (below_step (by repeat (first | (with_reducible first | exact HB.out | apply below_alloc | apply pw_below_drewN | apply below_drew1) | exact HB.out)) hb); clear HB; have HB := n0_; clear n0_; (try clear hb); (try clear hb2); (try clear hk); (try clear hi)))
      go_ret
      exact ⟨by first | rfl | (simp [errW_none, errW_some] <;> rfl) | (simp [*, errW_none, errW_some] <;> rfl), by repeat (first | (with_reducible first | exact HB.out | apply below_alloc | apply pw_below_drewN | apply below_drew1) | exact HB.out)⟩
    · rw [if_neg c4] at H
      have c4b0 : decide (40 < (l0.length : Int)) = false := decide_eq_false c4
      have c4b1 : decide (40 < l0.length) = false := decide_eq_false (by omega)
      clear c4
      replace H := Option.bind_eq_some_iff.mp H
      obtain ⟨t227, A60, H⟩ := H
      replace H : (cellaretlaw19_ReplyWrites.l0 k l0 (⟨#[]⟩ : ByteArray) t227 0) = some r := H
      have A6 := Aside0.mk A60
      clear A60
      have H' := Aside0.mk H
      clear H
      go_enter Tryd.func3, Tryd.ntmps3
      go_wp2_with (first | ((with_reducible refine gate_callee (f := 7) rfl ?_); refine goesL_ (some 7) rfl rfl Tryd.func7 (by kernel_rfl) rfl #[] rfl (by (try simp only [List.map_toArray, List.map_cons, List.map_nil]); first | done | rfl | (simp only [List.length_drop, List.length_take]; rfl)) ?_; (with_reducible refine (cellaretlaw19_awake.calls k  true _ ?side1 A2.out).mono ?_); (case side1 => exact HLD.below (by repeat (first | (with_reducible first | exact HB.out | apply below_alloc | apply pw_below_drewN | apply below_drew1) | exact HB.out))); rintro e w7 ⟨rfl, hb⟩; refine ⟨_, rfl, ?_⟩; have n0_ := Aside0.mk (below_step (by repeat (first | (with_reducible first | exact HB.out | apply below_alloc | apply pw_below_drewN | apply below_drew1) | exact HB.out)) hb); clear HB; have HB := n0_; clear n0_; (try clear hb); (try clear hb2); (try clear hk); (try clear hi)) | ((with_reducible refine gate_callee (f := 8) rfl ?_); refine goesL_ (some 13) rfl rfl Tryd.func8 (by kernel_rfl) rfl #[.slice A0 l0.length c0] rfl (by (try simp only [List.map_toArray, List.map_cons, List.map_nil]); first | done | rfl | (simp only [List.length_drop, List.length_take]; rfl)) ?_; (with_reducible refine (cellaretref17_AnsBack.calls k _ _ l0 t227 _ ?side1 ?side2 A6.out).mono ?_); (case side1 => repeat (first | exact (Kd.C_below HR0.out HB.out) | (with_reducible refine Kd.C_alloc ?_ _) | (with_reducible refine Kd.C_drewN ?_ _) | (with_reducible refine Kd.C_drew ?_))); (case side2 => exact HC0.out); rintro e w8 ⟨v228, rfl, ho0, hb⟩; refine ⟨_, rfl, ?_⟩; have n0_ := Aside0.mk (Kd.R_lower ho0 (below_size (by repeat (first | (with_reducible first | exact HB.out | apply below_alloc | apply pw_below_drewN | apply below_drew1) | exact HB.out)))); have n1_ := Aside0.mk (below_step (by repeat (first | (with_reducible first | exact HB.out | apply below_alloc | apply pw_below_drewN | apply below_drew1) | exact HB.out)) hb); clear HB; have HO229 := n0_; have HB := n1_; clear n0_ n1_; (try clear hb); (try clear hb2); (try clear hk); (try clear hi); (try clear ho0)))
      go_loopg [3, 5] k (fun kq v3 v5 w' => ∃ (x3_1 : ByteArray) (x5_1 : Int), v3 = .string x3_1 ∧ v5 = .int .i64 x5_1 ∧ Aside0 (cellaretlaw19_ReplyWrites.l0 kq l0 x3_1 t227 x5_1 = some r) ∧ Aside0 (kq ≤ k) ∧ Aside0 (Kd.R k34 34 w' w.heap.size (fun _ => True) v228 t227) ∧ Aside0 (Below w.heap.size w w'))
      case atStart => exact ⟨((⟨#[]⟩ : ByteArray)), (0), (by first | rfl | (simp; done) | (simp [*]; done)), (by first | rfl | (simp; done) | (simp [*]; done)), H', ⟨Nat.le_refl _⟩, ⟨by (with_reducible repeat (first | apply Kd.R_alloc | apply Kd.R_drewN | apply Kd.R_drew)); exact HO229.out⟩, ⟨by repeat (first | (with_reducible first | exact HB.out | apply below_alloc | apply pw_below_drewN | apply below_drew1) | exact HB.out)⟩⟩
      case round =>
        clear H'
        try clear p2
        try clear c3
        try clear c4
        try clear c4b0
        try clear c4b1
        try clear c7
        try clear c8
        obtain ⟨x3_1, x5_1, rfl, rfl, HA, HK1, HO_4, HB⟩ := hrel
        cases gk with
        | zero => exact absurd HA.out (by simp [cellaretlaw19_ReplyWrites.l0])
        | succ k1 =>
          have H := HA.out
          clear HA
          simp only [cellaretlaw19_ReplyWrites.l0] at H
          by_cases c9 : x5_1 < (l0.length : Int)
          · rw [if_pos c9] at H
            have c9b0 : decide (x5_1 < (l0.length : Int)) = true := decide_eq_true c9
            clear c9
            have HC10 := Aside0.mk H
            clear H
            go_upto_region 10 with (fail)
            go_cut [44] (fun v44 wc => ∃ (kq : Nat) (x44_9 : Bool), v44 = .bool x44_9 ∧ Aside0 (cellaretlaw19_ReplyWrites.j1 kq l0 x3_1 t227 x5_1 x44_9 = some r) ∧ Aside0 (kq ≤ k1) ∧ Aside0 (Kd.R k34 34 wc w.heap.size (fun _ => True) v228 t227) ∧ Aside0 (Below w.heap.size w wc))
            case first =>
              have H := HC10.out
              clear HC10
              by_cases c11 : 0 ≤ x5_1
              · rw [if_pos c11] at H
                have c11b0 : decide (0 ≤ x5_1) = true := decide_eq_true c11
                clear c11
                (first | rw [c11b0] | (simp only [i64_w, i32_w]; rw [c11b0]) | skip)
                by_cases c12 : (((rd_T29 l0 x5_1).f3).size : Int) > 2000
                · rw [if_pos c12] at H
                  have c12b0 : decide (2000 < (((rd_T29 l0 x5_1).f3).size : Int)) = true := decide_eq_true c12
                  have c12b1 : decide (2000 < ((rd_T29 l0 x5_1).f3).size) = true := decide_eq_true (by omega)
                  clear c12
                  have H' := Aside0.mk H
                  clear H
                  have p233 : 0 ≤ (x5_1 : Int) := of_decide_eq_true (by first | (with_reducible assumption) | assumption)
                  have q233 : x5_1 < (l0.length : Int) := of_decide_eq_true (by first | (with_reducible assumption) | assumption)
                  obtain ⟨ad233, e233, hx233_0, hx233_1, hx233_2, hx233_3, hx233_4, hx233_5, hx233_6⟩ := at_T29 HR0.out x5_1 p233 q233
                  cases e233
                  replace hx233_0 := (HB.out.cell (World.block_lt_of_cell? w _ hx233_0)).trans hx233_0
                  replace hx233_1 := (HB.out.cell (World.block_lt_of_cell? w _ hx233_1)).trans hx233_1
                  replace hx233_2 := (HB.out.cell (World.block_lt_of_cell? w _ hx233_2)).trans hx233_2
                  replace hx233_3 := (HB.out.cell (World.block_lt_of_cell? w _ hx233_3)).trans hx233_3
                  replace hx233_4 := (HB.out.cell (World.block_lt_of_cell? w _ hx233_4)).trans hx233_4
                  replace hx233_5 := (HB.out.cell (World.block_lt_of_cell? w _ hx233_5)).trans hx233_5
                  replace hx233_6 := (HB.out.cell (World.block_lt_of_cell? w _ hx233_6)).trans hx233_6
                  replace p233 := eq_true p233
                  replace q233 := eq_true q233
                  go_wp2
                  go_meet
                  case rel => exact ⟨_, (true), (by first | rfl | (simp; done) | (simp [*]; done)), H', ⟨by have := HK1.out; first | omega | exact Nat.le_refl _⟩, ⟨by (with_reducible repeat (first | apply Kd.R_alloc | apply Kd.R_drewN | apply Kd.R_drew)); exact HO_4.out⟩, ⟨by repeat (first | (with_reducible first | exact HB.out | apply below_alloc | apply pw_below_drewN | apply below_drew1) | exact HB.out)⟩⟩
                · rw [if_neg c12] at H
                  have c12b0 : decide (2000 < (((rd_T29 l0 x5_1).f3).size : Int)) = false := decide_eq_false c12
                  have c12b1 : decide (2000 < ((rd_T29 l0 x5_1).f3).size) = false := decide_eq_false (by omega)
                  clear c12
                  by_cases c13 : (((rd_T29 l0 x5_1).f2).size : Int) > 1000
                  · rw [if_pos c13] at H
                    have c13b0 : decide (1000 < (((rd_T29 l0 x5_1).f2).size : Int)) = true := decide_eq_true c13
                    have c13b1 : decide (1000 < ((rd_T29 l0 x5_1).f2).size) = true := decide_eq_true (by omega)
                    clear c13
                    have H' := Aside0.mk H
                    clear H
                    have p233 : 0 ≤ (x5_1 : Int) := of_decide_eq_true (by first | (with_reducible assumption) | assumption)
                    have q233 : x5_1 < (l0.length : Int) := of_decide_eq_true (by first | (with_reducible assumption) | assumption)
                    obtain ⟨ad233, e233, hx233_0, hx233_1, hx233_2, hx233_3, hx233_4, hx233_5, hx233_6⟩ := at_T29 HR0.out x5_1 p233 q233
                    cases e233
                    replace hx233_0 := (HB.out.cell (World.block_lt_of_cell? w _ hx233_0)).trans hx233_0
                    replace hx233_1 := (HB.out.cell (World.block_lt_of_cell? w _ hx233_1)).trans hx233_1
                    replace hx233_2 := (HB.out.cell (World.block_lt_of_cell? w _ hx233_2)).trans hx233_2
                    replace hx233_3 := (HB.out.cell (World.block_lt_of_cell? w _ hx233_3)).trans hx233_3
                    replace hx233_4 := (HB.out.cell (World.block_lt_of_cell? w _ hx233_4)).trans hx233_4
                    replace hx233_5 := (HB.out.cell (World.block_lt_of_cell? w _ hx233_5)).trans hx233_5
                    replace hx233_6 := (HB.out.cell (World.block_lt_of_cell? w _ hx233_6)).trans hx233_6
                    replace p233 := eq_true p233
                    replace q233 := eq_true q233
                    have p234 : 0 ≤ (x5_1 : Int) := of_decide_eq_true (by first | (with_reducible assumption) | assumption)
                    have q234 : x5_1 < (l0.length : Int) := of_decide_eq_true (by first | (with_reducible assumption) | assumption)
                    obtain ⟨ad234, e234, hx234_0, hx234_1, hx234_2, hx234_3, hx234_4, hx234_5, hx234_6⟩ := at_T29 HR0.out x5_1 p234 q234
                    obtain rfl : ad233 = ad234 := (by injection e234)
                    replace hx234_0 := (HB.out.cell (World.block_lt_of_cell? w _ hx234_0)).trans hx234_0
                    replace hx234_1 := (HB.out.cell (World.block_lt_of_cell? w _ hx234_1)).trans hx234_1
                    replace hx234_2 := (HB.out.cell (World.block_lt_of_cell? w _ hx234_2)).trans hx234_2
                    replace hx234_3 := (HB.out.cell (World.block_lt_of_cell? w _ hx234_3)).trans hx234_3
                    replace hx234_4 := (HB.out.cell (World.block_lt_of_cell? w _ hx234_4)).trans hx234_4
                    replace hx234_5 := (HB.out.cell (World.block_lt_of_cell? w _ hx234_5)).trans hx234_5
                    replace hx234_6 := (HB.out.cell (World.block_lt_of_cell? w _ hx234_6)).trans hx234_6
                    replace p234 := eq_true p234
                    replace q234 := eq_true q234
                    go_wp2
                    go_meet
                    case rel => exact ⟨_, (true), (by first | rfl | (simp; done) | (simp [*]; done)), H', ⟨by have := HK1.out; first | omega | exact Nat.le_refl _⟩, ⟨by (with_reducible repeat (first | apply Kd.R_alloc | apply Kd.R_drewN | apply Kd.R_drew)); exact HO_4.out⟩, ⟨by repeat (first | (with_reducible first | exact HB.out | apply below_alloc | apply pw_below_drewN | apply below_drew1) | exact HB.out)⟩⟩
                  · rw [if_neg c13] at H
                    have c13b0 : decide (1000 < (((rd_T29 l0 x5_1).f2).size : Int)) = false := decide_eq_false c13
                    have c13b1 : decide (1000 < ((rd_T29 l0 x5_1).f2).size) = false := decide_eq_false (by omega)
                    clear c13
                    have H' := Aside0.mk H
                    clear H
                    have p233 : 0 ≤ (x5_1 : Int) := of_decide_eq_true (by first | (with_reducible assumption) | assumption)
                    have q233 : x5_1 < (l0.length : Int) := of_decide_eq_true (by first | (with_reducible assumption) | assumption)
                    obtain ⟨ad233, e233, hx233_0, hx233_1, hx233_2, hx233_3, hx233_4, hx233_5, hx233_6⟩ := at_T29 HR0.out x5_1 p233 q233
                    cases e233
                    replace hx233_0 := (HB.out.cell (World.block_lt_of_cell? w _ hx233_0)).trans hx233_0
                    replace hx233_1 := (HB.out.cell (World.block_lt_of_cell? w _ hx233_1)).trans hx233_1
                    replace hx233_2 := (HB.out.cell (World.block_lt_of_cell? w _ hx233_2)).trans hx233_2
                    replace hx233_3 := (HB.out.cell (World.block_lt_of_cell? w _ hx233_3)).trans hx233_3
                    replace hx233_4 := (HB.out.cell (World.block_lt_of_cell? w _ hx233_4)).trans hx233_4
                    replace hx233_5 := (HB.out.cell (World.block_lt_of_cell? w _ hx233_5)).trans hx233_5
                    replace hx233_6 := (HB.out.cell (World.block_lt_of_cell? w _ hx233_6)).trans hx233_6
                    replace p233 := eq_true p233
                    replace q233 := eq_true q233
                    have p234 : 0 ≤ (x5_1 : Int) := of_decide_eq_true (by first | (with_reducible assumption) | assumption)
                    have q234 : x5_1 < (l0.length : Int) := of_decide_eq_true (by first | (with_reducible assumption) | assumption)
                    obtain ⟨ad234, e234, hx234_0, hx234_1, hx234_2, hx234_3, hx234_4, hx234_5, hx234_6⟩ := at_T29 HR0.out x5_1 p234 q234
                    obtain rfl : ad233 = ad234 := (by injection e234)
                    replace hx234_0 := (HB.out.cell (World.block_lt_of_cell? w _ hx234_0)).trans hx234_0
                    replace hx234_1 := (HB.out.cell (World.block_lt_of_cell? w _ hx234_1)).trans hx234_1
                    replace hx234_2 := (HB.out.cell (World.block_lt_of_cell? w _ hx234_2)).trans hx234_2
                    replace hx234_3 := (HB.out.cell (World.block_lt_of_cell? w _ hx234_3)).trans hx234_3
                    replace hx234_4 := (HB.out.cell (World.block_lt_of_cell? w _ hx234_4)).trans hx234_4
                    replace hx234_5 := (HB.out.cell (World.block_lt_of_cell? w _ hx234_5)).trans hx234_5
                    replace hx234_6 := (HB.out.cell (World.block_lt_of_cell? w _ hx234_6)).trans hx234_6
                    replace p234 := eq_true p234
                    replace q234 := eq_true q234
                    have p235 : 0 ≤ (x5_1 : Int) := of_decide_eq_true (by first | (with_reducible assumption) | assumption)
                    have q235 : x5_1 < (l0.length : Int) := of_decide_eq_true (by first | (with_reducible assumption) | assumption)
                    obtain ⟨ad235, e235, hx235_0, hx235_1, hx235_2, hx235_3, hx235_4, hx235_5, hx235_6⟩ := at_T29 HR0.out x5_1 p235 q235
                    obtain rfl : ad233 = ad235 := (by injection e235)
                    replace hx235_0 := (HB.out.cell (World.block_lt_of_cell? w _ hx235_0)).trans hx235_0
                    replace hx235_1 := (HB.out.cell (World.block_lt_of_cell? w _ hx235_1)).trans hx235_1
                    replace hx235_2 := (HB.out.cell (World.block_lt_of_cell? w _ hx235_2)).trans hx235_2
                    replace hx235_3 := (HB.out.cell (World.block_lt_of_cell? w _ hx235_3)).trans hx235_3
                    replace hx235_4 := (HB.out.cell (World.block_lt_of_cell? w _ hx235_4)).trans hx235_4
                    replace hx235_5 := (HB.out.cell (World.block_lt_of_cell? w _ hx235_5)).trans hx235_5
                    replace hx235_6 := (HB.out.cell (World.block_lt_of_cell? w _ hx235_6)).trans hx235_6
                    replace p235 := eq_true p235
                    replace q235 := eq_true q235
                    go_wp2
                    go_meet
                    case rel => exact ⟨_, (decide ((((rd_T29 l0 x5_1).f1).size : Int) > 2000)), (by first | rfl | (simp; done) | (simp [*]; done)), H', ⟨by have := HK1.out; first | omega | exact Nat.le_refl _⟩, ⟨by (with_reducible repeat (first | apply Kd.R_alloc | apply Kd.R_drewN | apply Kd.R_drew)); exact HO_4.out⟩, ⟨by repeat (first | (with_reducible first | exact HB.out | apply below_alloc | apply pw_below_drewN | apply below_drew1) | exact HB.out)⟩⟩
              · rw [if_neg c11] at H
                exact absurd H (by simp)
            case rest =>
              clear HC10
              try clear c1
              try clear p2
              try clear q2
              try clear hx2
              try clear c3
              try clear c4
              try clear c4b0
              try clear c4b1
              try clear c7
              try clear c8
              try clear c9
              try clear c9b0
              try clear c11
              try clear c11b0
              try clear c12
              try clear c12b0
              try clear c12b1
              try clear c13
              try clear c13b0
              try clear c13b1
              try clear hx233_0
              try clear hx233_1
              try clear hx233_2
              try clear hx233_3
              try clear hx233_4
              try clear hx233_5
              try clear hx233_6
              try clear hx234_0
              try clear hx234_1
              try clear hx234_2
              try clear hx234_3
              try clear hx234_4
              try clear hx234_5
              try clear hx234_6
              try clear hx235_0
              try clear hx235_1
              try clear hx235_2
              try clear hx235_3
              try clear hx235_4
              try clear hx235_5
              try clear hx235_6
              try clear p2
              try clear p233
              try clear p234
              try clear p235
              try clear q233
              try clear q234
              try clear q235
              obtain ⟨kq, x44_9, rfl, HA, HJ9, HO_4, HB⟩ := hcut
              cases kq with
              | zero => exact absurd HA.out (by simp [cellaretlaw19_ReplyWrites.j1])
              | succ kj9 =>
                have H := HA.out
                clear HA
                simp only [cellaretlaw19_ReplyWrites.j1] at H
                by_cases c14 : x44_9 = true
                · subst c14
                  have H1 : (some true) = some r := by rw [if_pos rfl] at H; exact H
                  clear H
                  have H := H1
                  clear H1
                  obtain rfl := Option.some.inj H
                  go_wp2
                  go_ret
                  exact ⟨by first | rfl | (simp [errW_none, errW_some] <;> rfl) | (simp [*, errW_none, errW_some] <;> rfl), by repeat (first | (with_reducible first | exact HB.out | apply below_alloc | apply pw_below_drewN | apply below_drew1) | exact HB.out)⟩
                · replace c14 := Bool.eq_false_iff.mpr c14
                  subst c14
                  have H1 : (if 0 ≤ x5_1 then (if x5_1 < (l0.length : Int) then ((cellaretref18_Bytes.f kj9 ((rd_T29 l0 x5_1).f0) ((rd_T29 l0 x5_1).f1) ((rd_T29 l0 x5_1).f2) ((rd_T29 l0 x5_1).f3) ((rd_T29 l0 x5_1).f4) ((rd_T29 l0 x5_1).f5) ((rd_T29 l0 x5_1).f6)).bind fun t237 => (if x5_1 < (t227.length : Int) then ((reply_Bytes.f ((rd_T34 t227 x5_1).f0) ((rd_T34 t227 x5_1).f1) ((rd_T34 t227 x5_1).f2) ((rd_T34 t227 x5_1).f3) ((rd_T34 t227 x5_1).f4) ((rd_T34 t227 x5_1).f5) ((rd_T34 t227 x5_1).f6)).bind fun t239 => (if (strOfNums t239).toList = t237.toList then (if x3_1.size + t237.size ≤ 9223372036854775807 then (cellaretlaw19_ReplyWrites.l0 kj9 l0 (x3_1 ++ t237) t227 (wrap64 (x5_1 + 1))) else (none)) else (some false))) else (none))) else (none)) else (none)) = some r := by rw [if_neg (show ¬ (false = true) by decide)] at H; exact H
                  clear H
                  have H := H1
                  clear H1
                  by_cases c15 : 0 ≤ x5_1
                  · rw [if_pos c15] at H
                    have c15b0 : decide (0 ≤ x5_1) = true := decide_eq_true c15
                    clear c15
                    by_cases c16 : x5_1 < (l0.length : Int)
                    · rw [if_pos c16] at H
                      have c16b0 : decide (x5_1 < (l0.length : Int)) = true := decide_eq_true c16
                      clear c16
                      replace H := Option.bind_eq_some_iff.mp H
                      obtain ⟨t237, A170, H⟩ := H
                      replace H : (if x5_1 < (t227.length : Int) then ((reply_Bytes.f ((rd_T34 t227 x5_1).f0) ((rd_T34 t227 x5_1).f1) ((rd_T34 t227 x5_1).f2) ((rd_T34 t227 x5_1).f3) ((rd_T34 t227 x5_1).f4) ((rd_T34 t227 x5_1).f5) ((rd_T34 t227 x5_1).f6)).bind fun t239 => (if (strOfNums t239).toList = t237.toList then (if x3_1.size + t237.size ≤ 9223372036854775807 then (cellaretlaw19_ReplyWrites.l0 kj9 l0 (x3_1 ++ t237) t227 (wrap64 (x5_1 + 1))) else (none)) else (some false))) else (none)) = some r := H
                      have A17 := Aside0.mk A170
                      clear A170
                      by_cases c18 : x5_1 < (t227.length : Int)
                      · rw [if_pos c18] at H
                        have c18b0 : decide (x5_1 < (t227.length : Int)) = true := decide_eq_true c18
                        clear c18
                        replace H := Option.bind_eq_some_iff.mp H
                        obtain ⟨t239, A190, H⟩ := H
                        replace H : (if (strOfNums t239).toList = t237.toList then (if x3_1.size + t237.size ≤ 9223372036854775807 then (cellaretlaw19_ReplyWrites.l0 kj9 l0 (x3_1 ++ t237) t227 (wrap64 (x5_1 + 1))) else (none)) else (some false)) = some r := H
                        have A19 := Aside0.mk A190
                        clear A190
                        by_cases c20 : (strOfNums t239).toList = t237.toList
                        · rw [if_pos c20] at H
                          have c20b0 : ((strOfNums t239).toList == t237.toList) = true := beq_iff_eq.mpr c20
                          have c20b1 : ((strOfNums t239).toList != t237.toList) = false := bne_eq_false_iff_eq.mpr c20
                          clear c20
                          by_cases c21 : x3_1.size + t237.size ≤ 9223372036854775807
                          · rw [if_pos c21] at H
                            have c21b0 := eq_true c21
                            have c21b1 : decide (x3_1.size + t237.size ≤ 9223372036854775807) = true := decide_eq_true c21
                            try have c21b2 : (9223372036854775807 < x3_1.size + t237.size) = False := eq_false (Nat.not_lt.2 c21)
                            have H' := Aside0.mk H
                            clear H
                            have p236 : 0 ≤ (x5_1 : Int) := of_decide_eq_true (by first | (with_reducible assumption) | assumption)
                            have q236 : x5_1 < (l0.length : Int) := of_decide_eq_true (by first | (with_reducible assumption) | assumption)
                            obtain ⟨ad236, e236, hx236_0, hx236_1, hx236_2, hx236_3, hx236_4, hx236_5, hx236_6⟩ := at_T29 HR0.out x5_1 p236 q236
                            cases e236
                            replace hx236_0 := (HB.out.cell (World.block_lt_of_cell? w _ hx236_0)).trans hx236_0
                            replace hx236_1 := (HB.out.cell (World.block_lt_of_cell? w _ hx236_1)).trans hx236_1
                            replace hx236_2 := (HB.out.cell (World.block_lt_of_cell? w _ hx236_2)).trans hx236_2
                            replace hx236_3 := (HB.out.cell (World.block_lt_of_cell? w _ hx236_3)).trans hx236_3
                            replace hx236_4 := (HB.out.cell (World.block_lt_of_cell? w _ hx236_4)).trans hx236_4
                            replace hx236_5 := (HB.out.cell (World.block_lt_of_cell? w _ hx236_5)).trans hx236_5
                            replace hx236_6 := (HB.out.cell (World.block_lt_of_cell? w _ hx236_6)).trans hx236_6
                            replace p236 := eq_true p236
                            replace q236 := eq_true q236
                            go_wp2_with (first | ((with_reducible refine gate_callee (f := 9) rfl ?_); refine goesL_ (some 49) rfl rfl Tryd.func9 (by kernel_rfl) rfl #[.agg #[.bool ((rd_T29 l0 x5_1).f0), .string ((rd_T29 l0 x5_1).f1), .string ((rd_T29 l0 x5_1).f2), .string ((rd_T29 l0 x5_1).f3), .int .u32 ((rd_T29 l0 x5_1).f4), .int .u64 ((rd_T29 l0 x5_1).f5), .bool ((rd_T29 l0 x5_1).f6)]] rfl (by (try simp only [List.map_toArray, List.map_cons, List.map_nil]); first | done | rfl | (simp only [List.length_drop, List.length_take]; rfl)) ?_; (with_reducible refine (cellaretref18_Bytes.calls kj9 ((rd_T29 l0 x5_1).f0) ((rd_T29 l0 x5_1).f1) ((rd_T29 l0 x5_1).f2) ((rd_T29 l0 x5_1).f3) ((rd_T29 l0 x5_1).f4) ((rd_T29 l0 x5_1).f5) ((rd_T29 l0 x5_1).f6) t237 _ A17.out).mono ?_); rintro e w22 ⟨rfl, hb⟩; refine ⟨_, rfl, ?_⟩; have n0_ := Aside0.mk (Kd.R_below (by (with_reducible repeat (first | apply Kd.R_alloc | apply Kd.R_drewN | apply Kd.R_drew)); exact HO_4.out) hb); have n1_ := Aside0.mk (below_step (by repeat (first | (with_reducible first | exact HB.out | apply below_alloc | apply pw_below_drewN | apply below_drew1) | exact HB.out)) hb); clear HO_4; clear HB; have HO_4 := n0_; have HB := n1_; clear n0_ n1_; (try clear hb); (try clear hb2); (try clear hk); (try clear hi); obtain ⟨Ao23, co23, eo23⟩ := Kd.R_slice HO_4.out; subst eo23; have p238 : 0 ≤ (x5_1 : Int) := of_decide_eq_true (by first | (with_reducible assumption) | assumption); have q238 : x5_1 < (t227.length : Int) := of_decide_eq_true (by first | (with_reducible assumption) | assumption); obtain ⟨ad238, e238, hx238_0, hx238_1, hx238_2, hx238_3, hx238_4, hx238_5, hx238_6⟩ := at_T34 (Kd.R_reads' HO_4.out).2.2 x5_1 p238 q238; cases e238; replace p238 := eq_true p238; replace q238 := eq_true q238) | ((with_reducible refine gate_callee (f := 10) rfl ?_); refine goesL_ (some 54) rfl rfl Tryd.func10 (by kernel_rfl) rfl #[.agg #[.bool ((rd_T34 t227 x5_1).f0), .string ((rd_T34 t227 x5_1).f1), .string ((rd_T34 t227 x5_1).f2), .string ((rd_T34 t227 x5_1).f3), .int .u32 ((rd_T34 t227 x5_1).f4), .int .u64 ((rd_T34 t227 x5_1).f5), .bool ((rd_T34 t227 x5_1).f6)]] rfl (by (try simp only [List.map_toArray, List.map_cons, List.map_nil]); first | done | rfl | (simp only [List.length_drop, List.length_take]; rfl)) ?_; (with_reducible refine (reply_Bytes.calls ((rd_T34 t227 x5_1).f0) ((rd_T34 t227 x5_1).f1) ((rd_T34 t227 x5_1).f2) ((rd_T34 t227 x5_1).f3) ((rd_T34 t227 x5_1).f4) ((rd_T34 t227 x5_1).f5) ((rd_T34 t227 x5_1).f6) t239 _ ?side1 A19.out).mono ?_); (case side1 => exact HLD.below (by repeat (first | (with_reducible first | exact HB.out | apply below_alloc | apply pw_below_drewN | apply below_drew1) | exact HB.out))); rintro e w24 ⟨v240, rfl, ho0, hb⟩; refine ⟨_, rfl, ?_⟩; have n0_ := Aside0.mk (Kd.R_below (by (with_reducible repeat (first | apply Kd.R_alloc | apply Kd.R_drewN | apply Kd.R_drew)); exact HO_4.out) hb); have n1_ := Aside0.mk (Kd.V_lower (Kd.V_mono (ok' := fun k_ => some k_ ≠ (.slice (some ad238) t227.length co23 : Value).ownBlock) ho0 (fun k_ hk_ => (Kd.fresh' (Kd.R_lt (by (with_reducible repeat (first | apply Kd.R_alloc | apply Kd.R_drewN | apply Kd.R_drew)); exact HO_4.out)) k_ hk_))) (below_size (by repeat (first | (with_reducible first | exact HB.out | apply below_alloc | apply pw_below_drewN | apply below_drew1) | exact HB.out)))); have n2_ := Aside0.mk (below_step (by repeat (first | (with_reducible first | exact HB.out | apply below_alloc | apply pw_below_drewN | apply below_drew1) | exact HB.out)) hb); clear HO_4; clear HB; have HO_4 := n0_; have HO241 := n1_; have HB := n2_; clear n0_ n1_ n2_; (try clear hb); (try clear hb2); (try clear hk); (try clear hi); (try clear ho0); have hcv25 := V_string (P := Tryd.prog) Tryd.underlying31 Tryd.underlying5 Tryd.underlying9 HO241.out))
                            go_roundg kj9
                            case measure => have := HK1.out; have := HJ9.out; omega
                            case rel => exact ⟨(x3_1 ++ t237), (wrap64 (x5_1 + 1)), (by first | rfl | (simp; done) | (simp [*]; done)), (by first | rfl | (simp; done) | (simp [*]; done)), H', ⟨by have := HK1.out; have := HJ9.out; omega⟩, ⟨by (with_reducible repeat (first | apply Kd.R_alloc | apply Kd.R_drewN | apply Kd.R_drew)); exact HO_4.out⟩, ⟨by repeat (first | (with_reducible first | exact HB.out | apply below_alloc | apply pw_below_drewN | apply below_drew1) | exact HB.out)⟩⟩
                          · rw [if_neg c21] at H
                            exact absurd H (by simp)
                        · rw [if_neg c20] at H
                          have c20b0 : ((strOfNums t239).toList == t237.toList) = false := beq_eq_false_iff_ne.mpr c20
                          have c20b1 : ((strOfNums t239).toList != t237.toList) = true := bne_iff_ne.mpr c20
                          obtain rfl := Option.some.inj H
                          have p236 : 0 ≤ (x5_1 : Int) := of_decide_eq_true (by first | (with_reducible assumption) | assumption)
                          have q236 : x5_1 < (l0.length : Int) := of_decide_eq_true (by first | (with_reducible assumption) | assumption)
                          obtain ⟨ad236, e236, hx236_0, hx236_1, hx236_2, hx236_3, hx236_4, hx236_5, hx236_6⟩ := at_T29 HR0.out x5_1 p236 q236
                          cases e236
                          replace hx236_0 := (HB.out.cell (World.block_lt_of_cell? w _ hx236_0)).trans hx236_0
                          replace hx236_1 := (HB.out.cell (World.block_lt_of_cell? w _ hx236_1)).trans hx236_1
                          replace hx236_2 := (HB.out.cell (World.block_lt_of_cell? w _ hx236_2)).trans hx236_2
                          replace hx236_3 := (HB.out.cell (World.block_lt_of_cell? w _ hx236_3)).trans hx236_3
                          replace hx236_4 := (HB.out.cell (World.block_lt_of_cell? w _ hx236_4)).trans hx236_4
                          replace hx236_5 := (HB.out.cell (World.block_lt_of_cell? w _ hx236_5)).trans hx236_5
                          replace hx236_6 := (HB.out.cell (World.block_lt_of_cell? w _ hx236_6)).trans hx236_6
                          replace p236 := eq_true p236
                          replace q236 := eq_true q236
                          go_wp2_with (first | ((with_reducible refine gate_callee (f := 9) rfl ?_); refine goesL_ (some 49) rfl rfl Tryd.func9 (by kernel_rfl) rfl #[.agg #[.bool ((rd_T29 l0 x5_1).f0), .string ((rd_T29 l0 x5_1).f1), .string ((rd_T29 l0 x5_1).f2), .string ((rd_T29 l0 x5_1).f3), .int .u32 ((rd_T29 l0 x5_1).f4), .int .u64 ((rd_T29 l0 x5_1).f5), .bool ((rd_T29 l0 x5_1).f6)]] rfl (by (try simp only [List.map_toArray, List.map_cons, List.map_nil]); first | done | rfl | (simp only [List.length_drop, List.length_take]; rfl)) ?_; (with_reducible refine (cellaretref18_Bytes.calls kj9 ((rd_T29 l0 x5_1).f0) ((rd_T29 l0 x5_1).f1) ((rd_T29 l0 x5_1).f2) ((rd_T29 l0 x5_1).f3) ((rd_T29 l0 x5_1).f4) ((rd_T29 l0 x5_1).f5) ((rd_T29 l0 x5_1).f6) t237 _ A17.out).mono ?_); rintro e w26 ⟨rfl, hb⟩; refine ⟨_, rfl, ?_⟩; have n0_ := Aside0.mk (Kd.R_below (by (with_reducible repeat (first | apply Kd.R_alloc | apply Kd.R_drewN | apply Kd.R_drew)); exact HO_4.out) hb); have n1_ := Aside0.mk (below_step (by repeat (first | (with_reducible first | exact HB.out | apply below_alloc | apply pw_below_drewN | apply below_drew1) | exact HB.out)) hb); clear HO_4; clear HB; have HO_4 := n0_; have HB := n1_; clear n0_ n1_; (try clear hb); (try clear hb2); (try clear hk); (try clear hi); obtain ⟨Ao27, co27, eo27⟩ := Kd.R_slice HO_4.out; subst eo27; have p238 : 0 ≤ (x5_1 : Int) := of_decide_eq_true (by first | (with_reducible assumption) | assumption); have q238 : x5_1 < (t227.length : Int) := of_decide_eq_true (by first | (with_reducible assumption) | assumption); obtain ⟨ad238, e238, hx238_0, hx238_1, hx238_2, hx238_3, hx238_4, hx238_5, hx238_6⟩ := at_T34 (Kd.R_reads' HO_4.out).2.2 x5_1 p238 q238; cases e238; replace p238 := eq_true p238; replace q238 := eq_true q238) | ((with_reducible refine gate_callee (f := 10) rfl ?_); refine goesL_ (some 54) rfl rfl Tryd.func10 (by kernel_rfl) rfl #[.agg #[.bool ((rd_T34 t227 x5_1).f0), .string ((rd_T34 t227 x5_1).f1), .string ((rd_T34 t227 x5_1).f2), .string ((rd_T34 t227 x5_1).f3), .int .u32 ((rd_T34 t227 x5_1).f4), .int .u64 ((rd_T34 t227 x5_1).f5), .bool ((rd_T34 t227 x5_1).f6)]] rfl (by (try simp only [List.map_toArray, List.map_cons, List.map_nil]); first | done | rfl | (simp only [List.length_drop, List.length_take]; rfl)) ?_; (with_reducible refine (reply_Bytes.calls ((rd_T34 t227 x5_1).f0) ((rd_T34 t227 x5_1).f1) ((rd_T34 t227 x5_1).f2) ((rd_T34 t227 x5_1).f3) ((rd_T34 t227 x5_1).f4) ((rd_T34 t227 x5_1).f5) ((rd_T34 t227 x5_1).f6) t239 _ ?side1 A19.out).mono ?_); (case side1 => exact HLD.below (by repeat (first | (with_reducible first | exact HB.out | apply below_alloc | apply pw_below_drewN | apply below_drew1) | exact HB.out))); rintro e w28 ⟨v240, rfl, ho0, hb⟩; refine ⟨_, rfl, ?_⟩; have n0_ := Aside0.mk (Kd.R_below (by (with_reducible repeat (first | apply Kd.R_alloc | apply Kd.R_drewN | apply Kd.R_drew)); exact HO_4.out) hb); have n1_ := Aside0.mk (Kd.V_lower (Kd.V_mono (ok' := fun k_ => some k_ ≠ (.slice (some ad238) t227.length co27 : Value).ownBlock) ho0 (fun k_ hk_ => (Kd.fresh' (Kd.R_lt (by (with_reducible repeat (first | apply Kd.R_alloc | apply Kd.R_drewN | apply Kd.R_drew)); exact HO_4.out)) k_ hk_))) (below_size (by repeat (first | (with_reducible first | exact HB.out | apply below_alloc | apply pw_below_drewN | apply below_drew1) | exact HB.out)))); have n2_ := Aside0.mk (below_step (by repeat (first | (with_reducible first | exact HB.out | apply below_alloc | apply pw_below_drewN | apply below_drew1) | exact HB.out)) hb); clear HO_4; clear HB; have HO_4 := n0_; have HO241 := n1_; have HB := n2_; clear n0_ n1_ n2_; (try clear hb); (try clear hb2); (try clear hk); (try clear hi); (try clear ho0); have hcv29 := V_string (P := Tryd.prog) Tryd.underlying31 Tryd.underlying5 Tryd.underlying9 HO241.out))
                          go_ret
                          exact ⟨by first | rfl | (simp [errW_none, errW_some] <;> rfl) | (simp [*, errW_none, errW_some] <;> rfl), by repeat (first | (with_reducible first | exact HB.out | apply below_alloc | apply pw_below_drewN | apply below_drew1) | exact HB.out)⟩
                      · rw [if_neg c18] at H
                        exact absurd H (by simp)
                    · rw [if_neg c16] at H
                      exact absurd H (by simp)
                  · rw [if_neg c15] at H
                    exact absurd H (by simp)
          · rw [if_neg c9] at H
            have c9b0 : decide (x5_1 < (l0.length : Int)) = false := decide_eq_false c9
            clear c9
            replace H := Option.bind_eq_some_iff.mp H
            obtain ⟨t230, A300, H⟩ := H
            replace H : (some ((strOfNums t230).toList == x3_1.toList)) = some r := H
            have A30 := Aside0.mk A300
            clear A300
            obtain rfl := Option.some.inj H
            obtain ⟨Ao31, co31, eo31⟩ := Kd.R_slice HO_4.out
            subst eo31
            go_wp2_with (first | ((with_reducible refine gate_callee (f := 11) rfl ?_); refine goesL_ (some 62) rfl rfl Tryd.func11 (by kernel_rfl) rfl #[.slice Ao31 t227.length co31] rfl (by (try simp only [List.map_toArray, List.map_cons, List.map_nil]); first | done | rfl | (simp only [List.length_drop, List.length_take]; rfl)) ?_; (with_reducible refine (reply_All.calls k1 _ _ t227 t230 _ ?side3 ?side1 ?side2 A30.out).mono ?_); (case side1 => repeat (first | exact (Kd.R_reads' HO_4.out).2.2 | (with_reducible refine Kd.C_alloc ?_ _) | (with_reducible refine Kd.C_drewN ?_ _) | (with_reducible refine Kd.C_drew ?_))); (case side2 => exact (Kd.R_reads' HO_4.out).2.1); (case side3 => exact HLD.below (by repeat (first | (with_reducible first | exact HB.out | apply below_alloc | apply pw_below_drewN | apply below_drew1) | exact HB.out))); rintro e w32 ⟨v231, rfl, ho0, hb⟩; refine ⟨_, rfl, ?_⟩; have n0_ := Aside0.mk (Kd.R_below (by (with_reducible repeat (first | apply Kd.R_alloc | apply Kd.R_drewN | apply Kd.R_drew)); exact HO_4.out) hb); have n1_ := Aside0.mk (Kd.R_lower ho0 (below_size (by repeat (first | (with_reducible first | exact HB.out | apply below_alloc | apply pw_below_drewN | apply below_drew1) | exact HB.out)))); have n2_ := Aside0.mk (below_step (by repeat (first | (with_reducible first | exact HB.out | apply below_alloc | apply pw_below_drewN | apply below_drew1) | exact HB.out)) hb); clear HO_4; clear HB; have HO_4 := n0_; have HO232 := n1_; have HB := n2_; clear n0_ n1_ n2_; (try clear hb); (try clear hb2); (try clear hk); (try clear hi); (try clear ho0); have hcv33 := own_string (P := Tryd.prog) Tryd.underlying31 Tryd.underlying5 Tryd.underlying9 (Kd.own_of_R HO232.out)))
            go_ret
            exact ⟨by first | rfl | (simp [errW_none, errW_some] <;> rfl) | (simp [*, errW_none, errW_some] <;> rfl), by repeat (first | (with_reducible first | exact HB.out | apply below_alloc | apply pw_below_drewN | apply below_drew1) | exact HB.out)⟩
  · replace c3 := Bool.eq_false_iff.mpr c3
    subst c3
    have H1 : (some false) = some r := by rw [if_neg (show ¬ (false = true) by decide)] at H; exact H
    clear H
    have H := H1
    clear H1
    obtain rfl := Option.some.inj H
    go_enter Tryd.func3, Tryd.ntmps3
    go_wp2_with (first | ((with_reducible refine gate_callee (f := 7) rfl ?_); refine goesL_ (some 7) rfl rfl Tryd.func7 (by kernel_rfl) rfl #[] rfl (by (try simp only [List.map_toArray, List.map_cons, List.map_nil]); first | done | rfl | (simp only [List.length_drop, List.length_take]; rfl)) ?_; (with_reducible refine (cellaretlaw19_awake.calls k  false _ ?side1 A2.out).mono ?_); (case side1 => exact HLD.below (by repeat (first | (with_reducible first | exact HB.out | apply below_alloc | apply pw_below_drewN | apply below_drew1) | exact HB.out))); rintro e w34 ⟨rfl, hb⟩; refine ⟨_, rfl, ?_⟩; have n0_ := Aside0.mk (below_step (by repeat (first | (with_reducible first | exact HB.out | apply below_alloc | apply pw_below_drewN | apply below_drew1) | exact HB.out)) hb); clear HB; have HB := n0_; clear n0_; (try clear hb); (try clear hb2); (try clear hk); (try clear hi)))
    go_ret
    exact ⟨by first | rfl | (simp [errW_none, errW_some] <;> rfl) | (simp [*, errW_none, errW_some] <;> rfl), by repeat (first | (with_reducible first | exact HB.out | apply below_alloc | apply pw_below_drewN | apply below_drew1) | exact HB.out)⟩

end Go.Proofs.YtgopcfkofjipjaaDoor.H
