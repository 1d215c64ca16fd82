/-
  Printed by this session's hybrid.py (it runs the kit's print over contracts of our own for library functions): plain functions with the answers of Go functions, and that the calls come to them. Their conditions stand in each head.
-/
import Derived.Test.YtgopcfkofjipjaaDoorHX0
import Derived.Test.YtgopcfkofjipjaaDoorHX22
namespace Go.Proofs.YtgopcfkofjipjaaDoor.H
open Go.RowKit Go.Proofs.YtgopcfkofjipjaaDoorW.PrintWords Go.Proofs.YtgopcfkofjipjaaDoorW.PrintLast Go.Proofs.YtgopcfkofjipjaaDoorW.PrintMore
attribute [local go_sem] max2_int min2_int max_two min_two max_three min_three max_four min_four   -- for this text's walks alone
set_option linter.unusedVariables false
set_option linter.unusedSimpArgs false

/-! ### cellaretref17_Ans: function 20 -/
def cellaretref17_Ans.l0 : Nat → List (S34) → List (S29) → Int → Option ((List (S29)) × Bool)
  | 0, _, _, _ => none
  | k + 1, x0, x4, x5 => if x5 < (x0.length : Int) then (if 0 ≤ x5 then (if (rd_T34 x0 x5).f0 = true then (if x4.length < 1759218604441 then (cellaretref17_Ans.l0 k x0 (x4 ++ [(⟨true, (⟨#[]⟩ : ByteArray), (rd_T34 x0 x5).f1, (rd_T34 x0 x5).f2, (rd_T34 x0 x5).f4, (rd_T34 x0 x5).f5, (rd_T34 x0 x5).f6⟩ : S29)]) (wrap64 (x5 + 1))) else (none)) else ((cellaretref18_Line.f ((rd_T34 x0 x5).f3)).bind fun bt249 => (if x4.length < 1759218604441 then (cellaretref17_Ans.l0 k x0 (x4 ++ [(⟨bt249.1, bt249.2.1, bt249.2.2.1, bt249.2.2.2.1, bt249.2.2.2.2.1, bt249.2.2.2.2.2.1, bt249.2.2.2.2.2.2⟩ : S29)]) (wrap64 (x5 + 1))) else (none)))) else (none)) else (some (x4, true))
def cellaretref17_Ans.f (k : Nat) (l0 : List (S34)) : Option ((List (S29)) × Bool) := cellaretref17_Ans.l0 k l0 ([] : List (S29)) 0
theorem cellaretref17_Ans.mono_l : ∀ k, (∀ y0 y1 y2, LeO (cellaretref17_Ans.l0 k y0 y1 y2) (cellaretref17_Ans.l0 (k + 1) y0 y1 y2))
  | 0 => fun _ _ _ r h => by simp [cellaretref17_Ans.l0] at h
  | k + 1 => by
    have ih0 := cellaretref17_Ans.mono_l k
    · intro y0 y1 y2
      unfold cellaretref17_Ans.l0
      repeat' first
      | (with_reducible exact ih0 _ _ _)
      | (with_reducible exact LeO.refl _)
      | (with_reducible exact LeO.none _)
      | (with_reducible refine LeO.ite ?_ ?_)
      | (with_reducible refine LeO.bind ?_ (fun _ => ?_))
      | exact ih0 _ _ _
      | exact LeO.none _
      | refine LeO.ite ?_ ?_
      | refine LeO.bind ?_ (fun _ => ?_)
theorem cellaretref17_Ans.mono : ∀ a0 k, LeO (cellaretref17_Ans.f k a0) (cellaretref17_Ans.f (k + 1) a0) := by
  intro a0 k
  have ih0 := cellaretref17_Ans.mono_l k
  unfold cellaretref17_Ans.f
  repeat' first
      | (with_reducible exact ih0 _ _ _)
      | (with_reducible exact LeO.refl _)
      | (with_reducible exact LeO.none _)
      | (with_reducible refine LeO.ite ?_ ?_)
      | (with_reducible refine LeO.bind ?_ (fun _ => ?_))
      | exact ih0 _ _ _
      | exact LeO.none _
      | refine LeO.ite ?_ ?_
      | refine LeO.bind ?_ (fun _ => ?_)
set_option maxHeartbeats 8000000 in
set_option maxRecDepth 100000 in
theorem cellaretref17_Ans.calls (k : Nat) (A0 : Option Addr) (c0 : Nat) (l0 : List (S34)) (r1 : List (S29)) (r2 : Bool) (w : World) (hr0 : Kd.C k34 w A0 l0.length l0) (hc0 : l0.length ≤ c0) (h : cellaretref17_Ans.f k l0 = some (r1, r2)) :
    Calls Tryd.prog 20 #[.slice A0 l0.length c0] w fun e w' => ∃ v0_ : Value, e = .returned (.tuple #[v0_, .bool r2]) ∧ Kd.R k29 29 w' w.heap.size (fun _ => True) v0_ r1 ∧ Below w.heap.size w w' := by
  have hu34 := Tryd.underlying34
  have hu29 := Tryd.underlying29
  have HR0 := Aside0.mk hr0
  have HC0 := Aside0.mk hc0
  clear hr0 hc0
  have HB := Aside0.mk (Below.refl w.heap.size w)
  have H : (cellaretref17_Ans.l0 k l0 ([] : List (S29)) 0) = some (r1, r2) := h
  clear h
  have H' := Aside0.mk H
  clear H
  go_enter Tryd.func20, Tryd.ntmps20
  go_wp2
  go_loopg [4, 5] k (fun kq v4 v5 w' => ∃ (x4_1 : List (S29)) (x5_1 : Int), v5 = .int .i64 x5_1 ∧ Aside0 (cellaretref17_Ans.l0 kq l0 x4_1 x5_1 = some (r1, r2)) ∧ Aside0 (kq ≤ k) ∧ Aside0 (Kd.R k29 29 w' w.heap.size (fun _ => True) v4 x4_1) ∧ Aside0 (Below w.heap.size w w'))
  case atStart => exact ⟨(([] : List (S29))), (0), (by first | rfl | (simp; done) | (simp [*]; done)), H', ⟨Nat.le_refl _⟩, ⟨by first | exact Kd.R_nil _ _ _ _ _ | exact Kd.N_nil _ _ _ _ _ | exact Kd.V_nil _ _ _ _ _ | exact Kd.Q_nil _ _ _ _ _ | exact Kd.S_nil _ _ _ _ _⟩, ⟨by repeat (first | (with_reducible first | exact HB.out | apply below_alloc | apply pw_below_drewN | apply below_drew1) | exact HB.out)⟩⟩
  case round =>
    clear H'
    obtain ⟨x4_1, x5_1, rfl, HA, HK1, HO_4, HB⟩ := hrel
    cases gk with
    | zero => exact absurd HA.out (by simp [cellaretref17_Ans.l0])
    | succ k1 =>
      have H := HA.out
      clear HA
      simp only [cellaretref17_Ans.l0] at H
      by_cases c2 : x5_1 < (l0.length : Int)
      · rw [if_pos c2] at H
        have c2b0 : decide (x5_1 < (l0.length : Int)) = true := decide_eq_true c2
        clear c2
        by_cases c3 : 0 ≤ x5_1
        · rw [if_pos c3] at H
          have c3b0 : decide (0 ≤ x5_1) = true := decide_eq_true c3
          clear c3
          obtain ⟨bq4, hbq4⟩ : ∃ b_ : Bool, b_ = ((rd_T34 l0 x5_1).f0) := ⟨_, rfl⟩
          replace H : (if bq4 = true then (if x4_1.length < 1759218604441 then (cellaretref17_Ans.l0 k1 l0 (x4_1 ++ [(⟨true, (⟨#[]⟩ : ByteArray), (rd_T34 l0 x5_1).f1, (rd_T34 l0 x5_1).f2, (rd_T34 l0 x5_1).f4, (rd_T34 l0 x5_1).f5, (rd_T34 l0 x5_1).f6⟩ : S29)]) (wrap64 (x5_1 + 1))) else (none)) else ((cellaretref18_Line.f ((rd_T34 l0 x5_1).f3)).bind fun bt249 => (if x4_1.length < 1759218604441 then (cellaretref17_Ans.l0 k1 l0 (x4_1 ++ [(⟨bt249.1, bt249.2.1, bt249.2.2.1, bt249.2.2.2.1, bt249.2.2.2.2.1, bt249.2.2.2.2.2.1, bt249.2.2.2.2.2.2⟩ : S29)]) (wrap64 (x5_1 + 1))) else (none)))) = some (r1, r2) := by rw [← hbq4] at H; exact H
          have Nbq4 := Aside0.mk hbq4
          clear hbq4
          by_cases c5 : bq4 = true
          · subst c5
            have H1 : (if x4_1.length < 1759218604441 then (cellaretref17_Ans.l0 k1 l0 (x4_1 ++ [(⟨true, (⟨#[]⟩ : ByteArray), (rd_T34 l0 x5_1).f1, (rd_T34 l0 x5_1).f2, (rd_T34 l0 x5_1).f4, (rd_T34 l0 x5_1).f5, (rd_T34 l0 x5_1).f6⟩ : S29)]) (wrap64 (x5_1 + 1))) else (none)) = some (r1, r2) := by rw [if_pos rfl] at H; exact H
            clear H
            have H := H1
            clear H1
            by_cases c6 : x4_1.length < 1759218604441
            · rw [if_pos c6] at H
              have LMc6 := Aside0.mk c6
              clear c6
              obtain ⟨y246, hy246⟩ : ∃ y_ : List (S29), y_ = (x4_1 ++ [(⟨true, (⟨#[]⟩ : ByteArray), (rd_T34 l0 x5_1).f1, (rd_T34 l0 x5_1).f2, (rd_T34 l0 x5_1).f4, (rd_T34 l0 x5_1).f5, (rd_T34 l0 x5_1).f6⟩ : S29)]) := ⟨_, rfl⟩
              replace H : (cellaretref17_Ans.l0 k1 l0 y246 (wrap64 (x5_1 + 1))) = some (r1, r2) := by first | (rw [hy246]; with_reducible exact H) | (have H2_ := (Option.bind_some _ _).symm.trans H; rw [hy246]; with_reducible exact H2_) | (have H2_ := (Option.bind_some _ _).symm.trans H; with_reducible exact H2_) | with_reducible exact H | (rw [hy246]; exact H) | exact H
              have Ny246 := Aside0.mk hy246
              clear hy246
              have H' := Aside0.mk H
              clear H
              have p244 : 0 ≤ (x5_1 : Int) := of_decide_eq_true (by first | (with_reducible assumption) | assumption)
              have q244 : x5_1 < (l0.length : Int) := of_decide_eq_true (by first | (with_reducible assumption) | assumption)
              obtain ⟨ad244, e244, hx244_0, hx244_1, hx244_2, hx244_3, hx244_4, hx244_5, hx244_6⟩ := at_T34 HR0.out x5_1 p244 q244
              (try rw [← Nbq4.out] at hx244_0)
              (try rw [← Nbq4.out] at hx244_6)
              cases e244
              replace hx244_0 := (HB.out.cell (World.block_lt_of_cell? w _ hx244_0)).trans hx244_0
              replace hx244_1 := (HB.out.cell (World.block_lt_of_cell? w _ hx244_1)).trans hx244_1
              replace hx244_2 := (HB.out.cell (World.block_lt_of_cell? w _ hx244_2)).trans hx244_2
              replace hx244_3 := (HB.out.cell (World.block_lt_of_cell? w _ hx244_3)).trans hx244_3
              replace hx244_4 := (HB.out.cell (World.block_lt_of_cell? w _ hx244_4)).trans hx244_4
              replace hx244_5 := (HB.out.cell (World.block_lt_of_cell? w _ hx244_5)).trans hx244_5
              replace hx244_6 := (HB.out.cell (World.block_lt_of_cell? w _ hx244_6)).trans hx244_6
              replace p244 := eq_true p244
              replace q244 := eq_true q244
              go_wp2_with (first | ((with_reducible refine gate_dst (N := 6) rfl ?_); refine box_event ?hg (N := 6) ?hd (cs := #[.bool false, .string (⟨#[]⟩ : ByteArray), .string (⟨#[]⟩ : ByteArray), .string (⟨#[]⟩ : ByteArray), .int .u32 0, .int .u64 0, .bool false]) (t := 34) ?hr ?_; (case hd => rfl); (case hg => rfl); (case hr => first | (go_simp; done) | (go_simp; rfl)); intro gb245 hg w7 hbox hb; have n0_ := Aside0.mk (Kd.R_below (by (with_reducible repeat (first | apply Kd.R_alloc | apply Kd.R_drewN | apply Kd.R_drew)); exact HO_4.out) hb); have n1_ := Aside0.mk (below_step (by repeat (first | (with_reducible first | exact HB.out | apply below_alloc | apply pw_below_drewN | apply below_drew1) | exact HB.out)) hb); have n2_ := Aside0.mk (hbox); have n3_ := Aside0.mk ((by rw [hg]; exact (below_size (by repeat (first | (with_reducible first | exact HB.out | apply below_alloc | apply pw_below_drewN | apply below_drew1) | exact HB.out))) : w.heap.size ≤ gb245)); have n4_ := Aside0.mk ((by rw [hg]; exact (below_size (by repeat (first | (with_reducible first | exact HB.out | apply below_alloc | apply pw_below_drewN | apply below_drew1) | exact HB.out))) : w.heap.size ≤ gb245)); clear HO_4; clear HB; have HO_4 := n0_; have HB := n1_; have BK245 := n2_; have GW245 := n3_; have GE245 := n4_; clear n0_ n1_ n2_ n3_ n4_; clear hb hbox hg; have hcz8_0 : w7.cell? ⟨gb245, 0, none⟩ = some (.bool false) := (blk_cell BK245.out 0).trans rfl; have hcz8_1 : w7.cell? ⟨gb245, 1, none⟩ = some (.string (⟨#[]⟩ : ByteArray)) := (blk_cell BK245.out 1).trans rfl; have hcz8_2 : w7.cell? ⟨gb245, 2, none⟩ = some (.string (⟨#[]⟩ : ByteArray)) := (blk_cell BK245.out 2).trans rfl; have hcz8_3 : w7.cell? ⟨gb245, 3, none⟩ = some (.string (⟨#[]⟩ : ByteArray)) := (blk_cell BK245.out 3).trans rfl; have hcz8_4 : w7.cell? ⟨gb245, 4, none⟩ = some (.int .u32 0) := (blk_cell BK245.out 4).trans rfl; have hcz8_5 : w7.cell? ⟨gb245, 5, none⟩ = some (.int .u64 0) := (blk_cell BK245.out 5).trans rfl; have hcz8_6 : w7.cell? ⟨gb245, 6, none⟩ = some (.bool false) := (blk_cell BK245.out 6).trans rfl; have hfz8_0 := blk_frozen BK245.out 0; have hfz8_1 := blk_frozen BK245.out 1; have hfz8_2 := blk_frozen BK245.out 2; have hfz8_3 := blk_frozen BK245.out 3; have hfz8_4 := blk_frozen BK245.out 4; have hfz8_5 := blk_frozen BK245.out 5; have hfz8_6 := blk_frozen BK245.out 6) | ((with_reducible refine gate_builtin (b := .append) (xs := #[.tmp 19, .tmp 31]) rfl ?_); at_builtin; refine Kd.R_append k29 (w0 := w) w.heap.size rfl (.tmp 19) (.tmp 31) 22 29 (.agg #[(.bool false), (.string ⟨#[]⟩), (.string ⟨#[]⟩), (.string ⟨#[]⟩), (.int .u32 0), (.int .u64 0), (.bool false)]) 80 rfl Tryd.underlying22 info29 rfl (by decide) (by omega) u4 x4_1 (⟨true, (⟨#[]⟩ : ByteArray), (rd_T34 l0 x5_1).f1, (rd_T34 l0 x5_1).f2, (rd_T34 l0 x5_1).f4, (rd_T34 l0 x5_1).f5, (rd_T34 l0 x5_1).f6⟩ : S29) [.bool true, .string (⟨#[]⟩ : ByteArray), .string ((rd_T34 l0 x5_1).f1), .string ((rd_T34 l0 x5_1).f2), .int .u32 ((rd_T34 l0 x5_1).f4), .int .u64 ((rd_T34 l0 x5_1).f5), .bool ((rd_T34 l0 x5_1).f6)] (fun _ => True) (fun _ => False) rfl (by first | (go_simp; done) | (go_simp; rfl)) ?aP (fun _ hk => hk.elim) ?aF ?aO ?aB ?aS ?aL ?_; (case aP => exact k29_mkM _ _ _ (⟨true, (⟨#[]⟩ : ByteArray), (rd_T34 l0 x5_1).f1, (rd_T34 l0 x5_1).f2, (rd_T34 l0 x5_1).f4, (rd_T34 l0 x5_1).f5, (rd_T34 l0 x5_1).f6⟩ : S29)); (case aB => exact (by repeat (first | (with_reducible first | exact HB.out | apply below_alloc | apply pw_below_drewN | apply below_drew1 | refine below_set ?_ GE245.out) | exact HB.out))); (case aF => exact (fun _ _ => trivial)); (case aO => exact (by (with_reducible repeat (first | apply Kd.R_alloc | apply Kd.R_drewN | apply Kd.R_drew)); exact Kd.R_mono (Kd.R_far (p := ⟨gb245, 6, none⟩) (Kd.R_far (p := ⟨gb245, 5, none⟩) (Kd.R_far (p := ⟨gb245, 4, none⟩) (Kd.R_far (p := ⟨gb245, 3, none⟩) (Kd.R_far (p := ⟨gb245, 2, none⟩) (Kd.R_far (p := ⟨gb245, 1, none⟩) (Kd.R_far (p := ⟨gb245, 0, none⟩) (Kd.R_types HO_4.out BK245.out (by decide)) (fun _ hk => hk.2) (.bool true)) (fun _ hk => hk.2) (.string ((rd_T34 l0 x5_1).f1))) (fun _ hk => hk.2) (.string ((rd_T34 l0 x5_1).f2))) (fun _ hk => hk.2) (.string ((rd_T34 l0 x5_1).f3))) (fun _ hk => hk.2) (.int .u32 ((rd_T34 l0 x5_1).f4))) (fun _ hk => hk.2) (.int .u64 ((rd_T34 l0 x5_1).f5))) (fun _ hk => hk.2) (.bool ((rd_T34 l0 x5_1).f6))) (fun _ hk => trivial))); (case aS => exact (below_size (by repeat (first | (with_reducible first | exact HB.out | apply below_alloc | apply pw_below_drewN | apply below_drew1 | refine below_set ?_ GE245.out) | exact HB.out)))); (case aL => have := LMc6.out; omega); intro v247 w9 ho hb hg hat; rw [← Ny246.out] at ho; have n0_ := Aside0.mk (blk_grown (g := gb245) (o := .cells #[.bool true, .string ((rd_T34 l0 x5_1).f1), .string ((rd_T34 l0 x5_1).f2), .string ((rd_T34 l0 x5_1).f3), .int .u32 ((rd_T34 l0 x5_1).f4), .int .u64 ((rd_T34 l0 x5_1).f5), .bool ((rd_T34 l0 x5_1).f6)] 34 (0, 0)) (by (with_reducible repeat (first | refine blk_drewN ?_ _ | refine blk_drew ?_ | refine blk_alloc ?_ _)); refine blk_put (cs := #[.bool true, .string ((rd_T34 l0 x5_1).f1), .string ((rd_T34 l0 x5_1).f2), .string ((rd_T34 l0 x5_1).f3), .int .u32 ((rd_T34 l0 x5_1).f4), .int .u64 ((rd_T34 l0 x5_1).f5), .bool false]) ?_ 6 _ rfl; (with_reducible repeat (first | refine blk_drewN ?_ _ | refine blk_drew ?_ | refine blk_alloc ?_ _)); refine blk_put (cs := #[.bool true, .string ((rd_T34 l0 x5_1).f1), .string ((rd_T34 l0 x5_1).f2), .string ((rd_T34 l0 x5_1).f3), .int .u32 ((rd_T34 l0 x5_1).f4), .int .u64 0, .bool false]) ?_ 5 _ rfl; (with_reducible repeat (first | refine blk_drewN ?_ _ | refine blk_drew ?_ | refine blk_alloc ?_ _)); refine blk_put (cs := #[.bool true, .string ((rd_T34 l0 x5_1).f1), .string ((rd_T34 l0 x5_1).f2), .string ((rd_T34 l0 x5_1).f3), .int .u32 0, .int .u64 0, .bool false]) ?_ 4 _ rfl; (with_reducible repeat (first | refine blk_drewN ?_ _ | refine blk_drew ?_ | refine blk_alloc ?_ _)); refine blk_put (cs := #[.bool true, .string ((rd_T34 l0 x5_1).f1), .string ((rd_T34 l0 x5_1).f2), .string (⟨#[]⟩ : ByteArray), .int .u32 0, .int .u64 0, .bool false]) ?_ 3 _ rfl; (with_reducible repeat (first | refine blk_drewN ?_ _ | refine blk_drew ?_ | refine blk_alloc ?_ _)); refine blk_put (cs := #[.bool true, .string ((rd_T34 l0 x5_1).f1), .string (⟨#[]⟩ : ByteArray), .string (⟨#[]⟩ : ByteArray), .int .u32 0, .int .u64 0, .bool false]) ?_ 2 _ rfl; (with_reducible repeat (first | refine blk_drewN ?_ _ | refine blk_drew ?_ | refine blk_alloc ?_ _)); refine blk_put (cs := #[.bool true, .string (⟨#[]⟩ : ByteArray), .string (⟨#[]⟩ : ByteArray), .string (⟨#[]⟩ : ByteArray), .int .u32 0, .int .u64 0, .bool false]) ?_ 1 _ rfl; (with_reducible repeat (first | refine blk_drewN ?_ _ | refine blk_drew ?_ | refine blk_alloc ?_ _)); refine blk_put (cs := #[.bool false, .string (⟨#[]⟩ : ByteArray), .string (⟨#[]⟩ : ByteArray), .string (⟨#[]⟩ : ByteArray), .int .u32 0, .int .u64 0, .bool false]) ?_ 0 _ rfl; (with_reducible repeat (first | refine blk_drewN ?_ _ | refine blk_drew ?_ | refine blk_alloc ?_ _)); exact BK245.out) hg (Kd.R_ne HO_4.out BK245.out (by decide))); have n1_ := Aside0.mk (hb); have n2_ := Aside0.mk (ho); clear BK245; clear HB; clear HO_4; have BK245 := n0_; have HB := n1_; have HO248 := n2_; clear n0_ n1_ n2_; clear ho hb hg hat))
              go_roundg k1
              case measure => have := HK1.out; omega
              case rel => exact ⟨(y246), (wrap64 (x5_1 + 1)), (by first | rfl | (simp; done) | (simp [*]; done)), H', ⟨by have := HK1.out; omega⟩, ⟨by (with_reducible repeat (first | apply Kd.R_alloc | apply Kd.R_drewN | apply Kd.R_drew)); exact HO248.out⟩, ⟨by repeat (first | (with_reducible first | exact HB.out | apply below_alloc | apply pw_below_drewN | apply below_drew1 | refine below_set ?_ GE245.out) | exact HB.out)⟩⟩
            · rw [if_neg c6] at H
              exact absurd H (by simp)
          · replace c5 := Bool.eq_false_iff.mpr c5
            subst c5
            have H1 : ((cellaretref18_Line.f ((rd_T34 l0 x5_1).f3)).bind fun bt249 => (if x4_1.length < 1759218604441 then (cellaretref17_Ans.l0 k1 l0 (x4_1 ++ [(⟨bt249.1, bt249.2.1, bt249.2.2.1, bt249.2.2.2.1, bt249.2.2.2.2.1, bt249.2.2.2.2.2.1, bt249.2.2.2.2.2.2⟩ : S29)]) (wrap64 (x5_1 + 1))) else (none))) = some (r1, r2) := by rw [if_neg (show ¬ (false = true) by decide)] at H; exact H
            clear H
            have H := H1
            clear H1
            replace H := Option.bind_eq_some_iff.mp H
            obtain ⟨⟨t249, t250, t251, t252, t253, t254, t255⟩, A100, H⟩ := H
            replace H : (if x4_1.length < 1759218604441 then (cellaretref17_Ans.l0 k1 l0 (x4_1 ++ [(⟨t249, t250, t251, t252, t253, t254, t255⟩ : S29)]) (wrap64 (x5_1 + 1))) else (none)) = some (r1, r2) := H
            have A10 := Aside0.mk A100
            clear A100
            by_cases c11 : x4_1.length < 1759218604441
            · rw [if_pos c11] at H
              have LMc11 := Aside0.mk c11
              clear c11
              obtain ⟨y256, hy256⟩ : ∃ y_ : List (S29), y_ = (x4_1 ++ [(⟨t249, t250, t251, t252, t253, t254, t255⟩ : S29)]) := ⟨_, rfl⟩
              replace H : (cellaretref17_Ans.l0 k1 l0 y256 (wrap64 (x5_1 + 1))) = some (r1, r2) := by first | (rw [hy256]; with_reducible exact H) | (have H2_ := (Option.bind_some _ _).symm.trans H; rw [hy256]; with_reducible exact H2_) | (have H2_ := (Option.bind_some _ _).symm.trans H; with_reducible exact H2_) | with_reducible exact H | (rw [hy256]; exact H) | exact H
              have Ny256 := Aside0.mk hy256
              clear hy256
              have H' := Aside0.mk H
              clear H
              have p244 : 0 ≤ (x5_1 : Int) := of_decide_eq_true (by first | (with_reducible assumption) | assumption)
              have q244 : x5_1 < (l0.length : Int) := of_decide_eq_true (by first | (with_reducible assumption) | assumption)
              obtain ⟨ad244, e244, hx244_0, hx244_1, hx244_2, hx244_3, hx244_4, hx244_5, hx244_6⟩ := at_T34 HR0.out x5_1 p244 q244
              (try rw [← Nbq4.out] at hx244_0)
              (try rw [← Nbq4.out] at hx244_6)
              cases e244
              replace hx244_0 := (HB.out.cell (World.block_lt_of_cell? w _ hx244_0)).trans hx244_0
              replace hx244_1 := (HB.out.cell (World.block_lt_of_cell? w _ hx244_1)).trans hx244_1
              replace hx244_2 := (HB.out.cell (World.block_lt_of_cell? w _ hx244_2)).trans hx244_2
              replace hx244_3 := (HB.out.cell (World.block_lt_of_cell? w _ hx244_3)).trans hx244_3
              replace hx244_4 := (HB.out.cell (World.block_lt_of_cell? w _ hx244_4)).trans hx244_4
              replace hx244_5 := (HB.out.cell (World.block_lt_of_cell? w _ hx244_5)).trans hx244_5
              replace hx244_6 := (HB.out.cell (World.block_lt_of_cell? w _ hx244_6)).trans hx244_6
              replace p244 := eq_true p244
              replace q244 := eq_true q244
              go_wp2_with (first | ((with_reducible refine gate_dst (N := 6) rfl ?_); refine box_event ?hg (N := 6) ?hd (cs := #[.bool false, .string (⟨#[]⟩ : ByteArray), .string (⟨#[]⟩ : ByteArray), .string (⟨#[]⟩ : ByteArray), .int .u32 0, .int .u64 0, .bool false]) (t := 34) ?hr ?_; (case hd => rfl); (case hg => rfl); (case hr => first | (go_simp; done) | (go_simp; rfl)); intro gb245 hg w12 hbox hb; have n0_ := Aside0.mk (Kd.R_below (by (with_reducible repeat (first | apply Kd.R_alloc | apply Kd.R_drewN | apply Kd.R_drew)); exact HO_4.out) hb); have n1_ := Aside0.mk (below_step (by repeat (first | (with_reducible first | exact HB.out | apply below_alloc | apply pw_below_drewN | apply below_drew1) | exact HB.out)) hb); have n2_ := Aside0.mk (hbox); have n3_ := Aside0.mk ((by rw [hg]; exact (below_size (by repeat (first | (with_reducible first | exact HB.out | apply below_alloc | apply pw_below_drewN | apply below_drew1) | exact HB.out))) : w.heap.size ≤ gb245)); have n4_ := Aside0.mk ((by rw [hg]; exact (below_size (by repeat (first | (with_reducible first | exact HB.out | apply below_alloc | apply pw_below_drewN | apply below_drew1) | exact HB.out))) : w.heap.size ≤ gb245)); clear HO_4; clear HB; have HO_4 := n0_; have HB := n1_; have BK245 := n2_; have GW245 := n3_; have GE245 := n4_; clear n0_ n1_ n2_ n3_ n4_; clear hb hbox hg; have hcz13_0 : w12.cell? ⟨gb245, 0, none⟩ = some (.bool false) := (blk_cell BK245.out 0).trans rfl; have hcz13_1 : w12.cell? ⟨gb245, 1, none⟩ = some (.string (⟨#[]⟩ : ByteArray)) := (blk_cell BK245.out 1).trans rfl; have hcz13_2 : w12.cell? ⟨gb245, 2, none⟩ = some (.string (⟨#[]⟩ : ByteArray)) := (blk_cell BK245.out 2).trans rfl; have hcz13_3 : w12.cell? ⟨gb245, 3, none⟩ = some (.string (⟨#[]⟩ : ByteArray)) := (blk_cell BK245.out 3).trans rfl; have hcz13_4 : w12.cell? ⟨gb245, 4, none⟩ = some (.int .u32 0) := (blk_cell BK245.out 4).trans rfl; have hcz13_5 : w12.cell? ⟨gb245, 5, none⟩ = some (.int .u64 0) := (blk_cell BK245.out 5).trans rfl; have hcz13_6 : w12.cell? ⟨gb245, 6, none⟩ = some (.bool false) := (blk_cell BK245.out 6).trans rfl; have hfz13_0 := blk_frozen BK245.out 0; have hfz13_1 := blk_frozen BK245.out 1; have hfz13_2 := blk_frozen BK245.out 2; have hfz13_3 := blk_frozen BK245.out 3; have hfz13_4 := blk_frozen BK245.out 4; have hfz13_5 := blk_frozen BK245.out 5; have hfz13_6 := blk_frozen BK245.out 6) | ((with_reducible refine gate_callee (f := 13) rfl ?_); refine goesL_ (some 36) rfl rfl Tryd.func13 (by kernel_rfl) rfl #[.string ((rd_T34 l0 x5_1).f3)] rfl (by (try simp only [List.map_toArray, List.map_cons, List.map_nil]); first | done | rfl | (simp only [List.length_drop, List.length_take]; rfl)) ?_; (with_reducible refine (cellaretref18_Line.calls ((rd_T34 l0 x5_1).f3) t249 t250 t251 t252 t253 t254 t255 _ A10.out).mono ?_); rintro e w14 ⟨rfl, hb⟩; refine ⟨_, rfl, ?_⟩; have n0_ := Aside0.mk (Kd.R_below (by (with_reducible repeat (first | apply Kd.R_alloc | apply Kd.R_drewN | apply Kd.R_drew)); exact (Kd.R_mono (Kd.R_far (p := ⟨gb245, 6, none⟩) (Kd.R_far (p := ⟨gb245, 5, none⟩) (Kd.R_far (p := ⟨gb245, 4, none⟩) (Kd.R_far (p := ⟨gb245, 3, none⟩) (Kd.R_far (p := ⟨gb245, 2, none⟩) (Kd.R_far (p := ⟨gb245, 1, none⟩) (Kd.R_far (p := ⟨gb245, 0, none⟩) (Kd.R_types HO_4.out BK245.out (by decide)) (fun _ hk => hk.2) (.bool false)) (fun _ hk => hk.2) (.string ((rd_T34 l0 x5_1).f1))) (fun _ hk => hk.2) (.string ((rd_T34 l0 x5_1).f2))) (fun _ hk => hk.2) (.string ((rd_T34 l0 x5_1).f3))) (fun _ hk => hk.2) (.int .u32 ((rd_T34 l0 x5_1).f4))) (fun _ hk => hk.2) (.int .u64 ((rd_T34 l0 x5_1).f5))) (fun _ hk => hk.2) (.bool ((rd_T34 l0 x5_1).f6))) (fun _ h_ => h_.1))) hb); have n1_ := Aside0.mk (blk_below (g := gb245) (o := .cells #[.bool false, .string ((rd_T34 l0 x5_1).f1), .string ((rd_T34 l0 x5_1).f2), .string ((rd_T34 l0 x5_1).f3), .int .u32 ((rd_T34 l0 x5_1).f4), .int .u64 ((rd_T34 l0 x5_1).f5), .bool ((rd_T34 l0 x5_1).f6)] 34 (0, 0)) (by (with_reducible repeat (first | refine blk_drewN ?_ _ | refine blk_drew ?_ | refine blk_alloc ?_ _)); refine blk_put (cs := #[.bool false, .string ((rd_T34 l0 x5_1).f1), .string ((rd_T34 l0 x5_1).f2), .string ((rd_T34 l0 x5_1).f3), .int .u32 ((rd_T34 l0 x5_1).f4), .int .u64 ((rd_T34 l0 x5_1).f5), .bool false]) ?_ 6 _ rfl; (with_reducible repeat (first | refine blk_drewN ?_ _ | refine blk_drew ?_ | refine blk_alloc ?_ _)); refine blk_put (cs := #[.bool false, .string ((rd_T34 l0 x5_1).f1), .string ((rd_T34 l0 x5_1).f2), .string ((rd_T34 l0 x5_1).f3), .int .u32 ((rd_T34 l0 x5_1).f4), .int .u64 0, .bool false]) ?_ 5 _ rfl; (with_reducible repeat (first | refine blk_drewN ?_ _ | refine blk_drew ?_ | refine blk_alloc ?_ _)); refine blk_put (cs := #[.bool false, .string ((rd_T34 l0 x5_1).f1), .string ((rd_T34 l0 x5_1).f2), .string ((rd_T34 l0 x5_1).f3), .int .u32 0, .int .u64 0, .bool false]) ?_ 4 _ rfl; (with_reducible repeat (first | refine blk_drewN ?_ _ | refine blk_drew ?_ | refine blk_alloc ?_ _)); refine blk_put (cs := #[.bool false, .string ((rd_T34 l0 x5_1).f1), .string ((rd_T34 l0 x5_1).f2), .string (⟨#[]⟩ : ByteArray), .int .u32 0, .int .u64 0, .bool false]) ?_ 3 _ rfl; (with_reducible repeat (first | refine blk_drewN ?_ _ | refine blk_drew ?_ | refine blk_alloc ?_ _)); refine blk_put (cs := #[.bool false, .string ((rd_T34 l0 x5_1).f1), .string (⟨#[]⟩ : ByteArray), .string (⟨#[]⟩ : ByteArray), .int .u32 0, .int .u64 0, .bool false]) ?_ 2 _ rfl; (with_reducible repeat (first | refine blk_drewN ?_ _ | refine blk_drew ?_ | refine blk_alloc ?_ _)); refine blk_put (cs := #[.bool false, .string (⟨#[]⟩ : ByteArray), .string (⟨#[]⟩ : ByteArray), .string (⟨#[]⟩ : ByteArray), .int .u32 0, .int .u64 0, .bool false]) ?_ 1 _ rfl; (with_reducible repeat (first | refine blk_drewN ?_ _ | refine blk_drew ?_ | refine blk_alloc ?_ _)); refine blk_put (cs := #[.bool false, .string (⟨#[]⟩ : ByteArray), .string (⟨#[]⟩ : ByteArray), .string (⟨#[]⟩ : ByteArray), .int .u32 0, .int .u64 0, .bool false]) ?_ 0 _ rfl; (with_reducible repeat (first | refine blk_drewN ?_ _ | refine blk_drew ?_ | refine blk_alloc ?_ _)); exact BK245.out) hb); have n2_ := Aside0.mk (below_step (by repeat (first | (with_reducible first | exact HB.out | apply below_alloc | apply pw_below_drewN | apply below_drew1 | refine below_set ?_ GE245.out) | exact HB.out)) hb); clear HO_4; clear BK245; clear HB; have HO_4 := n0_; have BK245 := n1_; have HB := n2_; clear n0_ n1_ n2_; (try clear hb); (try clear hb2); (try clear hk); (try clear hi)) | ((with_reducible refine gate_builtin (b := .append) (xs := #[.tmp 33, .tmp 37]) rfl ?_); at_builtin; refine Kd.R_append k29 (w0 := w) w.heap.size rfl (.tmp 33) (.tmp 37) 22 29 (.agg #[(.bool false), (.string ⟨#[]⟩), (.string ⟨#[]⟩), (.string ⟨#[]⟩), (.int .u32 0), (.int .u64 0), (.bool false)]) 80 rfl Tryd.underlying22 info29 rfl (by decide) (by omega) u4 x4_1 (⟨t249, t250, t251, t252, t253, t254, t255⟩ : S29) [.bool t249, .string t250, .string t251, .string t252, .int .u32 t253, .int .u64 t254, .bool t255] (fun _ => True) (fun _ => False) rfl rfl ?aP (fun _ hk => hk.elim) ?aF ?aO ?aB ?aS ?aL ?_; (case aP => exact k29_mkM _ _ _ (⟨t249, t250, t251, t252, t253, t254, t255⟩ : S29)); (case aB => exact (by repeat (first | (with_reducible first | exact HB.out | apply below_alloc | apply pw_below_drewN | apply below_drew1 | refine below_set ?_ GE245.out) | exact HB.out))); (case aF => exact (fun _ _ => trivial)); (case aO => exact (by (with_reducible repeat (first | apply Kd.R_alloc | apply Kd.R_drewN | apply Kd.R_drew)); exact HO_4.out)); (case aS => exact (below_size (by repeat (first | (with_reducible first | exact HB.out | apply below_alloc | apply pw_below_drewN | apply below_drew1 | refine below_set ?_ GE245.out) | exact HB.out)))); (case aL => have := LMc11.out; omega); intro v257 w15 ho hb hg hat; rw [← Ny256.out] at ho; have n0_ := Aside0.mk (blk_grown (g := gb245) (o := .cells #[.bool false, .string ((rd_T34 l0 x5_1).f1), .string ((rd_T34 l0 x5_1).f2), .string ((rd_T34 l0 x5_1).f3), .int .u32 ((rd_T34 l0 x5_1).f4), .int .u64 ((rd_T34 l0 x5_1).f5), .bool ((rd_T34 l0 x5_1).f6)] 34 (0, 0)) (by (with_reducible repeat (first | refine blk_drewN ?_ _ | refine blk_drew ?_ | refine blk_alloc ?_ _)); exact BK245.out) hg (Kd.R_ne HO_4.out BK245.out (by decide))); have n1_ := Aside0.mk (hb); have n2_ := Aside0.mk (ho); clear BK245; clear HB; clear HO_4; have BK245 := n0_; have HB := n1_; have HO258 := n2_; clear n0_ n1_ n2_; clear ho hb hg hat))
              go_roundg k1
              case measure => have := HK1.out; omega
              case rel => exact ⟨(y256), (wrap64 (x5_1 + 1)), (by first | rfl | (simp; done) | (simp [*]; done)), H', ⟨by have := HK1.out; omega⟩, ⟨by (with_reducible repeat (first | apply Kd.R_alloc | apply Kd.R_drewN | apply Kd.R_drew)); exact HO258.out⟩, ⟨by repeat (first | (with_reducible first | exact HB.out | apply below_alloc | apply pw_below_drewN | apply below_drew1 | refine below_set ?_ GE245.out) | exact HB.out)⟩⟩
            · rw [if_neg c11] at H
              exact absurd H (by simp)
        · rw [if_neg c3] at H
          exact absurd H (by simp)
      · rw [if_neg c2] at H
        have c2b0 : decide (x5_1 < (l0.length : Int)) = false := decide_eq_false c2
        clear c2
        simp only [Option.some.injEq, Prod.mk.injEq] at H
        obtain ⟨rfl, rfl⟩ := H
        go_wp2
        go_ret2
        exact ⟨_, by first | rfl | (simp [errW_none, errW_some] <;> rfl) | (simp [*, errW_none, errW_some] <;> rfl), by (with_reducible repeat (first | apply Kd.R_alloc | apply Kd.R_drewN | apply Kd.R_drew)); exact HO_4.out, by repeat (first | (with_reducible first | exact HB.out | apply below_alloc | apply pw_below_drewN | apply below_drew1) | exact HB.out)⟩

end Go.Proofs.YtgopcfkofjipjaaDoor.H
