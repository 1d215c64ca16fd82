/-
  Printed by this session's hybrid.py (it runs the kit's print over contracts of our own for library functions): plain functions with the answers of Go functions, and that the calls come to them. Their conditions stand in each head.
-/
import Derived.Test.YtgopcfkofjipjaaDoorHX0
import Derived.Test.YtgopcfkofjipjaaDoorHX14
namespace Go.Proofs.YtgopcfkofjipjaaDoor.H
open Go.RowKit Go.Proofs.YtgopcfkofjipjaaDoorW.PrintWords Go.Proofs.YtgopcfkofjipjaaDoorW.PrintLast Go.Proofs.YtgopcfkofjipjaaDoorW.PrintMore
attribute [local go_sem] max2_int min2_int max_two min_two max_three min_three max_four min_four   -- for this text's walks alone
set_option linter.unusedVariables false
set_option linter.unusedSimpArgs false

/-! ### reply_Read: function 14 -/
def reply_Read.l0 : Nat → List Int → List (S34) → Int → Option ((List (S34)) × Int)
  | 0, _, _, _ => none
  | k + 1, x0, x4, x5 => if 0 ≤ x5 then (if x5 ≤ (x0.length : Int) then ((reply_one.f k (x0.drop (x5 : Int).toNat)).bind fun bt181 => (if bt181.2.2.2.2.2.2.2 = 0 then (some (x4, x5)) else (if x4.length < 1759218604441 then (reply_Read.l0 k x0 (x4 ++ [(⟨bt181.1, bt181.2.1, bt181.2.2.1, bt181.2.2.2.1, bt181.2.2.2.2.1, bt181.2.2.2.2.2.1, bt181.2.2.2.2.2.2.1⟩ : S34)]) (wrap64 (x5 + bt181.2.2.2.2.2.2.2))) else (none)))) else (none)) else (none)
def reply_Read.f (k : Nat) (l0 : List Int) : Option ((List (S34)) × Int) := reply_Read.l0 k l0 ([] : List (S34)) 0
theorem reply_Read.mono_l : ∀ k, (∀ y0 y1 y2, LeO (reply_Read.l0 k y0 y1 y2) (reply_Read.l0 (k + 1) y0 y1 y2))
  | 0 => fun _ _ _ r h => by simp [reply_Read.l0] at h
  | k + 1 => by
    have ih0 := reply_Read.mono_l k
    · intro y0 y1 y2
      unfold reply_Read.l0
      repeat' first
      | (with_reducible exact ih0 _ _ _)
      | (with_reducible exact reply_one.mono _ _)
      | (with_reducible exact LeO.refl _)
      | (with_reducible exact LeO.none _)
      | (with_reducible refine LeO.ite ?_ ?_)
      | (with_reducible refine LeO.bind ?_ (fun _ => ?_))
      | exact ih0 _ _ _
      | exact reply_one.mono _ _
      | exact LeO.none _
      | refine LeO.ite ?_ ?_
      | refine LeO.bind ?_ (fun _ => ?_)
theorem reply_Read.mono : ∀ a0 k, LeO (reply_Read.f k a0) (reply_Read.f (k + 1) a0) := by
  intro a0 k
  have ih0 := reply_Read.mono_l k
  unfold reply_Read.f
  repeat' first
      | (with_reducible exact ih0 _ _ _)
      | (with_reducible exact reply_one.mono _ _)
      | (with_reducible exact LeO.refl _)
      | (with_reducible exact LeO.none _)
      | (with_reducible refine LeO.ite ?_ ?_)
      | (with_reducible refine LeO.bind ?_ (fun _ => ?_))
      | exact ih0 _ _ _
      | exact reply_one.mono _ _
      | exact LeO.none _
      | refine LeO.ite ?_ ?_
      | refine LeO.bind ?_ (fun _ => ?_)
set_option maxHeartbeats 8000000 in
set_option maxRecDepth 100000 in
theorem reply_Read.calls (k : Nat) (A0 : Option Addr) (c0 : Nat) (l0 : List Int) (r1 : List (S34)) (r2 : Int) (w : World) (HLD : LaidA w) (hr0 : Kd.C (Kd.int .u8) w A0 l0.length l0) (hc0 : l0.length ≤ c0) (h : reply_Read.f k l0 = some (r1, r2)) :
    Calls Tryd.prog 14 #[.slice A0 l0.length c0] w fun e w' => ∃ v0_ : Value, e = .returned (.tuple #[v0_, .int .i64 r2]) ∧ Kd.R k34 34 w' w.heap.size (fun _ => True) v0_ r1 ∧ Below w.heap.size w w' := by
  have hu34 := Tryd.underlying34
  have HR0 := Aside0.mk hr0
  have HC0 := Aside0.mk hc0
  clear hr0 hc0
  have HB := Aside0.mk (Below.refl w.heap.size w)
  have H : (reply_Read.l0 k l0 ([] : List (S34)) 0) = some (r1, r2) := h
  clear h
  have H' := Aside0.mk H
  clear H
  go_enter Tryd.func14, Tryd.ntmps14
  go_wp2
  go_loopg [4, 5] k (fun kq v4 v5 w' => ∃ (x4_1 : List (S34)) (x5_1 : Int), v5 = .int .i64 x5_1 ∧ Aside0 (reply_Read.l0 kq l0 x4_1 x5_1 = some (r1, r2)) ∧ Aside0 (kq ≤ k) ∧ Aside0 (Kd.R k34 34 w' w.heap.size (fun _ => True) v4 x4_1) ∧ Aside0 (Below w.heap.size w w'))
  case atStart => exact ⟨(([] : List (S34))), (0), (by first | rfl | (simp; done) | (simp [*]; done)), H', ⟨Nat.le_refl _⟩, ⟨by first | exact Kd.R_nil _ _ _ _ _ | exact Kd.N_nil _ _ _ _ _ | exact Kd.V_nil _ _ _ _ _ | exact Kd.Q_nil _ _ _ _ _ | exact Kd.S_nil _ _ _ _ _⟩, ⟨by repeat (first | (with_reducible first | exact HB.out | apply below_alloc | apply pw_below_drewN | apply below_drew1) | exact HB.out)⟩⟩
  case round =>
    clear H'
    try clear c1
    obtain ⟨x4_1, x5_1, rfl, HA, HK1, HO_4, HB⟩ := hrel
    cases gk with
    | zero => exact absurd HA.out (by simp [reply_Read.l0])
    | succ k1 =>
      have H := HA.out
      clear HA
      simp only [reply_Read.l0] at H
      by_cases c2 : 0 ≤ x5_1
      · rw [if_pos c2] at H
        have c2b0 := eq_true c2
        have c2b1 : decide (0 ≤ x5_1) = true := decide_eq_true c2
        clear c2
        by_cases c3 : x5_1 ≤ (l0.length : Int)
        · rw [if_pos c3] at H
          have c3b0 := eq_true c3
          have c3b1 : decide (x5_1 ≤ (l0.length : Int)) = true := decide_eq_true c3
          clear c3
          replace H := Option.bind_eq_some_iff.mp H
          obtain ⟨⟨t181, t182, t183, t184, t185, t186, t187, t188⟩, A40, H⟩ := H
          replace H : (if t188 = 0 then (some (x4_1, x5_1)) else (if x4_1.length < 1759218604441 then (reply_Read.l0 k1 l0 (x4_1 ++ [(⟨t181, t182, t183, t184, t185, t186, t187⟩ : S34)]) (wrap64 (x5_1 + t188))) else (none))) = some (r1, r2) := H
          have A4 := Aside0.mk A40
          clear A40
          by_cases c5 : t188 = 0
          · rw [if_pos c5] at H
            have c5b0 : (t188 == 0) = true := beq_iff_eq.mpr c5
            have c5b1 : (t188 != 0) = false := bne_eq_false_iff_eq.mpr c5
            clear c5
            simp only [Option.some.injEq, Prod.mk.injEq] at H
            obtain ⟨rfl, rfl⟩ := H
            obtain ⟨i06, hi06, _, hsz6, _⟩ := info_parts info5
            obtain ⟨A6, hcut6, hA6, hC6⟩ := print_drop_of (P := Tryd.prog) (Value.int .u8) 0 31 5 .i64 Tryd.underlying31 hi06 hsz6 A0 c0 l0 x5_1 (of_decide_eq_true (by first | (with_reducible assumption) | assumption)) (of_decide_eq_true (by first | (with_reducible assumption) | assumption)) HC0.out
            have HR180 := Aside0.mk (Kd.C_of_reads (h1 := fun _ => rfl) (hA6 _ (Kd.reads_of_C HR0.out)))
            have HC180 := Aside0.mk hC6
            clear hA6 hC6 hi06 hsz6
            go_wp2_with (first | ((with_reducible refine gate_callee (f := 19) rfl ?_); refine goesL_ (some 12) rfl rfl Tryd.func19 (by kernel_rfl) rfl #[.slice A6 (l0.drop (x5_1 : Int).toNat).length (c0 - x5_1.toNat)] rfl (by (try simp only [List.map_toArray, List.map_cons, List.map_nil]); first | done | (rw [show (l0.drop (x5_1 : Int).toNat).length = (l0.length - x5_1.toNat) from List.length_drop] <;> rfl) | rfl | (simp only [List.length_drop, List.length_take]; rfl)) ?_; (with_reducible refine (reply_one.calls k1 _ _ (l0.drop (x5_1 : Int).toNat) t181 t182 t183 t184 t185 t186 t187 t188 _ ?side3 ?side1 ?side2 A4.out).mono ?_); (case side1 => repeat (first | exact (Kd.C_below HR180.out HB.out) | (with_reducible refine Kd.C_alloc ?_ _) | (with_reducible refine Kd.C_drewN ?_ _) | (with_reducible refine Kd.C_drew ?_))); (case side2 => exact HC180.out); (case side3 => exact HLD.below (by repeat (first | (with_reducible first | exact HB.out | apply below_alloc | apply pw_below_drewN | apply below_drew1) | exact HB.out))); rintro e w7 ⟨rfl, hb⟩; refine ⟨_, rfl, ?_⟩; have n0_ := Aside0.mk (Kd.R_below (by (with_reducible repeat (first | apply Kd.R_alloc | apply Kd.R_drewN | apply Kd.R_drew)); exact HO_4.out) hb); have n1_ := Aside0.mk (below_step (by repeat (first | (with_reducible first | exact HB.out | apply below_alloc | apply pw_below_drewN | apply below_drew1) | exact HB.out)) hb); clear HO_4; clear HB; have HO_4 := n0_; have HB := n1_; clear n0_ n1_; (try clear hb); (try clear hb2); (try clear hk); (try clear hi)) | ((with_reducible refine gate_dst (N := 6) rfl ?_); refine box_event ?hg (N := 6) ?hd (cs := #[.bool false, .string (⟨#[]⟩ : ByteArray), .string (⟨#[]⟩ : ByteArray), .string (⟨#[]⟩ : ByteArray), .int .u32 0, .int .u64 0, .bool false]) (t := 34) ?hr ?_; (case hd => rfl); (case hg => rfl); (case hr => first | (go_simp; done) | (go_simp; rfl)); intro gb189 hg w8 hbox hb; have n0_ := Aside0.mk (Kd.R_below (Kd.R_elderB (by (with_reducible repeat (first | apply Kd.R_alloc | apply Kd.R_drewN | apply Kd.R_drew)); exact HO_4.out) gb189 (Nat.le_of_eq hg.symm)) hb); have n1_ := Aside0.mk (below_step (by repeat (first | (with_reducible first | exact HB.out | apply below_alloc | apply pw_below_drewN | apply below_drew1) | exact HB.out)) hb); have n2_ := Aside0.mk (hbox); have n3_ := Aside0.mk ((by rw [hg]; exact (below_size (by repeat (first | (with_reducible first | exact HB.out | apply below_alloc | apply pw_below_drewN | apply below_drew1) | exact HB.out))) : w.heap.size ≤ gb189)); have n4_ := Aside0.mk ((by rw [hg]; exact (below_size (by repeat (first | (with_reducible first | exact HB.out | apply below_alloc | apply pw_below_drewN | apply below_drew1) | exact HB.out))) : w.heap.size ≤ gb189)); clear HO_4; clear HB; have HO_4 := n0_; have HB := n1_; have BK189 := n2_; have GW189 := n3_; have GE189 := n4_; clear n0_ n1_ n2_ n3_ n4_; clear hb hbox hg; have hcz9_0 : w8.cell? ⟨gb189, 0, none⟩ = some (.bool false) := (blk_cell BK189.out 0).trans rfl; have hcz9_1 : w8.cell? ⟨gb189, 1, none⟩ = some (.string (⟨#[]⟩ : ByteArray)) := (blk_cell BK189.out 1).trans rfl; have hcz9_2 : w8.cell? ⟨gb189, 2, none⟩ = some (.string (⟨#[]⟩ : ByteArray)) := (blk_cell BK189.out 2).trans rfl; have hcz9_3 : w8.cell? ⟨gb189, 3, none⟩ = some (.string (⟨#[]⟩ : ByteArray)) := (blk_cell BK189.out 3).trans rfl; have hcz9_4 : w8.cell? ⟨gb189, 4, none⟩ = some (.int .u32 0) := (blk_cell BK189.out 4).trans rfl; have hcz9_5 : w8.cell? ⟨gb189, 5, none⟩ = some (.int .u64 0) := (blk_cell BK189.out 5).trans rfl; have hcz9_6 : w8.cell? ⟨gb189, 6, none⟩ = some (.bool false) := (blk_cell BK189.out 6).trans rfl; have hfz9_0 := blk_frozen BK189.out 0; have hfz9_1 := blk_frozen BK189.out 1; have hfz9_2 := blk_frozen BK189.out 2; have hfz9_3 := blk_frozen BK189.out 3; have hfz9_4 := blk_frozen BK189.out 4; have hfz9_5 := blk_frozen BK189.out 5; have hfz9_6 := blk_frozen BK189.out 6))
            go_ret2
            exact ⟨_, by first | rfl | (simp [errW_none, errW_some] <;> rfl) | (simp [*, errW_none, errW_some] <;> rfl), by (with_reducible repeat (first | apply Kd.R_alloc | apply Kd.R_drewN | apply Kd.R_drew)); exact Kd.R_mono (Kd.R_far (p := ⟨gb189, 6, none⟩) (Kd.R_far (p := ⟨gb189, 5, none⟩) (Kd.R_far (p := ⟨gb189, 4, none⟩) (Kd.R_far (p := ⟨gb189, 3, none⟩) (Kd.R_far (p := ⟨gb189, 2, none⟩) (Kd.R_far (p := ⟨gb189, 1, none⟩) (Kd.R_far (p := ⟨gb189, 0, none⟩) (Kd.R_mono HO_4.out (fun k_ hk => (⟨hk, hk.2⟩ : _ ∧ k_ ≠ gb189))) (fun _ hk => hk.2) (.bool t181)) (fun _ hk => hk.2) (.string t182)) (fun _ hk => hk.2) (.string t183)) (fun _ hk => hk.2) (.string t184)) (fun _ hk => hk.2) (.int .u32 t185)) (fun _ hk => hk.2) (.int .u64 t186)) (fun _ hk => hk.2) (.bool t187)) (fun _ hk => trivial), by repeat (first | (with_reducible first | exact HB.out | apply below_alloc | apply pw_below_drewN | apply below_drew1 | refine below_set ?_ GE189.out) | exact HB.out)⟩
          · rw [if_neg c5] at H
            have c5b0 : (t188 == 0) = false := beq_eq_false_iff_ne.mpr c5
            have c5b1 : (t188 != 0) = true := bne_iff_ne.mpr c5
            by_cases c10 : x4_1.length < 1759218604441
            · rw [if_pos c10] at H
              have LMc10 := Aside0.mk c10
              clear c10
              obtain ⟨y190, hy190⟩ : ∃ y_ : List (S34), y_ = (x4_1 ++ [(⟨t181, t182, t183, t184, t185, t186, t187⟩ : S34)]) := ⟨_, rfl⟩
              replace H : (reply_Read.l0 k1 l0 y190 (wrap64 (x5_1 + t188))) = some (r1, r2) := by first | (rw [hy190]; with_reducible exact H) | (have H2_ := (Option.bind_some _ _).symm.trans H; rw [hy190]; with_reducible exact H2_) | (have H2_ := (Option.bind_some _ _).symm.trans H; with_reducible exact H2_) | with_reducible exact H | (rw [hy190]; exact H) | exact H
              have Ny190 := Aside0.mk hy190
              clear hy190
              have H' := Aside0.mk H
              clear H
              obtain ⟨i011, hi011, _, hsz11, _⟩ := info_parts info5
              obtain ⟨A11, hcut11, hA11, hC11⟩ := print_drop_of (P := Tryd.prog) (Value.int .u8) 0 31 5 .i64 Tryd.underlying31 hi011 hsz11 A0 c0 l0 x5_1 (of_decide_eq_true (by first | (with_reducible assumption) | assumption)) (of_decide_eq_true (by first | (with_reducible assumption) | assumption)) HC0.out
              have HR180 := Aside0.mk (Kd.C_of_reads (h1 := fun _ => rfl) (hA11 _ (Kd.reads_of_C HR0.out)))
              have HC180 := Aside0.mk hC11
              clear hA11 hC11 hi011 hsz11
              go_wp2_with (first | ((with_reducible refine gate_callee (f := 19) rfl ?_); refine goesL_ (some 12) rfl rfl Tryd.func19 (by kernel_rfl) rfl #[.slice A11 (l0.drop (x5_1 : Int).toNat).length (c0 - x5_1.toNat)] rfl (by (try simp only [List.map_toArray, List.map_cons, List.map_nil]); first | done | (rw [show (l0.drop (x5_1 : Int).toNat).length = (l0.length - x5_1.toNat) from List.length_drop] <;> rfl) | rfl | (simp only [List.length_drop, List.length_take]; rfl)) ?_; (with_reducible refine (reply_one.calls k1 _ _ (l0.drop (x5_1 : Int).toNat) t181 t182 t183 t184 t185 t186 t187 t188 _ ?side3 ?side1 ?side2 A4.out).mono ?_); (case side1 => repeat (first | exact (Kd.C_below HR180.out HB.out) | (with_reducible refine Kd.C_alloc ?_ _) | (with_reducible refine Kd.C_drewN ?_ _) | (with_reducible refine Kd.C_drew ?_))); (case side2 => exact HC180.out); (case side3 => exact HLD.below (by repeat (first | (with_reducible first | exact HB.out | apply below_alloc | apply pw_below_drewN | apply below_drew1) | exact HB.out))); rintro e w12 ⟨rfl, hb⟩; refine ⟨_, rfl, ?_⟩; have n0_ := Aside0.mk (Kd.R_below (by (with_reducible repeat (first | apply Kd.R_alloc | apply Kd.R_drewN | apply Kd.R_drew)); exact HO_4.out) hb); have n1_ := Aside0.mk (below_step (by repeat (first | (with_reducible first | exact HB.out | apply below_alloc | apply pw_below_drewN | apply below_drew1) | exact HB.out)) hb); clear HO_4; clear HB; have HO_4 := n0_; have HB := n1_; clear n0_ n1_; (try clear hb); (try clear hb2); (try clear hk); (try clear hi)) | ((with_reducible refine gate_dst (N := 6) rfl ?_); refine box_event ?hg (N := 6) ?hd (cs := #[.bool false, .string (⟨#[]⟩ : ByteArray), .string (⟨#[]⟩ : ByteArray), .string (⟨#[]⟩ : ByteArray), .int .u32 0, .int .u64 0, .bool false]) (t := 34) ?hr ?_; (case hd => rfl); (case hg => rfl); (case hr => first | (go_simp; done) | (go_simp; rfl)); intro gb189 hg w13 hbox hb; have n0_ := Aside0.mk (Kd.R_below (Kd.R_elderB (by (with_reducible repeat (first | apply Kd.R_alloc | apply Kd.R_drewN | apply Kd.R_drew)); exact HO_4.out) gb189 (Nat.le_of_eq hg.symm)) hb); have n1_ := Aside0.mk (below_step (by repeat (first | (with_reducible first | exact HB.out | apply below_alloc | apply pw_below_drewN | apply below_drew1) | exact HB.out)) hb); have n2_ := Aside0.mk (hbox); have n3_ := Aside0.mk ((by rw [hg]; exact (below_size (by repeat (first | (with_reducible first | exact HB.out | apply below_alloc | apply pw_below_drewN | apply below_drew1) | exact HB.out))) : w.heap.size ≤ gb189)); have n4_ := Aside0.mk ((by rw [hg]; exact (below_size (by repeat (first | (with_reducible first | exact HB.out | apply below_alloc | apply pw_below_drewN | apply below_drew1) | exact HB.out))) : w.heap.size ≤ gb189)); clear HO_4; clear HB; have HO_4 := n0_; have HB := n1_; have BK189 := n2_; have GW189 := n3_; have GE189 := n4_; clear n0_ n1_ n2_ n3_ n4_; clear hb hbox hg; have hcz14_0 : w13.cell? ⟨gb189, 0, none⟩ = some (.bool false) := (blk_cell BK189.out 0).trans rfl; have hcz14_1 : w13.cell? ⟨gb189, 1, none⟩ = some (.string (⟨#[]⟩ : ByteArray)) := (blk_cell BK189.out 1).trans rfl; have hcz14_2 : w13.cell? ⟨gb189, 2, none⟩ = some (.string (⟨#[]⟩ : ByteArray)) := (blk_cell BK189.out 2).trans rfl; have hcz14_3 : w13.cell? ⟨gb189, 3, none⟩ = some (.string (⟨#[]⟩ : ByteArray)) := (blk_cell BK189.out 3).trans rfl; have hcz14_4 : w13.cell? ⟨gb189, 4, none⟩ = some (.int .u32 0) := (blk_cell BK189.out 4).trans rfl; have hcz14_5 : w13.cell? ⟨gb189, 5, none⟩ = some (.int .u64 0) := (blk_cell BK189.out 5).trans rfl; have hcz14_6 : w13.cell? ⟨gb189, 6, none⟩ = some (.bool false) := (blk_cell BK189.out 6).trans rfl; have hfz14_0 := blk_frozen BK189.out 0; have hfz14_1 := blk_frozen BK189.out 1; have hfz14_2 := blk_frozen BK189.out 2; have hfz14_3 := blk_frozen BK189.out 3; have hfz14_4 := blk_frozen BK189.out 4; have hfz14_5 := blk_frozen BK189.out 5; have hfz14_6 := blk_frozen BK189.out 6) | ((with_reducible refine gate_builtin (b := .append) (xs := #[.tmp 19, .tmp 21]) rfl ?_); at_builtin; refine Kd.R_append k34 (w0 := w) w.heap.size rfl (.tmp 19) (.tmp 21) 24 34 (.agg #[(.bool false), (.string ⟨#[]⟩), (.string ⟨#[]⟩), (.string ⟨#[]⟩), (.int .u32 0), (.int .u64 0), (.bool false)]) 80 rfl Tryd.underlying24 info34 rfl (by decide) (by omega) u4 x4_1 (⟨t181, t182, t183, t184, t185, t186, t187⟩ : S34) [.bool t181, .string t182, .string t183, .string t184, .int .u32 t185, .int .u64 t186, .bool t187] (fun k_ => k_ ≠ gb189) (fun _ => False) rfl (by first | (go_simp; done) | (go_simp; rfl)) ?aP (fun _ hk => hk.elim) ?aF ?aO ?aB ?aS ?aL ?_; (case aP => exact k34_mkM _ _ _ (⟨t181, t182, t183, t184, t185, t186, t187⟩ : S34)); (case aB => exact (by repeat (first | (with_reducible first | exact HB.out | apply below_alloc | apply pw_below_drewN | apply below_drew1 | refine below_set ?_ GE189.out) | exact HB.out))); (case aF => exact (fun k_ hk => Kd.freshB (g := gb189) (o := .cells #[.bool t181, .string t182, .string t183, .string t184, .int .u32 t185, .int .u64 t186, .bool t187] 34 (0, 0)) (by (with_reducible repeat (first | refine blk_drewN ?_ _ | refine blk_drew ?_ | refine blk_alloc ?_ _)); refine blk_put (cs := #[.bool t181, .string t182, .string t183, .string t184, .int .u32 t185, .int .u64 t186, .bool false]) ?_ 6 _ rfl; (with_reducible repeat (first | refine blk_drewN ?_ _ | refine blk_drew ?_ | refine blk_alloc ?_ _)); refine blk_put (cs := #[.bool t181, .string t182, .string t183, .string t184, .int .u32 t185, .int .u64 0, .bool false]) ?_ 5 _ rfl; (with_reducible repeat (first | refine blk_drewN ?_ _ | refine blk_drew ?_ | refine blk_alloc ?_ _)); refine blk_put (cs := #[.bool t181, .string t182, .string t183, .string t184, .int .u32 0, .int .u64 0, .bool false]) ?_ 4 _ rfl; (with_reducible repeat (first | refine blk_drewN ?_ _ | refine blk_drew ?_ | refine blk_alloc ?_ _)); refine blk_put (cs := #[.bool t181, .string t182, .string t183, .string (⟨#[]⟩ : ByteArray), .int .u32 0, .int .u64 0, .bool false]) ?_ 3 _ rfl; (with_reducible repeat (first | refine blk_drewN ?_ _ | refine blk_drew ?_ | refine blk_alloc ?_ _)); refine blk_put (cs := #[.bool t181, .string t182, .string (⟨#[]⟩ : ByteArray), .string (⟨#[]⟩ : ByteArray), .int .u32 0, .int .u64 0, .bool false]) ?_ 2 _ rfl; (with_reducible repeat (first | refine blk_drewN ?_ _ | refine blk_drew ?_ | refine blk_alloc ?_ _)); refine blk_put (cs := #[.bool t181, .string (⟨#[]⟩ : ByteArray), .string (⟨#[]⟩ : ByteArray), .string (⟨#[]⟩ : ByteArray), .int .u32 0, .int .u64 0, .bool false]) ?_ 1 _ rfl; (with_reducible repeat (first | refine blk_drewN ?_ _ | refine blk_drew ?_ | refine blk_alloc ?_ _)); refine blk_put (cs := #[.bool false, .string (⟨#[]⟩ : ByteArray), .string (⟨#[]⟩ : ByteArray), .string (⟨#[]⟩ : ByteArray), .int .u32 0, .int .u64 0, .bool false]) ?_ 0 _ rfl; (with_reducible repeat (first | refine blk_drewN ?_ _ | refine blk_drew ?_ | refine blk_alloc ?_ _)); exact BK189.out) k_ hk)); (case aO => exact (by (with_reducible repeat (first | apply Kd.R_alloc | apply Kd.R_drewN | apply Kd.R_drew)); exact Kd.R_mono (Kd.R_far (p := ⟨gb189, 6, none⟩) (Kd.R_far (p := ⟨gb189, 5, none⟩) (Kd.R_far (p := ⟨gb189, 4, none⟩) (Kd.R_far (p := ⟨gb189, 3, none⟩) (Kd.R_far (p := ⟨gb189, 2, none⟩) (Kd.R_far (p := ⟨gb189, 1, none⟩) (Kd.R_far (p := ⟨gb189, 0, none⟩) (Kd.R_mono HO_4.out (fun k_ hk => (⟨hk, hk.2⟩ : _ ∧ k_ ≠ gb189))) (fun _ hk => hk.2) (.bool t181)) (fun _ hk => hk.2) (.string t182)) (fun _ hk => hk.2) (.string t183)) (fun _ hk => hk.2) (.string t184)) (fun _ hk => hk.2) (.int .u32 t185)) (fun _ hk => hk.2) (.int .u64 t186)) (fun _ hk => hk.2) (.bool t187)) (fun _ hk => hk.1.2))); (case aS => exact (below_size (by repeat (first | (with_reducible first | exact HB.out | apply below_alloc | apply pw_below_drewN | apply below_drew1 | refine below_set ?_ GE189.out) | exact HB.out)))); (case aL => have := LMc10.out; omega); intro v191 w15 ho hb hg hat; rw [← Ny190.out] at ho; have n0_ := Aside0.mk (blk_grown (g := gb189) (o := .cells #[.bool t181, .string t182, .string t183, .string t184, .int .u32 t185, .int .u64 t186, .bool t187] 34 (0, 0)) (by (with_reducible repeat (first | refine blk_drewN ?_ _ | refine blk_drew ?_ | refine blk_alloc ?_ _)); refine blk_put (cs := #[.bool t181, .string t182, .string t183, .string t184, .int .u32 t185, .int .u64 t186, .bool false]) ?_ 6 _ rfl; (with_reducible repeat (first | refine blk_drewN ?_ _ | refine blk_drew ?_ | refine blk_alloc ?_ _)); refine blk_put (cs := #[.bool t181, .string t182, .string t183, .string t184, .int .u32 t185, .int .u64 0, .bool false]) ?_ 5 _ rfl; (with_reducible repeat (first | refine blk_drewN ?_ _ | refine blk_drew ?_ | refine blk_alloc ?_ _)); refine blk_put (cs := #[.bool t181, .string t182, .string t183, .string t184, .int .u32 0, .int .u64 0, .bool false]) ?_ 4 _ rfl; (with_reducible repeat (first | refine blk_drewN ?_ _ | refine blk_drew ?_ | refine blk_alloc ?_ _)); refine blk_put (cs := #[.bool t181, .string t182, .string t183, .string (⟨#[]⟩ : ByteArray), .int .u32 0, .int .u64 0, .bool false]) ?_ 3 _ rfl; (with_reducible repeat (first | refine blk_drewN ?_ _ | refine blk_drew ?_ | refine blk_alloc ?_ _)); refine blk_put (cs := #[.bool t181, .string t182, .string (⟨#[]⟩ : ByteArray), .string (⟨#[]⟩ : ByteArray), .int .u32 0, .int .u64 0, .bool false]) ?_ 2 _ rfl; (with_reducible repeat (first | refine blk_drewN ?_ _ | refine blk_drew ?_ | refine blk_alloc ?_ _)); refine blk_put (cs := #[.bool t181, .string (⟨#[]⟩ : ByteArray), .string (⟨#[]⟩ : ByteArray), .string (⟨#[]⟩ : ByteArray), .int .u32 0, .int .u64 0, .bool false]) ?_ 1 _ rfl; (with_reducible repeat (first | refine blk_drewN ?_ _ | refine blk_drew ?_ | refine blk_alloc ?_ _)); refine blk_put (cs := #[.bool false, .string (⟨#[]⟩ : ByteArray), .string (⟨#[]⟩ : ByteArray), .string (⟨#[]⟩ : ByteArray), .int .u32 0, .int .u64 0, .bool false]) ?_ 0 _ rfl; (with_reducible repeat (first | refine blk_drewN ?_ _ | refine blk_drew ?_ | refine blk_alloc ?_ _)); exact BK189.out) hg (Kd.R_away HO_4.out (fun _ hk => hk.2))); have n1_ := Aside0.mk (hb); have n2_ := Aside0.mk (ho); clear BK189; clear HB; clear HO_4; have BK189 := n0_; have HB := n1_; have HO192 := n2_; clear n0_ n1_ n2_; clear ho hb hg hat))
              go_roundg k1
              case measure => have := HK1.out; omega
              case rel => exact ⟨(y190), (wrap64 (x5_1 + t188)), (by first | rfl | (simp; done) | (simp [*]; done)), H', ⟨by have := HK1.out; omega⟩, ⟨by (with_reducible repeat (first | apply Kd.R_alloc | apply Kd.R_drewN | apply Kd.R_drew)); exact Kd.R_mono HO192.out (fun _ hk => trivial)⟩, ⟨by repeat (first | (with_reducible first | exact HB.out | apply below_alloc | apply pw_below_drewN | apply below_drew1 | refine below_set ?_ GE189.out) | exact HB.out)⟩⟩
            · rw [if_neg c10] at H
              exact absurd H (by simp)
        · rw [if_neg c3] at H
          exact absurd H (by simp)
      · rw [if_neg c2] at H
        exact absurd H (by simp)

end Go.Proofs.YtgopcfkofjipjaaDoor.H
