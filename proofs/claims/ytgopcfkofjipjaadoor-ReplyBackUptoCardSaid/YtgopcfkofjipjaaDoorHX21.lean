/-
  Printed by this session's hybrid.py (it runs the kit's print over contracts of our own for library functions): plain functions with the answers of Go functions, and that the calls come to them. Their conditions stand in each head.
-/
import Derived.Test.YtgopcfkofjipjaaDoorHX0
namespace Go.Proofs.YtgopcfkofjipjaaDoor.H
open Go.RowKit Go.Proofs.YtgopcfkofjipjaaDoorW.PrintWords Go.Proofs.YtgopcfkofjipjaaDoorW.PrintLast Go.Proofs.YtgopcfkofjipjaaDoorW.PrintMore
attribute [local go_sem] max2_int min2_int max_two min_two max_three min_three max_four min_four   -- for this text's walks alone
set_option linter.unusedVariables false
set_option linter.unusedSimpArgs false

/-! ### cellaretlaw19_fair: function 12 -/
mutual
def cellaretlaw19_fair.j0 : Nat → ByteArray → Bool → ByteArray → ByteArray → ByteArray → Int → Int → Bool → Option (Bool)
  | 0, _, _, _, _, _, _, _, _ => none
  | k + 1, x3, x243000, x243001, x243002, x243003, x243004, x243005, x243006 => cellaretlaw19_fair.l0 k x3 0 x243000 x243001 x243002 x243003 x243004 x243005 x243006
def cellaretlaw19_fair.l0 : Nat → ByteArray → Int → Bool → ByteArray → ByteArray → ByteArray → Int → Int → Bool → Option (Bool)
  | 0, _, _, _, _, _, _, _, _, _ => none
  | k + 1, x3, x4, x243000, x243001, x243002, x243003, x243004, x243005, x243006 => if x4 < (x3.size : Int) then (if 0 ≤ x4 then (if (bt x3 x4) = 10 then (some false) else (if (bt x3 x4) = 13 then (some false) else (if x243000 = true then (if (bt x3 x4) = 32 then (some false) else (cellaretlaw19_fair.l0 k x3 (wrap64 (x4 + 1)) x243000 x243001 x243002 x243003 x243004 x243005 x243006)) else (cellaretlaw19_fair.l0 k x3 (wrap64 (x4 + 1)) x243000 x243001 x243002 x243003 x243004 x243005 x243006)))) else (none)) else (if x243000 = true then (some true) else (if (x3.size : Int) < 6 then (some true) else (if 0 ≤ 6 then (if 6 ≤ (x3.size : Int) then (some ((x3.extract 0 6).toList != ([86, 65, 76, 85, 69, 32] : List UInt8))) else (none)) else (none))))
end
def cellaretlaw19_fair.f (k : Nat) (a0_0 : Bool) (a0_1 : ByteArray) (a0_2 : ByteArray) (a0_3 : ByteArray) (a0_4 : Int) (a0_5 : Int) (a0_6 : Bool) : Option (Bool) := if a0_0 = true then (if a0_2.toList = ([] : List UInt8) then (some false) else (cellaretlaw19_fair.j0 k a0_2 a0_0 a0_1 a0_2 a0_3 a0_4 a0_5 a0_6)) else (cellaretlaw19_fair.j0 k a0_1 a0_0 a0_1 a0_2 a0_3 a0_4 a0_5 a0_6)
theorem cellaretlaw19_fair.mono_l : ∀ k, (∀ y0 y1 y2 y3 y4 y5 y6 y7, LeO (cellaretlaw19_fair.j0 k y0 y1 y2 y3 y4 y5 y6 y7) (cellaretlaw19_fair.j0 (k + 1) y0 y1 y2 y3 y4 y5 y6 y7)) ∧ (∀ y0 y1 y2 y3 y4 y5 y6 y7 y8, LeO (cellaretlaw19_fair.l0 k y0 y1 y2 y3 y4 y5 y6 y7 y8) (cellaretlaw19_fair.l0 (k + 1) y0 y1 y2 y3 y4 y5 y6 y7 y8))
  | 0 => ⟨fun _ _ _ _ _ _ _ _ r h => by simp [cellaretlaw19_fair.j0] at h, fun _ _ _ _ _ _ _ _ _ r h => by simp [cellaretlaw19_fair.l0] at h⟩
  | k + 1 => by
    obtain ⟨ih0, ih1⟩ := cellaretlaw19_fair.mono_l k
    refine ⟨?_, ?_⟩
    · intro y0 y1 y2 y3 y4 y5 y6 y7
      unfold cellaretlaw19_fair.j0
      repeat' first
      | (with_reducible exact ih0 _ _ _ _ _ _ _ _)
      | (with_reducible exact ih1 _ _ _ _ _ _ _ _ _)
      | (with_reducible exact LeO.refl _)
      | (with_reducible exact LeO.none _)
      | (with_reducible refine LeO.ite ?_ ?_)
      | (with_reducible refine LeO.bind ?_ (fun _ => ?_))
      | exact ih0 _ _ _ _ _ _ _ _
      | exact ih1 _ _ _ _ _ _ _ _ _
      | exact LeO.none _
      | refine LeO.ite ?_ ?_
      | refine LeO.bind ?_ (fun _ => ?_)
    · intro y0 y1 y2 y3 y4 y5 y6 y7 y8
      unfold cellaretlaw19_fair.l0
      repeat' first
      | (with_reducible exact ih0 _ _ _ _ _ _ _ _)
      | (with_reducible exact ih1 _ _ _ _ _ _ _ _ _)
      | (with_reducible exact LeO.refl _)
      | (with_reducible exact LeO.none _)
      | (with_reducible refine LeO.ite ?_ ?_)
      | (with_reducible refine LeO.bind ?_ (fun _ => ?_))
      | exact ih0 _ _ _ _ _ _ _ _
      | exact ih1 _ _ _ _ _ _ _ _ _
      | exact LeO.none _
      | refine LeO.ite ?_ ?_
      | refine LeO.bind ?_ (fun _ => ?_)
theorem cellaretlaw19_fair.mono : ∀ a0 a1 a2 a3 a4 a5 a6 k, LeO (cellaretlaw19_fair.f k a0 a1 a2 a3 a4 a5 a6) (cellaretlaw19_fair.f (k + 1) a0 a1 a2 a3 a4 a5 a6) := by
  intro a0 a1 a2 a3 a4 a5 a6 k
  obtain ⟨ih0, ih1⟩ := cellaretlaw19_fair.mono_l k
  unfold cellaretlaw19_fair.f
  repeat' first
      | (with_reducible exact ih0 _ _ _ _ _ _ _ _)
      | (with_reducible exact ih1 _ _ _ _ _ _ _ _ _)
      | (with_reducible exact LeO.refl _)
      | (with_reducible exact LeO.none _)
      | (with_reducible refine LeO.ite ?_ ?_)
      | (with_reducible refine LeO.bind ?_ (fun _ => ?_))
      | exact ih0 _ _ _ _ _ _ _ _
      | exact ih1 _ _ _ _ _ _ _ _ _
      | exact LeO.none _
      | refine LeO.ite ?_ ?_
      | refine LeO.bind ?_ (fun _ => ?_)
set_option maxHeartbeats 8000000 in
set_option maxRecDepth 100000 in
theorem cellaretlaw19_fair.calls (k : Nat) (a0_0 : Bool) (a0_1 : ByteArray) (a0_2 : ByteArray) (a0_3 : ByteArray) (a0_4 : Int) (a0_5 : Int) (a0_6 : Bool) (r : Bool) (w : World) (h : cellaretlaw19_fair.f k a0_0 a0_1 a0_2 a0_3 a0_4 a0_5 a0_6 = some r) :
    Calls Tryd.prog 12 #[.agg #[.bool a0_0, .string a0_1, .string a0_2, .string a0_3, .int .u32 a0_4, .int .u64 a0_5, .bool a0_6]] w fun e w' => e = .returned (.bool r) ∧ Below w.heap.size w w' := by
  have hu29 := Tryd.underlying29
  have HB := Aside0.mk (Below.refl w.heap.size w)
  have H : (if a0_0 = true then (if a0_2.toList = ([] : List UInt8) then (some false) else (cellaretlaw19_fair.j0 k a0_2 a0_0 a0_1 a0_2 a0_3 a0_4 a0_5 a0_6)) else (cellaretlaw19_fair.j0 k a0_1 a0_0 a0_1 a0_2 a0_3 a0_4 a0_5 a0_6)) = some r := h
  clear h
  have HC2 := Aside0.mk H
  clear H
  go_enter Tryd.func12, Tryd.ntmps12
  go_upto_if 8 with (first | ((with_reducible refine gate_dst (N := 1) rfl ?_); (try (refine gate_guard (by rfl) ?_; dsimp only)); refine box_event ?hg (N := 1) ?hd (cs := #[.bool a0_0, .string a0_1, .string a0_2, .string a0_3, .int .u32 a0_4, .int .u64 a0_5, .bool a0_6]) (t := 29) ?hr ?_; (case hd => rfl); (case hg => rfl); (case hr => first | (go_simp; done) | (go_simp; rfl)); intro gb242 hg w3 hbox hb; have n0_ := Aside0.mk (below_step (by repeat (first | (with_reducible first | exact HB.out | apply below_alloc | apply pw_below_drewN | apply below_drew1) | exact HB.out)) hb); have n1_ := Aside0.mk (hbox); have n2_ := Aside0.mk ((by rw [hg]; exact (below_size (by repeat (first | (with_reducible first | exact HB.out | apply below_alloc | apply pw_below_drewN | apply below_drew1) | exact HB.out))) : w.heap.size ≤ gb242)); have n3_ := Aside0.mk ((by rw [hg]; exact (below_size (by repeat (first | (with_reducible first | exact HB.out | apply below_alloc | apply pw_below_drewN | apply below_drew1) | exact HB.out))) : w.heap.size ≤ gb242)); clear HB; have HB := n0_; have BK242 := n1_; have GW242 := n2_; have GE242 := n3_; clear n0_ n1_ n2_ n3_; clear hb hbox hg; have hcz4_0 : w3.cell? ⟨gb242, 0, none⟩ = some (.bool a0_0) := (blk_cell BK242.out 0).trans rfl; have hcz4_1 : w3.cell? ⟨gb242, 1, none⟩ = some (.string a0_1) := (blk_cell BK242.out 1).trans rfl; have hcz4_2 : w3.cell? ⟨gb242, 2, none⟩ = some (.string a0_2) := (blk_cell BK242.out 2).trans rfl; have hcz4_3 : w3.cell? ⟨gb242, 3, none⟩ = some (.string a0_3) := (blk_cell BK242.out 3).trans rfl; have hcz4_4 : w3.cell? ⟨gb242, 4, none⟩ = some (.int .u32 a0_4) := (blk_cell BK242.out 4).trans rfl; have hcz4_5 : w3.cell? ⟨gb242, 5, none⟩ = some (.int .u64 a0_5) := (blk_cell BK242.out 5).trans rfl; have hcz4_6 : w3.cell? ⟨gb242, 6, none⟩ = some (.bool a0_6) := (blk_cell BK242.out 6).trans rfl; have hfz4_0 := blk_frozen BK242.out 0; have hfz4_1 := blk_frozen BK242.out 1; have hfz4_2 := blk_frozen BK242.out 2; have hfz4_3 := blk_frozen BK242.out 3; have hfz4_4 := blk_frozen BK242.out 4; have hfz4_5 := blk_frozen BK242.out 5; have hfz4_6 := blk_frozen BK242.out 6))
  (try simp only [Act.put, List.setIfInBounds_toArray, List.set_cons_zero, List.set_cons_succ])
  go_cut [3] (fun v3 wc => ∃ (kq : Nat) (x3_1 : ByteArray), v3 = .string x3_1 ∧ Aside0 (cellaretlaw19_fair.j0 kq x3_1 a0_0 a0_1 a0_2 a0_3 a0_4 a0_5 a0_6 = some r) ∧ Aside0 (kq ≤ k) ∧ Aside0 (wc.heap[gb242]? = some (.cells #[.bool a0_0, .string a0_1, .string a0_2, .string a0_3, .int .u32 a0_4, .int .u64 a0_5, .bool a0_6] 29 (0, 0))) ∧ Aside0 (Below w.heap.size w wc))
  case first =>
    have H := HC2.out
    clear HC2
    by_cases c5 : a0_0 = true
    · subst c5
      have H1 : (if a0_2.toList = ([] : List UInt8) then (some false) else (cellaretlaw19_fair.j0 k a0_2 true a0_1 a0_2 a0_3 a0_4 a0_5 a0_6)) = some r := by rw [if_pos rfl] at H; exact H
      clear H
      have H := H1
      clear H1
      by_cases c6 : a0_2.toList = ([] : List UInt8)
      · rw [if_pos c6] at H
        have c6b0 : (a0_2.toList == ([] : List UInt8)) = true := beq_iff_eq.mpr c6
        have c6b1 : (a0_2.toList != ([] : List UInt8)) = false := bne_eq_false_iff_eq.mpr c6
        clear c6
        (first | rw [c6b0] | (simp only [i64_w, i32_w]; rw [c6b0]) | skip)
        obtain rfl := Option.some.inj H
        have hcz7_0 : w3.cell? ⟨gb242, 0, none⟩ = some (.bool true) := (blk_cell BK242.out 0).trans rfl
        have hcz7_1 : w3.cell? ⟨gb242, 1, none⟩ = some (.string a0_1) := (blk_cell BK242.out 1).trans rfl
        have hcz7_2 : w3.cell? ⟨gb242, 2, none⟩ = some (.string a0_2) := (blk_cell BK242.out 2).trans rfl
        have hcz7_3 : w3.cell? ⟨gb242, 3, none⟩ = some (.string a0_3) := (blk_cell BK242.out 3).trans rfl
        have hcz7_4 : w3.cell? ⟨gb242, 4, none⟩ = some (.int .u32 a0_4) := (blk_cell BK242.out 4).trans rfl
        have hcz7_5 : w3.cell? ⟨gb242, 5, none⟩ = some (.int .u64 a0_5) := (blk_cell BK242.out 5).trans rfl
        have hcz7_6 : w3.cell? ⟨gb242, 6, none⟩ = some (.bool a0_6) := (blk_cell BK242.out 6).trans rfl
        have hfz7_0 := blk_frozen BK242.out 0
        have hfz7_1 := blk_frozen BK242.out 1
        have hfz7_2 := blk_frozen BK242.out 2
        have hfz7_3 := blk_frozen BK242.out 3
        have hfz7_4 := blk_frozen BK242.out 4
        have hfz7_5 := blk_frozen BK242.out 5
        have hfz7_6 := blk_frozen BK242.out 6
        go_wp2
        go_ret
        exact ⟨by first | rfl | (simp [errW_none, errW_some] <;> rfl) | (simp [*, errW_none, errW_some] <;> rfl), by repeat (first | (with_reducible first | exact HB.out | apply below_alloc | apply pw_below_drewN | apply below_drew1 | refine below_set ?_ GE242.out) | exact HB.out)⟩
      · rw [if_neg c6] at H
        have c6b0 : (a0_2.toList == ([] : List UInt8)) = false := beq_eq_false_iff_ne.mpr c6
        have c6b1 : (a0_2.toList != ([] : List UInt8)) = true := bne_iff_ne.mpr c6
        (first | rw [c6b0] | (simp only [i64_w, i32_w]; rw [c6b0]) | skip)
        have H' := Aside0.mk H
        clear H
        have hcz8_0 : w3.cell? ⟨gb242, 0, none⟩ = some (.bool true) := (blk_cell BK242.out 0).trans rfl
        have hcz8_1 : w3.cell? ⟨gb242, 1, none⟩ = some (.string a0_1) := (blk_cell BK242.out 1).trans rfl
        have hcz8_2 : w3.cell? ⟨gb242, 2, none⟩ = some (.string a0_2) := (blk_cell BK242.out 2).trans rfl
        have hcz8_3 : w3.cell? ⟨gb242, 3, none⟩ = some (.string a0_3) := (blk_cell BK242.out 3).trans rfl
        have hcz8_4 : w3.cell? ⟨gb242, 4, none⟩ = some (.int .u32 a0_4) := (blk_cell BK242.out 4).trans rfl
        have hcz8_5 : w3.cell? ⟨gb242, 5, none⟩ = some (.int .u64 a0_5) := (blk_cell BK242.out 5).trans rfl
        have hcz8_6 : w3.cell? ⟨gb242, 6, none⟩ = some (.bool a0_6) := (blk_cell BK242.out 6).trans rfl
        have hfz8_0 := blk_frozen BK242.out 0
        have hfz8_1 := blk_frozen BK242.out 1
        have hfz8_2 := blk_frozen BK242.out 2
        have hfz8_3 := blk_frozen BK242.out 3
        have hfz8_4 := blk_frozen BK242.out 4
        have hfz8_5 := blk_frozen BK242.out 5
        have hfz8_6 := blk_frozen BK242.out 6
        go_wp2
        go_meet
        case rel => exact ⟨_, (a0_2), (by first | rfl | (simp; done) | (simp [*]; done)), H', ⟨by first | omega | exact Nat.le_refl _⟩, ⟨by (with_reducible repeat (first | refine blk_drewN ?_ _ | refine blk_drew ?_ | refine blk_alloc ?_ _)); exact BK242.out⟩, ⟨by repeat (first | (with_reducible first | exact HB.out | apply below_alloc | apply pw_below_drewN | apply below_drew1 | refine below_set ?_ GE242.out) | exact HB.out)⟩⟩
    · replace c5 := Bool.eq_false_iff.mpr c5
      subst c5
      have H1 : (cellaretlaw19_fair.j0 k a0_1 false a0_1 a0_2 a0_3 a0_4 a0_5 a0_6) = some r := by rw [if_neg (show ¬ (false = true) by decide)] at H; exact H
      clear H
      have H := H1
      clear H1
      have H' := Aside0.mk H
      clear H
      go_wp2
      go_meet
      case rel => exact ⟨_, (a0_1), (by first | rfl | (simp; done) | (simp [*]; done)), H', ⟨by first | omega | exact Nat.le_refl _⟩, ⟨by (with_reducible repeat (first | refine blk_drewN ?_ _ | refine blk_drew ?_ | refine blk_alloc ?_ _)); exact BK242.out⟩, ⟨by repeat (first | (with_reducible first | exact HB.out | apply below_alloc | apply pw_below_drewN | apply below_drew1 | refine below_set ?_ GE242.out) | exact HB.out)⟩⟩
  case rest =>
    clear HC2
    try clear c1
    try clear p2
    try clear c5
    try clear c6
    try clear c6b0
    try clear c6b1
    try clear hcz4_0
    try clear hcz4_1
    try clear hcz4_2
    try clear hcz4_3
    try clear hcz4_4
    try clear hcz4_5
    try clear hcz4_6
    try clear hcz7_0
    try clear hcz7_1
    try clear hcz7_2
    try clear hcz7_3
    try clear hcz7_4
    try clear hcz7_5
    try clear hcz7_6
    try clear hcz8_0
    try clear hcz8_1
    try clear hcz8_2
    try clear hcz8_3
    try clear hcz8_4
    try clear hcz8_5
    try clear hcz8_6
    try clear hfz4_0
    try clear hfz4_1
    try clear hfz4_2
    try clear hfz4_3
    try clear hfz4_4
    try clear hfz4_5
    try clear hfz4_6
    try clear hfz7_0
    try clear hfz7_1
    try clear hfz7_2
    try clear hfz7_3
    try clear hfz7_4
    try clear hfz7_5
    try clear hfz7_6
    try clear hfz8_0
    try clear hfz8_1
    try clear hfz8_2
    try clear hfz8_3
    try clear hfz8_4
    try clear hfz8_5
    try clear hfz8_6
    obtain ⟨kq, x3_1, rfl, HA, HJ1, BK242, HB⟩ := hcut
    cases kq with
    | zero => exact absurd HA.out (by simp [cellaretlaw19_fair.j0])
    | succ kj1 =>
      have H := HA.out
      clear HA
      simp only [cellaretlaw19_fair.j0] at H
      have H' := Aside0.mk H
      clear H
      go_wp2
      go_loopg [4] kj1 (fun kq v4 w' => ∃ (x4_2 : Int), v4 = .int .i64 x4_2 ∧ Aside0 (cellaretlaw19_fair.l0 kq x3_1 x4_2 a0_0 a0_1 a0_2 a0_3 a0_4 a0_5 a0_6 = some r) ∧ Aside0 (kq ≤ kj1) ∧ Aside0 (w'.heap[gb242]? = some (.cells #[.bool a0_0, .string a0_1, .string a0_2, .string a0_3, .int .u32 a0_4, .int .u64 a0_5, .bool a0_6] 29 (0, 0))) ∧ Aside0 (Below w.heap.size w w'))
      case atStart => exact ⟨(0), (by first | rfl | (simp; done) | (simp [*]; done)), H', ⟨Nat.le_refl _⟩, ⟨by (with_reducible repeat (first | refine blk_drewN ?_ _ | refine blk_drew ?_ | refine blk_alloc ?_ _)); exact BK242.out⟩, ⟨by repeat (first | (with_reducible first | exact HB.out | apply below_alloc | apply pw_below_drewN | apply below_drew1 | refine below_set ?_ GE242.out) | exact HB.out)⟩⟩
      case round =>
        clear H'
        try clear c1
        try clear p2
        try clear c5
        try clear c6
        try clear c6b0
        try clear c6b1
        try clear hcz4_0
        try clear hcz4_1
        try clear hcz4_2
        try clear hcz4_3
        try clear hcz4_4
        try clear hcz4_5
        try clear hcz4_6
        try clear hcz7_0
        try clear hcz7_1
        try clear hcz7_2
        try clear hcz7_3
        try clear hcz7_4
        try clear hcz7_5
        try clear hcz7_6
        try clear hcz8_0
        try clear hcz8_1
        try clear hcz8_2
        try clear hcz8_3
        try clear hcz8_4
        try clear hcz8_5
        try clear hcz8_6
        try clear hfz4_0
        try clear hfz4_1
        try clear hfz4_2
        try clear hfz4_3
        try clear hfz4_4
        try clear hfz4_5
        try clear hfz4_6
        try clear hfz7_0
        try clear hfz7_1
        try clear hfz7_2
        try clear hfz7_3
        try clear hfz7_4
        try clear hfz7_5
        try clear hfz7_6
        try clear hfz8_0
        try clear hfz8_1
        try clear hfz8_2
        try clear hfz8_3
        try clear hfz8_4
        try clear hfz8_5
        try clear hfz8_6
        try clear p2
        obtain ⟨x4_2, rfl, HA, HK2, BK242, HB⟩ := hrel
        cases gk with
        | zero => exact absurd HA.out (by simp [cellaretlaw19_fair.l0])
        | succ k2 =>
          have H := HA.out
          clear HA
          simp only [cellaretlaw19_fair.l0] at H
          by_cases c9 : x4_2 < (x3_1.size : Int)
          · rw [if_pos c9] at H
            have c9b0 : decide (x4_2 < (x3_1.size : Int)) = true := decide_eq_true c9
            clear c9
            by_cases c10 : 0 ≤ x4_2
            · rw [if_pos c10] at H
              have c10b0 : decide (0 ≤ x4_2) = true := decide_eq_true c10
              clear c10
              by_cases c12 : (bt x3_1 x4_2) = 10
              · rw [if_pos c12] at H
                have c12b0 : ((bt x3_1 x4_2) == 10) = true := beq_iff_eq.mpr c12
                have c12b1 : ((bt x3_1 x4_2) != 10) = false := bne_eq_false_iff_eq.mpr c12
                clear c12
                obtain rfl := Option.some.inj H
                have p11 : 0 ≤ (x4_2 : Int) := of_decide_eq_true (by first | (with_reducible assumption) | assumption)
                have q11 : x4_2 < (x3_1.size : Int) := of_decide_eq_true (by first | (with_reducible assumption) | assumption)
                have hx11 := bt_at x3_1 x4_2
                replace p11 := eq_true p11
                replace q11 := eq_true q11
                go_wp2
                go_ret
                exact ⟨by first | rfl | (simp [errW_none, errW_some] <;> rfl) | (simp [*, errW_none, errW_some] <;> rfl), by repeat (first | (with_reducible first | exact HB.out | apply below_alloc | apply pw_below_drewN | apply below_drew1 | refine below_set ?_ GE242.out) | exact HB.out)⟩
              · rw [if_neg c12] at H
                have c12b0 : ((bt x3_1 x4_2) == 10) = false := beq_eq_false_iff_ne.mpr c12
                have c12b1 : ((bt x3_1 x4_2) != 10) = true := bne_iff_ne.mpr c12
                by_cases c14 : (bt x3_1 x4_2) = 13
                · rw [if_pos c14] at H
                  have c14b0 : ((bt x3_1 x4_2) == 13) = true := beq_iff_eq.mpr c14
                  have c14b1 : ((bt x3_1 x4_2) != 13) = false := bne_eq_false_iff_eq.mpr c14
                  clear c14
                  obtain rfl := Option.some.inj H
                  have p11 : 0 ≤ (x4_2 : Int) := of_decide_eq_true (by first | (with_reducible assumption) | assumption)
                  have q11 : x4_2 < (x3_1.size : Int) := of_decide_eq_true (by first | (with_reducible assumption) | assumption)
                  have hx11 := bt_at x3_1 x4_2
                  replace p11 := eq_true p11
                  replace q11 := eq_true q11
                  have p13 : 0 ≤ (x4_2 : Int) := of_decide_eq_true (by first | (with_reducible assumption) | assumption)
                  have q13 : x4_2 < (x3_1.size : Int) := of_decide_eq_true (by first | (with_reducible assumption) | assumption)
                  have hx13 := bt_at x3_1 x4_2
                  replace p13 := eq_true p13
                  replace q13 := eq_true q13
                  go_wp2
                  go_ret
                  exact ⟨by first | rfl | (simp [errW_none, errW_some] <;> rfl) | (simp [*, errW_none, errW_some] <;> rfl), by repeat (first | (with_reducible first | exact HB.out | apply below_alloc | apply pw_below_drewN | apply below_drew1 | refine below_set ?_ GE242.out) | exact HB.out)⟩
                · rw [if_neg c14] at H
                  have c14b0 : ((bt x3_1 x4_2) == 13) = false := beq_eq_false_iff_ne.mpr c14
                  have c14b1 : ((bt x3_1 x4_2) != 13) = true := bne_iff_ne.mpr c14
                  by_cases c15 : a0_0 = true
                  · subst c15
                    have H1 : (if (bt x3_1 x4_2) = 32 then (some false) else (cellaretlaw19_fair.l0 k2 x3_1 (wrap64 (x4_2 + 1)) true a0_1 a0_2 a0_3 a0_4 a0_5 a0_6)) = some r := by rw [if_pos rfl] at H; exact H
                    clear H
                    have H := H1
                    clear H1
                    by_cases c17 : (bt x3_1 x4_2) = 32
                    · rw [if_pos c17] at H
                      have c17b0 : ((bt x3_1 x4_2) == 32) = true := beq_iff_eq.mpr c17
                      have c17b1 : ((bt x3_1 x4_2) != 32) = false := bne_eq_false_iff_eq.mpr c17
                      clear c17
                      obtain rfl := Option.some.inj H
                      have p11 : 0 ≤ (x4_2 : Int) := of_decide_eq_true (by first | (with_reducible assumption) | assumption)
                      have q11 : x4_2 < (x3_1.size : Int) := of_decide_eq_true (by first | (with_reducible assumption) | assumption)
                      have hx11 := bt_at x3_1 x4_2
                      replace p11 := eq_true p11
                      replace q11 := eq_true q11
                      have p13 : 0 ≤ (x4_2 : Int) := of_decide_eq_true (by first | (with_reducible assumption) | assumption)
                      have q13 : x4_2 < (x3_1.size : Int) := of_decide_eq_true (by first | (with_reducible assumption) | assumption)
                      have hx13 := bt_at x3_1 x4_2
                      replace p13 := eq_true p13
                      replace q13 := eq_true q13
                      have hcz18_0 : wr.cell? ⟨gb242, 0, none⟩ = some (.bool true) := (blk_cell BK242.out 0).trans rfl
                      have hcz18_1 : wr.cell? ⟨gb242, 1, none⟩ = some (.string a0_1) := (blk_cell BK242.out 1).trans rfl
                      have hcz18_2 : wr.cell? ⟨gb242, 2, none⟩ = some (.string a0_2) := (blk_cell BK242.out 2).trans rfl
                      have hcz18_3 : wr.cell? ⟨gb242, 3, none⟩ = some (.string a0_3) := (blk_cell BK242.out 3).trans rfl
                      have hcz18_4 : wr.cell? ⟨gb242, 4, none⟩ = some (.int .u32 a0_4) := (blk_cell BK242.out 4).trans rfl
                      have hcz18_5 : wr.cell? ⟨gb242, 5, none⟩ = some (.int .u64 a0_5) := (blk_cell BK242.out 5).trans rfl
                      have hcz18_6 : wr.cell? ⟨gb242, 6, none⟩ = some (.bool a0_6) := (blk_cell BK242.out 6).trans rfl
                      have hfz18_0 := blk_frozen BK242.out 0
                      have hfz18_1 := blk_frozen BK242.out 1
                      have hfz18_2 := blk_frozen BK242.out 2
                      have hfz18_3 := blk_frozen BK242.out 3
                      have hfz18_4 := blk_frozen BK242.out 4
                      have hfz18_5 := blk_frozen BK242.out 5
                      have hfz18_6 := blk_frozen BK242.out 6
                      have p16 : 0 ≤ (x4_2 : Int) := of_decide_eq_true (by first | (with_reducible assumption) | assumption)
                      have q16 : x4_2 < (x3_1.size : Int) := of_decide_eq_true (by first | (with_reducible assumption) | assumption)
                      have hx16 := bt_at x3_1 x4_2
                      replace p16 := eq_true p16
                      replace q16 := eq_true q16
                      go_wp2
                      go_ret
                      exact ⟨by first | rfl | (simp [errW_none, errW_some] <;> rfl) | (simp [*, errW_none, errW_some] <;> rfl), by repeat (first | (with_reducible first | exact HB.out | apply below_alloc | apply pw_below_drewN | apply below_drew1 | refine below_set ?_ GE242.out) | exact HB.out)⟩
                    · rw [if_neg c17] at H
                      have c17b0 : ((bt x3_1 x4_2) == 32) = false := beq_eq_false_iff_ne.mpr c17
                      have c17b1 : ((bt x3_1 x4_2) != 32) = true := bne_iff_ne.mpr c17
                      have H' := Aside0.mk H
                      clear H
                      have p11 : 0 ≤ (x4_2 : Int) := of_decide_eq_true (by first | (with_reducible assumption) | assumption)
                      have q11 : x4_2 < (x3_1.size : Int) := of_decide_eq_true (by first | (with_reducible assumption) | assumption)
                      have hx11 := bt_at x3_1 x4_2
                      replace p11 := eq_true p11
                      replace q11 := eq_true q11
                      have p13 : 0 ≤ (x4_2 : Int) := of_decide_eq_true (by first | (with_reducible assumption) | assumption)
                      have q13 : x4_2 < (x3_1.size : Int) := of_decide_eq_true (by first | (with_reducible assumption) | assumption)
                      have hx13 := bt_at x3_1 x4_2
                      replace p13 := eq_true p13
                      replace q13 := eq_true q13
                      have hcz19_0 : wr.cell? ⟨gb242, 0, none⟩ = some (.bool true) := (blk_cell BK242.out 0).trans rfl
                      have hcz19_1 : wr.cell? ⟨gb242, 1, none⟩ = some (.string a0_1) := (blk_cell BK242.out 1).trans rfl
                      have hcz19_2 : wr.cell? ⟨gb242, 2, none⟩ = some (.string a0_2) := (blk_cell BK242.out 2).trans rfl
                      have hcz19_3 : wr.cell? ⟨gb242, 3, none⟩ = some (.string a0_3) := (blk_cell BK242.out 3).trans rfl
                      have hcz19_4 : wr.cell? ⟨gb242, 4, none⟩ = some (.int .u32 a0_4) := (blk_cell BK242.out 4).trans rfl
                      have hcz19_5 : wr.cell? ⟨gb242, 5, none⟩ = some (.int .u64 a0_5) := (blk_cell BK242.out 5).trans rfl
                      have hcz19_6 : wr.cell? ⟨gb242, 6, none⟩ = some (.bool a0_6) := (blk_cell BK242.out 6).trans rfl
                      have hfz19_0 := blk_frozen BK242.out 0
                      have hfz19_1 := blk_frozen BK242.out 1
                      have hfz19_2 := blk_frozen BK242.out 2
                      have hfz19_3 := blk_frozen BK242.out 3
                      have hfz19_4 := blk_frozen BK242.out 4
                      have hfz19_5 := blk_frozen BK242.out 5
                      have hfz19_6 := blk_frozen BK242.out 6
                      have p16 : 0 ≤ (x4_2 : Int) := of_decide_eq_true (by first | (with_reducible assumption) | assumption)
                      have q16 : x4_2 < (x3_1.size : Int) := of_decide_eq_true (by first | (with_reducible assumption) | assumption)
                      have hx16 := bt_at x3_1 x4_2
                      replace p16 := eq_true p16
                      replace q16 := eq_true q16
                      go_wp2
                      go_roundg k2
                      case measure => have := HJ1.out; have := HK2.out; omega
                      case rel => exact ⟨(wrap64 (x4_2 + 1)), (by first | rfl | (simp; done) | (simp [*]; done)), H', ⟨by have := HJ1.out; have := HK2.out; omega⟩, ⟨by (with_reducible repeat (first | refine blk_drewN ?_ _ | refine blk_drew ?_ | refine blk_alloc ?_ _)); exact BK242.out⟩, ⟨by repeat (first | (with_reducible first | exact HB.out | apply below_alloc | apply pw_below_drewN | apply below_drew1 | refine below_set ?_ GE242.out) | exact HB.out)⟩⟩
                  · replace c15 := Bool.eq_false_iff.mpr c15
                    subst c15
                    have H1 : (cellaretlaw19_fair.l0 k2 x3_1 (wrap64 (x4_2 + 1)) false a0_1 a0_2 a0_3 a0_4 a0_5 a0_6) = some r := by rw [if_neg (show ¬ (false = true) by decide)] at H; exact H
                    clear H
                    have H := H1
                    clear H1
                    have H' := Aside0.mk H
                    clear H
                    have p11 : 0 ≤ (x4_2 : Int) := of_decide_eq_true (by first | (with_reducible assumption) | assumption)
                    have q11 : x4_2 < (x3_1.size : Int) := of_decide_eq_true (by first | (with_reducible assumption) | assumption)
                    have hx11 := bt_at x3_1 x4_2
                    replace p11 := eq_true p11
                    replace q11 := eq_true q11
                    have p13 : 0 ≤ (x4_2 : Int) := of_decide_eq_true (by first | (with_reducible assumption) | assumption)
                    have q13 : x4_2 < (x3_1.size : Int) := of_decide_eq_true (by first | (with_reducible assumption) | assumption)
                    have hx13 := bt_at x3_1 x4_2
                    replace p13 := eq_true p13
                    replace q13 := eq_true q13
                    have hcz20_0 : wr.cell? ⟨gb242, 0, none⟩ = some (.bool false) := (blk_cell BK242.out 0).trans rfl
                    have hcz20_1 : wr.cell? ⟨gb242, 1, none⟩ = some (.string a0_1) := (blk_cell BK242.out 1).trans rfl
                    have hcz20_2 : wr.cell? ⟨gb242, 2, none⟩ = some (.string a0_2) := (blk_cell BK242.out 2).trans rfl
                    have hcz20_3 : wr.cell? ⟨gb242, 3, none⟩ = some (.string a0_3) := (blk_cell BK242.out 3).trans rfl
                    have hcz20_4 : wr.cell? ⟨gb242, 4, none⟩ = some (.int .u32 a0_4) := (blk_cell BK242.out 4).trans rfl
                    have hcz20_5 : wr.cell? ⟨gb242, 5, none⟩ = some (.int .u64 a0_5) := (blk_cell BK242.out 5).trans rfl
                    have hcz20_6 : wr.cell? ⟨gb242, 6, none⟩ = some (.bool a0_6) := (blk_cell BK242.out 6).trans rfl
                    have hfz20_0 := blk_frozen BK242.out 0
                    have hfz20_1 := blk_frozen BK242.out 1
                    have hfz20_2 := blk_frozen BK242.out 2
                    have hfz20_3 := blk_frozen BK242.out 3
                    have hfz20_4 := blk_frozen BK242.out 4
                    have hfz20_5 := blk_frozen BK242.out 5
                    have hfz20_6 := blk_frozen BK242.out 6
                    go_wp2
                    go_roundg k2
                    case measure => have := HJ1.out; have := HK2.out; omega
                    case rel => exact ⟨(wrap64 (x4_2 + 1)), (by first | rfl | (simp; done) | (simp [*]; done)), H', ⟨by have := HJ1.out; have := HK2.out; omega⟩, ⟨by (with_reducible repeat (first | refine blk_drewN ?_ _ | refine blk_drew ?_ | refine blk_alloc ?_ _)); exact BK242.out⟩, ⟨by repeat (first | (with_reducible first | exact HB.out | apply below_alloc | apply pw_below_drewN | apply below_drew1 | refine below_set ?_ GE242.out) | exact HB.out)⟩⟩
            · rw [if_neg c10] at H
              exact absurd H (by simp)
          · rw [if_neg c9] at H
            have c9b0 : decide (x4_2 < (x3_1.size : Int)) = false := decide_eq_false c9
            clear c9
            by_cases c21 : a0_0 = true
            · subst c21
              have H1 : (some true) = some r := by rw [if_pos rfl] at H; exact H
              clear H
              have H := H1
              clear H1
              obtain rfl := Option.some.inj H
              have hcz22_0 : wr.cell? ⟨gb242, 0, none⟩ = some (.bool true) := (blk_cell BK242.out 0).trans rfl
              have hcz22_1 : wr.cell? ⟨gb242, 1, none⟩ = some (.string a0_1) := (blk_cell BK242.out 1).trans rfl
              have hcz22_2 : wr.cell? ⟨gb242, 2, none⟩ = some (.string a0_2) := (blk_cell BK242.out 2).trans rfl
              have hcz22_3 : wr.cell? ⟨gb242, 3, none⟩ = some (.string a0_3) := (blk_cell BK242.out 3).trans rfl
              have hcz22_4 : wr.cell? ⟨gb242, 4, none⟩ = some (.int .u32 a0_4) := (blk_cell BK242.out 4).trans rfl
              have hcz22_5 : wr.cell? ⟨gb242, 5, none⟩ = some (.int .u64 a0_5) := (blk_cell BK242.out 5).trans rfl
              have hcz22_6 : wr.cell? ⟨gb242, 6, none⟩ = some (.bool a0_6) := (blk_cell BK242.out 6).trans rfl
              have hfz22_0 := blk_frozen BK242.out 0
              have hfz22_1 := blk_frozen BK242.out 1
              have hfz22_2 := blk_frozen BK242.out 2
              have hfz22_3 := blk_frozen BK242.out 3
              have hfz22_4 := blk_frozen BK242.out 4
              have hfz22_5 := blk_frozen BK242.out 5
              have hfz22_6 := blk_frozen BK242.out 6
              go_wp2
              go_ret
              exact ⟨by first | rfl | (simp [errW_none, errW_some] <;> rfl) | (simp [*, errW_none, errW_some] <;> rfl), by repeat (first | (with_reducible first | exact HB.out | apply below_alloc | apply pw_below_drewN | apply below_drew1 | refine below_set ?_ GE242.out) | exact HB.out)⟩
            · replace c21 := Bool.eq_false_iff.mpr c21
              subst c21
              have H1 : (if (x3_1.size : Int) < 6 then (some true) else (if 0 ≤ 6 then (if 6 ≤ (x3_1.size : Int) then (some ((x3_1.extract 0 6).toList != ([86, 65, 76, 85, 69, 32] : List UInt8))) else (none)) else (none))) = some r := by rw [if_neg (show ¬ (false = true) by decide)] at H; exact H
              clear H
              have H := H1
              clear H1
              by_cases c23 : (x3_1.size : Int) < 6
              · rw [if_pos c23] at H
                have c23b0 : decide ((x3_1.size : Int) < 6) = true := decide_eq_true c23
                have c23b1 : decide (x3_1.size < 6) = true := decide_eq_true (by omega)
                clear c23
                obtain rfl := Option.some.inj H
                have hcz24_0 : wr.cell? ⟨gb242, 0, none⟩ = some (.bool false) := (blk_cell BK242.out 0).trans rfl
                have hcz24_1 : wr.cell? ⟨gb242, 1, none⟩ = some (.string a0_1) := (blk_cell BK242.out 1).trans rfl
                have hcz24_2 : wr.cell? ⟨gb242, 2, none⟩ = some (.string a0_2) := (blk_cell BK242.out 2).trans rfl
                have hcz24_3 : wr.cell? ⟨gb242, 3, none⟩ = some (.string a0_3) := (blk_cell BK242.out 3).trans rfl
                have hcz24_4 : wr.cell? ⟨gb242, 4, none⟩ = some (.int .u32 a0_4) := (blk_cell BK242.out 4).trans rfl
                have hcz24_5 : wr.cell? ⟨gb242, 5, none⟩ = some (.int .u64 a0_5) := (blk_cell BK242.out 5).trans rfl
                have hcz24_6 : wr.cell? ⟨gb242, 6, none⟩ = some (.bool a0_6) := (blk_cell BK242.out 6).trans rfl
                have hfz24_0 := blk_frozen BK242.out 0
                have hfz24_1 := blk_frozen BK242.out 1
                have hfz24_2 := blk_frozen BK242.out 2
                have hfz24_3 := blk_frozen BK242.out 3
                have hfz24_4 := blk_frozen BK242.out 4
                have hfz24_5 := blk_frozen BK242.out 5
                have hfz24_6 := blk_frozen BK242.out 6
                go_wp2
                go_ret
                exact ⟨by first | rfl | (simp [errW_none, errW_some] <;> rfl) | (simp [*, errW_none, errW_some] <;> rfl), by repeat (first | (with_reducible first | exact HB.out | apply below_alloc | apply pw_below_drewN | apply below_drew1 | refine below_set ?_ GE242.out) | exact HB.out)⟩
              · rw [if_neg c23] at H
                have c23b0 : decide ((x3_1.size : Int) < 6) = false := decide_eq_false c23
                have c23b1 : decide (x3_1.size < 6) = false := decide_eq_false (by omega)
                clear c23
                by_cases c25 : 0 ≤ 6
                · rw [if_pos c25] at H
                  have c25b0 := eq_true c25
                  have c25b1 : decide (0 ≤ 6) = true := decide_eq_true c25
                  clear c25
                  by_cases c26 : 6 ≤ (x3_1.size : Int)
                  · rw [if_pos c26] at H
                    have c26b0 := eq_true c26
                    have c26b1 : decide (6 ≤ (x3_1.size : Int)) = true := decide_eq_true c26
                    clear c26
                    obtain rfl := Option.some.inj H
                    have hcz27_0 : wr.cell? ⟨gb242, 0, none⟩ = some (.bool false) := (blk_cell BK242.out 0).trans rfl
                    have hcz27_1 : wr.cell? ⟨gb242, 1, none⟩ = some (.string a0_1) := (blk_cell BK242.out 1).trans rfl
                    have hcz27_2 : wr.cell? ⟨gb242, 2, none⟩ = some (.string a0_2) := (blk_cell BK242.out 2).trans rfl
                    have hcz27_3 : wr.cell? ⟨gb242, 3, none⟩ = some (.string a0_3) := (blk_cell BK242.out 3).trans rfl
                    have hcz27_4 : wr.cell? ⟨gb242, 4, none⟩ = some (.int .u32 a0_4) := (blk_cell BK242.out 4).trans rfl
                    have hcz27_5 : wr.cell? ⟨gb242, 5, none⟩ = some (.int .u64 a0_5) := (blk_cell BK242.out 5).trans rfl
                    have hcz27_6 : wr.cell? ⟨gb242, 6, none⟩ = some (.bool a0_6) := (blk_cell BK242.out 6).trans rfl
                    have hfz27_0 := blk_frozen BK242.out 0
                    have hfz27_1 := blk_frozen BK242.out 1
                    have hfz27_2 := blk_frozen BK242.out 2
                    have hfz27_3 := blk_frozen BK242.out 3
                    have hfz27_4 := blk_frozen BK242.out 4
                    have hfz27_5 := blk_frozen BK242.out 5
                    have hfz27_6 := blk_frozen BK242.out 6
                    go_wp2
                    go_ret
                    exact ⟨by first | rfl | (simp [errW_none, errW_some] <;> rfl) | (simp [*, errW_none, errW_some] <;> rfl), by repeat (first | (with_reducible first | exact HB.out | apply below_alloc | apply pw_below_drewN | apply below_drew1 | refine below_set ?_ GE242.out) | exact HB.out)⟩
                  · rw [if_neg c26] at H
                    exact absurd H (by simp)
                · rw [if_neg c25] at H
                  exact absurd H (by simp)

end Go.Proofs.YtgopcfkofjipjaaDoor.H
