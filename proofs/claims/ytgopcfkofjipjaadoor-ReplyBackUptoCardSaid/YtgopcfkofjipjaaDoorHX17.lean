/-
  Printed by this session's hybrid.py (it runs the kit's print over contracts of our own for library functions): plain functions with the answers of Go functions, and that the calls come to them. Their conditions stand in each head.
-/
import Derived.Test.YtgopcfkofjipjaaDoorHX0
namespace Go.Proofs.YtgopcfkofjipjaaDoor.H
open Go.RowKit Go.Proofs.YtgopcfkofjipjaaDoorW.PrintWords Go.Proofs.YtgopcfkofjipjaaDoorW.PrintLast Go.Proofs.YtgopcfkofjipjaaDoorW.PrintMore
attribute [local go_sem] max2_int min2_int max_two min_two max_three min_three max_four min_four   -- for this text's walks alone
set_option linter.unusedVariables false
set_option linter.unusedSimpArgs false

/-! ### cellaretref17_AnsBack: function 8 -/
def cellaretref17_AnsBack.l0 : Nat → List (S29) → List (S34) → Int → Option ((List (S34)))
  | 0, _, _, _ => none
  | k + 1, x0, x3, x4 => if x4 < (x0.length : Int) then (if 0 ≤ x4 then (if (rd_T29 x0 x4).f0 = true then (if x3.length < 1759218604441 then (cellaretref17_AnsBack.l0 k x0 (x3 ++ [(⟨true, (rd_T29 x0 x4).f2, (rd_T29 x0 x4).f3, (⟨#[]⟩ : ByteArray), (rd_T29 x0 x4).f4, (rd_T29 x0 x4).f5, (rd_T29 x0 x4).f6⟩ : S34)]) (wrap64 (x4 + 1))) else (none)) else (if x3.length < 1759218604441 then (cellaretref17_AnsBack.l0 k x0 (x3 ++ [(⟨false, (⟨#[]⟩ : ByteArray), (⟨#[]⟩ : ByteArray), (rd_T29 x0 x4).f1, 0, 0, false⟩ : S34)]) (wrap64 (x4 + 1))) else (none))) else (none)) else (some x3)
def cellaretref17_AnsBack.f (k : Nat) (l0 : List (S29)) : Option ((List (S34))) := cellaretref17_AnsBack.l0 k l0 ([] : List (S34)) 0
theorem cellaretref17_AnsBack.mono_l : ∀ k, (∀ y0 y1 y2, LeO (cellaretref17_AnsBack.l0 k y0 y1 y2) (cellaretref17_AnsBack.l0 (k + 1) y0 y1 y2))
  | 0 => fun _ _ _ r h => by simp [cellaretref17_AnsBack.l0] at h
  | k + 1 => by
    have ih0 := cellaretref17_AnsBack.mono_l k
    · intro y0 y1 y2
      unfold cellaretref17_AnsBack.l0
      repeat' first
      | (with_reducible exact ih0 _ _ _)
      | (with_reducible exact LeO.refl _)
      | (with_reducible exact LeO.none _)
      | (with_reducible refine LeO.ite ?_ ?_)
      | (with_reducible refine LeO.bind ?_ (fun _ => ?_))
      | exact ih0 _ _ _
      | exact LeO.none _
      | refine LeO.ite ?_ ?_
      | refine LeO.bind ?_ (fun _ => ?_)
theorem cellaretref17_AnsBack.mono : ∀ a0 k, LeO (cellaretref17_AnsBack.f k a0) (cellaretref17_AnsBack.f (k + 1) a0) := by
  intro a0 k
  have ih0 := cellaretref17_AnsBack.mono_l k
  unfold cellaretref17_AnsBack.f
  repeat' first
      | (with_reducible exact ih0 _ _ _)
      | (with_reducible exact LeO.refl _)
      | (with_reducible exact LeO.none _)
      | (with_reducible refine LeO.ite ?_ ?_)
      | (with_reducible refine LeO.bind ?_ (fun _ => ?_))
      | exact ih0 _ _ _
      | exact LeO.none _
      | refine LeO.ite ?_ ?_
      | refine LeO.bind ?_ (fun _ => ?_)
def cellaretref17_AnsBack.T6 : Bool × List (List Nat × List Nat) := (true, [([], []), ([], []), ([], []), ([1, 2], [1, 2]), ([3], [3]), ([4], [4]), ([], []), ([], []), ([6, 7], [6, 7]), ([8], [8]), ([9], [9]), ([], []), ([], []), ([11, 12], [11, 12]), ([13], [13]), ([14], [14]), ([], []), ([], []), ([16, 17], [16, 17]), ([18], [18]), ([19], [19]), ([], []), ([], []), ([21, 22], [21, 22]), ([23], [23]), ([24], [24]), ([5, 10, 15, 20, 25], [5, 10, 15, 20, 25]), ([26], [26]), ([0, 27], [0, 27]), ([28, 28, 0, 1, 2, 3, 4, 5, 6, 7, 8, 9, 10, 11, 12, 13, 14, 15, 16, 17, 18, 19, 20, 21, 22, 23, 24, 25, 26, 27, 28], [0, 28])])
def cellaretref17_AnsBack.B6 : List Nat := [0, 0, 0, 6, 14, 30, 0, 0, 192, 448, 960, 0, 0, 6144, 14336, 30720, 0, 0, 196608, 458752, 983040, 0, 0, 6291456, 14680064, 31457280, 67108862, 134217726, 268435455, 536870911]
theorem cellaretref17_AnsBack.tab6 : rtab .any (opsOf Tryd.f8 6) = cellaretref17_AnsBack.T6 := by kernel_rfl
theorem cellaretref17_AnsBack.bits6 : waitsOk cellaretref17_AnsBack.T6.2 cellaretref17_AnsBack.B6 = true := by kernel_rfl
set_option maxHeartbeats 8000000 in
set_option maxRecDepth 100000 in
theorem cellaretref17_AnsBack.calls (k : Nat) (A0 : Option Addr) (c0 : Nat) (l0 : List (S29)) (r : List (S34)) (w : World) (hr0 : Kd.C k29 w A0 l0.length l0) (hc0 : l0.length ≤ c0) (h : cellaretref17_AnsBack.f k l0 = some r) :
  Calls Tryd.prog 8 #[.slice A0 l0.length c0] w fun e w' => ∃ v0_ : Value, e = .returned (v0_) ∧ Kd.R k34 34 w' w.heap.size (fun _ => True) v0_ r ∧ Below w.heap.size w w' := by
 have hu34 := Tryd.underlying34
 have HR0 := Aside0.mk hr0
 have HC0 := Aside0.mk hc0
 clear hr0 hc0
 have HB := Aside0.mk (Below.refl w.heap.size w)
 have H : (cellaretref17_AnsBack.l0 k l0 ([] : List (S34)) 0) = some r := h
 clear h
 have H' := Aside0.mk H
 clear H
 go_enter Tryd.func8, Tryd.ntmps8
 go_wp2
 go_loopg [3, 4] k (fun kq v3 v4 w' => ∃ (x3_1 : List (S34)) (x4_1 : Int), v4 = .int .i64 x4_1 ∧ Aside0 (cellaretref17_AnsBack.l0 kq l0 x3_1 x4_1 = some r) ∧ Aside0 (kq ≤ k) ∧ Aside0 (Kd.R k34 34 w' w.heap.size (fun _ => True) v3 x3_1) ∧ Aside0 (Below w.heap.size w w'))
 case atStart => exact ⟨(([] : List (S34))), (0), (by first | rfl | (simp; done) | (simp [*]; done)), H', ⟨Nat.le_refl _⟩, ⟨by first | exact Kd.R_nil _ _ _ _ _ | exact Kd.N_nil _ _ _ _ _ | exact Kd.V_nil _ _ _ _ _ | exact Kd.Q_nil _ _ _ _ _ | exact Kd.S_nil _ _ _ _ _⟩, ⟨by repeat (first | (with_reducible first | exact HB.out | apply below_alloc | apply pw_below_drewN | apply below_drew1) | exact HB.out)⟩⟩
 case round =>
  clear H'
  obtain ⟨x3_1, x4_1, rfl, HA, HK1, HO_3, HB⟩ := hrel
  cases gk with
  | zero => exact absurd HA.out (by simp [cellaretref17_AnsBack.l0])
  | succ k1 =>
   have H := HA.out
   clear HA
   simp only [cellaretref17_AnsBack.l0] at H
   by_cases c2 : x4_1 < (l0.length : Int)
   ·rw [if_pos c2] at H
    have c2b0 : decide (x4_1 < (l0.length : Int)) = true := decide_eq_true c2
    clear c2
    by_cases c3 : 0 ≤ x4_1
    ·rw [if_pos c3] at H
     have c3b0 : decide (0 ≤ x4_1) = true := decide_eq_true c3
     clear c3
     obtain ⟨bq4, hbq4⟩ : ∃ b_ : Bool, b_ = ((rd_T29 l0 x4_1).f0) := ⟨_, rfl⟩
     replace H : (if bq4 = true then (if x3_1.length < 1759218604441 then (cellaretref17_AnsBack.l0 k1 l0 (x3_1 ++ [(⟨true, (rd_T29 l0 x4_1).f2, (rd_T29 l0 x4_1).f3, (⟨#[]⟩ : ByteArray), (rd_T29 l0 x4_1).f4, (rd_T29 l0 x4_1).f5, (rd_T29 l0 x4_1).f6⟩ : S34)]) (wrap64 (x4_1 + 1))) else (none)) else (if x3_1.length < 1759218604441 then (cellaretref17_AnsBack.l0 k1 l0 (x3_1 ++ [(⟨false, (⟨#[]⟩ : ByteArray), (⟨#[]⟩ : ByteArray), (rd_T29 l0 x4_1).f1, 0, 0, false⟩ : S34)]) (wrap64 (x4_1 + 1))) else (none))) = some r := by rw [← hbq4] at H; exact H
     have Nbq4 := Aside0.mk hbq4
     clear hbq4
     by_cases c5 : bq4 = true
     ·subst c5
      have H1 : (if x3_1.length < 1759218604441 then (cellaretref17_AnsBack.l0 k1 l0 (x3_1 ++ [(⟨true, (rd_T29 l0 x4_1).f2, (rd_T29 l0 x4_1).f3, (⟨#[]⟩ : ByteArray), (rd_T29 l0 x4_1).f4, (rd_T29 l0 x4_1).f5, (rd_T29 l0 x4_1).f6⟩ : S34)]) (wrap64 (x4_1 + 1))) else (none)) = some r := by rw [if_pos rfl] at H; exact H
      clear H
      have H := H1
      clear H1
      by_cases c6 : x3_1.length < 1759218604441
      ·rw [if_pos c6] at H
       have LMc6 := Aside0.mk c6
       clear c6
       obtain ⟨y214, hy214⟩ : ∃ y_ : List (S34), y_ = (x3_1 ++ [(⟨true, (rd_T29 l0 x4_1).f2, (rd_T29 l0 x4_1).f3, (⟨#[]⟩ : ByteArray), (rd_T29 l0 x4_1).f4, (rd_T29 l0 x4_1).f5, (rd_T29 l0 x4_1).f6⟩ : S34)]) := ⟨_, rfl⟩
       replace H : (cellaretref17_AnsBack.l0 k1 l0 y214 (wrap64 (x4_1 + 1))) = some r := by first | (rw [hy214]; with_reducible exact H) | (have H2_ := (Option.bind_some _ _).symm.trans H; rw [hy214]; with_reducible exact H2_) | (have H2_ := (Option.bind_some _ _).symm.trans H; with_reducible exact H2_) | with_reducible exact H | (rw [hy214]; exact H) | exact H
       have Ny214 := Aside0.mk hy214
       clear hy214
       have H' := Aside0.mk H
       clear H
       have p208 : 0 ≤ (x4_1 : Int) := of_decide_eq_true (by first | (with_reducible assumption) | assumption)
       have q208 : x4_1 < (l0.length : Int) := of_decide_eq_true (by first | (with_reducible assumption) | assumption)
       obtain ⟨ad208, e208, hx208_0, hx208_1, hx208_2, hx208_3, hx208_4, hx208_5, hx208_6⟩ := at_T29 HR0.out x4_1 p208 q208
       (try rw [← Nbq4.out] at hx208_0)
       (try rw [← Nbq4.out] at hx208_6)
       cases e208
       replace hx208_0 := (HB.out.cell (World.block_lt_of_cell? w _ hx208_0)).trans hx208_0
       replace hx208_1 := (HB.out.cell (World.block_lt_of_cell? w _ hx208_1)).trans hx208_1
       replace hx208_2 := (HB.out.cell (World.block_lt_of_cell? w _ hx208_2)).trans hx208_2
       replace hx208_3 := (HB.out.cell (World.block_lt_of_cell? w _ hx208_3)).trans hx208_3
       replace hx208_4 := (HB.out.cell (World.block_lt_of_cell? w _ hx208_4)).trans hx208_4
       replace hx208_5 := (HB.out.cell (World.block_lt_of_cell? w _ hx208_5)).trans hx208_5
       replace hx208_6 := (HB.out.cell (World.block_lt_of_cell? w _ hx208_6)).trans hx208_6
       replace p208 := eq_true p208
       replace q208 := eq_true q208
       try go_wp2
       have n0_ := Aside0.mk (Kd.R_drew HO_3.out)
       have n1_ := Aside0.mk (below_drew1 HB.out)
       clear HO_3
       clear HB
       have HO_3 := n0_
       have HB := n1_
       clear n0_ n1_
       have p209 : 0 ≤ (x4_1 : Int) := of_decide_eq_true (by first | (with_reducible assumption) | assumption)
       have q209 : x4_1 < (l0.length : Int) := of_decide_eq_true (by first | (with_reducible assumption) | assumption)
       obtain ⟨ad209, e209, hx209_0, hx209_1, hx209_2, hx209_3, hx209_4, hx209_5, hx209_6⟩ := at_T29 HR0.out x4_1 p209 q209
       have hw209_6 := hx209_6
       have hw209_5 := hx209_5
       have hw209_4 := hx209_4
       have hw209_3 := hx209_3
       have hw209_2 := hx209_2
       have hw209_1 := hx209_1
       have hw209_0 := hx209_0
       (try rw [← Nbq4.out] at hx209_0)
       (try rw [← Nbq4.out] at hx209_6)
       obtain rfl : ad208 = ad209 := (by injection e209)
       replace hx209_0 := (HB.out.cell (World.block_lt_of_cell? w _ hx209_0)).trans hx209_0
       replace hx209_1 := (HB.out.cell (World.block_lt_of_cell? w _ hx209_1)).trans hx209_1
       replace hx209_2 := (HB.out.cell (World.block_lt_of_cell? w _ hx209_2)).trans hx209_2
       replace hx209_3 := (HB.out.cell (World.block_lt_of_cell? w _ hx209_3)).trans hx209_3
       replace hx209_4 := (HB.out.cell (World.block_lt_of_cell? w _ hx209_4)).trans hx209_4
       replace hx209_5 := (HB.out.cell (World.block_lt_of_cell? w _ hx209_5)).trans hx209_5
       replace hx209_6 := (HB.out.cell (World.block_lt_of_cell? w _ hx209_6)).trans hx209_6
       replace p209 := eq_true p209
       replace q209 := eq_true q209
       have p210 : 0 ≤ (x4_1 : Int) := of_decide_eq_true (by first | (with_reducible assumption) | assumption)
       have q210 : x4_1 < (l0.length : Int) := of_decide_eq_true (by first | (with_reducible assumption) | assumption)
       obtain ⟨ad210, e210, hx210_0, hx210_1, hx210_2, hx210_3, hx210_4, hx210_5, hx210_6⟩ := at_T29 HR0.out x4_1 p210 q210
       have hw210_6 := hx210_6
       have hw210_5 := hx210_5
       have hw210_4 := hx210_4
       have hw210_3 := hx210_3
       have hw210_2 := hx210_2
       have hw210_1 := hx210_1
       have hw210_0 := hx210_0
       (try rw [← Nbq4.out] at hx210_0)
       (try rw [← Nbq4.out] at hx210_6)
       obtain rfl : ad208 = ad210 := (by injection e210)
       replace hx210_0 := (HB.out.cell (World.block_lt_of_cell? w _ hx210_0)).trans hx210_0
       replace hx210_1 := (HB.out.cell (World.block_lt_of_cell? w _ hx210_1)).trans hx210_1
       replace hx210_2 := (HB.out.cell (World.block_lt_of_cell? w _ hx210_2)).trans hx210_2
       replace hx210_3 := (HB.out.cell (World.block_lt_of_cell? w _ hx210_3)).trans hx210_3
       replace hx210_4 := (HB.out.cell (World.block_lt_of_cell? w _ hx210_4)).trans hx210_4
       replace hx210_5 := (HB.out.cell (World.block_lt_of_cell? w _ hx210_5)).trans hx210_5
       replace hx210_6 := (HB.out.cell (World.block_lt_of_cell? w _ hx210_6)).trans hx210_6
       replace p210 := eq_true p210
       replace q210 := eq_true q210
       have p211 : 0 ≤ (x4_1 : Int) := of_decide_eq_true (by first | (with_reducible assumption) | assumption)
       have q211 : x4_1 < (l0.length : Int) := of_decide_eq_true (by first | (with_reducible assumption) | assumption)
       obtain ⟨ad211, e211, hx211_0, hx211_1, hx211_2, hx211_3, hx211_4, hx211_5, hx211_6⟩ := at_T29 HR0.out x4_1 p211 q211
       have hw211_6 := hx211_6
       have hw211_5 := hx211_5
       have hw211_4 := hx211_4
       have hw211_3 := hx211_3
       have hw211_2 := hx211_2
       have hw211_1 := hx211_1
       have hw211_0 := hx211_0
       (try rw [← Nbq4.out] at hx211_0)
       (try rw [← Nbq4.out] at hx211_6)
       obtain rfl : ad208 = ad211 := (by injection e211)
       replace hx211_0 := (HB.out.cell (World.block_lt_of_cell? w _ hx211_0)).trans hx211_0
       replace hx211_1 := (HB.out.cell (World.block_lt_of_cell? w _ hx211_1)).trans hx211_1
       replace hx211_2 := (HB.out.cell (World.block_lt_of_cell? w _ hx211_2)).trans hx211_2
       replace hx211_3 := (HB.out.cell (World.block_lt_of_cell? w _ hx211_3)).trans hx211_3
       replace hx211_4 := (HB.out.cell (World.block_lt_of_cell? w _ hx211_4)).trans hx211_4
       replace hx211_5 := (HB.out.cell (World.block_lt_of_cell? w _ hx211_5)).trans hx211_5
       replace hx211_6 := (HB.out.cell (World.block_lt_of_cell? w _ hx211_6)).trans hx211_6
       replace p211 := eq_true p211
       replace q211 := eq_true q211
       have p212 : 0 ≤ (x4_1 : Int) := of_decide_eq_true (by first | (with_reducible assumption) | assumption)
       have q212 : x4_1 < (l0.length : Int) := of_decide_eq_true (by first | (with_reducible assumption) | assumption)
       obtain ⟨ad212, e212, hx212_0, hx212_1, hx212_2, hx212_3, hx212_4, hx212_5, hx212_6⟩ := at_T29 HR0.out x4_1 p212 q212
       have hw212_6 := hx212_6
       have hw212_5 := hx212_5
       have hw212_4 := hx212_4
       have hw212_3 := hx212_3
       have hw212_2 := hx212_2
       have hw212_1 := hx212_1
       have hw212_0 := hx212_0
       (try rw [← Nbq4.out] at hx212_0)
       (try rw [← Nbq4.out] at hx212_6)
       obtain rfl : ad208 = ad212 := (by injection e212)
       replace hx212_0 := (HB.out.cell (World.block_lt_of_cell? w _ hx212_0)).trans hx212_0
       replace hx212_1 := (HB.out.cell (World.block_lt_of_cell? w _ hx212_1)).trans hx212_1
       replace hx212_2 := (HB.out.cell (World.block_lt_of_cell? w _ hx212_2)).trans hx212_2
       replace hx212_3 := (HB.out.cell (World.block_lt_of_cell? w _ hx212_3)).trans hx212_3
       replace hx212_4 := (HB.out.cell (World.block_lt_of_cell? w _ hx212_4)).trans hx212_4
       replace hx212_5 := (HB.out.cell (World.block_lt_of_cell? w _ hx212_5)).trans hx212_5
       replace hx212_6 := (HB.out.cell (World.block_lt_of_cell? w _ hx212_6)).trans hx212_6
       replace p212 := eq_true p212
       replace q212 := eq_true q212
       have p213 : 0 ≤ (x4_1 : Int) := of_decide_eq_true (by first | (with_reducible assumption) | assumption)
       have q213 : x4_1 < (l0.length : Int) := of_decide_eq_true (by first | (with_reducible assumption) | assumption)
       obtain ⟨ad213, e213, hx213_0, hx213_1, hx213_2, hx213_3, hx213_4, hx213_5, hx213_6⟩ := at_T29 HR0.out x4_1 p213 q213
       have hw213_6 := hx213_6
       have hw213_5 := hx213_5
       have hw213_4 := hx213_4
       have hw213_3 := hx213_3
       have hw213_2 := hx213_2
       have hw213_1 := hx213_1
       have hw213_0 := hx213_0
       (try rw [← Nbq4.out] at hx213_0)
       (try rw [← Nbq4.out] at hx213_6)
       obtain rfl : ad208 = ad213 := (by injection e213)
       replace hx213_0 := (HB.out.cell (World.block_lt_of_cell? w _ hx213_0)).trans hx213_0
       replace hx213_1 := (HB.out.cell (World.block_lt_of_cell? w _ hx213_1)).trans hx213_1
       replace hx213_2 := (HB.out.cell (World.block_lt_of_cell? w _ hx213_2)).trans hx213_2
       replace hx213_3 := (HB.out.cell (World.block_lt_of_cell? w _ hx213_3)).trans hx213_3
       replace hx213_4 := (HB.out.cell (World.block_lt_of_cell? w _ hx213_4)).trans hx213_4
       replace hx213_5 := (HB.out.cell (World.block_lt_of_cell? w _ hx213_5)).trans hx213_5
       replace hx213_6 := (HB.out.cell (World.block_lt_of_cell? w _ hx213_6)).trans hx213_6
       replace p213 := eq_true p213
       replace q213 := eq_true q213
       refine start_ (n := 30) (S := fun w' => w'.cell? (ad208.add ((x4_1).toNat * 7)) = some (.bool (true)) ∧ w'.cell? ⟨(ad208.add ((x4_1).toNat * 7)).block, (ad208.add ((x4_1).toNat * 7)).off + 1, none⟩ = some (.string ((rd_T29 l0 x4_1).f1)) ∧ w'.cell? ⟨(ad208.add ((x4_1).toNat * 7)).block, (ad208.add ((x4_1).toNat * 7)).off + 2, none⟩ = some (.string ((rd_T29 l0 x4_1).f2)) ∧ w'.cell? ⟨(ad208.add ((x4_1).toNat * 7)).block, (ad208.add ((x4_1).toNat * 7)).off + 3, none⟩ = some (.string ((rd_T29 l0 x4_1).f3)) ∧ w'.cell? ⟨(ad208.add ((x4_1).toNat * 7)).block, (ad208.add ((x4_1).toNat * 7)).off + 4, none⟩ = some (.int .u32 ((rd_T29 l0 x4_1).f4)) ∧ w'.cell? ⟨(ad208.add ((x4_1).toNat * 7)).block, (ad208.add ((x4_1).toNat * 7)).off + 5, none⟩ = some (.int .u64 ((rd_T29 l0 x4_1).f5)) ∧ w'.cell? ⟨(ad208.add ((x4_1).toNat * 7)).block, (ad208.add ((x4_1).toNat * 7)).off + 6, none⟩ = some (.bool ((rd_T29 l0 x4_1).f6)) ∧ w'.cell? (ad208.add ((x4_1).toNat * 7)) = some (.bool (true)) ∧ w'.cell? ⟨(ad208.add ((x4_1).toNat * 7)).block, (ad208.add ((x4_1).toNat * 7)).off + 1, none⟩ = some (.string ((rd_T29 l0 x4_1).f1)) ∧ w'.cell? ⟨(ad208.add ((x4_1).toNat * 7)).block, (ad208.add ((x4_1).toNat * 7)).off + 2, none⟩ = some (.string ((rd_T29 l0 x4_1).f2)) ∧ w'.cell? ⟨(ad208.add ((x4_1).toNat * 7)).block, (ad208.add ((x4_1).toNat * 7)).off + 3, none⟩ = some (.string ((rd_T29 l0 x4_1).f3)) ∧ w'.cell? ⟨(ad208.add ((x4_1).toNat * 7)).block, (ad208.add ((x4_1).toNat * 7)).off + 4, none⟩ = some (.int .u32 ((rd_T29 l0 x4_1).f4)) ∧ w'.cell? ⟨(ad208.add ((x4_1).toNat * 7)).block, (ad208.add ((x4_1).toNat * 7)).off + 5, none⟩ = some (.int .u64 ((rd_T29 l0 x4_1).f5)) ∧ w'.cell? ⟨(ad208.add ((x4_1).toNat * 7)).block, (ad208.add ((x4_1).toNat * 7)).off + 6, none⟩ = some (.bool ((rd_T29 l0 x4_1).f6)) ∧ w'.cell? (ad208.add ((x4_1).toNat * 7)) = some (.bool (true)) ∧ w'.cell? ⟨(ad208.add ((x4_1).toNat * 7)).block, (ad208.add ((x4_1).toNat * 7)).off + 1, none⟩ = some (.string ((rd_T29 l0 x4_1).f1)) ∧ w'.cell? ⟨(ad208.add ((x4_1).toNat * 7)).block, (ad208.add ((x4_1).toNat * 7)).off + 2, none⟩ = some (.string ((rd_T29 l0 x4_1).f2)) ∧ w'.cell? ⟨(ad208.add ((x4_1).toNat * 7)).block, (ad208.add ((x4_1).toNat * 7)).off + 3, none⟩ = some (.string ((rd_T29 l0 x4_1).f3)) ∧ w'.cell? ⟨(ad208.add ((x4_1).toNat * 7)).block, (ad208.add ((x4_1).toNat * 7)).off + 4, none⟩ = some (.int .u32 ((rd_T29 l0 x4_1).f4)) ∧ w'.cell? ⟨(ad208.add ((x4_1).toNat * 7)).block, (ad208.add ((x4_1).toNat * 7)).off + 5, none⟩ = some (.int .u64 ((rd_T29 l0 x4_1).f5)) ∧ w'.cell? ⟨(ad208.add ((x4_1).toNat * 7)).block, (ad208.add ((x4_1).toNat * 7)).off + 6, none⟩ = some (.bool ((rd_T29 l0 x4_1).f6)) ∧ w'.cell? (ad208.add ((x4_1).toNat * 7)) = some (.bool (true)) ∧ w'.cell? ⟨(ad208.add ((x4_1).toNat * 7)).block, (ad208.add ((x4_1).toNat * 7)).off + 1, none⟩ = some (.string ((rd_T29 l0 x4_1).f1)) ∧ w'.cell? ⟨(ad208.add ((x4_1).toNat * 7)).block, (ad208.add ((x4_1).toNat * 7)).off + 2, none⟩ = some (.string ((rd_T29 l0 x4_1).f2)) ∧ w'.cell? ⟨(ad208.add ((x4_1).toNat * 7)).block, (ad208.add ((x4_1).toNat * 7)).off + 3, none⟩ = some (.string ((rd_T29 l0 x4_1).f3)) ∧ w'.cell? ⟨(ad208.add ((x4_1).toNat * 7)).block, (ad208.add ((x4_1).toNat * 7)).off + 4, none⟩ = some (.int .u32 ((rd_T29 l0 x4_1).f4)) ∧ w'.cell? ⟨(ad208.add ((x4_1).toNat * 7)).block, (ad208.add ((x4_1).toNat * 7)).off + 5, none⟩ = some (.int .u64 ((rd_T29 l0 x4_1).f5)) ∧ w'.cell? ⟨(ad208.add ((x4_1).toNat * 7)).block, (ad208.add ((x4_1).toNat * 7)).off + 6, none⟩ = some (.bool ((rd_T29 l0 x4_1).f6)) ∧ w'.cell? (ad208.add ((x4_1).toNat * 7)) = some (.bool (true)) ∧ w'.cell? ⟨(ad208.add ((x4_1).toNat * 7)).block, (ad208.add ((x4_1).toNat * 7)).off + 1, none⟩ = some (.string ((rd_T29 l0 x4_1).f1)) ∧ w'.cell? ⟨(ad208.add ((x4_1).toNat * 7)).block, (ad208.add ((x4_1).toNat * 7)).off + 2, none⟩ = some (.string ((rd_T29 l0 x4_1).f2)) ∧ w'.cell? ⟨(ad208.add ((x4_1).toNat * 7)).block, (ad208.add ((x4_1).toNat * 7)).off + 3, none⟩ = some (.string ((rd_T29 l0 x4_1).f3)) ∧ w'.cell? ⟨(ad208.add ((x4_1).toNat * 7)).block, (ad208.add ((x4_1).toNat * 7)).off + 4, none⟩ = some (.int .u32 ((rd_T29 l0 x4_1).f4)) ∧ w'.cell? ⟨(ad208.add ((x4_1).toNat * 7)).block, (ad208.add ((x4_1).toNat * 7)).off + 5, none⟩ = some (.int .u64 ((rd_T29 l0 x4_1).f5)) ∧ w'.cell? ⟨(ad208.add ((x4_1).toNat * 7)).block, (ad208.add ((x4_1).toNat * 7)).off + 6, none⟩ = some (.bool ((rd_T29 l0 x4_1).f6))) (ds := []) #[false, false, false, false, false, false, false, false, false, false, false, false, false, false, false, false, false, false, false, false, false, false, false, false, false, false, false, false, false, false] (by kernel_rfl) rfl rfl ⟨(by first | exact ((HB.out.cell (World.block_lt_of_cell? w _ hw209_0)).trans hw209_0) | exact ((HB.out.cell (World.block_lt_of_cell? w _ hw209_0)).trans (hw209_0.trans (by rw [← Nbq4.out])))), ((HB.out.cell (World.block_lt_of_cell? w _ hw209_1)).trans hw209_1), ((HB.out.cell (World.block_lt_of_cell? w _ hw209_2)).trans hw209_2), ((HB.out.cell (World.block_lt_of_cell? w _ hw209_3)).trans hw209_3), ((HB.out.cell (World.block_lt_of_cell? w _ hw209_4)).trans hw209_4), ((HB.out.cell (World.block_lt_of_cell? w _ hw209_5)).trans hw209_5), ((HB.out.cell (World.block_lt_of_cell? w _ hw209_6)).trans hw209_6), (by first | exact ((HB.out.cell (World.block_lt_of_cell? w _ hw210_0)).trans hw210_0) | exact ((HB.out.cell (World.block_lt_of_cell? w _ hw210_0)).trans (hw210_0.trans (by rw [← Nbq4.out])))), ((HB.out.cell (World.block_lt_of_cell? w _ hw210_1)).trans hw210_1), ((HB.out.cell (World.block_lt_of_cell? w _ hw210_2)).trans hw210_2), ((HB.out.cell (World.block_lt_of_cell? w _ hw210_3)).trans hw210_3), ((HB.out.cell (World.block_lt_of_cell? w _ hw210_4)).trans hw210_4), ((HB.out.cell (World.block_lt_of_cell? w _ hw210_5)).trans hw210_5), ((HB.out.cell (World.block_lt_of_cell? w _ hw210_6)).trans hw210_6), (by first | exact ((HB.out.cell (World.block_lt_of_cell? w _ hw211_0)).trans hw211_0) | exact ((HB.out.cell (World.block_lt_of_cell? w _ hw211_0)).trans (hw211_0.trans (by rw [← Nbq4.out])))), ((HB.out.cell (World.block_lt_of_cell? w _ hw211_1)).trans hw211_1), ((HB.out.cell (World.block_lt_of_cell? w _ hw211_2)).trans hw211_2), ((HB.out.cell (World.block_lt_of_cell? w _ hw211_3)).trans hw211_3), ((HB.out.cell (World.block_lt_of_cell? w _ hw211_4)).trans hw211_4), ((HB.out.cell (World.block_lt_of_cell? w _ hw211_5)).trans hw211_5), ((HB.out.cell (World.block_lt_of_cell? w _ hw211_6)).trans hw211_6), (by first | exact ((HB.out.cell (World.block_lt_of_cell? w _ hw212_0)).trans hw212_0) | exact ((HB.out.cell (World.block_lt_of_cell? w _ hw212_0)).trans (hw212_0.trans (by rw [← Nbq4.out])))), ((HB.out.cell (World.block_lt_of_cell? w _ hw212_1)).trans hw212_1), ((HB.out.cell (World.block_lt_of_cell? w _ hw212_2)).trans hw212_2), ((HB.out.cell (World.block_lt_of_cell? w _ hw212_3)).trans hw212_3), ((HB.out.cell (World.block_lt_of_cell? w _ hw212_4)).trans hw212_4), ((HB.out.cell (World.block_lt_of_cell? w _ hw212_5)).trans hw212_5), ((HB.out.cell (World.block_lt_of_cell? w _ hw212_6)).trans hw212_6), (by first | exact ((HB.out.cell (World.block_lt_of_cell? w _ hw213_0)).trans hw213_0) | exact ((HB.out.cell (World.block_lt_of_cell? w _ hw213_0)).trans (hw213_0.trans (by rw [← Nbq4.out])))), ((HB.out.cell (World.block_lt_of_cell? w _ hw213_1)).trans hw213_1), ((HB.out.cell (World.block_lt_of_cell? w _ hw213_2)).trans hw213_2), ((HB.out.cell (World.block_lt_of_cell? w _ hw213_3)).trans hw213_3), ((HB.out.cell (World.block_lt_of_cell? w _ hw213_4)).trans hw213_4), ((HB.out.cell (World.block_lt_of_cell? w _ hw213_5)).trans hw213_5), ((HB.out.cell (World.block_lt_of_cell? w _ hw213_6)).trans hw213_6)⟩ (fun hHeld => ?_); refine with_tabW cellaretref17_AnsBack.tab6 cellaretref17_AnsBack.bits6 (fun HT_ HW_ => ?_)
       generalize wr.drew = w7 at HO_3 HB hx209_0 hx209_1 hx209_2 hx209_3 hx209_4 hx209_5 hx209_6 hx210_0 hx210_1 hx210_2 hx210_3 hx210_4 hx210_5 hx210_6 hx211_0 hx211_1 hx211_2 hx211_3 hx211_4 hx211_5 hx211_6 hx212_0 hx212_1 hx212_2 hx212_3 hx212_4 hx212_5 hx212_6 hx213_0 hx213_1 hx213_2 hx213_3 hx213_4 hx213_5 hx213_6 hHeld ⊢
       refine pure_ (i := 0) (N := some 16) (v := ?_) (a' := ?_) #[true, false, false, false, false, false, false, false, false, false, false, false, false, false, false, false, false, false, false, false, false, false, false, false, false, false, false, false, false, false] rfl rfl (any_of HT_.out (by kernel_rfl)) (fun _ _ _ h => h) (Or.inl ⟨by rfl, ?_⟩) ?_ ?_
       rotate_left
       ·intro w'
        go_simp
        with_reducible rfl
       rotate_left
       ·simp only [Act.put, List.setIfInBounds_toArray, List.set_cons_zero, List.set_cons_succ, i64_w, i32_w]
        rfl
       refine pure_ (i := 1) (N := some 17) (v := ?_) (a' := ?_) #[true, true, false, false, false, false, false, false, false, false, false, false, false, false, false, false, false, false, false, false, false, false, false, false, false, false, false, false, false, false] rfl rfl (any_of HT_.out (by kernel_rfl)) (fun _ _ _ h => h) (Or.inl ⟨by rfl, ?_⟩) ?_ ?_
       rotate_left
       ·intro w'
        go_simp
        with_reducible rfl
       rotate_left
       ·simp only [Act.put, List.setIfInBounds_toArray, List.set_cons_zero, List.set_cons_succ, i64_w, i32_w]
        rfl
       refine pure_ (i := 2) (N := some 18) (v := ?_) (a' := ?_) #[true, true, true, false, false, false, false, false, false, false, false, false, false, false, false, false, false, false, false, false, false, false, false, false, false, false, false, false, false, false] rfl rfl (any_of HT_.out (by kernel_rfl)) (fun _ _ _ h => h) (Or.inl ⟨by rfl, ?_⟩) ?_ ?_
       rotate_left
       ·intro w'
        go_simp
        with_reducible rfl
       rotate_left
       ·simp only [Act.put, List.setIfInBounds_toArray, List.set_cons_zero, List.set_cons_succ, i64_w, i32_w]
        rfl
       refine pure_ (i := 3) (N := some 19) (v := ?_) (a' := ?_) #[true, true, true, true, false, false, false, false, false, false, false, false, false, false, false, false, false, false, false, false, false, false, false, false, false, false, false, false, false, false] rfl rfl (any_of HT_.out (by kernel_rfl)) (fun _ _ _ h => h) (Or.inl ⟨by rfl, ?_⟩) ?_ ?_
       rotate_left
       ·intro w'
        go_simp
        with_reducible rfl
       rotate_left
       ·simp only [Act.put, List.setIfInBounds_toArray, List.set_cons_zero, List.set_cons_succ, i64_w, i32_w]
        rfl
       refine pure_ (i := 4) (N := some 20) (v := ?_) (a' := ?_) #[true, true, true, true, true, false, false, false, false, false, false, false, false, false, false, false, false, false, false, false, false, false, false, false, false, false, false, false, false, false] rfl rfl (any_of HT_.out (by kernel_rfl)) (fun _ _ _ h => h) (Or.inl ⟨by rfl, ?_⟩) ?_ ?_
       rotate_left
       ·intro w'
        go_simp
        with_reducible rfl
       rotate_left
       ·simp only [Act.put, List.setIfInBounds_toArray, List.set_cons_zero, List.set_cons_succ, i64_w, i32_w]
        rfl
       refine pure_ (i := 6) (N := some 22) (v := ?_) (a' := ?_) #[true, true, true, true, true, false, true, false, false, false, false, false, false, false, false, false, false, false, false, false, false, false, false, false, false, false, false, false, false, false] rfl rfl (any_of HT_.out (by kernel_rfl)) (fun _ _ _ h => h) (Or.inl ⟨by rfl, ?_⟩) ?_ ?_
       rotate_left
       ·intro w'
        go_simp
        with_reducible rfl
       rotate_left
       ·simp only [Act.put, List.setIfInBounds_toArray, List.set_cons_zero, List.set_cons_succ, i64_w, i32_w]
        rfl
       refine pure_ (i := 7) (N := some 23) (v := ?_) (a' := ?_) #[true, true, true, true, true, false, true, true, false, false, false, false, false, false, false, false, false, false, false, false, false, false, false, false, false, false, false, false, false, false] rfl rfl (any_of HT_.out (by kernel_rfl)) (fun _ _ _ h => h) (Or.inl ⟨by rfl, ?_⟩) ?_ ?_
       rotate_left
       ·intro w'
        go_simp
        with_reducible rfl
       rotate_left
       ·simp only [Act.put, List.setIfInBounds_toArray, List.set_cons_zero, List.set_cons_succ, i64_w, i32_w]
        rfl
       refine pure_ (i := 8) (N := some 24) (v := ?_) (a' := ?_) #[true, true, true, true, true, false, true, true, true, false, false, false, false, false, false, false, false, false, false, false, false, false, false, false, false, false, false, false, false, false] rfl rfl (any_of HT_.out (by kernel_rfl)) (fun _ _ _ h => h) (Or.inl ⟨by rfl, ?_⟩) ?_ ?_
       rotate_left
       ·intro w'
        go_simp
        with_reducible rfl
       rotate_left
       ·simp only [Act.put, List.setIfInBounds_toArray, List.set_cons_zero, List.set_cons_succ, i64_w, i32_w]
        rfl
       refine pure_ (i := 9) (N := some 25) (v := ?_) (a' := ?_) #[true, true, true, true, true, false, true, true, true, true, false, false, false, false, false, false, false, false, false, false, false, false, false, false, false, false, false, false, false, false] rfl rfl (any_of HT_.out (by kernel_rfl)) (fun _ _ _ h => h) (Or.inl ⟨by rfl, ?_⟩) ?_ ?_
       rotate_left
       ·intro w'
        go_simp
        with_reducible rfl
       rotate_left
       ·simp only [Act.put, List.setIfInBounds_toArray, List.set_cons_zero, List.set_cons_succ, i64_w, i32_w]
        rfl
       refine pure_ (i := 11) (N := some 27) (v := ?_) (a' := ?_) #[true, true, true, true, true, false, true, true, true, true, false, true, false, false, false, false, false, false, false, false, false, false, false, false, false, false, false, false, false, false] rfl rfl (any_of HT_.out (by kernel_rfl)) (fun _ _ _ h => h) (Or.inl ⟨by rfl, ?_⟩) ?_ ?_
       rotate_left
       ·intro w'
        go_simp
        with_reducible rfl
       rotate_left
       ·simp only [Act.put, List.setIfInBounds_toArray, List.set_cons_zero, List.set_cons_succ, i64_w, i32_w]
        rfl
       refine pure_ (i := 12) (N := some 28) (v := ?_) (a' := ?_) #[true, true, true, true, true, false, true, true, true, true, false, true, true, false, false, false, false, false, false, false, false, false, false, false, false, false, false, false, false, false] rfl rfl (any_of HT_.out (by kernel_rfl)) (fun _ _ _ h => h) (Or.inl ⟨by rfl, ?_⟩) ?_ ?_
       rotate_left
       ·intro w'
        go_simp
        with_reducible rfl
       rotate_left
       ·simp only [Act.put, List.setIfInBounds_toArray, List.set_cons_zero, List.set_cons_succ, i64_w, i32_w]
        rfl
       refine pure_ (i := 13) (N := some 29) (v := ?_) (a' := ?_) #[true, true, true, true, true, false, true, true, true, true, false, true, true, true, false, false, false, false, false, false, false, false, false, false, false, false, false, false, false, false] rfl rfl (any_of HT_.out (by kernel_rfl)) (fun _ _ _ h => h) (Or.inl ⟨by rfl, ?_⟩) ?_ ?_
       rotate_left
       ·intro w'
        go_simp
        with_reducible rfl
       rotate_left
       ·simp only [Act.put, List.setIfInBounds_toArray, List.set_cons_zero, List.set_cons_succ, i64_w, i32_w]
        rfl
       refine pure_ (i := 14) (N := some 30) (v := ?_) (a' := ?_) #[true, true, true, true, true, false, true, true, true, true, false, true, true, true, true, false, false, false, false, false, false, false, false, false, false, false, false, false, false, false] rfl rfl (any_of HT_.out (by kernel_rfl)) (fun _ _ _ h => h) (Or.inl ⟨by rfl, ?_⟩) ?_ ?_
       rotate_left
       ·intro w'
        go_simp
        with_reducible rfl
       rotate_left
       ·simp only [Act.put, List.setIfInBounds_toArray, List.set_cons_zero, List.set_cons_succ, i64_w, i32_w]
        rfl
       refine pure_ (i := 16) (N := some 32) (v := ?_) (a' := ?_) #[true, true, true, true, true, false, true, true, true, true, false, true, true, true, true, false, true, false, false, false, false, false, false, false, false, false, false, false, false, false] rfl rfl (any_of HT_.out (by kernel_rfl)) (fun _ _ _ h => h) (Or.inl ⟨by rfl, ?_⟩) ?_ ?_
       rotate_left
       ·intro w'
        go_simp
        with_reducible rfl
       rotate_left
       ·simp only [Act.put, List.setIfInBounds_toArray, List.set_cons_zero, List.set_cons_succ, i64_w, i32_w]
        rfl
       refine pure_ (i := 17) (N := some 33) (v := ?_) (a' := ?_) #[true, true, true, true, true, false, true, true, true, true, false, true, true, true, true, false, true, true, false, false, false, false, false, false, false, false, false, false, false, false] rfl rfl (any_of HT_.out (by kernel_rfl)) (fun _ _ _ h => h) (Or.inl ⟨by rfl, ?_⟩) ?_ ?_
       rotate_left
       ·intro w'
        go_simp
        with_reducible rfl
       rotate_left
       ·simp only [Act.put, List.setIfInBounds_toArray, List.set_cons_zero, List.set_cons_succ, i64_w, i32_w]
        rfl
       refine pure_ (i := 18) (N := some 34) (v := ?_) (a' := ?_) #[true, true, true, true, true, false, true, true, true, true, false, true, true, true, true, false, true, true, true, false, false, false, false, false, false, false, false, false, false, false] rfl rfl (any_of HT_.out (by kernel_rfl)) (fun _ _ _ h => h) (Or.inl ⟨by rfl, ?_⟩) ?_ ?_
       rotate_left
       ·intro w'
        go_simp
        with_reducible rfl
       rotate_left
       ·simp only [Act.put, List.setIfInBounds_toArray, List.set_cons_zero, List.set_cons_succ, i64_w, i32_w]
        rfl
       refine pure_ (i := 19) (N := some 35) (v := ?_) (a' := ?_) #[true, true, true, true, true, false, true, true, true, true, false, true, true, true, true, false, true, true, true, true, false, false, false, false, false, false, false, false, false, false] rfl rfl (any_of HT_.out (by kernel_rfl)) (fun _ _ _ h => h) (Or.inl ⟨by rfl, ?_⟩) ?_ ?_
       rotate_left
       ·intro w'
        go_simp
        with_reducible rfl
       rotate_left
       ·simp only [Act.put, List.setIfInBounds_toArray, List.set_cons_zero, List.set_cons_succ, i64_w, i32_w]
        rfl
       refine pure_ (i := 21) (N := some 37) (v := ?_) (a' := ?_) #[true, true, true, true, true, false, true, true, true, true, false, true, true, true, true, false, true, true, true, true, false, true, false, false, false, false, false, false, false, false] rfl rfl (any_of HT_.out (by kernel_rfl)) (fun _ _ _ h => h) (Or.inl ⟨by rfl, ?_⟩) ?_ ?_
       rotate_left
       ·intro w'
        go_simp
        with_reducible rfl
       rotate_left
       ·simp only [Act.put, List.setIfInBounds_toArray, List.set_cons_zero, List.set_cons_succ, i64_w, i32_w]
        rfl
       refine pure_ (i := 22) (N := some 38) (v := ?_) (a' := ?_) #[true, true, true, true, true, false, true, true, true, true, false, true, true, true, true, false, true, true, true, true, false, true, true, false, false, false, false, false, false, false] rfl rfl (any_of HT_.out (by kernel_rfl)) (fun _ _ _ h => h) (Or.inl ⟨by rfl, ?_⟩) ?_ ?_
       rotate_left
       ·intro w'
        go_simp
        with_reducible rfl
       rotate_left
       ·simp only [Act.put, List.setIfInBounds_toArray, List.set_cons_zero, List.set_cons_succ, i64_w, i32_w]
        rfl
       refine pure_ (i := 23) (N := some 39) (v := ?_) (a' := ?_) #[true, true, true, true, true, false, true, true, true, true, false, true, true, true, true, false, true, true, true, true, false, true, true, true, false, false, false, false, false, false] rfl rfl (any_of HT_.out (by kernel_rfl)) (fun _ _ _ h => h) (Or.inl ⟨by rfl, ?_⟩) ?_ ?_
       rotate_left
       ·intro w'
        go_simp
        with_reducible rfl
       rotate_left
       ·simp only [Act.put, List.setIfInBounds_toArray, List.set_cons_zero, List.set_cons_succ, i64_w, i32_w]
        rfl
       refine pure_ (i := 24) (N := some 40) (v := ?_) (a' := ?_) #[true, true, true, true, true, false, true, true, true, true, false, true, true, true, true, false, true, true, true, true, false, true, true, true, true, false, false, false, false, false] rfl rfl (any_of HT_.out (by kernel_rfl)) (fun _ _ _ h => h) (Or.inl ⟨by rfl, ?_⟩) ?_ ?_
       rotate_left
       ·intro w'
        go_simp
        with_reducible rfl
       rotate_left
       ·simp only [Act.put, List.setIfInBounds_toArray, List.set_cons_zero, List.set_cons_succ, i64_w, i32_w]
        rfl
       refine take_ (i := 5) (N := some 21) (v := ?_) (a' := ?_) #[true, true, true, true, true, true, true, true, true, true, false, true, true, true, true, false, true, true, true, true, false, true, true, true, true, false, false, false, false, false] rfl rfl (take_ofW HT_.out HW_.out (by kernel_rfl)) (fun _ _ _ h => h) (Or.inl ⟨by rfl, ?_⟩) hHeld ?_ ?_
       rotate_left
       ·rintro w' ⟨s0, s1, s2, s3, s4, s5, s6, s7, s8, s9, s10, s11, s12, s13, s14, s15, s16, s17, s18, s19, s20, s21, s22, s23, s24, s25, s26, s27, s28, s29, s30, s31, s32, s33, s34⟩
        go_simp
        with_reducible rfl
       rotate_left
       ·simp only [Act.put, List.setIfInBounds_toArray, List.set_cons_zero, List.set_cons_succ, i64_w, i32_w]
        rfl
       refine take_ (i := 10) (N := some 26) (v := ?_) (a' := ?_) #[true, true, true, true, true, true, true, true, true, true, true, true, true, true, true, false, true, true, true, true, false, true, true, true, true, false, false, false, false, false] rfl rfl (take_ofW HT_.out HW_.out (by kernel_rfl)) (fun _ _ _ h => h) (Or.inl ⟨by rfl, ?_⟩) hHeld ?_ ?_
       rotate_left
       ·rintro w' ⟨s0, s1, s2, s3, s4, s5, s6, s7, s8, s9, s10, s11, s12, s13, s14, s15, s16, s17, s18, s19, s20, s21, s22, s23, s24, s25, s26, s27, s28, s29, s30, s31, s32, s33, s34⟩
        go_simp
        with_reducible rfl
       rotate_left
       ·simp only [Act.put, List.setIfInBounds_toArray, List.set_cons_zero, List.set_cons_succ, i64_w, i32_w]
        rfl
       refine take_ (i := 15) (N := some 31) (v := ?_) (a' := ?_) #[true, true, true, true, true, true, true, true, true, true, true, true, true, true, true, true, true, true, true, true, false, true, true, true, true, false, false, false, false, false] rfl rfl (take_ofW HT_.out HW_.out (by kernel_rfl)) (fun _ _ _ h => h) (Or.inl ⟨by rfl, ?_⟩) hHeld ?_ ?_
       rotate_left
       ·rintro w' ⟨s0, s1, s2, s3, s4, s5, s6, s7, s8, s9, s10, s11, s12, s13, s14, s15, s16, s17, s18, s19, s20, s21, s22, s23, s24, s25, s26, s27, s28, s29, s30, s31, s32, s33, s34⟩
        go_simp
        with_reducible rfl
       rotate_left
       ·simp only [Act.put, List.setIfInBounds_toArray, List.set_cons_zero, List.set_cons_succ, i64_w, i32_w]
        rfl
       refine take_ (i := 20) (N := some 36) (v := ?_) (a' := ?_) #[true, true, true, true, true, true, true, true, true, true, true, true, true, true, true, true, true, true, true, true, true, true, true, true, true, false, false, false, false, false] rfl rfl (take_ofW HT_.out HW_.out (by kernel_rfl)) (fun _ _ _ h => h) (Or.inl ⟨by rfl, ?_⟩) hHeld ?_ ?_
       rotate_left
       ·rintro w' ⟨s0, s1, s2, s3, s4, s5, s6, s7, s8, s9, s10, s11, s12, s13, s14, s15, s16, s17, s18, s19, s20, s21, s22, s23, s24, s25, s26, s27, s28, s29, s30, s31, s32, s33, s34⟩
        go_simp
        with_reducible rfl
       rotate_left
       ·simp only [Act.put, List.setIfInBounds_toArray, List.set_cons_zero, List.set_cons_succ, i64_w, i32_w]
        rfl
       refine take_ (i := 25) (N := some 41) (v := ?_) (a' := ?_) #[true, true, true, true, true, true, true, true, true, true, true, true, true, true, true, true, true, true, true, true, true, true, true, true, true, true, false, false, false, false] rfl rfl (take_ofW HT_.out HW_.out (by kernel_rfl)) (fun _ _ _ h => h) (Or.inl ⟨by rfl, ?_⟩) hHeld ?_ ?_
       rotate_left
       ·rintro w' ⟨s0, s1, s2, s3, s4, s5, s6, s7, s8, s9, s10, s11, s12, s13, s14, s15, s16, s17, s18, s19, s20, s21, s22, s23, s24, s25, s26, s27, s28, s29, s30, s31, s32, s33, s34⟩
        go_simp
        with_reducible rfl
       rotate_left
       ·simp only [Act.put, List.setIfInBounds_toArray, List.set_cons_zero, List.set_cons_succ, i64_w, i32_w]
        rfl
       refine pure_ (i := 26) (N := some 42) (v := ?_) (a' := ?_) #[true, true, true, true, true, true, true, true, true, true, true, true, true, true, true, true, true, true, true, true, true, true, true, true, true, true, true, false, false, false] rfl rfl (any_of HT_.out (by kernel_rfl)) (fun _ _ _ h => h) (Or.inl ⟨by rfl, ?_⟩) ?_ ?_
       rotate_left
       ·intro w'
        go_simp
        with_reducible rfl
       rotate_left
       ·simp only [Act.put, List.setIfInBounds_toArray, List.set_cons_zero, List.set_cons_succ, i64_w, i32_w]
        rfl
       refine one_ (i := 27) (N := some 43) #[true, true, true, true, true, true, true, true, true, true, true, true, true, true, true, true, true, true, true, true, true, true, true, true, true, true, true, true, false, false] rfl rfl (one_of HT_.out (by kernel_rfl)) (by decide) (fun K hK => ?_)
       refine value_ (w1 := ?_) (v := ?_) (by rfl) rfl ?_ ?_
       rotate_left 2
       ·go_simp
        constructor
        ·rfl
        ·rfl
       refine hK.out _ _ ⟨(World.cell?_alloc_lt _ _ _ (World.block_lt_of_cell? _ _ ((by first | exact ((HB.out.cell (World.block_lt_of_cell? w _ hw209_0)).trans hw209_0) | exact ((HB.out.cell (World.block_lt_of_cell? w _ hw209_0)).trans (hw209_0.trans (by rw [← Nbq4.out]))))))).trans ((by first | exact ((HB.out.cell (World.block_lt_of_cell? w _ hw209_0)).trans hw209_0) | exact ((HB.out.cell (World.block_lt_of_cell? w _ hw209_0)).trans (hw209_0.trans (by rw [← Nbq4.out]))))), (World.cell?_alloc_lt _ _ _ (World.block_lt_of_cell? _ _ (((HB.out.cell (World.block_lt_of_cell? w _ hw209_1)).trans hw209_1)))).trans (((HB.out.cell (World.block_lt_of_cell? w _ hw209_1)).trans hw209_1)), (World.cell?_alloc_lt _ _ _ (World.block_lt_of_cell? _ _ (((HB.out.cell (World.block_lt_of_cell? w _ hw209_2)).trans hw209_2)))).trans (((HB.out.cell (World.block_lt_of_cell? w _ hw209_2)).trans hw209_2)), (World.cell?_alloc_lt _ _ _ (World.block_lt_of_cell? _ _ (((HB.out.cell (World.block_lt_of_cell? w _ hw209_3)).trans hw209_3)))).trans (((HB.out.cell (World.block_lt_of_cell? w _ hw209_3)).trans hw209_3)), (World.cell?_alloc_lt _ _ _ (World.block_lt_of_cell? _ _ (((HB.out.cell (World.block_lt_of_cell? w _ hw209_4)).trans hw209_4)))).trans (((HB.out.cell (World.block_lt_of_cell? w _ hw209_4)).trans hw209_4)), (World.cell?_alloc_lt _ _ _ (World.block_lt_of_cell? _ _ (((HB.out.cell (World.block_lt_of_cell? w _ hw209_5)).trans hw209_5)))).trans (((HB.out.cell (World.block_lt_of_cell? w _ hw209_5)).trans hw209_5)), (World.cell?_alloc_lt _ _ _ (World.block_lt_of_cell? _ _ (((HB.out.cell (World.block_lt_of_cell? w _ hw209_6)).trans hw209_6)))).trans (((HB.out.cell (World.block_lt_of_cell? w _ hw209_6)).trans hw209_6)), (World.cell?_alloc_lt _ _ _ (World.block_lt_of_cell? _ _ ((by first | exact ((HB.out.cell (World.block_lt_of_cell? w _ hw210_0)).trans hw210_0) | exact ((HB.out.cell (World.block_lt_of_cell? w _ hw210_0)).trans (hw210_0.trans (by rw [← Nbq4.out]))))))).trans ((by first | exact ((HB.out.cell (World.block_lt_of_cell? w _ hw210_0)).trans hw210_0) | exact ((HB.out.cell (World.block_lt_of_cell? w _ hw210_0)).trans (hw210_0.trans (by rw [← Nbq4.out]))))), (World.cell?_alloc_lt _ _ _ (World.block_lt_of_cell? _ _ (((HB.out.cell (World.block_lt_of_cell? w _ hw210_1)).trans hw210_1)))).trans (((HB.out.cell (World.block_lt_of_cell? w _ hw210_1)).trans hw210_1)), (World.cell?_alloc_lt _ _ _ (World.block_lt_of_cell? _ _ (((HB.out.cell (World.block_lt_of_cell? w _ hw210_2)).trans hw210_2)))).trans (((HB.out.cell (World.block_lt_of_cell? w _ hw210_2)).trans hw210_2)), (World.cell?_alloc_lt _ _ _ (World.block_lt_of_cell? _ _ (((HB.out.cell (World.block_lt_of_cell? w _ hw210_3)).trans hw210_3)))).trans (((HB.out.cell (World.block_lt_of_cell? w _ hw210_3)).trans hw210_3)), (World.cell?_alloc_lt _ _ _ (World.block_lt_of_cell? _ _ (((HB.out.cell (World.block_lt_of_cell? w _ hw210_4)).trans hw210_4)))).trans (((HB.out.cell (World.block_lt_of_cell? w _ hw210_4)).trans hw210_4)), (World.cell?_alloc_lt _ _ _ (World.block_lt_of_cell? _ _ (((HB.out.cell (World.block_lt_of_cell? w _ hw210_5)).trans hw210_5)))).trans (((HB.out.cell (World.block_lt_of_cell? w _ hw210_5)).trans hw210_5)), (World.cell?_alloc_lt _ _ _ (World.block_lt_of_cell? _ _ (((HB.out.cell (World.block_lt_of_cell? w _ hw210_6)).trans hw210_6)))).trans (((HB.out.cell (World.block_lt_of_cell? w _ hw210_6)).trans hw210_6)), (World.cell?_alloc_lt _ _ _ (World.block_lt_of_cell? _ _ ((by first | exact ((HB.out.cell (World.block_lt_of_cell? w _ hw211_0)).trans hw211_0) | exact ((HB.out.cell (World.block_lt_of_cell? w _ hw211_0)).trans (hw211_0.trans (by rw [← Nbq4.out]))))))).trans ((by first | exact ((HB.out.cell (World.block_lt_of_cell? w _ hw211_0)).trans hw211_0) | exact ((HB.out.cell (World.block_lt_of_cell? w _ hw211_0)).trans (hw211_0.trans (by rw [← Nbq4.out]))))), (World.cell?_alloc_lt _ _ _ (World.block_lt_of_cell? _ _ (((HB.out.cell (World.block_lt_of_cell? w _ hw211_1)).trans hw211_1)))).trans (((HB.out.cell (World.block_lt_of_cell? w _ hw211_1)).trans hw211_1)), (World.cell?_alloc_lt _ _ _ (World.block_lt_of_cell? _ _ (((HB.out.cell (World.block_lt_of_cell? w _ hw211_2)).trans hw211_2)))).trans (((HB.out.cell (World.block_lt_of_cell? w _ hw211_2)).trans hw211_2)), (World.cell?_alloc_lt _ _ _ (World.block_lt_of_cell? _ _ (((HB.out.cell (World.block_lt_of_cell? w _ hw211_3)).trans hw211_3)))).trans (((HB.out.cell (World.block_lt_of_cell? w _ hw211_3)).trans hw211_3)), (World.cell?_alloc_lt _ _ _ (World.block_lt_of_cell? _ _ (((HB.out.cell (World.block_lt_of_cell? w _ hw211_4)).trans hw211_4)))).trans (((HB.out.cell (World.block_lt_of_cell? w _ hw211_4)).trans hw211_4)), (World.cell?_alloc_lt _ _ _ (World.block_lt_of_cell? _ _ (((HB.out.cell (World.block_lt_of_cell? w _ hw211_5)).trans hw211_5)))).trans (((HB.out.cell (World.block_lt_of_cell? w _ hw211_5)).trans hw211_5)), (World.cell?_alloc_lt _ _ _ (World.block_lt_of_cell? _ _ (((HB.out.cell (World.block_lt_of_cell? w _ hw211_6)).trans hw211_6)))).trans (((HB.out.cell (World.block_lt_of_cell? w _ hw211_6)).trans hw211_6)), (World.cell?_alloc_lt _ _ _ (World.block_lt_of_cell? _ _ ((by first | exact ((HB.out.cell (World.block_lt_of_cell? w _ hw212_0)).trans hw212_0) | exact ((HB.out.cell (World.block_lt_of_cell? w _ hw212_0)).trans (hw212_0.trans (by rw [← Nbq4.out]))))))).trans ((by first | exact ((HB.out.cell (World.block_lt_of_cell? w _ hw212_0)).trans hw212_0) | exact ((HB.out.cell (World.block_lt_of_cell? w _ hw212_0)).trans (hw212_0.trans (by rw [← Nbq4.out]))))), (World.cell?_alloc_lt _ _ _ (World.block_lt_of_cell? _ _ (((HB.out.cell (World.block_lt_of_cell? w _ hw212_1)).trans hw212_1)))).trans (((HB.out.cell (World.block_lt_of_cell? w _ hw212_1)).trans hw212_1)), (World.cell?_alloc_lt _ _ _ (World.block_lt_of_cell? _ _ (((HB.out.cell (World.block_lt_of_cell? w _ hw212_2)).trans hw212_2)))).trans (((HB.out.cell (World.block_lt_of_cell? w _ hw212_2)).trans hw212_2)), (World.cell?_alloc_lt _ _ _ (World.block_lt_of_cell? _ _ (((HB.out.cell (World.block_lt_of_cell? w _ hw212_3)).trans hw212_3)))).trans (((HB.out.cell (World.block_lt_of_cell? w _ hw212_3)).trans hw212_3)), (World.cell?_alloc_lt _ _ _ (World.block_lt_of_cell? _ _ (((HB.out.cell (World.block_lt_of_cell? w _ hw212_4)).trans hw212_4)))).trans (((HB.out.cell (World.block_lt_of_cell? w _ hw212_4)).trans hw212_4)), (World.cell?_alloc_lt _ _ _ (World.block_lt_of_cell? _ _ (((HB.out.cell (World.block_lt_of_cell? w _ hw212_5)).trans hw212_5)))).trans (((HB.out.cell (World.block_lt_of_cell? w _ hw212_5)).trans hw212_5)), (World.cell?_alloc_lt _ _ _ (World.block_lt_of_cell? _ _ (((HB.out.cell (World.block_lt_of_cell? w _ hw212_6)).trans hw212_6)))).trans (((HB.out.cell (World.block_lt_of_cell? w _ hw212_6)).trans hw212_6)), (World.cell?_alloc_lt _ _ _ (World.block_lt_of_cell? _ _ ((by first | exact ((HB.out.cell (World.block_lt_of_cell? w _ hw213_0)).trans hw213_0) | exact ((HB.out.cell (World.block_lt_of_cell? w _ hw213_0)).trans (hw213_0.trans (by rw [← Nbq4.out]))))))).trans ((by first | exact ((HB.out.cell (World.block_lt_of_cell? w _ hw213_0)).trans hw213_0) | exact ((HB.out.cell (World.block_lt_of_cell? w _ hw213_0)).trans (hw213_0.trans (by rw [← Nbq4.out]))))), (World.cell?_alloc_lt _ _ _ (World.block_lt_of_cell? _ _ (((HB.out.cell (World.block_lt_of_cell? w _ hw213_1)).trans hw213_1)))).trans (((HB.out.cell (World.block_lt_of_cell? w _ hw213_1)).trans hw213_1)), (World.cell?_alloc_lt _ _ _ (World.block_lt_of_cell? _ _ (((HB.out.cell (World.block_lt_of_cell? w _ hw213_2)).trans hw213_2)))).trans (((HB.out.cell (World.block_lt_of_cell? w _ hw213_2)).trans hw213_2)), (World.cell?_alloc_lt _ _ _ (World.block_lt_of_cell? _ _ (((HB.out.cell (World.block_lt_of_cell? w _ hw213_3)).trans hw213_3)))).trans (((HB.out.cell (World.block_lt_of_cell? w _ hw213_3)).trans hw213_3)), (World.cell?_alloc_lt _ _ _ (World.block_lt_of_cell? _ _ (((HB.out.cell (World.block_lt_of_cell? w _ hw213_4)).trans hw213_4)))).trans (((HB.out.cell (World.block_lt_of_cell? w _ hw213_4)).trans hw213_4)), (World.cell?_alloc_lt _ _ _ (World.block_lt_of_cell? _ _ (((HB.out.cell (World.block_lt_of_cell? w _ hw213_5)).trans hw213_5)))).trans (((HB.out.cell (World.block_lt_of_cell? w _ hw213_5)).trans hw213_5)), (World.cell?_alloc_lt _ _ _ (World.block_lt_of_cell? _ _ (((HB.out.cell (World.block_lt_of_cell? w _ hw213_6)).trans hw213_6)))).trans (((HB.out.cell (World.block_lt_of_cell? w _ hw213_6)).trans hw213_6))⟩ (fun hHeld => ?_)
       clear hK K
       refine norm_ (a' := ?_) ?_ ?_
       rotate_left
       ·show Act.put _ (some 43) _ = _
        simp only [Act.put, List.setIfInBounds_toArray, List.set_cons_zero, List.set_cons_succ, i64_w, i32_w]
        rfl
       refine one_ (i := 28) (N := some 44) #[true, true, true, true, true, true, true, true, true, true, true, true, true, true, true, true, true, true, true, true, true, true, true, true, true, true, true, true, true, false] rfl rfl (one_of HT_.out (by kernel_rfl)) (by decide) (fun K hK => ?_)
       refine Kd.R_append_step k34 (w0 := w) w.heap.size (by rfl) (.tmp 16) (.tmp 43) 24 34 (.agg #[(.bool false), (.string ⟨#[]⟩), (.string ⟨#[]⟩), (.string ⟨#[]⟩), (.int .u32 0), (.int .u64 0), (.bool false)]) 80 rfl Tryd.underlying24 info34 rfl (by decide) (by omega) u3 x3_1 (⟨true, (rd_T29 l0 x4_1).f2, (rd_T29 l0 x4_1).f3, (⟨#[]⟩ : ByteArray), (rd_T29 l0 x4_1).f4, (rd_T29 l0 x4_1).f5, (rd_T29 l0 x4_1).f6⟩ : S34) [.bool true, .string ((rd_T29 l0 x4_1).f2), .string ((rd_T29 l0 x4_1).f3), .string (⟨#[]⟩ : ByteArray), .int .u32 ((rd_T29 l0 x4_1).f4), .int .u64 ((rd_T29 l0 x4_1).f5), .bool ((rd_T29 l0 x4_1).f6)] (fun _ => True) (fun _ => False) rfl rfl ?aP (fun _ hk => hk.elim) ?aF ?aO ?aB ?aS ?aL ?_
       (case aP => exact k34_mkM _ _ _ (⟨true, (rd_T29 l0 x4_1).f2, (rd_T29 l0 x4_1).f3, (⟨#[]⟩ : ByteArray), (rd_T29 l0 x4_1).f4, (rd_T29 l0 x4_1).f5, (rd_T29 l0 x4_1).f6⟩ : S34))
       (case aB => exact (by repeat (first | (with_reducible first | exact HB.out | apply below_alloc | apply pw_below_drewN | apply below_drew1) | exact HB.out)))
       (case aF => exact (fun _ _ => trivial))
       (case aO => exact (by (with_reducible repeat (first | apply Kd.R_alloc | apply Kd.R_drewN | apply Kd.R_drew)); exact HO_3.out))
       (case aS => exact (below_size (by repeat (first | (with_reducible first | exact HB.out | apply below_alloc | apply pw_below_drewN | apply below_drew1) | exact HB.out))))
       (case aL => have := LMc6.out; omega)
       intro v215 w8 ho hb hg hat
       rw [← Ny214.out] at ho
       have n0_ := Aside0.mk (hb)
       have n1_ := Aside0.mk (ho)
       clear HB
       clear HO_3
       have HB := n0_
       have HO216 := n1_
       clear n0_ n1_
       clear ho hb hg hat
       refine hK.out _ _ ⟨(by first | exact ((HB.out.cell (World.block_lt_of_cell? w _ hw209_0)).trans hw209_0) | exact ((HB.out.cell (World.block_lt_of_cell? w _ hw209_0)).trans (hw209_0.trans (by rw [← Nbq4.out])))), ((HB.out.cell (World.block_lt_of_cell? w _ hw209_1)).trans hw209_1), ((HB.out.cell (World.block_lt_of_cell? w _ hw209_2)).trans hw209_2), ((HB.out.cell (World.block_lt_of_cell? w _ hw209_3)).trans hw209_3), ((HB.out.cell (World.block_lt_of_cell? w _ hw209_4)).trans hw209_4), ((HB.out.cell (World.block_lt_of_cell? w _ hw209_5)).trans hw209_5), ((HB.out.cell (World.block_lt_of_cell? w _ hw209_6)).trans hw209_6), (by first | exact ((HB.out.cell (World.block_lt_of_cell? w _ hw210_0)).trans hw210_0) | exact ((HB.out.cell (World.block_lt_of_cell? w _ hw210_0)).trans (hw210_0.trans (by rw [← Nbq4.out])))), ((HB.out.cell (World.block_lt_of_cell? w _ hw210_1)).trans hw210_1), ((HB.out.cell (World.block_lt_of_cell? w _ hw210_2)).trans hw210_2), ((HB.out.cell (World.block_lt_of_cell? w _ hw210_3)).trans hw210_3), ((HB.out.cell (World.block_lt_of_cell? w _ hw210_4)).trans hw210_4), ((HB.out.cell (World.block_lt_of_cell? w _ hw210_5)).trans hw210_5), ((HB.out.cell (World.block_lt_of_cell? w _ hw210_6)).trans hw210_6), (by first | exact ((HB.out.cell (World.block_lt_of_cell? w _ hw211_0)).trans hw211_0) | exact ((HB.out.cell (World.block_lt_of_cell? w _ hw211_0)).trans (hw211_0.trans (by rw [← Nbq4.out])))), ((HB.out.cell (World.block_lt_of_cell? w _ hw211_1)).trans hw211_1), ((HB.out.cell (World.block_lt_of_cell? w _ hw211_2)).trans hw211_2), ((HB.out.cell (World.block_lt_of_cell? w _ hw211_3)).trans hw211_3), ((HB.out.cell (World.block_lt_of_cell? w _ hw211_4)).trans hw211_4), ((HB.out.cell (World.block_lt_of_cell? w _ hw211_5)).trans hw211_5), ((HB.out.cell (World.block_lt_of_cell? w _ hw211_6)).trans hw211_6), (by first | exact ((HB.out.cell (World.block_lt_of_cell? w _ hw212_0)).trans hw212_0) | exact ((HB.out.cell (World.block_lt_of_cell? w _ hw212_0)).trans (hw212_0.trans (by rw [← Nbq4.out])))), ((HB.out.cell (World.block_lt_of_cell? w _ hw212_1)).trans hw212_1), ((HB.out.cell (World.block_lt_of_cell? w _ hw212_2)).trans hw212_2), ((HB.out.cell (World.block_lt_of_cell? w _ hw212_3)).trans hw212_3), ((HB.out.cell (World.block_lt_of_cell? w _ hw212_4)).trans hw212_4), ((HB.out.cell (World.block_lt_of_cell? w _ hw212_5)).trans hw212_5), ((HB.out.cell (World.block_lt_of_cell? w _ hw212_6)).trans hw212_6), (by first | exact ((HB.out.cell (World.block_lt_of_cell? w _ hw213_0)).trans hw213_0) | exact ((HB.out.cell (World.block_lt_of_cell? w _ hw213_0)).trans (hw213_0.trans (by rw [← Nbq4.out])))), ((HB.out.cell (World.block_lt_of_cell? w _ hw213_1)).trans hw213_1), ((HB.out.cell (World.block_lt_of_cell? w _ hw213_2)).trans hw213_2), ((HB.out.cell (World.block_lt_of_cell? w _ hw213_3)).trans hw213_3), ((HB.out.cell (World.block_lt_of_cell? w _ hw213_4)).trans hw213_4), ((HB.out.cell (World.block_lt_of_cell? w _ hw213_5)).trans hw213_5), ((HB.out.cell (World.block_lt_of_cell? w _ hw213_6)).trans hw213_6)⟩ (fun hHeld => ?_)
       clear hK K
       refine norm_ (a' := ?_) ?_ ?_
       rotate_left
       ·show Act.put _ (some 44) _ = _
        simp only [Act.put, List.setIfInBounds_toArray, List.set_cons_zero, List.set_cons_succ, i64_w, i32_w]
        rfl
       refine pure_ (i := 29) (N := some 3) (v := ?_) (a' := ?_) #[true, true, true, true, true, true, true, true, true, true, true, true, true, true, true, true, true, true, true, true, true, true, true, true, true, true, true, true, true, true] rfl rfl (any_of HT_.out (by kernel_rfl)) (fun _ _ _ h => h) (Or.inl ⟨by rfl, ?_⟩) ?_ ?_
       rotate_left
       ·intro w'
        go_simp
        with_reducible rfl
       rotate_left
       ·simp only [Act.put, List.setIfInBounds_toArray, List.set_cons_zero, List.set_cons_succ, i64_w, i32_w]
        rfl
       refine done_ (done_of HT_.out (by kernel_rfl)) ?_
       try go_wp2
       go_roundg k1
       case measure => have := HK1.out; omega
       case rel => exact ⟨(y214), (wrap64 (x4_1 + 1)), (by first | rfl | (simp; done) | (simp [*]; done)), H', ⟨by have := HK1.out; omega⟩, ⟨by (with_reducible repeat (first | apply Kd.R_alloc | apply Kd.R_drewN | apply Kd.R_drew)); exact HO216.out⟩, ⟨by repeat (first | (with_reducible first | exact HB.out | apply below_alloc | apply pw_below_drewN | apply below_drew1) | exact HB.out)⟩⟩
      ·rw [if_neg c6] at H
       exact absurd H (by simp)
     ·replace c5 := Bool.eq_false_iff.mpr c5
      subst c5
      have H1 : (if x3_1.length < 1759218604441 then (cellaretref17_AnsBack.l0 k1 l0 (x3_1 ++ [(⟨false, (⟨#[]⟩ : ByteArray), (⟨#[]⟩ : ByteArray), (rd_T29 l0 x4_1).f1, 0, 0, false⟩ : S34)]) (wrap64 (x4_1 + 1))) else (none)) = some r := by rw [if_neg (show ¬ (false = true) by decide)] at H; exact H
      clear H
      have H := H1
      clear H1
      by_cases c9 : x3_1.length < 1759218604441
      ·rw [if_pos c9] at H
       have LMc9 := Aside0.mk c9
       clear c9
       obtain ⟨y218, hy218⟩ : ∃ y_ : List (S34), y_ = (x3_1 ++ [(⟨false, (⟨#[]⟩ : ByteArray), (⟨#[]⟩ : ByteArray), (rd_T29 l0 x4_1).f1, 0, 0, false⟩ : S34)]) := ⟨_, rfl⟩
       replace H : (cellaretref17_AnsBack.l0 k1 l0 y218 (wrap64 (x4_1 + 1))) = some r := by first | (rw [hy218]; with_reducible exact H) | (have H2_ := (Option.bind_some _ _).symm.trans H; rw [hy218]; with_reducible exact H2_) | (have H2_ := (Option.bind_some _ _).symm.trans H; with_reducible exact H2_) | with_reducible exact H | (rw [hy218]; exact H) | exact H
       have Ny218 := Aside0.mk hy218
       clear hy218
       have H' := Aside0.mk H
       clear H
       have p208 : 0 ≤ (x4_1 : Int) := of_decide_eq_true (by first | (with_reducible assumption) | assumption)
       have q208 : x4_1 < (l0.length : Int) := of_decide_eq_true (by first | (with_reducible assumption) | assumption)
       obtain ⟨ad208, e208, hx208_0, hx208_1, hx208_2, hx208_3, hx208_4, hx208_5, hx208_6⟩ := at_T29 HR0.out x4_1 p208 q208
       (try rw [← Nbq4.out] at hx208_0)
       (try rw [← Nbq4.out] at hx208_6)
       cases e208
       replace hx208_0 := (HB.out.cell (World.block_lt_of_cell? w _ hx208_0)).trans hx208_0
       replace hx208_1 := (HB.out.cell (World.block_lt_of_cell? w _ hx208_1)).trans hx208_1
       replace hx208_2 := (HB.out.cell (World.block_lt_of_cell? w _ hx208_2)).trans hx208_2
       replace hx208_3 := (HB.out.cell (World.block_lt_of_cell? w _ hx208_3)).trans hx208_3
       replace hx208_4 := (HB.out.cell (World.block_lt_of_cell? w _ hx208_4)).trans hx208_4
       replace hx208_5 := (HB.out.cell (World.block_lt_of_cell? w _ hx208_5)).trans hx208_5
       replace hx208_6 := (HB.out.cell (World.block_lt_of_cell? w _ hx208_6)).trans hx208_6
       replace p208 := eq_true p208
       replace q208 := eq_true q208
       have p217 : 0 ≤ (x4_1 : Int) := of_decide_eq_true (by first | (with_reducible assumption) | assumption)
       have q217 : x4_1 < (l0.length : Int) := of_decide_eq_true (by first | (with_reducible assumption) | assumption)
       obtain ⟨ad217, e217, hx217_0, hx217_1, hx217_2, hx217_3, hx217_4, hx217_5, hx217_6⟩ := at_T29 HR0.out x4_1 p217 q217
       (try rw [← Nbq4.out] at hx217_0)
       (try rw [← Nbq4.out] at hx217_6)
       obtain rfl : ad208 = ad217 := (by injection e217)
       replace hx217_0 := (HB.out.cell (World.block_lt_of_cell? w _ hx217_0)).trans hx217_0
       replace hx217_1 := (HB.out.cell (World.block_lt_of_cell? w _ hx217_1)).trans hx217_1
       replace hx217_2 := (HB.out.cell (World.block_lt_of_cell? w _ hx217_2)).trans hx217_2
       replace hx217_3 := (HB.out.cell (World.block_lt_of_cell? w _ hx217_3)).trans hx217_3
       replace hx217_4 := (HB.out.cell (World.block_lt_of_cell? w _ hx217_4)).trans hx217_4
       replace hx217_5 := (HB.out.cell (World.block_lt_of_cell? w _ hx217_5)).trans hx217_5
       replace hx217_6 := (HB.out.cell (World.block_lt_of_cell? w _ hx217_6)).trans hx217_6
       replace p217 := eq_true p217
       replace q217 := eq_true q217
       go_wp2_with (first | ((with_reducible refine gate_builtin (b := .append) (xs := #[.tmp 45, .tmp 52]) rfl ?_); at_builtin; refine Kd.R_append k34 (w0 := w) w.heap.size rfl (.tmp 45) (.tmp 52) 24 34 (.agg #[(.bool false), (.string ⟨#[]⟩), (.string ⟨#[]⟩), (.string ⟨#[]⟩), (.int .u32 0), (.int .u64 0), (.bool false)]) 80 rfl Tryd.underlying24 info34 rfl (by decide) (by omega) u3 x3_1 (⟨false, (⟨#[]⟩ : ByteArray), (⟨#[]⟩ : ByteArray), (rd_T29 l0 x4_1).f1, 0, 0, false⟩ : S34) [.bool false, .string (⟨#[]⟩ : ByteArray), .string (⟨#[]⟩ : ByteArray), .string ((rd_T29 l0 x4_1).f1), .int .u32 0, .int .u64 0, .bool false] (fun _ => True) (fun _ => False) rfl rfl ?aP (fun _ hk => hk.elim) ?aF ?aO ?aB ?aS ?aL ?_; (case aP => exact k34_mkM _ _ _ (⟨false, (⟨#[]⟩ : ByteArray), (⟨#[]⟩ : ByteArray), (rd_T29 l0 x4_1).f1, 0, 0, false⟩ : S34)); (case aB => exact (by repeat (first | (with_reducible first | exact HB.out | apply below_alloc | apply pw_below_drewN | apply below_drew1) | exact HB.out))); (case aF => exact (fun _ _ => trivial)); (case aO => exact (by (with_reducible repeat (first | apply Kd.R_alloc | apply Kd.R_drewN | apply Kd.R_drew)); exact HO_3.out)); (case aS => exact (below_size (by repeat (first | (with_reducible first | exact HB.out | apply below_alloc | apply pw_below_drewN | apply below_drew1) | exact HB.out)))); (case aL => have := LMc9.out; omega); intro v219 w10 ho hb hg hat; rw [← Ny218.out] at ho; have n0_ := Aside0.mk (hb); have n1_ := Aside0.mk (ho); clear HB; clear HO_3; have HB := n0_; have HO220 := n1_; clear n0_ n1_; clear ho hb hg hat))
       go_roundg k1
       case measure => have := HK1.out; omega
       case rel => exact ⟨(y218), (wrap64 (x4_1 + 1)), (by first | rfl | (simp; done) | (simp [*]; done)), H', ⟨by have := HK1.out; omega⟩, ⟨by (with_reducible repeat (first | apply Kd.R_alloc | apply Kd.R_drewN | apply Kd.R_drew)); exact HO220.out⟩, ⟨by repeat (first | (with_reducible first | exact HB.out | apply below_alloc | apply pw_below_drewN | apply below_drew1) | exact HB.out)⟩⟩
      ·rw [if_neg c9] at H
       exact absurd H (by simp)
    ·rw [if_neg c3] at H
     exact absurd H (by simp)
   ·rw [if_neg c2] at H
    have c2b0 : decide (x4_1 < (l0.length : Int)) = false := decide_eq_false c2
    clear c2
    obtain rfl := Option.some.inj H
    go_wp2
    go_ret
    exact ⟨_, by first | rfl | (simp [errW_none, errW_some] <;> rfl) | (simp [*, errW_none, errW_some] <;> rfl), by (with_reducible repeat (first | apply Kd.R_alloc | apply Kd.R_drewN | apply Kd.R_drew)); exact HO_3.out, by repeat (first | (with_reducible first | exact HB.out | apply below_alloc | apply pw_below_drewN | apply below_drew1) | exact HB.out)⟩

end Go.Proofs.YtgopcfkofjipjaaDoor.H
-- thinned
