/-
  Printed by this session's hybrid.py (it runs the kit's print over contracts of our own for library functions): plain functions with the answers of Go functions, and that the calls come to them. Their conditions stand in each head.
-/
import Derived.Test.YtgopcfkofjipjaaDoorV3
import Derived.Test.YtgopcfkofjipjaaDoorHX0
import Derived.Test.YtgopcfkofjipjaaDoorHX6
import Derived.Test.YtgopcfkofjipjaaDoorHX15
import Derived.Test.YtgopcfkofjipjaaDoorHX16
import Derived.Test.YtgopcfkofjipjaaDoorHX17
import Derived.Test.YtgopcfkofjipjaaDoorHX21
import Derived.Test.YtgopcfkofjipjaaDoorHX22
import Derived.Test.YtgopcfkofjipjaaDoorHX25
namespace Go.Proofs.YtgopcfkofjipjaaDoor.H
open Go.RowKit Go.Proofs.YtgopcfkofjipjaaDoorW.PrintWords Go.Proofs.YtgopcfkofjipjaaDoorW.PrintLast Go.Proofs.YtgopcfkofjipjaaDoorW.PrintMore
attribute [local go_sem] max2_int min2_int max_two min_two max_three min_three max_four min_four   -- for this text's walks alone
set_option linter.unusedVariables false
set_option linter.unusedSimpArgs false

/-! ### cellaretlaw19_ReplyBack: function 4 -/
mutual
def cellaretlaw19_ReplyBack.l0 : Nat → List (S29) → ByteArray → Int → Option (Bool)
  | 0, _, _, _ => none
  | k + 1, x0, x1, x5 => if x5 < (x0.length : Int) then (if 0 ≤ x5 then ((cellaretlaw19_fair.f k ((rd_T29 x0 x5).f0) ((rd_T29 x0 x5).f1) ((rd_T29 x0 x5).f2) ((rd_T29 x0 x5).f3) ((rd_T29 x0 x5).f4) ((rd_T29 x0 x5).f5) ((rd_T29 x0 x5).f6)).bind fun t247 => (if t247 = true then (cellaretlaw19_ReplyBack.j1 k x0 x1 x5 (decide ((((rd_T29 x0 x5).f3).size : Int) > 2000))) else (cellaretlaw19_ReplyBack.j1 k x0 x1 x5 true))) else (none)) else (cellaretlaw19_ReplyBack.l1 k x0 x1 0)
def cellaretlaw19_ReplyBack.j1 : Nat → List (S29) → ByteArray → Int → Bool → Option (Bool)
  | 0, _, _, _, _ => none
  | k + 1, x0, x1, x5, x35 => if x35 = true then (some true) else (if 0 ≤ x5 then (if x5 < (x0.length : Int) then (if (rd_T29 x0 x5).f0 = true then (cellaretlaw19_ReplyBack.j2 k x0 x1 x5 (!((rd_T29 x0 x5).f6))) else (cellaretlaw19_ReplyBack.j2 k x0 x1 x5 false)) else (none)) else (none))
def cellaretlaw19_ReplyBack.j2 : Nat → List (S29) → ByteArray → Int → Bool → Option (Bool)
  | 0, _, _, _, _ => none
  | k + 1, x0, x1, x5, x48 => if x48 = true then ((some (([] : List (S29)) : List (S29))).bind fun y251 => (if y251.length + x0.length < 1759218604441 then ((some (y251 ++ x0 : List (S29))).bind fun y254 => (if 0 ≤ x5 then (if x5 < (y254.length : Int) then ((some (y254.set (x5 : Int).toNat (⟨(rd_T29 y254 x5).f0, (rd_T29 y254 x5).f1, (rd_T29 y254 x5).f2, (rd_T29 y254 x5).f3, (rd_T29 y254 x5).f4, 0, (rd_T29 y254 x5).f6⟩ : S29) : List (S29))).bind fun y257 => (if (rd_T29 y257 x5).f0 = true then ((some (([] : List (S29)) : List (S29))).bind fun y259 => (if y259.length + y257.length < 1759218604441 then ((some (y259 ++ y257 : List (S29))).bind fun y262 => (if x5 < (y262.length : Int) then (cellaretlaw19_ReplyBack.l0 k (y262.set (x5 : Int).toNat (⟨(rd_T29 y262 x5).f0, (⟨#[]⟩ : ByteArray), (rd_T29 y262 x5).f2, (rd_T29 y262 x5).f3, (rd_T29 y262 x5).f4, (rd_T29 y262 x5).f5, (rd_T29 y262 x5).f6⟩ : S29)) x1 (wrap64 (x5 + 1))) else (none))) else (none))) else ((some (([] : List (S29)) : List (S29))).bind fun y266 => (if y266.length + y257.length < 1759218604441 then ((some (y266 ++ y257 : List (S29))).bind fun y269 => (if x5 < (y269.length : Int) then ((cellaretref18_Line.f ((rd_T29 y269 x5).f1)).bind fun bt273 => (cellaretlaw19_ReplyBack.l0 k (y269.set (x5 : Int).toNat (⟨bt273.1, bt273.2.1, bt273.2.2.1, bt273.2.2.2.1, bt273.2.2.2.2.1, bt273.2.2.2.2.2.1, bt273.2.2.2.2.2.2⟩ : S29)) x1 (wrap64 (x5 + 1)))) else (none))) else (none))))) else (none)) else (none))) else (none))) else (if 0 ≤ x5 then (if x5 < (x0.length : Int) then (if (rd_T29 x0 x5).f0 = true then ((some (([] : List (S29)) : List (S29))).bind fun y282 => (if y282.length + x0.length < 1759218604441 then ((some (y282 ++ x0 : List (S29))).bind fun y285 => (if x5 < (y285.length : Int) then (cellaretlaw19_ReplyBack.l0 k (y285.set (x5 : Int).toNat (⟨(rd_T29 y285 x5).f0, (⟨#[]⟩ : ByteArray), (rd_T29 y285 x5).f2, (rd_T29 y285 x5).f3, (rd_T29 y285 x5).f4, (rd_T29 y285 x5).f5, (rd_T29 y285 x5).f6⟩ : S29)) x1 (wrap64 (x5 + 1))) else (none))) else (none))) else ((some (([] : List (S29)) : List (S29))).bind fun y289 => (if y289.length + x0.length < 1759218604441 then ((some (y289 ++ x0 : List (S29))).bind fun y292 => (if x5 < (y292.length : Int) then ((cellaretref18_Line.f ((rd_T29 y292 x5).f1)).bind fun bt296 => (cellaretlaw19_ReplyBack.l0 k (y292.set (x5 : Int).toNat (⟨bt296.1, bt296.2.1, bt296.2.2.1, bt296.2.2.2.1, bt296.2.2.2.2.1, bt296.2.2.2.2.2.1, bt296.2.2.2.2.2.2⟩ : S29)) x1 (wrap64 (x5 + 1)))) else (none))) else (none)))) else (none)) else (none))
def cellaretlaw19_ReplyBack.l1 : Nat → List (S29) → ByteArray → Int → Option (Bool)
  | 0, _, _, _ => none
  | k + 1, x0, x1, x6 => if x6 < (x1.size : Int) then (if 0 ≤ x6 then (if (bt x1 x6) = 10 then (some true) else (cellaretlaw19_ReplyBack.l1 k x0 x1 (wrap64 (x6 + 1)))) else (none)) else ((cellaretref17_AnsBack.f k x0).bind fun t304 => ((reply_All.f k t304).bind fun t307 => ((some (([] : List Int) : List Int)).bind fun y310 => (if y310.length + t307.length < 140737488355328 then ((some (y310 ++ t307 : List Int)).bind fun y313 => (if y313.length + x1.size < 140737488355328 then ((reply_Read.f k (y313 ++ bytesOf x1)).bind fun bt319 => (if bt319.2 = (t307.length : Int) then ((cellaretref17_SameAns.f k bt319.1 x0).bind fun t323 => (some t323)) else (some false))) else (none))) else (none)))))
end
def cellaretlaw19_ReplyBack.f (k : Nat) (l0 : List (S29)) (a1 : ByteArray) : Option (Bool) := (cellaretlaw19_awake.f k).bind fun t245 => (if t245 = true then (if (l0.length : Int) > 30 then (some true) else (cellaretlaw19_ReplyBack.l0 k l0 a1 0)) else (some false))
theorem cellaretlaw19_ReplyBack.mono_l : ∀ k, (∀ y0 y1 y2, LeO (cellaretlaw19_ReplyBack.l0 k y0 y1 y2) (cellaretlaw19_ReplyBack.l0 (k + 1) y0 y1 y2)) ∧ (∀ y0 y1 y2 y3, LeO (cellaretlaw19_ReplyBack.j1 k y0 y1 y2 y3) (cellaretlaw19_ReplyBack.j1 (k + 1) y0 y1 y2 y3)) ∧ (∀ y0 y1 y2 y3, LeO (cellaretlaw19_ReplyBack.j2 k y0 y1 y2 y3) (cellaretlaw19_ReplyBack.j2 (k + 1) y0 y1 y2 y3)) ∧ (∀ y0 y1 y2, LeO (cellaretlaw19_ReplyBack.l1 k y0 y1 y2) (cellaretlaw19_ReplyBack.l1 (k + 1) y0 y1 y2))
  | 0 => ⟨fun _ _ _ r h => by simp [cellaretlaw19_ReplyBack.l0] at h, fun _ _ _ _ r h => by simp [cellaretlaw19_ReplyBack.j1] at h, fun _ _ _ _ r h => by simp [cellaretlaw19_ReplyBack.j2] at h, fun _ _ _ r h => by simp [cellaretlaw19_ReplyBack.l1] at h⟩
  | k + 1 => by
    obtain ⟨ih0, ih1, ih2, ih3⟩ := cellaretlaw19_ReplyBack.mono_l k
    refine ⟨?_, ?_, ?_, ?_⟩
    · intro y0 y1 y2
      unfold cellaretlaw19_ReplyBack.l0
      repeat' first
      | (with_reducible exact ih0 _ _ _)
      | (with_reducible exact ih1 _ _ _ _)
      | (with_reducible exact ih2 _ _ _ _)
      | (with_reducible exact ih3 _ _ _)
      | (with_reducible exact cellaretlaw19_awake.mono _)
      | (with_reducible exact cellaretlaw19_fair.mono _ _ _ _ _ _ _ _)
      | (with_reducible exact cellaretref17_AnsBack.mono _ _)
      | (with_reducible exact cellaretref17_SameAns.mono _ _ _)
      | (with_reducible exact reply_All.mono _ _)
      | (with_reducible exact reply_Read.mono _ _)
      | (with_reducible exact LeO.refl _)
      | (with_reducible exact LeO.none _)
      | (with_reducible refine LeO.ite ?_ ?_)
      | (with_reducible refine LeO.bind ?_ (fun _ => ?_))
      | exact ih0 _ _ _
      | exact ih1 _ _ _ _
      | exact ih2 _ _ _ _
      | exact ih3 _ _ _
      | exact cellaretlaw19_awake.mono _
      | exact cellaretlaw19_fair.mono _ _ _ _ _ _ _ _
      | exact cellaretref17_AnsBack.mono _ _
      | exact cellaretref17_SameAns.mono _ _ _
      | exact reply_All.mono _ _
      | exact reply_Read.mono _ _
      | exact LeO.none _
      | refine LeO.ite ?_ ?_
      | refine LeO.bind ?_ (fun _ => ?_)
    · intro y0 y1 y2 y3
      unfold cellaretlaw19_ReplyBack.j1
      repeat' first
      | (with_reducible exact ih0 _ _ _)
      | (with_reducible exact ih1 _ _ _ _)
      | (with_reducible exact ih2 _ _ _ _)
      | (with_reducible exact ih3 _ _ _)
      | (with_reducible exact cellaretlaw19_awake.mono _)
      | (with_reducible exact cellaretlaw19_fair.mono _ _ _ _ _ _ _ _)
      | (with_reducible exact cellaretref17_AnsBack.mono _ _)
      | (with_reducible exact cellaretref17_SameAns.mono _ _ _)
      | (with_reducible exact reply_All.mono _ _)
      | (with_reducible exact reply_Read.mono _ _)
      | (with_reducible exact LeO.refl _)
      | (with_reducible exact LeO.none _)
      | (with_reducible refine LeO.ite ?_ ?_)
      | (with_reducible refine LeO.bind ?_ (fun _ => ?_))
      | exact ih0 _ _ _
      | exact ih1 _ _ _ _
      | exact ih2 _ _ _ _
      | exact ih3 _ _ _
      | exact cellaretlaw19_awake.mono _
      | exact cellaretlaw19_fair.mono _ _ _ _ _ _ _ _
      | exact cellaretref17_AnsBack.mono _ _
      | exact cellaretref17_SameAns.mono _ _ _
      | exact reply_All.mono _ _
      | exact reply_Read.mono _ _
      | exact LeO.none _
      | refine LeO.ite ?_ ?_
      | refine LeO.bind ?_ (fun _ => ?_)
    · intro y0 y1 y2 y3
      unfold cellaretlaw19_ReplyBack.j2
      repeat' first
      | (with_reducible exact ih0 _ _ _)
      | (with_reducible exact ih1 _ _ _ _)
      | (with_reducible exact ih2 _ _ _ _)
      | (with_reducible exact ih3 _ _ _)
      | (with_reducible exact cellaretlaw19_awake.mono _)
      | (with_reducible exact cellaretlaw19_fair.mono _ _ _ _ _ _ _ _)
      | (with_reducible exact cellaretref17_AnsBack.mono _ _)
      | (with_reducible exact cellaretref17_SameAns.mono _ _ _)
      | (with_reducible exact reply_All.mono _ _)
      | (with_reducible exact reply_Read.mono _ _)
      | (with_reducible exact LeO.refl _)
      | (with_reducible exact LeO.none _)
      | (with_reducible refine LeO.ite ?_ ?_)
      | (with_reducible refine LeO.bind ?_ (fun _ => ?_))
      | exact ih0 _ _ _
      | exact ih1 _ _ _ _
      | exact ih2 _ _ _ _
      | exact ih3 _ _ _
      | exact cellaretlaw19_awake.mono _
      | exact cellaretlaw19_fair.mono _ _ _ _ _ _ _ _
      | exact cellaretref17_AnsBack.mono _ _
      | exact cellaretref17_SameAns.mono _ _ _
      | exact reply_All.mono _ _
      | exact reply_Read.mono _ _
      | exact LeO.none _
      | refine LeO.ite ?_ ?_
      | refine LeO.bind ?_ (fun _ => ?_)
    · intro y0 y1 y2
      unfold cellaretlaw19_ReplyBack.l1
      repeat' first
      | (with_reducible exact ih0 _ _ _)
      | (with_reducible exact ih1 _ _ _ _)
      | (with_reducible exact ih2 _ _ _ _)
      | (with_reducible exact ih3 _ _ _)
      | (with_reducible exact cellaretlaw19_awake.mono _)
      | (with_reducible exact cellaretlaw19_fair.mono _ _ _ _ _ _ _ _)
      | (with_reducible exact cellaretref17_AnsBack.mono _ _)
      | (with_reducible exact cellaretref17_SameAns.mono _ _ _)
      | (with_reducible exact reply_All.mono _ _)
      | (with_reducible exact reply_Read.mono _ _)
      | (with_reducible exact LeO.refl _)
      | (with_reducible exact LeO.none _)
      | (with_reducible refine LeO.ite ?_ ?_)
      | (with_reducible refine LeO.bind ?_ (fun _ => ?_))
      | exact ih0 _ _ _
      | exact ih1 _ _ _ _
      | exact ih2 _ _ _ _
      | exact ih3 _ _ _
      | exact cellaretlaw19_awake.mono _
      | exact cellaretlaw19_fair.mono _ _ _ _ _ _ _ _
      | exact cellaretref17_AnsBack.mono _ _
      | exact cellaretref17_SameAns.mono _ _ _
      | exact reply_All.mono _ _
      | exact reply_Read.mono _ _
      | exact LeO.none _
      | refine LeO.ite ?_ ?_
      | refine LeO.bind ?_ (fun _ => ?_)
theorem cellaretlaw19_ReplyBack.mono : ∀ a0 a1 k, LeO (cellaretlaw19_ReplyBack.f k a0 a1) (cellaretlaw19_ReplyBack.f (k + 1) a0 a1) := by
  intro a0 a1 k
  obtain ⟨ih0, ih1, ih2, ih3⟩ := cellaretlaw19_ReplyBack.mono_l k
  unfold cellaretlaw19_ReplyBack.f
  repeat' first
      | (with_reducible exact ih0 _ _ _)
      | (with_reducible exact ih1 _ _ _ _)
      | (with_reducible exact ih2 _ _ _ _)
      | (with_reducible exact ih3 _ _ _)
      | (with_reducible exact cellaretlaw19_awake.mono _)
      | (with_reducible exact cellaretlaw19_fair.mono _ _ _ _ _ _ _ _)
      | (with_reducible exact cellaretref17_AnsBack.mono _ _)
      | (with_reducible exact cellaretref17_SameAns.mono _ _ _)
      | (with_reducible exact reply_All.mono _ _)
      | (with_reducible exact reply_Read.mono _ _)
      | (with_reducible exact LeO.refl _)
      | (with_reducible exact LeO.none _)
      | (with_reducible refine LeO.ite ?_ ?_)
      | (with_reducible refine LeO.bind ?_ (fun _ => ?_))
      | exact ih0 _ _ _
      | exact ih1 _ _ _ _
      | exact ih2 _ _ _ _
      | exact ih3 _ _ _
      | exact cellaretlaw19_awake.mono _
      | exact cellaretlaw19_fair.mono _ _ _ _ _ _ _ _
      | exact cellaretref17_AnsBack.mono _ _
      | exact cellaretref17_SameAns.mono _ _ _
      | exact reply_All.mono _ _
      | exact reply_Read.mono _ _
      | exact LeO.none _
      | refine LeO.ite ?_ ?_
      | refine LeO.bind ?_ (fun _ => ?_)
set_option maxHeartbeats 8000000 in
set_option maxRecDepth 100000 in
theorem cellaretlaw19_ReplyBack.calls (k : Nat) (P0_ : Nat → Prop) (A0 : Option Addr) (c0 : Nat) (l0 : List (S29)) (a1 : ByteArray) (r : Bool) (w : World) (HLD : LaidA w) (hs0 : Kd.V k29 29 w w.heap.size (fun k_ => P0_ k_) (.slice A0 l0.length c0) l0) (h : cellaretlaw19_ReplyBack.f k l0 a1 = some r) :
    Calls Tryd.prog 4 #[.slice A0 l0.length c0, .string a1] w fun e w' => e = .returned (.bool r) ∧ Below w.heap.size w w' := by
  have hu29 := Tryd.underlying29
  have HO0 := Aside0.mk (show Kd.V k29 29 w w.heap.size (fun k_ => (P0_ k_ ∨ w.heap.size ≤ k_)) (.slice A0 l0.length c0) l0 from Kd.V_mono hs0 (fun k_ hk => .inl hk))
  have HB := Aside0.mk (Below.refl w.heap.size w)
  have H : ((cellaretlaw19_awake.f k).bind fun t245 => (if t245 = true then (if (l0.length : Int) > 30 then (some true) else (cellaretlaw19_ReplyBack.l0 k l0 a1 0)) else (some false))) = some r := h
  clear h
  replace H := Option.bind_eq_some_iff.mp H
  obtain ⟨t245, A30, H⟩ := H
  replace H : (if t245 = true then (if (l0.length : Int) > 30 then (some true) else (cellaretlaw19_ReplyBack.l0 k l0 a1 0)) else (some false)) = some r := H
  have A3 := Aside0.mk A30
  clear A30
  by_cases c4 : t245 = true
  · subst c4
    have H1 : (if (l0.length : Int) > 30 then (some true) else (cellaretlaw19_ReplyBack.l0 k l0 a1 0)) = some r := by rw [if_pos rfl] at H; exact H
    clear H
    have H := H1
    clear H1
    by_cases c5 : (l0.length : Int) > 30
    · rw [if_pos c5] at H
      have c5b0 : decide (30 < (l0.length : Int)) = true := decide_eq_true c5
      have c5b1 : decide (30 < l0.length) = true := decide_eq_true (by omega)
      clear c5
      obtain rfl := Option.some.inj H
      go_enter Tryd.func4, Tryd.ntmps4
      go_wp2_with (first | ((with_reducible refine gate_callee (f := 7) rfl ?_); refine goesL_ (some 10) rfl rfl Tryd.func7 (by kernel_rfl) rfl #[] rfl (by (try simp only [List.map_toArray, List.map_cons, List.map_nil]); first | done | rfl | (simp only [List.length_drop, List.length_take]; rfl)) ?_; (with_reducible refine (cellaretlaw19_awake.calls k  true _ ?side1 A3.out).mono ?_); (case side1 => exact HLD.below (by repeat (first | (with_reducible first | exact HB.out | apply below_alloc | apply pw_below_drewN | apply below_drew1) | exact HB.out))); rintro e w6 ⟨rfl, hb⟩; refine ⟨_, rfl, ?_⟩; have n0_ := Aside0.mk (Kd.V_below (by (with_reducible repeat (first | apply Kd.V_alloc | apply Kd.V_drewN | apply Kd.V_drew)); exact HO0.out) hb); have n1_ := Aside0.mk (below_step (by repeat (first | (with_reducible first | exact HB.out | apply below_alloc | apply pw_below_drewN | apply below_drew1) | exact HB.out)) hb); clear HO0; clear HB; have HO0 := n0_; have HB := n1_; clear n0_ n1_; (try clear hb); (try clear hb2); (try clear hk); (try clear hi)))
      go_ret
      exact ⟨by first | rfl | (simp [errW_none, errW_some] <;> rfl) | (simp [*, errW_none, errW_some] <;> rfl), by repeat (first | (with_reducible first | exact HB.out | apply below_alloc | apply pw_below_drewN | apply below_drew1) | exact HB.out)⟩
    · rw [if_neg c5] at H
      have c5b0 : decide (30 < (l0.length : Int)) = false := decide_eq_false c5
      have c5b1 : decide (30 < l0.length) = false := decide_eq_false (by omega)
      clear c5
      have H' := Aside0.mk H
      clear H
      go_enter Tryd.func4, Tryd.ntmps4
      go_wp2_with (first | ((with_reducible refine gate_callee (f := 7) rfl ?_); refine goesL_ (some 10) rfl rfl Tryd.func7 (by kernel_rfl) rfl #[] rfl (by (try simp only [List.map_toArray, List.map_cons, List.map_nil]); first | done | rfl | (simp only [List.length_drop, List.length_take]; rfl)) ?_; (with_reducible refine (cellaretlaw19_awake.calls k  true _ ?side1 A3.out).mono ?_); (case side1 => exact HLD.below (by repeat (first | (with_reducible first | exact HB.out | apply below_alloc | apply pw_below_drewN | apply below_drew1) | exact HB.out))); rintro e w7 ⟨rfl, hb⟩; refine ⟨_, rfl, ?_⟩; have n0_ := Aside0.mk (Kd.V_below (by (with_reducible repeat (first | apply Kd.V_alloc | apply Kd.V_drewN | apply Kd.V_drew)); exact HO0.out) hb); have n1_ := Aside0.mk (below_step (by repeat (first | (with_reducible first | exact HB.out | apply below_alloc | apply pw_below_drewN | apply below_drew1) | exact HB.out)) hb); clear HO0; clear HB; have HO0 := n0_; have HB := n1_; clear n0_ n1_; (try clear hb); (try clear hb2); (try clear hk); (try clear hi)))
      go_loopg [0, 5] k (fun kq v0 v5 w' => ∃ (x0_1 : List (S29)) (x5_1 : Int), v5 = .int .i64 x5_1 ∧ Aside0 (cellaretlaw19_ReplyBack.l0 kq x0_1 a1 x5_1 = some r) ∧ Aside0 (kq ≤ k) ∧ Aside0 (Kd.V k29 29 w' w.heap.size (fun k_ => (P0_ k_ ∨ w.heap.size ≤ k_)) v0 x0_1) ∧ Aside0 (Below w.heap.size w w'))
      case atStart => exact ⟨(l0), (0), (by first | rfl | (simp; done) | (simp [*]; done)), H', ⟨Nat.le_refl _⟩, ⟨by (with_reducible repeat (first | apply Kd.V_alloc | apply Kd.V_drewN | apply Kd.V_drew)); exact HO0.out⟩, ⟨by repeat (first | (with_reducible first | exact HB.out | apply below_alloc | apply pw_below_drewN | apply below_drew1) | exact HB.out)⟩⟩
      case round =>
        clear H'
        try clear p2
        try clear c4
        try clear c5
        try clear c5b0
        try clear c5b1
        try clear c7
        obtain ⟨x0_1, x5_1, rfl, HA, HK1, HO_0, HB⟩ := hrel
        cases gk with
        | zero => exact absurd HA.out (by simp [cellaretlaw19_ReplyBack.l0])
        | succ k1 =>
          have H := HA.out
          clear HA
          simp only [cellaretlaw19_ReplyBack.l0] at H
          by_cases c8 : x5_1 < (x0_1.length : Int)
          · rw [if_pos c8] at H
            have c8b0 : decide (x5_1 < (x0_1.length : Int)) = true := decide_eq_true c8
            clear c8
            have HC9 := Aside0.mk H
            clear H
            obtain ⟨Ao10, co10, eo10⟩ := Kd.V_slice HO_0.out
            subst eo10
            go_upto_region 8 with (fail)
            go_cut [35] (fun v35 wc => ∃ (kq : Nat) (x35_8 : Bool), v35 = .bool x35_8 ∧ Aside0 (cellaretlaw19_ReplyBack.j1 kq x0_1 a1 x5_1 x35_8 = some r) ∧ Aside0 (kq ≤ k1) ∧ Aside0 (Kd.V k29 29 wc w.heap.size (fun k_ => (P0_ k_ ∨ w.heap.size ≤ k_)) (.slice Ao10 x0_1.length co10) x0_1) ∧ Aside0 (Below w.heap.size w wc))
            case first =>
              have H := HC9.out
              clear HC9
              by_cases c11 : 0 ≤ x5_1
              · rw [if_pos c11] at H
                have c11b0 : decide (0 ≤ x5_1) = true := decide_eq_true c11
                clear c11
                (first | rw [c11b0] | (simp only [i64_w, i32_w]; rw [c11b0]) | skip)
                replace H := Option.bind_eq_some_iff.mp H
                obtain ⟨t247, A120, H⟩ := H
                replace H : (if t247 = true then (cellaretlaw19_ReplyBack.j1 k1 x0_1 a1 x5_1 (decide ((((rd_T29 x0_1 x5_1).f3).size : Int) > 2000))) else (cellaretlaw19_ReplyBack.j1 k1 x0_1 a1 x5_1 true)) = some r := H
                have A12 := Aside0.mk A120
                clear A120
                by_cases c13 : t247 = true
                · subst c13
                  have H1 : (cellaretlaw19_ReplyBack.j1 k1 x0_1 a1 x5_1 (decide ((((rd_T29 x0_1 x5_1).f3).size : Int) > 2000))) = some r := by rw [if_pos rfl] at H; exact H
                  clear H
                  have H := H1
                  clear H1
                  have H' := Aside0.mk H
                  clear H
                  have p246 : 0 ≤ (x5_1 : Int) := of_decide_eq_true (by first | (with_reducible assumption) | assumption)
                  have q246 : x5_1 < (x0_1.length : Int) := of_decide_eq_true (by first | (with_reducible assumption) | assumption)
                  obtain ⟨ad246, e246, hx246_0, hx246_1, hx246_2, hx246_3, hx246_4, hx246_5, hx246_6⟩ := at_T29 (Kd.V_reads' HO_0.out).2.2 x5_1 p246 q246
                  cases e246
                  replace p246 := eq_true p246
                  replace q246 := eq_true q246
                  go_wp2_with (first | ((with_reducible refine gate_callee (f := 12) rfl ?_); refine goesL_ (some 25) rfl rfl Tryd.func12 (by kernel_rfl) rfl #[.agg #[.bool ((rd_T29 x0_1 x5_1).f0), .string ((rd_T29 x0_1 x5_1).f1), .string ((rd_T29 x0_1 x5_1).f2), .string ((rd_T29 x0_1 x5_1).f3), .int .u32 ((rd_T29 x0_1 x5_1).f4), .int .u64 ((rd_T29 x0_1 x5_1).f5), .bool ((rd_T29 x0_1 x5_1).f6)]] rfl (by (try simp only [List.map_toArray, List.map_cons, List.map_nil]); first | done | rfl | (simp only [List.length_drop, List.length_take]; rfl)) ?_; (with_reducible refine (cellaretlaw19_fair.calls k1 ((rd_T29 x0_1 x5_1).f0) ((rd_T29 x0_1 x5_1).f1) ((rd_T29 x0_1 x5_1).f2) ((rd_T29 x0_1 x5_1).f3) ((rd_T29 x0_1 x5_1).f4) ((rd_T29 x0_1 x5_1).f5) ((rd_T29 x0_1 x5_1).f6) true _ A12.out).mono ?_); rintro e w14 ⟨rfl, hb⟩; refine ⟨_, rfl, ?_⟩; have n0_ := Aside0.mk (Kd.V_below (by (with_reducible repeat (first | apply Kd.V_alloc | apply Kd.V_drewN | apply Kd.V_drew)); exact HO_0.out) hb); have n1_ := Aside0.mk (below_step (by repeat (first | (with_reducible first | exact HB.out | apply below_alloc | apply pw_below_drewN | apply below_drew1) | exact HB.out)) hb); clear HO_0; clear HB; have HO_0 := n0_; have HB := n1_; clear n0_ n1_; (try clear hb); (try clear hb2); (try clear hk); (try clear hi); have p248 : 0 ≤ (x5_1 : Int) := of_decide_eq_true (by first | (with_reducible assumption) | assumption); have q248 : x5_1 < (x0_1.length : Int) := of_decide_eq_true (by first | (with_reducible assumption) | assumption); obtain ⟨ad248, e248, hx248_0, hx248_1, hx248_2, hx248_3, hx248_4, hx248_5, hx248_6⟩ := at_T29 (Kd.V_reads' HO_0.out).2.2 x5_1 p248 q248; obtain rfl : ad246 = ad248 := (by injection e248); replace p248 := eq_true p248; replace q248 := eq_true q248))
                  go_meet
                  case rel => exact ⟨_, (decide ((((rd_T29 x0_1 x5_1).f3).size : Int) > 2000)), (by first | rfl | (simp; done) | (simp [*]; done)), H', ⟨by have := HK1.out; first | omega | exact Nat.le_refl _⟩, ⟨by (with_reducible repeat (first | apply Kd.V_alloc | apply Kd.V_drewN | apply Kd.V_drew)); exact HO_0.out⟩, ⟨by repeat (first | (with_reducible first | exact HB.out | apply below_alloc | apply pw_below_drewN | apply below_drew1) | exact HB.out)⟩⟩
                · replace c13 := Bool.eq_false_iff.mpr c13
                  subst c13
                  have H1 : (cellaretlaw19_ReplyBack.j1 k1 x0_1 a1 x5_1 true) = some r := by rw [if_neg (show ¬ (false = true) by decide)] at H; exact H
                  clear H
                  have H := H1
                  clear H1
                  have H' := Aside0.mk H
                  clear H
                  have p246 : 0 ≤ (x5_1 : Int) := of_decide_eq_true (by first | (with_reducible assumption) | assumption)
                  have q246 : x5_1 < (x0_1.length : Int) := of_decide_eq_true (by first | (with_reducible assumption) | assumption)
                  obtain ⟨ad246, e246, hx246_0, hx246_1, hx246_2, hx246_3, hx246_4, hx246_5, hx246_6⟩ := at_T29 (Kd.V_reads' HO_0.out).2.2 x5_1 p246 q246
                  cases e246
                  replace p246 := eq_true p246
                  replace q246 := eq_true q246
                  go_wp2_with (first | ((with_reducible refine gate_callee (f := 12) rfl ?_); refine goesL_ (some 25) rfl rfl Tryd.func12 (by kernel_rfl) rfl #[.agg #[.bool ((rd_T29 x0_1 x5_1).f0), .string ((rd_T29 x0_1 x5_1).f1), .string ((rd_T29 x0_1 x5_1).f2), .string ((rd_T29 x0_1 x5_1).f3), .int .u32 ((rd_T29 x0_1 x5_1).f4), .int .u64 ((rd_T29 x0_1 x5_1).f5), .bool ((rd_T29 x0_1 x5_1).f6)]] rfl (by (try simp only [List.map_toArray, List.map_cons, List.map_nil]); first | done | rfl | (simp only [List.length_drop, List.length_take]; rfl)) ?_; (with_reducible refine (cellaretlaw19_fair.calls k1 ((rd_T29 x0_1 x5_1).f0) ((rd_T29 x0_1 x5_1).f1) ((rd_T29 x0_1 x5_1).f2) ((rd_T29 x0_1 x5_1).f3) ((rd_T29 x0_1 x5_1).f4) ((rd_T29 x0_1 x5_1).f5) ((rd_T29 x0_1 x5_1).f6) false _ A12.out).mono ?_); rintro e w15 ⟨rfl, hb⟩; refine ⟨_, rfl, ?_⟩; have n0_ := Aside0.mk (Kd.V_below (by (with_reducible repeat (first | apply Kd.V_alloc | apply Kd.V_drewN | apply Kd.V_drew)); exact HO_0.out) hb); have n1_ := Aside0.mk (below_step (by repeat (first | (with_reducible first | exact HB.out | apply below_alloc | apply pw_below_drewN | apply below_drew1) | exact HB.out)) hb); clear HO_0; clear HB; have HO_0 := n0_; have HB := n1_; clear n0_ n1_; (try clear hb); (try clear hb2); (try clear hk); (try clear hi)))
                  go_meet
                  case rel => exact ⟨_, (true), (by first | rfl | (simp; done) | (simp [*]; done)), H', ⟨by have := HK1.out; first | omega | exact Nat.le_refl _⟩, ⟨by (with_reducible repeat (first | apply Kd.V_alloc | apply Kd.V_drewN | apply Kd.V_drew)); exact HO_0.out⟩, ⟨by repeat (first | (with_reducible first | exact HB.out | apply below_alloc | apply pw_below_drewN | apply below_drew1) | exact HB.out)⟩⟩
              · rw [if_neg c11] at H
                exact absurd H (by simp)
            case rest =>
              clear HC9
              try clear c1
              try clear p2
              try clear q2
              try clear hx2
              try clear c4
              try clear c5
              try clear c5b0
              try clear c5b1
              try clear c7
              try clear c8
              try clear c8b0
              try clear c11
              try clear c11b0
              try clear c12
              try clear c13
              try clear hx246_0
              try clear hx246_1
              try clear hx246_2
              try clear hx246_3
              try clear hx246_4
              try clear hx246_5
              try clear hx246_6
              try clear hx248_0
              try clear hx248_1
              try clear hx248_2
              try clear hx248_3
              try clear hx248_4
              try clear hx248_5
              try clear hx248_6
              try clear p2
              try clear p246
              try clear p248
              try clear q246
              try clear q248
              obtain ⟨kq, x35_8, rfl, HA, HJ8, HO_0, HB⟩ := hcut
              cases kq with
              | zero => exact absurd HA.out (by simp [cellaretlaw19_ReplyBack.j1])
              | succ kj8 =>
                have H := HA.out
                clear HA
                simp only [cellaretlaw19_ReplyBack.j1] at H
                by_cases c16 : x35_8 = true
                · subst c16
                  have H1 : (some true) = some r := by rw [if_pos rfl] at H; exact H
                  clear H
                  have H := H1
                  clear H1
                  obtain rfl := Option.some.inj H
                  go_wp2
                  go_ret
                  exact ⟨by first | rfl | (simp [errW_none, errW_some] <;> rfl) | (simp [*, errW_none, errW_some] <;> rfl), by repeat (first | (with_reducible first | exact HB.out | apply below_alloc | apply pw_below_drewN | apply below_drew1) | exact HB.out)⟩
                · replace c16 := Bool.eq_false_iff.mpr c16
                  subst c16
                  have H1 : (if 0 ≤ x5_1 then (if x5_1 < (x0_1.length : Int) then (if (rd_T29 x0_1 x5_1).f0 = true then (cellaretlaw19_ReplyBack.j2 kj8 x0_1 a1 x5_1 (!((rd_T29 x0_1 x5_1).f6))) else (cellaretlaw19_ReplyBack.j2 kj8 x0_1 a1 x5_1 false)) else (none)) else (none)) = some r := by rw [if_neg (show ¬ (false = true) by decide)] at H; exact H
                  clear H
                  have H := H1
                  clear H1
                  have HC17 := Aside0.mk H
                  clear H
                  go_upto_region 10 with (fail)
                  go_cut [48] (fun v48 wc => ∃ (kq : Nat) (x48_16 : Bool), v48 = .bool x48_16 ∧ Aside0 (cellaretlaw19_ReplyBack.j2 kq x0_1 a1 x5_1 x48_16 = some r) ∧ Aside0 (kq ≤ kj8) ∧ Aside0 (Kd.V k29 29 wc w.heap.size (fun k_ => (P0_ k_ ∨ w.heap.size ≤ k_)) (.slice Ao10 x0_1.length co10) x0_1) ∧ Aside0 (Below w.heap.size w wc))
                  case first =>
                    have H := HC17.out
                    clear HC17
                    by_cases c18 : 0 ≤ x5_1
                    · rw [if_pos c18] at H
                      have c18b0 : decide (0 ≤ x5_1) = true := decide_eq_true c18
                      clear c18
                      (first | rw [c18b0] | (simp only [i64_w, i32_w]; rw [c18b0]) | skip)
                      by_cases c19 : x5_1 < (x0_1.length : Int)
                      · rw [if_pos c19] at H
                        have c19b0 : decide (x5_1 < (x0_1.length : Int)) = true := decide_eq_true c19
                        clear c19
                        obtain ⟨bq20, hbq20⟩ : ∃ b_ : Bool, b_ = ((rd_T29 x0_1 x5_1).f0) := ⟨_, rfl⟩
                        replace H : (if bq20 = true then (cellaretlaw19_ReplyBack.j2 kj8 x0_1 a1 x5_1 (!((rd_T29 x0_1 x5_1).f6))) else (cellaretlaw19_ReplyBack.j2 kj8 x0_1 a1 x5_1 false)) = some r := by rw [← hbq20] at H; exact H
                        have Nbq20 := Aside0.mk hbq20
                        clear hbq20
                        by_cases c21 : bq20 = true
                        · subst c21
                          have H1 : (cellaretlaw19_ReplyBack.j2 kj8 x0_1 a1 x5_1 (!((rd_T29 x0_1 x5_1).f6))) = some r := by rw [if_pos rfl] at H; exact H
                          clear H
                          have H := H1
                          clear H1
                          have H' := Aside0.mk H
                          clear H
                          have p249 : 0 ≤ (x5_1 : Int) := of_decide_eq_true (by first | (with_reducible assumption) | assumption)
                          have q249 : x5_1 < (x0_1.length : Int) := of_decide_eq_true (by first | (with_reducible assumption) | assumption)
                          obtain ⟨ad249, e249, hx249_0, hx249_1, hx249_2, hx249_3, hx249_4, hx249_5, hx249_6⟩ := at_T29 (Kd.V_reads' HO_0.out).2.2 x5_1 p249 q249
                          (try rw [← Nbq20.out] at hx249_0)
                          (try rw [← Nbq20.out] at hx249_6)
                          cases e249
                          replace p249 := eq_true p249
                          replace q249 := eq_true q249
                          have p250 : 0 ≤ (x5_1 : Int) := of_decide_eq_true (by first | (with_reducible assumption) | assumption)
                          have q250 : x5_1 < (x0_1.length : Int) := of_decide_eq_true (by first | (with_reducible assumption) | assumption)
                          obtain ⟨ad250, e250, hx250_0, hx250_1, hx250_2, hx250_3, hx250_4, hx250_5, hx250_6⟩ := at_T29 (Kd.V_reads' HO_0.out).2.2 x5_1 p250 q250
                          (try rw [← Nbq20.out] at hx250_0)
                          (try rw [← Nbq20.out] at hx250_6)
                          obtain rfl : ad249 = ad250 := (by injection e250)
                          replace p250 := eq_true p250
                          replace q250 := eq_true q250
                          go_wp2
                          go_meet
                          case rel => exact ⟨_, (!((rd_T29 x0_1 x5_1).f6)), (by first | rfl | (simp; done) | (simp [*]; done)), H', ⟨by have := HK1.out; have := HJ8.out; first | omega | exact Nat.le_refl _⟩, ⟨by (with_reducible repeat (first | apply Kd.V_alloc | apply Kd.V_drewN | apply Kd.V_drew)); exact HO_0.out⟩, ⟨by repeat (first | (with_reducible first | exact HB.out | apply below_alloc | apply pw_below_drewN | apply below_drew1) | exact HB.out)⟩⟩
                        · replace c21 := Bool.eq_false_iff.mpr c21
                          subst c21
                          have H1 : (cellaretlaw19_ReplyBack.j2 kj8 x0_1 a1 x5_1 false) = some r := by rw [if_neg (show ¬ (false = true) by decide)] at H; exact H
                          clear H
                          have H := H1
                          clear H1
                          have H' := Aside0.mk H
                          clear H
                          have p249 : 0 ≤ (x5_1 : Int) := of_decide_eq_true (by first | (with_reducible assumption) | assumption)
                          have q249 : x5_1 < (x0_1.length : Int) := of_decide_eq_true (by first | (with_reducible assumption) | assumption)
                          obtain ⟨ad249, e249, hx249_0, hx249_1, hx249_2, hx249_3, hx249_4, hx249_5, hx249_6⟩ := at_T29 (Kd.V_reads' HO_0.out).2.2 x5_1 p249 q249
                          (try rw [← Nbq20.out] at hx249_0)
                          (try rw [← Nbq20.out] at hx249_6)
                          cases e249
                          replace p249 := eq_true p249
                          replace q249 := eq_true q249
                          go_wp2
                          go_meet
                          case rel => exact ⟨_, (false), (by first | rfl | (simp; done) | (simp [*]; done)), H', ⟨by have := HK1.out; have := HJ8.out; first | omega | exact Nat.le_refl _⟩, ⟨by (with_reducible repeat (first | apply Kd.V_alloc | apply Kd.V_drewN | apply Kd.V_drew)); exact HO_0.out⟩, ⟨by repeat (first | (with_reducible first | exact HB.out | apply below_alloc | apply pw_below_drewN | apply below_drew1) | exact HB.out)⟩⟩
                      · rw [if_neg c19] at H
                        exact absurd H (by simp)
                    · rw [if_neg c18] at H
                      exact absurd H (by simp)
                  case rest =>
                    clear HC17
                    try clear c1
                    try clear c2
                    try clear p2
                    try clear q2
                    try clear hx2
                    try clear c4
                    try clear c5
                    try clear c5b0
                    try clear c5b1
                    try clear c7
                    try clear c8
                    try clear c8b0
                    try clear c11
                    try clear c11b0
                    try clear c12
                    try clear c13
                    try clear c16
                    try clear c18
                    try clear c18b0
                    try clear c19
                    try clear c19b0
                    try clear q20
                    try clear c21
                    try clear hx246_0
                    try clear hx246_1
                    try clear hx246_2
                    try clear hx246_3
                    try clear hx246_4
                    try clear hx246_5
                    try clear hx246_6
                    try clear hx248_0
                    try clear hx248_1
                    try clear hx248_2
                    try clear hx248_3
                    try clear hx248_4
                    try clear hx248_5
                    try clear hx248_6
                    try clear hx249_0
                    try clear hx249_1
                    try clear hx249_2
                    try clear hx249_3
                    try clear hx249_4
                    try clear hx249_5
                    try clear hx249_6
                    try clear hx250_0
                    try clear hx250_1
                    try clear hx250_2
                    try clear hx250_3
                    try clear hx250_4
                    try clear hx250_5
                    try clear hx250_6
                    try clear p2
                    try clear p246
                    try clear p248
                    try clear p249
                    try clear p250
                    try clear q2
                    try clear q246
                    try clear q248
                    try clear q249
                    try clear q250
                    obtain ⟨kq, x48_16, rfl, HA, HJ16, HO_0, HB⟩ := hcut
                    cases kq with
                    | zero => exact absurd HA.out (by simp [cellaretlaw19_ReplyBack.j2])
                    | succ kj16 =>
                      have H := HA.out
                      clear HA
                      simp only [cellaretlaw19_ReplyBack.j2] at H
                      by_cases c22 : x48_16 = true
                      · subst c22
                        have H1 : ((some (([] : List (S29)) : List (S29))).bind fun y251 => (if y251.length + x0_1.length < 1759218604441 then ((some (y251 ++ x0_1 : List (S29))).bind fun y254 => (if 0 ≤ x5_1 then (if x5_1 < (y254.length : Int) then ((some (y254.set (x5_1 : Int).toNat (⟨(rd_T29 y254 x5_1).f0, (rd_T29 y254 x5_1).f1, (rd_T29 y254 x5_1).f2, (rd_T29 y254 x5_1).f3, (rd_T29 y254 x5_1).f4, 0, (rd_T29 y254 x5_1).f6⟩ : S29) : List (S29))).bind fun y257 => (if (rd_T29 y257 x5_1).f0 = true then ((some (([] : List (S29)) : List (S29))).bind fun y259 => (if y259.length + y257.length < 1759218604441 then ((some (y259 ++ y257 : List (S29))).bind fun y262 => (if x5_1 < (y262.length : Int) then (cellaretlaw19_ReplyBack.l0 kj16 (y262.set (x5_1 : Int).toNat (⟨(rd_T29 y262 x5_1).f0, (⟨#[]⟩ : ByteArray), (rd_T29 y262 x5_1).f2, (rd_T29 y262 x5_1).f3, (rd_T29 y262 x5_1).f4, (rd_T29 y262 x5_1).f5, (rd_T29 y262 x5_1).f6⟩ : S29)) a1 (wrap64 (x5_1 + 1))) else (none))) else (none))) else ((some (([] : List (S29)) : List (S29))).bind fun y266 => (if y266.length + y257.length < 1759218604441 then ((some (y266 ++ y257 : List (S29))).bind fun y269 => (if x5_1 < (y269.length : Int) then ((cellaretref18_Line.f ((rd_T29 y269 x5_1).f1)).bind fun bt273 => (cellaretlaw19_ReplyBack.l0 kj16 (y269.set (x5_1 : Int).toNat (⟨bt273.1, bt273.2.1, bt273.2.2.1, bt273.2.2.2.1, bt273.2.2.2.2.1, bt273.2.2.2.2.2.1, bt273.2.2.2.2.2.2⟩ : S29)) a1 (wrap64 (x5_1 + 1)))) else (none))) else (none))))) else (none)) else (none))) else (none))) = some r := by rw [if_pos rfl] at H; exact H
                        clear H
                        have H := H1
                        clear H1
                        obtain ⟨y251, hy251⟩ : ∃ y_ : List (S29), y_ = (([] : List (S29))) := ⟨_, rfl⟩
                        replace H : (if y251.length + x0_1.length < 1759218604441 then ((some (y251 ++ x0_1 : List (S29))).bind fun y254 => (if 0 ≤ x5_1 then (if x5_1 < (y254.length : Int) then ((some (y254.set (x5_1 : Int).toNat (⟨(rd_T29 y254 x5_1).f0, (rd_T29 y254 x5_1).f1, (rd_T29 y254 x5_1).f2, (rd_T29 y254 x5_1).f3, (rd_T29 y254 x5_1).f4, 0, (rd_T29 y254 x5_1).f6⟩ : S29) : List (S29))).bind fun y257 => (if (rd_T29 y257 x5_1).f0 = true then ((some (([] : List (S29)) : List (S29))).bind fun y259 => (if y259.length + y257.length < 1759218604441 then ((some (y259 ++ y257 : List (S29))).bind fun y262 => (if x5_1 < (y262.length : Int) then (cellaretlaw19_ReplyBack.l0 kj16 (y262.set (x5_1 : Int).toNat (⟨(rd_T29 y262 x5_1).f0, (⟨#[]⟩ : ByteArray), (rd_T29 y262 x5_1).f2, (rd_T29 y262 x5_1).f3, (rd_T29 y262 x5_1).f4, (rd_T29 y262 x5_1).f5, (rd_T29 y262 x5_1).f6⟩ : S29)) a1 (wrap64 (x5_1 + 1))) else (none))) else (none))) else ((some (([] : List (S29)) : List (S29))).bind fun y266 => (if y266.length + y257.length < 1759218604441 then ((some (y266 ++ y257 : List (S29))).bind fun y269 => (if x5_1 < (y269.length : Int) then ((cellaretref18_Line.f ((rd_T29 y269 x5_1).f1)).bind fun bt273 => (cellaretlaw19_ReplyBack.l0 kj16 (y269.set (x5_1 : Int).toNat (⟨bt273.1, bt273.2.1, bt273.2.2.1, bt273.2.2.2.1, bt273.2.2.2.2.1, bt273.2.2.2.2.2.1, bt273.2.2.2.2.2.2⟩ : S29)) a1 (wrap64 (x5_1 + 1)))) else (none))) else (none))))) else (none)) else (none))) else (none)) = some r := by first | (rw [hy251]; with_reducible exact H) | (have H2_ := (Option.bind_some _ _).symm.trans H; rw [hy251]; with_reducible exact H2_) | (have H2_ := (Option.bind_some _ _).symm.trans H; with_reducible exact H2_) | with_reducible exact H | (rw [hy251]; exact H) | exact H
                        have Ny251 := Aside0.mk hy251
                        clear hy251
                        by_cases c23 : y251.length + x0_1.length < 1759218604441
                        · rw [if_pos c23] at H
                          have LMc23 := Aside0.mk c23
                          clear c23
                          obtain ⟨y254, hy254⟩ : ∃ y_ : List (S29), y_ = (y251 ++ x0_1) := ⟨_, rfl⟩
                          replace H : (if 0 ≤ x5_1 then (if x5_1 < (y254.length : Int) then ((some (y254.set (x5_1 : Int).toNat (⟨(rd_T29 y254 x5_1).f0, (rd_T29 y254 x5_1).f1, (rd_T29 y254 x5_1).f2, (rd_T29 y254 x5_1).f3, (rd_T29 y254 x5_1).f4, 0, (rd_T29 y254 x5_1).f6⟩ : S29) : List (S29))).bind fun y257 => (if (rd_T29 y257 x5_1).f0 = true then ((some (([] : List (S29)) : List (S29))).bind fun y259 => (if y259.length + y257.length < 1759218604441 then ((some (y259 ++ y257 : List (S29))).bind fun y262 => (if x5_1 < (y262.length : Int) then (cellaretlaw19_ReplyBack.l0 kj16 (y262.set (x5_1 : Int).toNat (⟨(rd_T29 y262 x5_1).f0, (⟨#[]⟩ : ByteArray), (rd_T29 y262 x5_1).f2, (rd_T29 y262 x5_1).f3, (rd_T29 y262 x5_1).f4, (rd_T29 y262 x5_1).f5, (rd_T29 y262 x5_1).f6⟩ : S29)) a1 (wrap64 (x5_1 + 1))) else (none))) else (none))) else ((some (([] : List (S29)) : List (S29))).bind fun y266 => (if y266.length + y257.length < 1759218604441 then ((some (y266 ++ y257 : List (S29))).bind fun y269 => (if x5_1 < (y269.length : Int) then ((cellaretref18_Line.f ((rd_T29 y269 x5_1).f1)).bind fun bt273 => (cellaretlaw19_ReplyBack.l0 kj16 (y269.set (x5_1 : Int).toNat (⟨bt273.1, bt273.2.1, bt273.2.2.1, bt273.2.2.2.1, bt273.2.2.2.2.1, bt273.2.2.2.2.2.1, bt273.2.2.2.2.2.2⟩ : S29)) a1 (wrap64 (x5_1 + 1)))) else (none))) else (none))))) else (none)) else (none)) = some r := by first | (rw [hy254]; with_reducible exact H) | (have H2_ := (Option.bind_some _ _).symm.trans H; rw [hy254]; with_reducible exact H2_) | (have H2_ := (Option.bind_some _ _).symm.trans H; with_reducible exact H2_) | with_reducible exact H | (rw [hy254]; exact H) | exact H
                          have Ny254 := Aside0.mk hy254
                          clear hy254
                          by_cases c24 : 0 ≤ x5_1
                          · rw [if_pos c24] at H
                            have c24b0 : decide (0 ≤ x5_1) = true := decide_eq_true c24
                            clear c24
                            by_cases c25 : x5_1 < (y254.length : Int)
                            · rw [if_pos c25] at H
                              have c25b0 : decide (x5_1 < (y254.length : Int)) = true := decide_eq_true c25
                              clear c25
                              obtain ⟨y257, hy257⟩ : ∃ y_ : List (S29), y_ = (y254.set (x5_1 : Int).toNat (⟨(rd_T29 y254 x5_1).f0, (rd_T29 y254 x5_1).f1, (rd_T29 y254 x5_1).f2, (rd_T29 y254 x5_1).f3, (rd_T29 y254 x5_1).f4, 0, (rd_T29 y254 x5_1).f6⟩ : S29)) := ⟨_, rfl⟩
                              replace H : (if (rd_T29 y257 x5_1).f0 = true then ((some (([] : List (S29)) : List (S29))).bind fun y259 => (if y259.length + y257.length < 1759218604441 then ((some (y259 ++ y257 : List (S29))).bind fun y262 => (if x5_1 < (y262.length : Int) then (cellaretlaw19_ReplyBack.l0 kj16 (y262.set (x5_1 : Int).toNat (⟨(rd_T29 y262 x5_1).f0, (⟨#[]⟩ : ByteArray), (rd_T29 y262 x5_1).f2, (rd_T29 y262 x5_1).f3, (rd_T29 y262 x5_1).f4, (rd_T29 y262 x5_1).f5, (rd_T29 y262 x5_1).f6⟩ : S29)) a1 (wrap64 (x5_1 + 1))) else (none))) else (none))) else ((some (([] : List (S29)) : List (S29))).bind fun y266 => (if y266.length + y257.length < 1759218604441 then ((some (y266 ++ y257 : List (S29))).bind fun y269 => (if x5_1 < (y269.length : Int) then ((cellaretref18_Line.f ((rd_T29 y269 x5_1).f1)).bind fun bt273 => (cellaretlaw19_ReplyBack.l0 kj16 (y269.set (x5_1 : Int).toNat (⟨bt273.1, bt273.2.1, bt273.2.2.1, bt273.2.2.2.1, bt273.2.2.2.2.1, bt273.2.2.2.2.2.1, bt273.2.2.2.2.2.2⟩ : S29)) a1 (wrap64 (x5_1 + 1)))) else (none))) else (none)))) = some r := by first | (rw [hy257]; with_reducible exact H) | (have H2_ := (Option.bind_some _ _).symm.trans H; rw [hy257]; with_reducible exact H2_) | (have H2_ := (Option.bind_some _ _).symm.trans H; with_reducible exact H2_) | with_reducible exact H | (rw [hy257]; exact H) | exact H
                              have Ny257 := Aside0.mk hy257
                              clear hy257
                              obtain ⟨bq27, hbq27⟩ : ∃ b_ : Bool, b_ = ((rd_T29 y257 x5_1).f0) := ⟨_, rfl⟩
                              replace H : (if bq27 = true then ((some (([] : List (S29)) : List (S29))).bind fun y259 => (if y259.length + y257.length < 1759218604441 then ((some (y259 ++ y257 : List (S29))).bind fun y262 => (if x5_1 < (y262.length : Int) then (cellaretlaw19_ReplyBack.l0 kj16 (y262.set (x5_1 : Int).toNat (⟨(rd_T29 y262 x5_1).f0, (⟨#[]⟩ : ByteArray), (rd_T29 y262 x5_1).f2, (rd_T29 y262 x5_1).f3, (rd_T29 y262 x5_1).f4, (rd_T29 y262 x5_1).f5, (rd_T29 y262 x5_1).f6⟩ : S29)) a1 (wrap64 (x5_1 + 1))) else (none))) else (none))) else ((some (([] : List (S29)) : List (S29))).bind fun y266 => (if y266.length + y257.length < 1759218604441 then ((some (y266 ++ y257 : List (S29))).bind fun y269 => (if x5_1 < (y269.length : Int) then ((cellaretref18_Line.f ((rd_T29 y269 x5_1).f1)).bind fun bt273 => (cellaretlaw19_ReplyBack.l0 kj16 (y269.set (x5_1 : Int).toNat (⟨bt273.1, bt273.2.1, bt273.2.2.1, bt273.2.2.2.1, bt273.2.2.2.2.1, bt273.2.2.2.2.2.1, bt273.2.2.2.2.2.2⟩ : S29)) a1 (wrap64 (x5_1 + 1)))) else (none))) else (none)))) = some r := by rw [← hbq27] at H; exact H
                              have Nbq27 := Aside0.mk hbq27
                              clear hbq27
                              by_cases c28 : bq27 = true
                              · subst c28
                                have H1 : ((some (([] : List (S29)) : List (S29))).bind fun y259 => (if y259.length + y257.length < 1759218604441 then ((some (y259 ++ y257 : List (S29))).bind fun y262 => (if x5_1 < (y262.length : Int) then (cellaretlaw19_ReplyBack.l0 kj16 (y262.set (x5_1 : Int).toNat (⟨(rd_T29 y262 x5_1).f0, (⟨#[]⟩ : ByteArray), (rd_T29 y262 x5_1).f2, (rd_T29 y262 x5_1).f3, (rd_T29 y262 x5_1).f4, (rd_T29 y262 x5_1).f5, (rd_T29 y262 x5_1).f6⟩ : S29)) a1 (wrap64 (x5_1 + 1))) else (none))) else (none))) = some r := by rw [if_pos rfl] at H; exact H
                                clear H
                                have H := H1
                                clear H1
                                obtain ⟨y259, hy259⟩ : ∃ y_ : List (S29), y_ = (([] : List (S29))) := ⟨_, rfl⟩
                                replace H : (if y259.length + y257.length < 1759218604441 then ((some (y259 ++ y257 : List (S29))).bind fun y262 => (if x5_1 < (y262.length : Int) then (cellaretlaw19_ReplyBack.l0 kj16 (y262.set (x5_1 : Int).toNat (⟨(rd_T29 y262 x5_1).f0, (⟨#[]⟩ : ByteArray), (rd_T29 y262 x5_1).f2, (rd_T29 y262 x5_1).f3, (rd_T29 y262 x5_1).f4, (rd_T29 y262 x5_1).f5, (rd_T29 y262 x5_1).f6⟩ : S29)) a1 (wrap64 (x5_1 + 1))) else (none))) else (none)) = some r := by first | (rw [hy259]; with_reducible exact H) | (have H2_ := (Option.bind_some _ _).symm.trans H; rw [hy259]; with_reducible exact H2_) | (have H2_ := (Option.bind_some _ _).symm.trans H; with_reducible exact H2_) | with_reducible exact H | (rw [hy259]; exact H) | exact H
                                have Ny259 := Aside0.mk hy259
                                clear hy259
                                by_cases c29 : y259.length + y257.length < 1759218604441
                                · rw [if_pos c29] at H
                                  have LMc29 := Aside0.mk c29
                                  clear c29
                                  obtain ⟨y262, hy262⟩ : ∃ y_ : List (S29), y_ = (y259 ++ y257) := ⟨_, rfl⟩
                                  replace H : (if x5_1 < (y262.length : Int) then (cellaretlaw19_ReplyBack.l0 kj16 (y262.set (x5_1 : Int).toNat (⟨(rd_T29 y262 x5_1).f0, (⟨#[]⟩ : ByteArray), (rd_T29 y262 x5_1).f2, (rd_T29 y262 x5_1).f3, (rd_T29 y262 x5_1).f4, (rd_T29 y262 x5_1).f5, (rd_T29 y262 x5_1).f6⟩ : S29)) a1 (wrap64 (x5_1 + 1))) else (none)) = some r := by first | (rw [hy262]; with_reducible exact H) | (have H2_ := (Option.bind_some _ _).symm.trans H; rw [hy262]; with_reducible exact H2_) | (have H2_ := (Option.bind_some _ _).symm.trans H; with_reducible exact H2_) | with_reducible exact H | (rw [hy262]; exact H) | exact H
                                  have Ny262 := Aside0.mk hy262
                                  clear hy262
                                  by_cases c30 : x5_1 < (y262.length : Int)
                                  · rw [if_pos c30] at H
                                    have c30b0 : decide (x5_1 < (y262.length : Int)) = true := decide_eq_true c30
                                    clear c30
                                    obtain ⟨y265, hy265⟩ : ∃ y_ : List (S29), y_ = (y262.set (x5_1 : Int).toNat (⟨(rd_T29 y262 x5_1).f0, (⟨#[]⟩ : ByteArray), (rd_T29 y262 x5_1).f2, (rd_T29 y262 x5_1).f3, (rd_T29 y262 x5_1).f4, (rd_T29 y262 x5_1).f5, (rd_T29 y262 x5_1).f6⟩ : S29)) := ⟨_, rfl⟩
                                    replace H : (cellaretlaw19_ReplyBack.l0 kj16 y265 a1 (wrap64 (x5_1 + 1))) = some r := by first | (rw [hy265]; with_reducible exact H) | (have H2_ := (Option.bind_some _ _).symm.trans H; rw [hy265]; with_reducible exact H2_) | (have H2_ := (Option.bind_some _ _).symm.trans H; with_reducible exact H2_) | with_reducible exact H | (rw [hy265]; exact H) | exact H
                                    have Ny265 := Aside0.mk hy265
                                    clear hy265
                                    have H' := Aside0.mk H
                                    clear H
                                    go_wp2_with (first | ((with_reducible refine gate_dst (N := 49) rfl ?_); (try (refine gate_guard (by rfl) ?_; dsimp only)); refine Kd.R_lit k29 _ 29 ?hg (N := 49) ?hd (xs := ([] : List (S29))) (inner := []) (ok := fun _ => True) (okp := fun _ => True) ?hr ?hp (fun _ hk => hk) trivial (Below.refl _ _) (Nat.le_refl _) (by simp) ?_; (case hd => rfl); (case hg => rfl); (case hr => first | (go_simp; done) | (go_simp; rfl)); (case hp => exact (Reps.none _ _)); intro v252 w32 ho33 hb hg_ hnew_; clear hg_ hnew_; (first | rw [← Ny251.out] at ho33 | (simp only [Int.reduceToNat] at ho33; rw [← Ny251.out] at ho33)); have n0_ := Aside0.mk (Kd.V_elder' (by (with_reducible repeat (first | apply Kd.V_alloc | apply Kd.V_drewN | apply Kd.V_drew)); exact HO_0.out) (Kd.R_base ho33) hb); have n1_ := Aside0.mk (Kd.R_lower (Kd.R_newM (M := fun k_ => (w.heap.size ≤ k_)) ho33 (below_size (by repeat (first | (with_reducible first | exact HB.out | apply below_alloc | apply pw_below_drewN | apply below_drew1) | exact HB.out))) (fun k_ h_ => h_)) (below_size (by repeat (first | (with_reducible first | exact HB.out | apply below_alloc | apply pw_below_drewN | apply below_drew1) | exact HB.out)))); have n2_ := Aside0.mk (below_step (by repeat (first | (with_reducible first | exact HB.out | apply below_alloc | apply pw_below_drewN | apply below_drew1) | exact HB.out)) hb); clear HO_0; clear HB; have HO_0 := n0_; have HO253 := n1_; have HB := n2_; clear n0_ n1_ n2_; clear hb ho33) | ((with_reducible refine gate_builtin (b := .append) (xs := #[.tmp 49, .tmp 50]) rfl ?_); (try (refine gate_guard (by rfl) ?_; dsimp only)); at_builtin; refine Kd.R_append_rows k29 (w0 := w) w.heap.size rfl (.tmp 49) (.tmp 50) 22 29 (.agg #[(.bool false), (.string ⟨#[]⟩), (.string ⟨#[]⟩), (.string ⟨#[]⟩), (.int .u32 0), (.int .u64 0), (.bool false)]) 80 rfl Tryd.underlying22 info29 rfl (by decide) (by omega) v252 y251 x0_1 _ _ _ (fun k_ => (w.heap.size ≤ k_)) (fun _ => False) rfl rfl ?aO ?aR (fun _ _ h => h) (fun _ h => h.elim) ?aF ?aB ?aS ?aL ?_; (case aR => repeat (first | exact (Kd.V_reads' HO_0.out).2.2 | (with_reducible refine Kd.C_alloc ?_ _) | (with_reducible refine Kd.C_drewN ?_ _) | (with_reducible refine Kd.C_drew ?_))); (case aB => exact (by repeat (first | (with_reducible first | exact HB.out | apply below_alloc | apply pw_below_drewN | apply below_drew1) | exact HB.out))); (case aF => exact (fun k_ hk => (Nat.le_trans (below_size (by repeat (first | (with_reducible first | exact HB.out | apply below_alloc | apply pw_below_drewN | apply below_drew1) | exact HB.out))) hk))); (case aO => exact (by (with_reducible repeat (first | apply Kd.R_alloc | apply Kd.R_drewN | apply Kd.R_drew)); exact Kd.R_mono HO253.out (fun _ hk => hk.1))); (case aS => exact (below_size (by repeat (first | (with_reducible first | exact HB.out | apply below_alloc | apply pw_below_drewN | apply below_drew1) | exact HB.out)))); (case aL => have := LMc23.out; omega); intro v255 w34 ho hb hg hat; rw [← Ny254.out] at ho; have n0_ := Aside0.mk (Kd.V_afterv (ok := (fun k_ => (P0_ k_ ∨ w.heap.size ≤ k_))) (by (with_reducible repeat (first | apply Kd.V_alloc | apply Kd.V_drewN | apply Kd.V_drew)); exact HO_0.out) hg hat); have n1_ := Aside0.mk (hb); have n2_ := Aside0.mk (ho); clear HO_0; clear HB; clear HO253; have HO_0 := n0_; have HB := n1_; have HO256 := n2_; clear n0_ n1_ n2_; clear ho hb hg hat; have p26 : 0 ≤ (x5_1 : Int) := of_decide_eq_true (by first | (with_reducible assumption) | assumption); have q26 : (x5_1 : Int) < ((y254.length : Int) : Int) := of_decide_eq_true (by first | (with_reducible assumption) | assumption); obtain ⟨go26, co26, eo26, gb26, gl26, cl26, HG26⟩ := Kd.R_form HO256.out (by omega); (first | cases eo26 | (injection eo26 with ea_ en_ ec_; (first | subst ea_ | (injection ea_ with ea_; subst ea_)); subst ec_; clear en_)); have GB26 := Aside0.mk gb26; have GG26 := Aside0.mk HG26; clear gb26 gl26 HG26; obtain ⟨ce26, hcl26, hM26, hcc26, hfr26⟩ := Kd.R_elem HO256.out z29 (x5_1 : Int) p26 q26; obtain rfl := k29_openM hM26; have hx26_0 : w34.cell? ⟨go26, (x5_1 : Int).toNat * 7, none⟩ = some (.bool ((rd_T29 y254 x5_1).f0)) := hcc26 0 _ rfl; have hx26_1 : w34.cell? ⟨go26, (x5_1 : Int).toNat * 7 + 1, none⟩ = some (.string ((rd_T29 y254 x5_1).f1)) := hcc26 1 _ rfl; have hx26_2 : w34.cell? ⟨go26, (x5_1 : Int).toNat * 7 + 2, none⟩ = some (.string ((rd_T29 y254 x5_1).f2)) := hcc26 2 _ rfl; have hx26_3 : w34.cell? ⟨go26, (x5_1 : Int).toNat * 7 + 3, none⟩ = some (.string ((rd_T29 y254 x5_1).f3)) := hcc26 3 _ rfl; have hx26_4 : w34.cell? ⟨go26, (x5_1 : Int).toNat * 7 + 4, none⟩ = some (.int .u32 ((rd_T29 y254 x5_1).f4)) := hcc26 4 _ rfl; have hx26_5 : w34.cell? ⟨go26, (x5_1 : Int).toNat * 7 + 5, none⟩ = some (.int .u64 ((rd_T29 y254 x5_1).f5)) := hcc26 5 _ rfl; have hx26_6 : w34.cell? ⟨go26, (x5_1 : Int).toNat * 7 + 6, none⟩ = some (.bool ((rd_T29 y254 x5_1).f6)) := hcc26 6 _ rfl; have hf26_0 : w34.frozen? ⟨go26, (x5_1 : Int).toNat * 7, none⟩ = false := hfr26 0; have hf26_1 : w34.frozen? ⟨go26, (x5_1 : Int).toNat * 7 + 1, none⟩ = false := hfr26 1; have hf26_2 : w34.frozen? ⟨go26, (x5_1 : Int).toNat * 7 + 2, none⟩ = false := hfr26 2; have hf26_3 : w34.frozen? ⟨go26, (x5_1 : Int).toNat * 7 + 3, none⟩ = false := hfr26 3; have hf26_4 : w34.frozen? ⟨go26, (x5_1 : Int).toNat * 7 + 4, none⟩ = false := hfr26 4; have hf26_5 : w34.frozen? ⟨go26, (x5_1 : Int).toNat * 7 + 5, none⟩ = false := hfr26 5; have hf26_6 : w34.frozen? ⟨go26, (x5_1 : Int).toNat * 7 + 6, none⟩ = false := hfr26 6; clear hcl26 hcc26 hfr26 hM26; replace p26 := eq_true p26; replace q26 := eq_true q26; have HX35 := Aside0.mk (show Kd.R k29 29 w34 w.heap.size (fun k_ => (w.heap.size ≤ k_)) (.slice (some ⟨go26, 0, none⟩) y254.length co26) y254 from (by (with_reducible repeat (first | apply Kd.R_alloc | apply Kd.R_drewN | apply Kd.R_drew)); exact HO256.out)); obtain ⟨ce35, hcl35, hM35, hcc35, hfr35⟩ := Kd.R_elem HX35.out z29 (x5_1 : Int) (of_decide_eq_true (by first | (with_reducible assumption) | assumption)) (by have h_ : (x5_1 : Int) < ((y254.length : Int) : Int) := of_decide_eq_true (by first | (with_reducible assumption) | assumption); first | exact h_ | (have e_ := (Kd.R_reads' HO256.out).1; omega) | simpa using h_); obtain rfl := k29_openM hM35; have HP35 := Kd.R_seg HX35.out (x5_1 : Int) (of_decide_eq_true (by first | (with_reducible assumption) | assumption)) (by have h_ : (x5_1 : Int) < ((y254.length : Int) : Int) := of_decide_eq_true (by first | (with_reducible assumption) | assumption); first | exact h_ | (have e_ := (Kd.R_reads' HO256.out).1; omega) | simpa using h_) (seg := [.int .u64 0]) (j := 5) hcl35 hcc35 (show 6 ≤ 7 from by decide) (x' := (⟨(rd_T29 y254 x5_1).f0, (rd_T29 y254 x5_1).f1, (rd_T29 y254 x5_1).f2, (rd_T29 y254 x5_1).f3, (rd_T29 y254 x5_1).f4, 0, (rd_T29 y254 x5_1).f6⟩ : S29)) (k29_mkM _ _ _ (⟨(rd_T29 y254 x5_1).f0, (rd_T29 y254 x5_1).f1, (rd_T29 y254 x5_1).f2, (rd_T29 y254 x5_1).f3, (rd_T29 y254 x5_1).f4, 0, (rd_T29 y254 x5_1).f6⟩ : S29) ) (fun _ hk => hk); have hx35_5 := hcc35 5 _ rfl; (try simp only [show (k29).sz = 7 from rfl, Nat.mul_one, Nat.add_zero] at hx35_5); have hf35_5 := hfr35 5; (try simp only [show (k29).sz = 7 from rfl, Nat.mul_one, Nat.add_zero] at hf35_5); clear hcl35 hcc35 hfr35 hM35) | ((with_reducible refine gate_store (t := 27) (p := 55) rfl ?_); refine store_event (t := 27) (p := 55) (v := ?vo_w36) (w1 := (w34.setCell ⟨go26, (x5_1 : Int).toNat * 7 + 5, none⟩ (.int .u64 0))) ?hg ?ho ?hn ?hr ?_; (case ho => rfl); (case hg => rfl); (case hn => rfl); (case hr => first | (go_simp; done) | (go_simp; rfl)); intro w36 hw; have hg : w34.grownBy w36 (some go26) := (by rw [hw]; exact HP35.2); have hp_ : Kd.R k29 29 w36 w.heap.size (fun k_ => (w.heap.size ≤ k_)) (.slice (some ⟨go26, 0, none⟩) y254.length co26) y257 := (by rw [hw, Ny257.out]; exact HP35.1); clear HP35; have n0_ := Aside0.mk (Kd.V_afterv (v := (.slice (some ⟨go26, 0, none⟩) y254.length co26)) (v1 := (.slice (some ⟨go26, 0, none⟩) y254.length co26)) (ok := (fun k_ => (P0_ k_ ∨ w.heap.size ≤ k_))) (by (with_reducible repeat (first | apply Kd.V_alloc | apply Kd.V_drewN | apply Kd.V_drew)); exact HO_0.out) hg (.inl rfl)); have n1_ := Aside0.mk (hp_); have n2_ := Aside0.mk ((by rw [hw]; exact below_set (HB.out) GB26.out : Below w.heap.size w w36)); clear HO_0; clear HO256; clear HB; have HO_0 := n0_; have HO256 := n1_; have HB := n2_; clear n0_ n1_ n2_; clear hg hw hp_; have p258 : 0 ≤ (x5_1 : Int) := of_decide_eq_true (by first | (with_reducible assumption) | assumption); have q258 : x5_1 < (y257.length : Int) := (by have h_ : (x5_1 : Int) < ((y254.length : Int) : Int) := of_decide_eq_true (by first | (with_reducible assumption) | assumption); first | (have e_ := (Kd.R_reads' HO256.out).1; omega) | simpa only [Ny257.out, List.length_set] using h_); have ql258 : ((x5_1 : Int) < ((y254.length : Int) : Int)) = True := eq_true (of_decide_eq_true (by first | (with_reducible assumption) | assumption)); obtain ⟨ad258, e258, hx258_0, hx258_1, hx258_2, hx258_3, hx258_4, hx258_5, hx258_6⟩ := at_T29 (Kd.R_reads' HO256.out).2.2 x5_1 p258 q258; (try rw [← Nbq27.out] at hx258_0); (try rw [← Nbq27.out] at hx258_6); obtain rfl : (⟨go26, 0, none⟩ : Addr) = ad258 := (by injection e258); (first | simp only [add_plain] at hx258_0 | simp only [add_at] at hx258_0 | simp only [Addr.add, Nat.zero_add] at hx258_0 | skip); (first | simp only [add_plain] at hx258_1 | simp only [add_at] at hx258_1 | simp only [Addr.add, Nat.zero_add] at hx258_1 | skip); (first | simp only [add_plain] at hx258_2 | simp only [add_at] at hx258_2 | simp only [Addr.add, Nat.zero_add] at hx258_2 | skip); (first | simp only [add_plain] at hx258_3 | simp only [add_at] at hx258_3 | simp only [Addr.add, Nat.zero_add] at hx258_3 | skip); (first | simp only [add_plain] at hx258_4 | simp only [add_at] at hx258_4 | simp only [Addr.add, Nat.zero_add] at hx258_4 | skip); (first | simp only [add_plain] at hx258_5 | simp only [add_at] at hx258_5 | simp only [Addr.add, Nat.zero_add] at hx258_5 | skip); (first | simp only [add_plain] at hx258_6 | simp only [add_at] at hx258_6 | simp only [Addr.add, Nat.zero_add] at hx258_6 | skip); replace p258 := eq_true p258; replace q258 := eq_true q258) | ((with_reducible refine gate_dst (N := 61) rfl ?_); (try (refine gate_guard (by rfl) ?_; dsimp only)); refine Kd.R_lit k29 _ 29 ?hg (N := 61) ?hd (xs := ([] : List (S29))) (inner := []) (ok := fun _ => True) (okp := fun _ => True) ?hr ?hp (fun _ hk => hk) trivial (Below.refl _ _) (Nat.le_refl _) (by simp) ?_; (case hd => rfl); (case hg => rfl); (case hr => first | (go_simp; done) | (go_simp; rfl)); (case hp => exact (Reps.none _ _)); intro v260 w37 ho38 hb hg_ hnew_; clear hg_ hnew_; (first | rw [← Ny259.out] at ho38 | (simp only [Int.reduceToNat] at ho38; rw [← Ny259.out] at ho38)); have n0_ := Aside0.mk (Kd.V_elder' (by (with_reducible repeat (first | apply Kd.V_alloc | apply Kd.V_drewN | apply Kd.V_drew)); exact HO_0.out) (Kd.R_base ho38) hb); have n1_ := Aside0.mk (Kd.R_elder' (by (with_reducible repeat (first | apply Kd.R_alloc | apply Kd.R_drewN | apply Kd.R_drew)); exact HO256.out) (Kd.R_base ho38) hb); have n2_ := Aside0.mk (Kd.R_lower (Kd.R_new' (Kd.R_newM (M := fun k_ => (w.heap.size ≤ k_)) ho38 (below_size (by repeat (first | (with_reducible first | exact HB.out | apply below_alloc | apply pw_below_drewN | apply below_drew1) | exact HB.out))) (fun k_ h_ => h_)) (Kd.R_lt (by (with_reducible repeat (first | apply Kd.R_alloc | apply Kd.R_drewN | apply Kd.R_drew)); exact HO256.out))) (below_size (by repeat (first | (with_reducible first | exact HB.out | apply below_alloc | apply pw_below_drewN | apply below_drew1) | exact HB.out)))); have n3_ := Aside0.mk (below_step (by repeat (first | (with_reducible first | exact HB.out | apply below_alloc | apply pw_below_drewN | apply below_drew1) | exact HB.out)) hb); clear HO_0; clear HO256; clear HB; have HO_0 := n0_; have HO256 := n1_; have HO261 := n2_; have HB := n3_; clear n0_ n1_ n2_ n3_; clear hb ho38) | ((with_reducible refine gate_builtin (b := .append) (xs := #[.tmp 61, .tmp 62]) rfl ?_); (try (refine gate_guard (by rfl) ?_; dsimp only)); at_builtin; refine Kd.R_append_rows k29 (w0 := w) w.heap.size rfl (.tmp 61) (.tmp 62) 22 29 (.agg #[(.bool false), (.string ⟨#[]⟩), (.string ⟨#[]⟩), (.string ⟨#[]⟩), (.int .u32 0), (.int .u64 0), (.bool false)]) 80 rfl Tryd.underlying22 info29 rfl (by decide) (by omega) v260 y259 y257 _ _ _ (fun k_ => (w.heap.size ≤ k_) ∧ some k_ ≠ (.slice (some ⟨go26, 0, none⟩) y254.length co26 : Value).ownBlock) (fun _ => False) rfl rfl ?aO ?aR (fun _ _ h => h) (fun _ h => h.elim) ?aF ?aB ?aS ?aL ?_; (case aR => rw [show y254.length = y257.length from (Kd.R_reads' HO256.out).1]; repeat (first | exact (Kd.R_reads' HO256.out).2.2 | (with_reducible refine Kd.C_alloc ?_ _) | (with_reducible refine Kd.C_drewN ?_ _) | (with_reducible refine Kd.C_drew ?_))); (case aB => exact (by repeat (first | (with_reducible first | exact HB.out | apply below_alloc | apply pw_below_drewN | apply below_drew1) | exact HB.out))); (case aF => exact (fun k_ hk => ⟨(Nat.le_trans (below_size (by repeat (first | (with_reducible first | exact HB.out | apply below_alloc | apply pw_below_drewN | apply below_drew1) | exact HB.out))) hk), Kd.fresh' (Kd.R_lt (by (with_reducible repeat (first | apply Kd.R_alloc | apply Kd.R_drewN | apply Kd.R_drew)); exact HO256.out)) k_ hk⟩)); (case aO => exact (by (with_reducible repeat (first | apply Kd.R_alloc | apply Kd.R_drewN | apply Kd.R_drew)); exact Kd.R_mono HO261.out (fun _ hk => ⟨hk.1.1, hk.2⟩))); (case aS => exact (below_size (by repeat (first | (with_reducible first | exact HB.out | apply below_alloc | apply pw_below_drewN | apply below_drew1) | exact HB.out)))); (case aL => have := LMc29.out; have hlx_ := (Kd.R_reads' HO256.out).1; omega); intro v263 w39 ho hb hg hat; rw [← Ny262.out] at ho; have n0_ := Aside0.mk (Kd.V_afterv (ok := (fun k_ => (P0_ k_ ∨ w.heap.size ≤ k_) ∧ some k_ ≠ (.slice (some ⟨go26, 0, none⟩) y254.length co26 : Value).ownBlock)) (by (with_reducible repeat (first | apply Kd.V_alloc | apply Kd.V_drewN | apply Kd.V_drew)); exact HO_0.out) hg hat); have n1_ := Aside0.mk (Kd.R_after (ok := (fun k_ => (w.heap.size ≤ k_))) (by (with_reducible repeat (first | apply Kd.R_alloc | apply Kd.R_drewN | apply Kd.R_drew)); exact HO256.out) hg hat); have n2_ := Aside0.mk (hb); have n3_ := Aside0.mk (ho); clear HO_0; clear HO256; clear HB; clear HO261; have HO_0 := n0_; have HO256 := n1_; have HB := n2_; have HO264 := n3_; clear n0_ n1_ n2_ n3_; clear ho hb hg hat; have p31 : 0 ≤ (x5_1 : Int) := of_decide_eq_true (by first | (with_reducible assumption) | assumption); have q31 : (x5_1 : Int) < ((y262.length : Int) : Int) := of_decide_eq_true (by first | (with_reducible assumption) | assumption); obtain ⟨go31, co31, eo31, gb31, gl31, cl31, HG31⟩ := Kd.R_form HO264.out (by omega); (first | cases eo31 | (injection eo31 with ea_ en_ ec_; (first | subst ea_ | (injection ea_ with ea_; subst ea_)); subst ec_; clear en_)); have GB31 := Aside0.mk gb31; have GG31 := Aside0.mk HG31; clear gb31 gl31 HG31; obtain ⟨ce31, hcl31, hM31, hcc31, hfr31⟩ := Kd.R_elem HO264.out z29 (x5_1 : Int) p31 q31; obtain rfl := k29_openM hM31; have hx31_0 : w39.cell? ⟨go31, (x5_1 : Int).toNat * 7, none⟩ = some (.bool ((rd_T29 y262 x5_1).f0)) := hcc31 0 _ rfl; have hx31_1 : w39.cell? ⟨go31, (x5_1 : Int).toNat * 7 + 1, none⟩ = some (.string ((rd_T29 y262 x5_1).f1)) := hcc31 1 _ rfl; have hx31_2 : w39.cell? ⟨go31, (x5_1 : Int).toNat * 7 + 2, none⟩ = some (.string ((rd_T29 y262 x5_1).f2)) := hcc31 2 _ rfl; have hx31_3 : w39.cell? ⟨go31, (x5_1 : Int).toNat * 7 + 3, none⟩ = some (.string ((rd_T29 y262 x5_1).f3)) := hcc31 3 _ rfl; have hx31_4 : w39.cell? ⟨go31, (x5_1 : Int).toNat * 7 + 4, none⟩ = some (.int .u32 ((rd_T29 y262 x5_1).f4)) := hcc31 4 _ rfl; have hx31_5 : w39.cell? ⟨go31, (x5_1 : Int).toNat * 7 + 5, none⟩ = some (.int .u64 ((rd_T29 y262 x5_1).f5)) := hcc31 5 _ rfl; have hx31_6 : w39.cell? ⟨go31, (x5_1 : Int).toNat * 7 + 6, none⟩ = some (.bool ((rd_T29 y262 x5_1).f6)) := hcc31 6 _ rfl; have hf31_0 : w39.frozen? ⟨go31, (x5_1 : Int).toNat * 7, none⟩ = false := hfr31 0; have hf31_1 : w39.frozen? ⟨go31, (x5_1 : Int).toNat * 7 + 1, none⟩ = false := hfr31 1; have hf31_2 : w39.frozen? ⟨go31, (x5_1 : Int).toNat * 7 + 2, none⟩ = false := hfr31 2; have hf31_3 : w39.frozen? ⟨go31, (x5_1 : Int).toNat * 7 + 3, none⟩ = false := hfr31 3; have hf31_4 : w39.frozen? ⟨go31, (x5_1 : Int).toNat * 7 + 4, none⟩ = false := hfr31 4; have hf31_5 : w39.frozen? ⟨go31, (x5_1 : Int).toNat * 7 + 5, none⟩ = false := hfr31 5; have hf31_6 : w39.frozen? ⟨go31, (x5_1 : Int).toNat * 7 + 6, none⟩ = false := hfr31 6; clear hcl31 hcc31 hfr31 hM31; replace p31 := eq_true p31; replace q31 := eq_true q31; have HX40 := Aside0.mk (show Kd.R k29 29 w39 w.heap.size (fun k_ => (w.heap.size ≤ k_) ∧ some k_ ≠ (.slice (some ⟨go26, 0, none⟩) y254.length co26 : Value).ownBlock) (.slice (some ⟨go31, 0, none⟩) y262.length co31) y262 from (by (with_reducible repeat (first | apply Kd.R_alloc | apply Kd.R_drewN | apply Kd.R_drew)); exact HO264.out)); obtain ⟨ce40, hcl40, hM40, hcc40, hfr40⟩ := Kd.R_elem HX40.out z29 (x5_1 : Int) (of_decide_eq_true (by first | (with_reducible assumption) | assumption)) (by have h_ : (x5_1 : Int) < ((y262.length : Int) : Int) := of_decide_eq_true (by first | (with_reducible assumption) | assumption); first | exact h_ | (have e_ := (Kd.R_reads' HO264.out).1; omega) | simpa using h_); obtain rfl := k29_openM hM40; have HP40 := Kd.R_seg HX40.out (x5_1 : Int) (of_decide_eq_true (by first | (with_reducible assumption) | assumption)) (by have h_ : (x5_1 : Int) < ((y262.length : Int) : Int) := of_decide_eq_true (by first | (with_reducible assumption) | assumption); first | exact h_ | (have e_ := (Kd.R_reads' HO264.out).1; omega) | simpa using h_) (seg := [.string (⟨#[]⟩ : ByteArray)]) (j := 1) hcl40 hcc40 (show 2 ≤ 7 from by decide) (x' := (⟨(rd_T29 y262 x5_1).f0, (⟨#[]⟩ : ByteArray), (rd_T29 y262 x5_1).f2, (rd_T29 y262 x5_1).f3, (rd_T29 y262 x5_1).f4, (rd_T29 y262 x5_1).f5, (rd_T29 y262 x5_1).f6⟩ : S29)) (k29_mkM _ _ _ (⟨(rd_T29 y262 x5_1).f0, (⟨#[]⟩ : ByteArray), (rd_T29 y262 x5_1).f2, (rd_T29 y262 x5_1).f3, (rd_T29 y262 x5_1).f4, (rd_T29 y262 x5_1).f5, (rd_T29 y262 x5_1).f6⟩ : S29) ) (fun _ hk => hk); have hx40_1 := hcc40 1 _ rfl; (try simp only [show (k29).sz = 7 from rfl, Nat.mul_one, Nat.add_zero] at hx40_1); have hf40_1 := hfr40 1; (try simp only [show (k29).sz = 7 from rfl, Nat.mul_one, Nat.add_zero] at hf40_1); clear hcl40 hcc40 hfr40 hM40) | ((with_reducible refine gate_store (t := 9) (p := 67) rfl ?_); refine store_event (t := 9) (p := 67) (v := ?vo_w41) (w1 := (w39.setCell ⟨go31, (x5_1 : Int).toNat * 7 + 1, none⟩ (.string (⟨#[]⟩ : ByteArray)))) ?hg ?ho ?hn ?hr ?_; (case ho => rfl); (case hg => rfl); (case hn => rfl); (case hr => first | (go_simp; done) | (go_simp; rfl)); intro w41 hw; have hg : w39.grownBy w41 (some go31) := (by rw [hw]; exact HP40.2); have hp_ : Kd.R k29 29 w41 w.heap.size (fun k_ => (w.heap.size ≤ k_) ∧ some k_ ≠ (.slice (some ⟨go26, 0, none⟩) y254.length co26 : Value).ownBlock) (.slice (some ⟨go31, 0, none⟩) y262.length co31) y265 := (by rw [hw, Ny265.out]; exact HP40.1); clear HP40; have n0_ := Aside0.mk (Kd.V_afterv (v := (.slice (some ⟨go31, 0, none⟩) y262.length co31)) (v1 := (.slice (some ⟨go31, 0, none⟩) y262.length co31)) (ok := (fun k_ => (P0_ k_ ∨ w.heap.size ≤ k_) ∧ some k_ ≠ (.slice (some ⟨go26, 0, none⟩) y254.length co26 : Value).ownBlock)) (by (with_reducible repeat (first | apply Kd.V_alloc | apply Kd.V_drewN | apply Kd.V_drew)); exact HO_0.out) hg (.inl rfl)); have n1_ := Aside0.mk (Kd.R_after (v := (.slice (some ⟨go31, 0, none⟩) y262.length co31)) (v1 := (.slice (some ⟨go31, 0, none⟩) y262.length co31)) (ok := (fun k_ => (w.heap.size ≤ k_))) (by (with_reducible repeat (first | apply Kd.R_alloc | apply Kd.R_drewN | apply Kd.R_drew)); exact HO256.out) hg (.inl rfl)); have n2_ := Aside0.mk (hp_); have n3_ := Aside0.mk ((by rw [hw]; exact below_set (HB.out) GB31.out : Below w.heap.size w w41)); clear HO_0; clear HO256; clear HO264; clear HB; have HO_0 := n0_; have HO256 := n1_; have HO264 := n2_; have HB := n3_; clear n0_ n1_ n2_ n3_; clear hg hw hp_))
                                    go_roundg kj16
                                    case measure => have := HK1.out; have := HJ8.out; have := HJ16.out; omega
                                    case rel => exact ⟨(y265), (wrap64 (x5_1 + 1)), (by first | rfl | (simp; done) | (simp [*]; done)), H', ⟨by have := HK1.out; have := HJ8.out; have := HJ16.out; omega⟩, ⟨Kd.V_mono (Kd.R_V (by (with_reducible repeat (first | apply Kd.R_alloc | apply Kd.R_drewN | apply Kd.R_drew)); exact Kd.R_mono HO264.out (fun _ hk => hk.1))) (fun k_ hk => by first | exact ⟨(.inr (hk.1)), hk.2⟩ | exact (.inr (hk)))⟩, ⟨by repeat (first | (with_reducible first | exact HB.out | apply below_alloc | apply pw_below_drewN | apply below_drew1) | exact HB.out)⟩⟩
                                  · rw [if_neg c30] at H
                                    exact absurd H (by simp)
                                · rw [if_neg c29] at H
                                  exact absurd H (by simp)
                              · replace c28 := Bool.eq_false_iff.mpr c28
                                subst c28
                                have H1 : ((some (([] : List (S29)) : List (S29))).bind fun y266 => (if y266.length + y257.length < 1759218604441 then ((some (y266 ++ y257 : List (S29))).bind fun y269 => (if x5_1 < (y269.length : Int) then ((cellaretref18_Line.f ((rd_T29 y269 x5_1).f1)).bind fun bt273 => (cellaretlaw19_ReplyBack.l0 kj16 (y269.set (x5_1 : Int).toNat (⟨bt273.1, bt273.2.1, bt273.2.2.1, bt273.2.2.2.1, bt273.2.2.2.2.1, bt273.2.2.2.2.2.1, bt273.2.2.2.2.2.2⟩ : S29)) a1 (wrap64 (x5_1 + 1)))) else (none))) else (none))) = some r := by rw [if_neg (show ¬ (false = true) by decide)] at H; exact H
                                clear H
                                have H := H1
                                clear H1
                                obtain ⟨y266, hy266⟩ : ∃ y_ : List (S29), y_ = (([] : List (S29))) := ⟨_, rfl⟩
                                replace H : (if y266.length + y257.length < 1759218604441 then ((some (y266 ++ y257 : List (S29))).bind fun y269 => (if x5_1 < (y269.length : Int) then ((cellaretref18_Line.f ((rd_T29 y269 x5_1).f1)).bind fun bt273 => (cellaretlaw19_ReplyBack.l0 kj16 (y269.set (x5_1 : Int).toNat (⟨bt273.1, bt273.2.1, bt273.2.2.1, bt273.2.2.2.1, bt273.2.2.2.2.1, bt273.2.2.2.2.2.1, bt273.2.2.2.2.2.2⟩ : S29)) a1 (wrap64 (x5_1 + 1)))) else (none))) else (none)) = some r := by first | (rw [hy266]; with_reducible exact H) | (have H2_ := (Option.bind_some _ _).symm.trans H; rw [hy266]; with_reducible exact H2_) | (have H2_ := (Option.bind_some _ _).symm.trans H; with_reducible exact H2_) | with_reducible exact H | (rw [hy266]; exact H) | exact H
                                have Ny266 := Aside0.mk hy266
                                clear hy266
                                by_cases c42 : y266.length + y257.length < 1759218604441
                                · rw [if_pos c42] at H
                                  have LMc42 := Aside0.mk c42
                                  clear c42
                                  obtain ⟨y269, hy269⟩ : ∃ y_ : List (S29), y_ = (y266 ++ y257) := ⟨_, rfl⟩
                                  replace H : (if x5_1 < (y269.length : Int) then ((cellaretref18_Line.f ((rd_T29 y269 x5_1).f1)).bind fun bt273 => (cellaretlaw19_ReplyBack.l0 kj16 (y269.set (x5_1 : Int).toNat (⟨bt273.1, bt273.2.1, bt273.2.2.1, bt273.2.2.2.1, bt273.2.2.2.2.1, bt273.2.2.2.2.2.1, bt273.2.2.2.2.2.2⟩ : S29)) a1 (wrap64 (x5_1 + 1)))) else (none)) = some r := by first | (rw [hy269]; with_reducible exact H) | (have H2_ := (Option.bind_some _ _).symm.trans H; rw [hy269]; with_reducible exact H2_) | (have H2_ := (Option.bind_some _ _).symm.trans H; with_reducible exact H2_) | with_reducible exact H | (rw [hy269]; exact H) | exact H
                                  have Ny269 := Aside0.mk hy269
                                  clear hy269
                                  by_cases c43 : x5_1 < (y269.length : Int)
                                  · rw [if_pos c43] at H
                                    have c43b0 : decide (x5_1 < (y269.length : Int)) = true := decide_eq_true c43
                                    clear c43
                                    replace H := Option.bind_eq_some_iff.mp H
                                    obtain ⟨⟨t273, t274, t275, t276, t277, t278, t279⟩, A440, H⟩ := H
                                    replace H : (cellaretlaw19_ReplyBack.l0 kj16 (y269.set (x5_1 : Int).toNat (⟨t273, t274, t275, t276, t277, t278, t279⟩ : S29)) a1 (wrap64 (x5_1 + 1))) = some r := H
                                    have A44 := Aside0.mk A440
                                    clear A440
                                    obtain ⟨y280, hy280⟩ : ∃ y_ : List (S29), y_ = (y269.set (x5_1 : Int).toNat (⟨t273, t274, t275, t276, t277, t278, t279⟩ : S29)) := ⟨_, rfl⟩
                                    replace H : (cellaretlaw19_ReplyBack.l0 kj16 y280 a1 (wrap64 (x5_1 + 1))) = some r := by first | (rw [hy280]; with_reducible exact H) | (have H2_ := (Option.bind_some _ _).symm.trans H; rw [hy280]; with_reducible exact H2_) | (have H2_ := (Option.bind_some _ _).symm.trans H; with_reducible exact H2_) | with_reducible exact H | (rw [hy280]; exact H) | exact H
                                    have Ny280 := Aside0.mk hy280
                                    clear hy280
                                    have H' := Aside0.mk H
                                    clear H
                                    go_wp2_with (first | ((with_reducible refine gate_dst (N := 49) rfl ?_); (try (refine gate_guard (by rfl) ?_; dsimp only)); refine Kd.R_lit k29 _ 29 ?hg (N := 49) ?hd (xs := ([] : List (S29))) (inner := []) (ok := fun _ => True) (okp := fun _ => True) ?hr ?hp (fun _ hk => hk) trivial (Below.refl _ _) (Nat.le_refl _) (by simp) ?_; (case hd => rfl); (case hg => rfl); (case hr => first | (go_simp; done) | (go_simp; rfl)); (case hp => exact (Reps.none _ _)); intro v252 w46 ho47 hb hg_ hnew_; clear hg_ hnew_; (first | rw [← Ny251.out] at ho47 | (simp only [Int.reduceToNat] at ho47; rw [← Ny251.out] at ho47)); have n0_ := Aside0.mk (Kd.V_elder' (by (with_reducible repeat (first | apply Kd.V_alloc | apply Kd.V_drewN | apply Kd.V_drew)); exact HO_0.out) (Kd.R_base ho47) hb); have n1_ := Aside0.mk (Kd.R_lower (Kd.R_newM (M := fun k_ => (w.heap.size ≤ k_)) ho47 (below_size (by repeat (first | (with_reducible first | exact HB.out | apply below_alloc | apply pw_below_drewN | apply below_drew1) | exact HB.out))) (fun k_ h_ => h_)) (below_size (by repeat (first | (with_reducible first | exact HB.out | apply below_alloc | apply pw_below_drewN | apply below_drew1) | exact HB.out)))); have n2_ := Aside0.mk (below_step (by repeat (first | (with_reducible first | exact HB.out | apply below_alloc | apply pw_below_drewN | apply below_drew1) | exact HB.out)) hb); clear HO_0; clear HB; have HO_0 := n0_; have HO253 := n1_; have HB := n2_; clear n0_ n1_ n2_; clear hb ho47) | ((with_reducible refine gate_builtin (b := .append) (xs := #[.tmp 49, .tmp 50]) rfl ?_); (try (refine gate_guard (by rfl) ?_; dsimp only)); at_builtin; refine Kd.R_append_rows k29 (w0 := w) w.heap.size rfl (.tmp 49) (.tmp 50) 22 29 (.agg #[(.bool false), (.string ⟨#[]⟩), (.string ⟨#[]⟩), (.string ⟨#[]⟩), (.int .u32 0), (.int .u64 0), (.bool false)]) 80 rfl Tryd.underlying22 info29 rfl (by decide) (by omega) v252 y251 x0_1 _ _ _ (fun k_ => (w.heap.size ≤ k_)) (fun _ => False) rfl rfl ?aO ?aR (fun _ _ h => h) (fun _ h => h.elim) ?aF ?aB ?aS ?aL ?_; (case aR => repeat (first | exact (Kd.V_reads' HO_0.out).2.2 | (with_reducible refine Kd.C_alloc ?_ _) | (with_reducible refine Kd.C_drewN ?_ _) | (with_reducible refine Kd.C_drew ?_))); (case aB => exact (by repeat (first | (with_reducible first | exact HB.out | apply below_alloc | apply pw_below_drewN | apply below_drew1) | exact HB.out))); (case aF => exact (fun k_ hk => (Nat.le_trans (below_size (by repeat (first | (with_reducible first | exact HB.out | apply below_alloc | apply pw_below_drewN | apply below_drew1) | exact HB.out))) hk))); (case aO => exact (by (with_reducible repeat (first | apply Kd.R_alloc | apply Kd.R_drewN | apply Kd.R_drew)); exact Kd.R_mono HO253.out (fun _ hk => hk.1))); (case aS => exact (below_size (by repeat (first | (with_reducible first | exact HB.out | apply below_alloc | apply pw_below_drewN | apply below_drew1) | exact HB.out)))); (case aL => have := LMc23.out; omega); intro v255 w48 ho hb hg hat; rw [← Ny254.out] at ho; have n0_ := Aside0.mk (Kd.V_afterv (ok := (fun k_ => (P0_ k_ ∨ w.heap.size ≤ k_))) (by (with_reducible repeat (first | apply Kd.V_alloc | apply Kd.V_drewN | apply Kd.V_drew)); exact HO_0.out) hg hat); have n1_ := Aside0.mk (hb); have n2_ := Aside0.mk (ho); clear HO_0; clear HB; clear HO253; have HO_0 := n0_; have HB := n1_; have HO256 := n2_; clear n0_ n1_ n2_; clear ho hb hg hat; have p26 : 0 ≤ (x5_1 : Int) := of_decide_eq_true (by first | (with_reducible assumption) | assumption); have q26 : (x5_1 : Int) < ((y254.length : Int) : Int) := of_decide_eq_true (by first | (with_reducible assumption) | assumption); obtain ⟨go26, co26, eo26, gb26, gl26, cl26, HG26⟩ := Kd.R_form HO256.out (by omega); (first | cases eo26 | (injection eo26 with ea_ en_ ec_; (first | subst ea_ | (injection ea_ with ea_; subst ea_)); subst ec_; clear en_)); have GB26 := Aside0.mk gb26; have GG26 := Aside0.mk HG26; clear gb26 gl26 HG26; obtain ⟨ce26, hcl26, hM26, hcc26, hfr26⟩ := Kd.R_elem HO256.out z29 (x5_1 : Int) p26 q26; obtain rfl := k29_openM hM26; have hx26_0 : w48.cell? ⟨go26, (x5_1 : Int).toNat * 7, none⟩ = some (.bool ((rd_T29 y254 x5_1).f0)) := hcc26 0 _ rfl; have hx26_1 : w48.cell? ⟨go26, (x5_1 : Int).toNat * 7 + 1, none⟩ = some (.string ((rd_T29 y254 x5_1).f1)) := hcc26 1 _ rfl; have hx26_2 : w48.cell? ⟨go26, (x5_1 : Int).toNat * 7 + 2, none⟩ = some (.string ((rd_T29 y254 x5_1).f2)) := hcc26 2 _ rfl; have hx26_3 : w48.cell? ⟨go26, (x5_1 : Int).toNat * 7 + 3, none⟩ = some (.string ((rd_T29 y254 x5_1).f3)) := hcc26 3 _ rfl; have hx26_4 : w48.cell? ⟨go26, (x5_1 : Int).toNat * 7 + 4, none⟩ = some (.int .u32 ((rd_T29 y254 x5_1).f4)) := hcc26 4 _ rfl; have hx26_5 : w48.cell? ⟨go26, (x5_1 : Int).toNat * 7 + 5, none⟩ = some (.int .u64 ((rd_T29 y254 x5_1).f5)) := hcc26 5 _ rfl; have hx26_6 : w48.cell? ⟨go26, (x5_1 : Int).toNat * 7 + 6, none⟩ = some (.bool ((rd_T29 y254 x5_1).f6)) := hcc26 6 _ rfl; have hf26_0 : w48.frozen? ⟨go26, (x5_1 : Int).toNat * 7, none⟩ = false := hfr26 0; have hf26_1 : w48.frozen? ⟨go26, (x5_1 : Int).toNat * 7 + 1, none⟩ = false := hfr26 1; have hf26_2 : w48.frozen? ⟨go26, (x5_1 : Int).toNat * 7 + 2, none⟩ = false := hfr26 2; have hf26_3 : w48.frozen? ⟨go26, (x5_1 : Int).toNat * 7 + 3, none⟩ = false := hfr26 3; have hf26_4 : w48.frozen? ⟨go26, (x5_1 : Int).toNat * 7 + 4, none⟩ = false := hfr26 4; have hf26_5 : w48.frozen? ⟨go26, (x5_1 : Int).toNat * 7 + 5, none⟩ = false := hfr26 5; have hf26_6 : w48.frozen? ⟨go26, (x5_1 : Int).toNat * 7 + 6, none⟩ = false := hfr26 6; clear hcl26 hcc26 hfr26 hM26; replace p26 := eq_true p26; replace q26 := eq_true q26; have HX49 := Aside0.mk (show Kd.R k29 29 w48 w.heap.size (fun k_ => (w.heap.size ≤ k_)) (.slice (some ⟨go26, 0, none⟩) y254.length co26) y254 from (by (with_reducible repeat (first | apply Kd.R_alloc | apply Kd.R_drewN | apply Kd.R_drew)); exact HO256.out)); obtain ⟨ce49, hcl49, hM49, hcc49, hfr49⟩ := Kd.R_elem HX49.out z29 (x5_1 : Int) (of_decide_eq_true (by first | (with_reducible assumption) | assumption)) (by have h_ : (x5_1 : Int) < ((y254.length : Int) : Int) := of_decide_eq_true (by first | (with_reducible assumption) | assumption); first | exact h_ | (have e_ := (Kd.R_reads' HO256.out).1; omega) | simpa using h_); obtain rfl := k29_openM hM49; have HP49 := Kd.R_seg HX49.out (x5_1 : Int) (of_decide_eq_true (by first | (with_reducible assumption) | assumption)) (by have h_ : (x5_1 : Int) < ((y254.length : Int) : Int) := of_decide_eq_true (by first | (with_reducible assumption) | assumption); first | exact h_ | (have e_ := (Kd.R_reads' HO256.out).1; omega) | simpa using h_) (seg := [.int .u64 0]) (j := 5) hcl49 hcc49 (show 6 ≤ 7 from by decide) (x' := (⟨(rd_T29 y254 x5_1).f0, (rd_T29 y254 x5_1).f1, (rd_T29 y254 x5_1).f2, (rd_T29 y254 x5_1).f3, (rd_T29 y254 x5_1).f4, 0, (rd_T29 y254 x5_1).f6⟩ : S29)) (k29_mkM _ _ _ (⟨(rd_T29 y254 x5_1).f0, (rd_T29 y254 x5_1).f1, (rd_T29 y254 x5_1).f2, (rd_T29 y254 x5_1).f3, (rd_T29 y254 x5_1).f4, 0, (rd_T29 y254 x5_1).f6⟩ : S29) ) (fun _ hk => hk); have hx49_5 := hcc49 5 _ rfl; (try simp only [show (k29).sz = 7 from rfl, Nat.mul_one, Nat.add_zero] at hx49_5); have hf49_5 := hfr49 5; (try simp only [show (k29).sz = 7 from rfl, Nat.mul_one, Nat.add_zero] at hf49_5); clear hcl49 hcc49 hfr49 hM49) | ((with_reducible refine gate_store (t := 27) (p := 55) rfl ?_); refine store_event (t := 27) (p := 55) (v := ?vo_w50) (w1 := (w48.setCell ⟨go26, (x5_1 : Int).toNat * 7 + 5, none⟩ (.int .u64 0))) ?hg ?ho ?hn ?hr ?_; (case ho => rfl); (case hg => rfl); (case hn => rfl); (case hr => first | (go_simp; done) | (go_simp; rfl)); intro w50 hw; have hg : w48.grownBy w50 (some go26) := (by rw [hw]; exact HP49.2); have hp_ : Kd.R k29 29 w50 w.heap.size (fun k_ => (w.heap.size ≤ k_)) (.slice (some ⟨go26, 0, none⟩) y254.length co26) y257 := (by rw [hw, Ny257.out]; exact HP49.1); clear HP49; have n0_ := Aside0.mk (Kd.V_afterv (v := (.slice (some ⟨go26, 0, none⟩) y254.length co26)) (v1 := (.slice (some ⟨go26, 0, none⟩) y254.length co26)) (ok := (fun k_ => (P0_ k_ ∨ w.heap.size ≤ k_))) (by (with_reducible repeat (first | apply Kd.V_alloc | apply Kd.V_drewN | apply Kd.V_drew)); exact HO_0.out) hg (.inl rfl)); have n1_ := Aside0.mk (hp_); have n2_ := Aside0.mk ((by rw [hw]; exact below_set (HB.out) GB26.out : Below w.heap.size w w50)); clear HO_0; clear HO256; clear HB; have HO_0 := n0_; have HO256 := n1_; have HB := n2_; clear n0_ n1_ n2_; clear hg hw hp_; have p258 : 0 ≤ (x5_1 : Int) := of_decide_eq_true (by first | (with_reducible assumption) | assumption); have q258 : x5_1 < (y257.length : Int) := (by have h_ : (x5_1 : Int) < ((y254.length : Int) : Int) := of_decide_eq_true (by first | (with_reducible assumption) | assumption); first | (have e_ := (Kd.R_reads' HO256.out).1; omega) | simpa only [Ny257.out, List.length_set] using h_); have ql258 : ((x5_1 : Int) < ((y254.length : Int) : Int)) = True := eq_true (of_decide_eq_true (by first | (with_reducible assumption) | assumption)); obtain ⟨ad258, e258, hx258_0, hx258_1, hx258_2, hx258_3, hx258_4, hx258_5, hx258_6⟩ := at_T29 (Kd.R_reads' HO256.out).2.2 x5_1 p258 q258; (try rw [← Nbq27.out] at hx258_0); (try rw [← Nbq27.out] at hx258_6); obtain rfl : (⟨go26, 0, none⟩ : Addr) = ad258 := (by injection e258); (first | simp only [add_plain] at hx258_0 | simp only [add_at] at hx258_0 | simp only [Addr.add, Nat.zero_add] at hx258_0 | skip); (first | simp only [add_plain] at hx258_1 | simp only [add_at] at hx258_1 | simp only [Addr.add, Nat.zero_add] at hx258_1 | skip); (first | simp only [add_plain] at hx258_2 | simp only [add_at] at hx258_2 | simp only [Addr.add, Nat.zero_add] at hx258_2 | skip); (first | simp only [add_plain] at hx258_3 | simp only [add_at] at hx258_3 | simp only [Addr.add, Nat.zero_add] at hx258_3 | skip); (first | simp only [add_plain] at hx258_4 | simp only [add_at] at hx258_4 | simp only [Addr.add, Nat.zero_add] at hx258_4 | skip); (first | simp only [add_plain] at hx258_5 | simp only [add_at] at hx258_5 | simp only [Addr.add, Nat.zero_add] at hx258_5 | skip); (first | simp only [add_plain] at hx258_6 | simp only [add_at] at hx258_6 | simp only [Addr.add, Nat.zero_add] at hx258_6 | skip); replace p258 := eq_true p258; replace q258 := eq_true q258) | ((with_reducible refine gate_dst (N := 68) rfl ?_); (try (refine gate_guard (by rfl) ?_; dsimp only)); refine Kd.R_lit k29 _ 29 ?hg (N := 68) ?hd (xs := ([] : List (S29))) (inner := []) (ok := fun _ => True) (okp := fun _ => True) ?hr ?hp (fun _ hk => hk) trivial (Below.refl _ _) (Nat.le_refl _) (by simp) ?_; (case hd => rfl); (case hg => rfl); (case hr => first | (go_simp; done) | (go_simp; rfl)); (case hp => exact (Reps.none _ _)); intro v267 w51 ho52 hb hg_ hnew_; clear hg_ hnew_; (first | rw [← Ny266.out] at ho52 | (simp only [Int.reduceToNat] at ho52; rw [← Ny266.out] at ho52)); have n0_ := Aside0.mk (Kd.V_elder' (by (with_reducible repeat (first | apply Kd.V_alloc | apply Kd.V_drewN | apply Kd.V_drew)); exact HO_0.out) (Kd.R_base ho52) hb); have n1_ := Aside0.mk (Kd.R_elder' (by (with_reducible repeat (first | apply Kd.R_alloc | apply Kd.R_drewN | apply Kd.R_drew)); exact HO256.out) (Kd.R_base ho52) hb); have n2_ := Aside0.mk (Kd.R_lower (Kd.R_new' (Kd.R_newM (M := fun k_ => (w.heap.size ≤ k_)) ho52 (below_size (by repeat (first | (with_reducible first | exact HB.out | apply below_alloc | apply pw_below_drewN | apply below_drew1) | exact HB.out))) (fun k_ h_ => h_)) (Kd.R_lt (by (with_reducible repeat (first | apply Kd.R_alloc | apply Kd.R_drewN | apply Kd.R_drew)); exact HO256.out))) (below_size (by repeat (first | (with_reducible first | exact HB.out | apply below_alloc | apply pw_below_drewN | apply below_drew1) | exact HB.out)))); have n3_ := Aside0.mk (below_step (by repeat (first | (with_reducible first | exact HB.out | apply below_alloc | apply pw_below_drewN | apply below_drew1) | exact HB.out)) hb); clear HO_0; clear HO256; clear HB; have HO_0 := n0_; have HO256 := n1_; have HO268 := n2_; have HB := n3_; clear n0_ n1_ n2_ n3_; clear hb ho52) | ((with_reducible refine gate_builtin (b := .append) (xs := #[.tmp 68, .tmp 69]) rfl ?_); (try (refine gate_guard (by rfl) ?_; dsimp only)); at_builtin; refine Kd.R_append_rows k29 (w0 := w) w.heap.size rfl (.tmp 68) (.tmp 69) 22 29 (.agg #[(.bool false), (.string ⟨#[]⟩), (.string ⟨#[]⟩), (.string ⟨#[]⟩), (.int .u32 0), (.int .u64 0), (.bool false)]) 80 rfl Tryd.underlying22 info29 rfl (by decide) (by omega) v267 y266 y257 _ _ _ (fun k_ => (w.heap.size ≤ k_) ∧ some k_ ≠ (.slice (some ⟨go26, 0, none⟩) y254.length co26 : Value).ownBlock) (fun _ => False) rfl rfl ?aO ?aR (fun _ _ h => h) (fun _ h => h.elim) ?aF ?aB ?aS ?aL ?_; (case aR => rw [show y254.length = y257.length from (Kd.R_reads' HO256.out).1]; repeat (first | exact (Kd.R_reads' HO256.out).2.2 | (with_reducible refine Kd.C_alloc ?_ _) | (with_reducible refine Kd.C_drewN ?_ _) | (with_reducible refine Kd.C_drew ?_))); (case aB => exact (by repeat (first | (with_reducible first | exact HB.out | apply below_alloc | apply pw_below_drewN | apply below_drew1) | exact HB.out))); (case aF => exact (fun k_ hk => ⟨(Nat.le_trans (below_size (by repeat (first | (with_reducible first | exact HB.out | apply below_alloc | apply pw_below_drewN | apply below_drew1) | exact HB.out))) hk), Kd.fresh' (Kd.R_lt (by (with_reducible repeat (first | apply Kd.R_alloc | apply Kd.R_drewN | apply Kd.R_drew)); exact HO256.out)) k_ hk⟩)); (case aO => exact (by (with_reducible repeat (first | apply Kd.R_alloc | apply Kd.R_drewN | apply Kd.R_drew)); exact Kd.R_mono HO268.out (fun _ hk => ⟨hk.1.1, hk.2⟩))); (case aS => exact (below_size (by repeat (first | (with_reducible first | exact HB.out | apply below_alloc | apply pw_below_drewN | apply below_drew1) | exact HB.out)))); (case aL => have := LMc42.out; have hlx_ := (Kd.R_reads' HO256.out).1; omega); intro v270 w53 ho hb hg hat; rw [← Ny269.out] at ho; have n0_ := Aside0.mk (Kd.V_afterv (ok := (fun k_ => (P0_ k_ ∨ w.heap.size ≤ k_) ∧ some k_ ≠ (.slice (some ⟨go26, 0, none⟩) y254.length co26 : Value).ownBlock)) (by (with_reducible repeat (first | apply Kd.V_alloc | apply Kd.V_drewN | apply Kd.V_drew)); exact HO_0.out) hg hat); have n1_ := Aside0.mk (Kd.R_after (ok := (fun k_ => (w.heap.size ≤ k_))) (by (with_reducible repeat (first | apply Kd.R_alloc | apply Kd.R_drewN | apply Kd.R_drew)); exact HO256.out) hg hat); have n2_ := Aside0.mk (hb); have n3_ := Aside0.mk (ho); clear HO_0; clear HO256; clear HB; clear HO268; have HO_0 := n0_; have HO256 := n1_; have HB := n2_; have HO271 := n3_; clear n0_ n1_ n2_ n3_; clear ho hb hg hat; obtain ⟨Ao54, co54, eo54⟩ := Kd.R_slice HO271.out; subst eo54; have p272 : 0 ≤ (x5_1 : Int) := of_decide_eq_true (by first | (with_reducible assumption) | assumption); have q272 : x5_1 < (y269.length : Int) := of_decide_eq_true (by first | (with_reducible assumption) | assumption); obtain ⟨ad272, e272, hx272_0, hx272_1, hx272_2, hx272_3, hx272_4, hx272_5, hx272_6⟩ := at_T29 (Kd.R_reads' HO271.out).2.2 x5_1 p272 q272; (try rw [← Nbq27.out] at hx272_0); (try rw [← Nbq27.out] at hx272_6); cases e272; replace p272 := eq_true p272; replace q272 := eq_true q272) | ((with_reducible refine gate_callee (f := 13) rfl ?_); refine goesL_ (some 78) rfl rfl Tryd.func13 (by kernel_rfl) rfl #[.string ((rd_T29 y269 x5_1).f1)] rfl (by (try simp only [List.map_toArray, List.map_cons, List.map_nil]); first | done | rfl | (simp only [List.length_drop, List.length_take]; rfl)) ?_; (with_reducible refine (cellaretref18_Line.calls ((rd_T29 y269 x5_1).f1) t273 t274 t275 t276 t277 t278 t279 _ A44.out).mono ?_); rintro e w55 ⟨rfl, hb⟩; refine ⟨_, rfl, ?_⟩; have n0_ := Aside0.mk (Kd.V_below (by (with_reducible repeat (first | apply Kd.V_alloc | apply Kd.V_drewN | apply Kd.V_drew)); exact HO_0.out) hb); have n1_ := Aside0.mk (Kd.R_below (by (with_reducible repeat (first | apply Kd.R_alloc | apply Kd.R_drewN | apply Kd.R_drew)); exact HO256.out) hb); have n2_ := Aside0.mk (Kd.R_below (by (with_reducible repeat (first | apply Kd.R_alloc | apply Kd.R_drewN | apply Kd.R_drew)); exact HO271.out) hb); have n3_ := Aside0.mk (below_step (by repeat (first | (with_reducible first | exact HB.out | apply below_alloc | apply pw_below_drewN | apply below_drew1) | exact HB.out)) hb); clear HO_0; clear HO256; clear HO271; clear HB; have HO_0 := n0_; have HO256 := n1_; have HO271 := n2_; have HB := n3_; clear n0_ n1_ n2_ n3_; (try clear hb); (try clear hb2); (try clear hk); (try clear hi); have p45 : 0 ≤ (x5_1 : Int) := of_decide_eq_true (by first | (with_reducible assumption) | assumption); have q45 : (x5_1 : Int) < ((y269.length : Int) : Int) := of_decide_eq_true (by first | (with_reducible assumption) | assumption); obtain ⟨go45, co45, eo45, gb45, gl45, cl45, HG45⟩ := Kd.R_form HO271.out (by omega); (first | cases eo45 | (injection eo45 with ea_ en_ ec_; (first | subst ea_ | (injection ea_ with ea_; subst ea_)); subst ec_; clear en_)); have GB45 := Aside0.mk gb45; have GG45 := Aside0.mk HG45; clear gb45 gl45 HG45; (first | simp only [add_plain] at hx272_0 | skip); (first | simp only [add_plain] at hx272_1 | skip); (first | simp only [add_plain] at hx272_2 | skip); (first | simp only [add_plain] at hx272_3 | skip); (first | simp only [add_plain] at hx272_4 | skip); (first | simp only [add_plain] at hx272_5 | skip); (first | simp only [add_plain] at hx272_6 | skip); obtain ⟨ce45, hcl45, hM45, hcc45, hfr45⟩ := Kd.R_elem HO271.out z29 (x5_1 : Int) p45 q45; obtain rfl := k29_openM hM45; have hx45_0 : w55.cell? ⟨go45, (x5_1 : Int).toNat * 7, none⟩ = some (.bool ((rd_T29 y269 x5_1).f0)) := hcc45 0 _ rfl; have hx45_1 : w55.cell? ⟨go45, (x5_1 : Int).toNat * 7 + 1, none⟩ = some (.string ((rd_T29 y269 x5_1).f1)) := hcc45 1 _ rfl; have hx45_2 : w55.cell? ⟨go45, (x5_1 : Int).toNat * 7 + 2, none⟩ = some (.string ((rd_T29 y269 x5_1).f2)) := hcc45 2 _ rfl; have hx45_3 : w55.cell? ⟨go45, (x5_1 : Int).toNat * 7 + 3, none⟩ = some (.string ((rd_T29 y269 x5_1).f3)) := hcc45 3 _ rfl; have hx45_4 : w55.cell? ⟨go45, (x5_1 : Int).toNat * 7 + 4, none⟩ = some (.int .u32 ((rd_T29 y269 x5_1).f4)) := hcc45 4 _ rfl; have hx45_5 : w55.cell? ⟨go45, (x5_1 : Int).toNat * 7 + 5, none⟩ = some (.int .u64 ((rd_T29 y269 x5_1).f5)) := hcc45 5 _ rfl; have hx45_6 : w55.cell? ⟨go45, (x5_1 : Int).toNat * 7 + 6, none⟩ = some (.bool ((rd_T29 y269 x5_1).f6)) := hcc45 6 _ rfl; have hf45_0 : w55.frozen? ⟨go45, (x5_1 : Int).toNat * 7, none⟩ = false := hfr45 0; have hf45_1 : w55.frozen? ⟨go45, (x5_1 : Int).toNat * 7 + 1, none⟩ = false := hfr45 1; have hf45_2 : w55.frozen? ⟨go45, (x5_1 : Int).toNat * 7 + 2, none⟩ = false := hfr45 2; have hf45_3 : w55.frozen? ⟨go45, (x5_1 : Int).toNat * 7 + 3, none⟩ = false := hfr45 3; have hf45_4 : w55.frozen? ⟨go45, (x5_1 : Int).toNat * 7 + 4, none⟩ = false := hfr45 4; have hf45_5 : w55.frozen? ⟨go45, (x5_1 : Int).toNat * 7 + 5, none⟩ = false := hfr45 5; have hf45_6 : w55.frozen? ⟨go45, (x5_1 : Int).toNat * 7 + 6, none⟩ = false := hfr45 6; clear hcl45 hcc45 hfr45 hM45; replace p45 := eq_true p45; replace q45 := eq_true q45; have HX56 := Aside0.mk (show Kd.R k29 29 w55 w.heap.size (fun k_ => (w.heap.size ≤ k_) ∧ some k_ ≠ (.slice (some ⟨go26, 0, none⟩) y254.length co26 : Value).ownBlock) (.slice (some ⟨go45, 0, none⟩) y269.length co54) y269 from (by (with_reducible repeat (first | apply Kd.R_alloc | apply Kd.R_drewN | apply Kd.R_drew)); exact HO271.out)); obtain ⟨ce56, hcl56, hM56, hcc56, hfr56⟩ := Kd.R_elem HX56.out z29 (x5_1 : Int) (of_decide_eq_true (by first | (with_reducible assumption) | assumption)) (by have h_ : (x5_1 : Int) < ((y269.length : Int) : Int) := of_decide_eq_true (by first | (with_reducible assumption) | assumption); first | exact h_ | (have e_ := (Kd.R_reads' HO271.out).1; omega) | simpa using h_); obtain rfl := k29_openM hM56; have HP56 := Kd.R_seg HX56.out (x5_1 : Int) (of_decide_eq_true (by first | (with_reducible assumption) | assumption)) (by have h_ : (x5_1 : Int) < ((y269.length : Int) : Int) := of_decide_eq_true (by first | (with_reducible assumption) | assumption); first | exact h_ | (have e_ := (Kd.R_reads' HO271.out).1; omega) | simpa using h_) (seg := [.bool t273, .string t274, .string t275, .string t276, .int .u32 t277, .int .u64 t278, .bool t279]) (j := 0) hcl56 hcc56 (show 7 ≤ 7 from by decide) (x' := (⟨t273, t274, t275, t276, t277, t278, t279⟩ : S29)) (k29_mkM _ _ _ (⟨t273, t274, t275, t276, t277, t278, t279⟩ : S29) ) (fun _ hk => hk); have hx56_0 := hcc56 0 _ rfl; (try simp only [show (k29).sz = 7 from rfl, Nat.mul_one, Nat.add_zero] at hx56_0); have hf56_0 := hfr56 0; (try simp only [show (k29).sz = 7 from rfl, Nat.mul_one, Nat.add_zero] at hf56_0); have hx56_1 := hcc56 1 _ rfl; (try simp only [show (k29).sz = 7 from rfl, Nat.mul_one, Nat.add_zero] at hx56_1); have hf56_1 := hfr56 1; (try simp only [show (k29).sz = 7 from rfl, Nat.mul_one, Nat.add_zero] at hf56_1); have hx56_2 := hcc56 2 _ rfl; (try simp only [show (k29).sz = 7 from rfl, Nat.mul_one, Nat.add_zero] at hx56_2); have hf56_2 := hfr56 2; (try simp only [show (k29).sz = 7 from rfl, Nat.mul_one, Nat.add_zero] at hf56_2); have hx56_3 := hcc56 3 _ rfl; (try simp only [show (k29).sz = 7 from rfl, Nat.mul_one, Nat.add_zero] at hx56_3); have hf56_3 := hfr56 3; (try simp only [show (k29).sz = 7 from rfl, Nat.mul_one, Nat.add_zero] at hf56_3); have hx56_4 := hcc56 4 _ rfl; (try simp only [show (k29).sz = 7 from rfl, Nat.mul_one, Nat.add_zero] at hx56_4); have hf56_4 := hfr56 4; (try simp only [show (k29).sz = 7 from rfl, Nat.mul_one, Nat.add_zero] at hf56_4); have hx56_5 := hcc56 5 _ rfl; (try simp only [show (k29).sz = 7 from rfl, Nat.mul_one, Nat.add_zero] at hx56_5); have hf56_5 := hfr56 5; (try simp only [show (k29).sz = 7 from rfl, Nat.mul_one, Nat.add_zero] at hf56_5); have hx56_6 := hcc56 6 _ rfl; (try simp only [show (k29).sz = 7 from rfl, Nat.mul_one, Nat.add_zero] at hx56_6); have hf56_6 := hfr56 6; (try simp only [show (k29).sz = 7 from rfl, Nat.mul_one, Nat.add_zero] at hf56_6); clear hcl56 hcc56 hfr56 hM56) | ((with_reducible refine gate_store (t := 29) (p := 79) rfl ?_); refine store_event (t := 29) (p := 79) (v := ?vo_w57) (w1 := (((((((w55.setCell ⟨go45, (x5_1 : Int).toNat * 7, none⟩ (.bool t273)).setCell ⟨go45, (x5_1 : Int).toNat * 7 + 1, none⟩ (.string t274)).setCell ⟨go45, (x5_1 : Int).toNat * 7 + 2, none⟩ (.string t275)).setCell ⟨go45, (x5_1 : Int).toNat * 7 + 3, none⟩ (.string t276)).setCell ⟨go45, (x5_1 : Int).toNat * 7 + 4, none⟩ (.int .u32 t277)).setCell ⟨go45, (x5_1 : Int).toNat * 7 + 5, none⟩ (.int .u64 t278)).setCell ⟨go45, (x5_1 : Int).toNat * 7 + 6, none⟩ (.bool t279))) ?hg ?ho ?hn ?hr ?_; (case ho => rfl); (case hg => rfl); (case hn => rfl); (case hr => first | (go_simp; done) | (go_simp; rfl)); intro w57 hw; have hg : w55.grownBy w57 (some go45) := (by rw [hw]; exact HP56.2); have hp_ : Kd.R k29 29 w57 w.heap.size (fun k_ => (w.heap.size ≤ k_) ∧ some k_ ≠ (.slice (some ⟨go26, 0, none⟩) y254.length co26 : Value).ownBlock) (.slice (some ⟨go45, 0, none⟩) y269.length co54) y280 := (by rw [hw, Ny280.out]; exact HP56.1); clear HP56; have n0_ := Aside0.mk (Kd.V_afterv (v := (.slice (some ⟨go45, 0, none⟩) y269.length co54)) (v1 := (.slice (some ⟨go45, 0, none⟩) y269.length co54)) (ok := (fun k_ => (P0_ k_ ∨ w.heap.size ≤ k_) ∧ some k_ ≠ (.slice (some ⟨go26, 0, none⟩) y254.length co26 : Value).ownBlock)) (by (with_reducible repeat (first | apply Kd.V_alloc | apply Kd.V_drewN | apply Kd.V_drew)); exact HO_0.out) hg (.inl rfl)); have n1_ := Aside0.mk (Kd.R_after (v := (.slice (some ⟨go45, 0, none⟩) y269.length co54)) (v1 := (.slice (some ⟨go45, 0, none⟩) y269.length co54)) (ok := (fun k_ => (w.heap.size ≤ k_))) (by (with_reducible repeat (first | apply Kd.R_alloc | apply Kd.R_drewN | apply Kd.R_drew)); exact HO256.out) hg (.inl rfl)); have n2_ := Aside0.mk (hp_); have n3_ := Aside0.mk ((by rw [hw]; exact below_set (below_set (below_set (below_set (below_set (below_set (below_set (HB.out) GB45.out) GB45.out) GB45.out) GB45.out) GB45.out) GB45.out) GB45.out : Below w.heap.size w w57)); clear HO_0; clear HO256; clear HO271; clear HB; have HO_0 := n0_; have HO256 := n1_; have HO271 := n2_; have HB := n3_; clear n0_ n1_ n2_ n3_; clear hg hw hp_))
                                    go_roundg kj16
                                    case measure => have := HK1.out; have := HJ8.out; have := HJ16.out; omega
                                    case rel => exact ⟨(y280), (wrap64 (x5_1 + 1)), (by first | rfl | (simp; done) | (simp [*]; done)), H', ⟨by have := HK1.out; have := HJ8.out; have := HJ16.out; omega⟩, ⟨Kd.V_mono (Kd.R_V (by (with_reducible repeat (first | apply Kd.R_alloc | apply Kd.R_drewN | apply Kd.R_drew)); exact Kd.R_mono HO271.out (fun _ hk => hk.1))) (fun k_ hk => by first | exact ⟨(.inr (hk.1)), hk.2⟩ | exact (.inr (hk)))⟩, ⟨by repeat (first | (with_reducible first | exact HB.out | apply below_alloc | apply pw_below_drewN | apply below_drew1) | exact HB.out)⟩⟩
                                  · rw [if_neg c43] at H
                                    exact absurd H (by simp)
                                · rw [if_neg c42] at H
                                  exact absurd H (by simp)
                            · rw [if_neg c25] at H
                              exact absurd H (by simp)
                          · rw [if_neg c24] at H
                            exact absurd H (by simp)
                        · rw [if_neg c23] at H
                          exact absurd H (by simp)
                      · replace c22 := Bool.eq_false_iff.mpr c22
                        subst c22
                        have H1 : (if 0 ≤ x5_1 then (if x5_1 < (x0_1.length : Int) then (if (rd_T29 x0_1 x5_1).f0 = true then ((some (([] : List (S29)) : List (S29))).bind fun y282 => (if y282.length + x0_1.length < 1759218604441 then ((some (y282 ++ x0_1 : List (S29))).bind fun y285 => (if x5_1 < (y285.length : Int) then (cellaretlaw19_ReplyBack.l0 kj16 (y285.set (x5_1 : Int).toNat (⟨(rd_T29 y285 x5_1).f0, (⟨#[]⟩ : ByteArray), (rd_T29 y285 x5_1).f2, (rd_T29 y285 x5_1).f3, (rd_T29 y285 x5_1).f4, (rd_T29 y285 x5_1).f5, (rd_T29 y285 x5_1).f6⟩ : S29)) a1 (wrap64 (x5_1 + 1))) else (none))) else (none))) else ((some (([] : List (S29)) : List (S29))).bind fun y289 => (if y289.length + x0_1.length < 1759218604441 then ((some (y289 ++ x0_1 : List (S29))).bind fun y292 => (if x5_1 < (y292.length : Int) then ((cellaretref18_Line.f ((rd_T29 y292 x5_1).f1)).bind fun bt296 => (cellaretlaw19_ReplyBack.l0 kj16 (y292.set (x5_1 : Int).toNat (⟨bt296.1, bt296.2.1, bt296.2.2.1, bt296.2.2.2.1, bt296.2.2.2.2.1, bt296.2.2.2.2.2.1, bt296.2.2.2.2.2.2⟩ : S29)) a1 (wrap64 (x5_1 + 1)))) else (none))) else (none)))) else (none)) else (none)) = some r := by rw [if_neg (show ¬ (false = true) by decide)] at H; exact H
                        clear H
                        have H := H1
                        clear H1
                        by_cases c58 : 0 ≤ x5_1
                        · rw [if_pos c58] at H
                          have c58b0 : decide (0 ≤ x5_1) = true := decide_eq_true c58
                          clear c58
                          by_cases c59 : x5_1 < (x0_1.length : Int)
                          · rw [if_pos c59] at H
                            have c59b0 : decide (x5_1 < (x0_1.length : Int)) = true := decide_eq_true c59
                            clear c59
                            obtain ⟨bq60, hbq60⟩ : ∃ b_ : Bool, b_ = ((rd_T29 x0_1 x5_1).f0) := ⟨_, rfl⟩
                            replace H : (if bq60 = true then ((some (([] : List (S29)) : List (S29))).bind fun y282 => (if y282.length + x0_1.length < 1759218604441 then ((some (y282 ++ x0_1 : List (S29))).bind fun y285 => (if x5_1 < (y285.length : Int) then (cellaretlaw19_ReplyBack.l0 kj16 (y285.set (x5_1 : Int).toNat (⟨(rd_T29 y285 x5_1).f0, (⟨#[]⟩ : ByteArray), (rd_T29 y285 x5_1).f2, (rd_T29 y285 x5_1).f3, (rd_T29 y285 x5_1).f4, (rd_T29 y285 x5_1).f5, (rd_T29 y285 x5_1).f6⟩ : S29)) a1 (wrap64 (x5_1 + 1))) else (none))) else (none))) else ((some (([] : List (S29)) : List (S29))).bind fun y289 => (if y289.length + x0_1.length < 1759218604441 then ((some (y289 ++ x0_1 : List (S29))).bind fun y292 => (if x5_1 < (y292.length : Int) then ((cellaretref18_Line.f ((rd_T29 y292 x5_1).f1)).bind fun bt296 => (cellaretlaw19_ReplyBack.l0 kj16 (y292.set (x5_1 : Int).toNat (⟨bt296.1, bt296.2.1, bt296.2.2.1, bt296.2.2.2.1, bt296.2.2.2.2.1, bt296.2.2.2.2.2.1, bt296.2.2.2.2.2.2⟩ : S29)) a1 (wrap64 (x5_1 + 1)))) else (none))) else (none)))) = some r := by rw [← hbq60] at H; exact H
                            have Nbq60 := Aside0.mk hbq60
                            clear hbq60
                            by_cases c61 : bq60 = true
                            · subst c61
                              have H1 : ((some (([] : List (S29)) : List (S29))).bind fun y282 => (if y282.length + x0_1.length < 1759218604441 then ((some (y282 ++ x0_1 : List (S29))).bind fun y285 => (if x5_1 < (y285.length : Int) then (cellaretlaw19_ReplyBack.l0 kj16 (y285.set (x5_1 : Int).toNat (⟨(rd_T29 y285 x5_1).f0, (⟨#[]⟩ : ByteArray), (rd_T29 y285 x5_1).f2, (rd_T29 y285 x5_1).f3, (rd_T29 y285 x5_1).f4, (rd_T29 y285 x5_1).f5, (rd_T29 y285 x5_1).f6⟩ : S29)) a1 (wrap64 (x5_1 + 1))) else (none))) else (none))) = some r := by rw [if_pos rfl] at H; exact H
                              clear H
                              have H := H1
                              clear H1
                              obtain ⟨y282, hy282⟩ : ∃ y_ : List (S29), y_ = (([] : List (S29))) := ⟨_, rfl⟩
                              replace H : (if y282.length + x0_1.length < 1759218604441 then ((some (y282 ++ x0_1 : List (S29))).bind fun y285 => (if x5_1 < (y285.length : Int) then (cellaretlaw19_ReplyBack.l0 kj16 (y285.set (x5_1 : Int).toNat (⟨(rd_T29 y285 x5_1).f0, (⟨#[]⟩ : ByteArray), (rd_T29 y285 x5_1).f2, (rd_T29 y285 x5_1).f3, (rd_T29 y285 x5_1).f4, (rd_T29 y285 x5_1).f5, (rd_T29 y285 x5_1).f6⟩ : S29)) a1 (wrap64 (x5_1 + 1))) else (none))) else (none)) = some r := by first | (rw [hy282]; with_reducible exact H) | (have H2_ := (Option.bind_some _ _).symm.trans H; rw [hy282]; with_reducible exact H2_) | (have H2_ := (Option.bind_some _ _).symm.trans H; with_reducible exact H2_) | with_reducible exact H | (rw [hy282]; exact H) | exact H
                              have Ny282 := Aside0.mk hy282
                              clear hy282
                              by_cases c62 : y282.length + x0_1.length < 1759218604441
                              · rw [if_pos c62] at H
                                have LMc62 := Aside0.mk c62
                                clear c62
                                obtain ⟨y285, hy285⟩ : ∃ y_ : List (S29), y_ = (y282 ++ x0_1) := ⟨_, rfl⟩
                                replace H : (if x5_1 < (y285.length : Int) then (cellaretlaw19_ReplyBack.l0 kj16 (y285.set (x5_1 : Int).toNat (⟨(rd_T29 y285 x5_1).f0, (⟨#[]⟩ : ByteArray), (rd_T29 y285 x5_1).f2, (rd_T29 y285 x5_1).f3, (rd_T29 y285 x5_1).f4, (rd_T29 y285 x5_1).f5, (rd_T29 y285 x5_1).f6⟩ : S29)) a1 (wrap64 (x5_1 + 1))) else (none)) = some r := by first | (rw [hy285]; with_reducible exact H) | (have H2_ := (Option.bind_some _ _).symm.trans H; rw [hy285]; with_reducible exact H2_) | (have H2_ := (Option.bind_some _ _).symm.trans H; with_reducible exact H2_) | with_reducible exact H | (rw [hy285]; exact H) | exact H
                                have Ny285 := Aside0.mk hy285
                                clear hy285
                                by_cases c63 : x5_1 < (y285.length : Int)
                                · rw [if_pos c63] at H
                                  have c63b0 : decide (x5_1 < (y285.length : Int)) = true := decide_eq_true c63
                                  clear c63
                                  obtain ⟨y288, hy288⟩ : ∃ y_ : List (S29), y_ = (y285.set (x5_1 : Int).toNat (⟨(rd_T29 y285 x5_1).f0, (⟨#[]⟩ : ByteArray), (rd_T29 y285 x5_1).f2, (rd_T29 y285 x5_1).f3, (rd_T29 y285 x5_1).f4, (rd_T29 y285 x5_1).f5, (rd_T29 y285 x5_1).f6⟩ : S29)) := ⟨_, rfl⟩
                                  replace H : (cellaretlaw19_ReplyBack.l0 kj16 y288 a1 (wrap64 (x5_1 + 1))) = some r := by first | (rw [hy288]; with_reducible exact H) | (have H2_ := (Option.bind_some _ _).symm.trans H; rw [hy288]; with_reducible exact H2_) | (have H2_ := (Option.bind_some _ _).symm.trans H; with_reducible exact H2_) | with_reducible exact H | (rw [hy288]; exact H) | exact H
                                  have Ny288 := Aside0.mk hy288
                                  clear hy288
                                  have H' := Aside0.mk H
                                  clear H
                                  have p281 : 0 ≤ (x5_1 : Int) := of_decide_eq_true (by first | (with_reducible assumption) | assumption)
                                  have q281 : x5_1 < (x0_1.length : Int) := of_decide_eq_true (by first | (with_reducible assumption) | assumption)
                                  obtain ⟨ad281, e281, hx281_0, hx281_1, hx281_2, hx281_3, hx281_4, hx281_5, hx281_6⟩ := at_T29 (Kd.V_reads' HO_0.out).2.2 x5_1 p281 q281
                                  (try rw [← Nbq60.out] at hx281_0)
                                  (try rw [← Nbq60.out] at hx281_6)
                                  cases e281
                                  replace p281 := eq_true p281
                                  replace q281 := eq_true q281
                                  go_wp2_with (first | ((with_reducible refine gate_dst (N := 61) rfl ?_); (try (refine gate_guard (by rfl) ?_; dsimp only)); refine Kd.R_lit k29 _ 29 ?hg (N := 61) ?hd (xs := ([] : List (S29))) (inner := []) (ok := fun _ => True) (okp := fun _ => True) ?hr ?hp (fun _ hk => hk) trivial (Below.refl _ _) (Nat.le_refl _) (by simp) ?_; (case hd => rfl); (case hg => rfl); (case hr => first | (go_simp; done) | (go_simp; rfl)); (case hp => exact (Reps.none _ _)); intro v283 w65 ho66 hb hg_ hnew_; clear hg_ hnew_; (first | rw [← Ny282.out] at ho66 | (simp only [Int.reduceToNat] at ho66; rw [← Ny282.out] at ho66)); have n0_ := Aside0.mk (Kd.V_elder' (by (with_reducible repeat (first | apply Kd.V_alloc | apply Kd.V_drewN | apply Kd.V_drew)); exact HO_0.out) (Kd.R_base ho66) hb); have n1_ := Aside0.mk (Kd.R_lower (Kd.R_newM (M := fun k_ => (w.heap.size ≤ k_)) ho66 (below_size (by repeat (first | (with_reducible first | exact HB.out | apply below_alloc | apply pw_below_drewN | apply below_drew1) | exact HB.out))) (fun k_ h_ => h_)) (below_size (by repeat (first | (with_reducible first | exact HB.out | apply below_alloc | apply pw_below_drewN | apply below_drew1) | exact HB.out)))); have n2_ := Aside0.mk (below_step (by repeat (first | (with_reducible first | exact HB.out | apply below_alloc | apply pw_below_drewN | apply below_drew1) | exact HB.out)) hb); clear HO_0; clear HB; have HO_0 := n0_; have HO284 := n1_; have HB := n2_; clear n0_ n1_ n2_; clear hb ho66) | ((with_reducible refine gate_builtin (b := .append) (xs := #[.tmp 61, .tmp 62]) rfl ?_); (try (refine gate_guard (by rfl) ?_; dsimp only)); at_builtin; refine Kd.R_append_rows k29 (w0 := w) w.heap.size rfl (.tmp 61) (.tmp 62) 22 29 (.agg #[(.bool false), (.string ⟨#[]⟩), (.string ⟨#[]⟩), (.string ⟨#[]⟩), (.int .u32 0), (.int .u64 0), (.bool false)]) 80 rfl Tryd.underlying22 info29 rfl (by decide) (by omega) v283 y282 x0_1 _ _ _ (fun k_ => (w.heap.size ≤ k_)) (fun _ => False) rfl rfl ?aO ?aR (fun _ _ h => h) (fun _ h => h.elim) ?aF ?aB ?aS ?aL ?_; (case aR => repeat (first | exact (Kd.V_reads' HO_0.out).2.2 | (with_reducible refine Kd.C_alloc ?_ _) | (with_reducible refine Kd.C_drewN ?_ _) | (with_reducible refine Kd.C_drew ?_))); (case aB => exact (by repeat (first | (with_reducible first | exact HB.out | apply below_alloc | apply pw_below_drewN | apply below_drew1) | exact HB.out))); (case aF => exact (fun k_ hk => (Nat.le_trans (below_size (by repeat (first | (with_reducible first | exact HB.out | apply below_alloc | apply pw_below_drewN | apply below_drew1) | exact HB.out))) hk))); (case aO => exact (by (with_reducible repeat (first | apply Kd.R_alloc | apply Kd.R_drewN | apply Kd.R_drew)); exact Kd.R_mono HO284.out (fun _ hk => hk.1))); (case aS => exact (below_size (by repeat (first | (with_reducible first | exact HB.out | apply below_alloc | apply pw_below_drewN | apply below_drew1) | exact HB.out)))); (case aL => have := LMc62.out; omega); intro v286 w67 ho hb hg hat; rw [← Ny285.out] at ho; have n0_ := Aside0.mk (Kd.V_afterv (ok := (fun k_ => (P0_ k_ ∨ w.heap.size ≤ k_))) (by (with_reducible repeat (first | apply Kd.V_alloc | apply Kd.V_drewN | apply Kd.V_drew)); exact HO_0.out) hg hat); have n1_ := Aside0.mk (hb); have n2_ := Aside0.mk (ho); clear HO_0; clear HB; clear HO284; have HO_0 := n0_; have HB := n1_; have HO287 := n2_; clear n0_ n1_ n2_; clear ho hb hg hat; have p64 : 0 ≤ (x5_1 : Int) := of_decide_eq_true (by first | (with_reducible assumption) | assumption); have q64 : (x5_1 : Int) < ((y285.length : Int) : Int) := of_decide_eq_true (by first | (with_reducible assumption) | assumption); obtain ⟨go64, co64, eo64, gb64, gl64, cl64, HG64⟩ := Kd.R_form HO287.out (by omega); (first | cases eo64 | (injection eo64 with ea_ en_ ec_; (first | subst ea_ | (injection ea_ with ea_; subst ea_)); subst ec_; clear en_)); have GB64 := Aside0.mk gb64; have GG64 := Aside0.mk HG64; clear gb64 gl64 HG64; obtain ⟨ce64, hcl64, hM64, hcc64, hfr64⟩ := Kd.R_elem HO287.out z29 (x5_1 : Int) p64 q64; obtain rfl := k29_openM hM64; have hx64_0 : w67.cell? ⟨go64, (x5_1 : Int).toNat * 7, none⟩ = some (.bool ((rd_T29 y285 x5_1).f0)) := hcc64 0 _ rfl; have hx64_1 : w67.cell? ⟨go64, (x5_1 : Int).toNat * 7 + 1, none⟩ = some (.string ((rd_T29 y285 x5_1).f1)) := hcc64 1 _ rfl; have hx64_2 : w67.cell? ⟨go64, (x5_1 : Int).toNat * 7 + 2, none⟩ = some (.string ((rd_T29 y285 x5_1).f2)) := hcc64 2 _ rfl; have hx64_3 : w67.cell? ⟨go64, (x5_1 : Int).toNat * 7 + 3, none⟩ = some (.string ((rd_T29 y285 x5_1).f3)) := hcc64 3 _ rfl; have hx64_4 : w67.cell? ⟨go64, (x5_1 : Int).toNat * 7 + 4, none⟩ = some (.int .u32 ((rd_T29 y285 x5_1).f4)) := hcc64 4 _ rfl; have hx64_5 : w67.cell? ⟨go64, (x5_1 : Int).toNat * 7 + 5, none⟩ = some (.int .u64 ((rd_T29 y285 x5_1).f5)) := hcc64 5 _ rfl; have hx64_6 : w67.cell? ⟨go64, (x5_1 : Int).toNat * 7 + 6, none⟩ = some (.bool ((rd_T29 y285 x5_1).f6)) := hcc64 6 _ rfl; have hf64_0 : w67.frozen? ⟨go64, (x5_1 : Int).toNat * 7, none⟩ = false := hfr64 0; have hf64_1 : w67.frozen? ⟨go64, (x5_1 : Int).toNat * 7 + 1, none⟩ = false := hfr64 1; have hf64_2 : w67.frozen? ⟨go64, (x5_1 : Int).toNat * 7 + 2, none⟩ = false := hfr64 2; have hf64_3 : w67.frozen? ⟨go64, (x5_1 : Int).toNat * 7 + 3, none⟩ = false := hfr64 3; have hf64_4 : w67.frozen? ⟨go64, (x5_1 : Int).toNat * 7 + 4, none⟩ = false := hfr64 4; have hf64_5 : w67.frozen? ⟨go64, (x5_1 : Int).toNat * 7 + 5, none⟩ = false := hfr64 5; have hf64_6 : w67.frozen? ⟨go64, (x5_1 : Int).toNat * 7 + 6, none⟩ = false := hfr64 6; clear hcl64 hcc64 hfr64 hM64; replace p64 := eq_true p64; replace q64 := eq_true q64; have HX68 := Aside0.mk (show Kd.R k29 29 w67 w.heap.size (fun k_ => (w.heap.size ≤ k_)) (.slice (some ⟨go64, 0, none⟩) y285.length co64) y285 from (by (with_reducible repeat (first | apply Kd.R_alloc | apply Kd.R_drewN | apply Kd.R_drew)); exact HO287.out)); obtain ⟨ce68, hcl68, hM68, hcc68, hfr68⟩ := Kd.R_elem HX68.out z29 (x5_1 : Int) (of_decide_eq_true (by first | (with_reducible assumption) | assumption)) (by have h_ : (x5_1 : Int) < ((y285.length : Int) : Int) := of_decide_eq_true (by first | (with_reducible assumption) | assumption); first | exact h_ | (have e_ := (Kd.R_reads' HO287.out).1; omega) | simpa using h_); obtain rfl := k29_openM hM68; have HP68 := Kd.R_seg HX68.out (x5_1 : Int) (of_decide_eq_true (by first | (with_reducible assumption) | assumption)) (by have h_ : (x5_1 : Int) < ((y285.length : Int) : Int) := of_decide_eq_true (by first | (with_reducible assumption) | assumption); first | exact h_ | (have e_ := (Kd.R_reads' HO287.out).1; omega) | simpa using h_) (seg := [.string (⟨#[]⟩ : ByteArray)]) (j := 1) hcl68 hcc68 (show 2 ≤ 7 from by decide) (x' := (⟨(rd_T29 y285 x5_1).f0, (⟨#[]⟩ : ByteArray), (rd_T29 y285 x5_1).f2, (rd_T29 y285 x5_1).f3, (rd_T29 y285 x5_1).f4, (rd_T29 y285 x5_1).f5, (rd_T29 y285 x5_1).f6⟩ : S29)) (k29_mkM _ _ _ (⟨(rd_T29 y285 x5_1).f0, (⟨#[]⟩ : ByteArray), (rd_T29 y285 x5_1).f2, (rd_T29 y285 x5_1).f3, (rd_T29 y285 x5_1).f4, (rd_T29 y285 x5_1).f5, (rd_T29 y285 x5_1).f6⟩ : S29) ) (fun _ hk => hk); have hx68_1 := hcc68 1 _ rfl; (try simp only [show (k29).sz = 7 from rfl, Nat.mul_one, Nat.add_zero] at hx68_1); have hf68_1 := hfr68 1; (try simp only [show (k29).sz = 7 from rfl, Nat.mul_one, Nat.add_zero] at hf68_1); clear hcl68 hcc68 hfr68 hM68) | ((with_reducible refine gate_store (t := 9) (p := 67) rfl ?_); refine store_event (t := 9) (p := 67) (v := ?vo_w69) (w1 := (w67.setCell ⟨go64, (x5_1 : Int).toNat * 7 + 1, none⟩ (.string (⟨#[]⟩ : ByteArray)))) ?hg ?ho ?hn ?hr ?_; (case ho => rfl); (case hg => rfl); (case hn => rfl); (case hr => first | (go_simp; done) | (go_simp; rfl)); intro w69 hw; have hg : w67.grownBy w69 (some go64) := (by rw [hw]; exact HP68.2); have hp_ : Kd.R k29 29 w69 w.heap.size (fun k_ => (w.heap.size ≤ k_)) (.slice (some ⟨go64, 0, none⟩) y285.length co64) y288 := (by rw [hw, Ny288.out]; exact HP68.1); clear HP68; have n0_ := Aside0.mk (Kd.V_afterv (v := (.slice (some ⟨go64, 0, none⟩) y285.length co64)) (v1 := (.slice (some ⟨go64, 0, none⟩) y285.length co64)) (ok := (fun k_ => (P0_ k_ ∨ w.heap.size ≤ k_))) (by (with_reducible repeat (first | apply Kd.V_alloc | apply Kd.V_drewN | apply Kd.V_drew)); exact HO_0.out) hg (.inl rfl)); have n1_ := Aside0.mk (hp_); have n2_ := Aside0.mk ((by rw [hw]; exact below_set (HB.out) GB64.out : Below w.heap.size w w69)); clear HO_0; clear HO287; clear HB; have HO_0 := n0_; have HO287 := n1_; have HB := n2_; clear n0_ n1_ n2_; clear hg hw hp_))
                                  go_roundg kj16
                                  case measure => have := HK1.out; have := HJ8.out; have := HJ16.out; omega
                                  case rel => exact ⟨(y288), (wrap64 (x5_1 + 1)), (by first | rfl | (simp; done) | (simp [*]; done)), H', ⟨by have := HK1.out; have := HJ8.out; have := HJ16.out; omega⟩, ⟨Kd.V_mono (Kd.R_V (by (with_reducible repeat (first | apply Kd.R_alloc | apply Kd.R_drewN | apply Kd.R_drew)); exact HO287.out)) (fun k_ hk => by first | exact ⟨(.inr (hk.1)), hk.2⟩ | exact (.inr (hk)))⟩, ⟨by repeat (first | (with_reducible first | exact HB.out | apply below_alloc | apply pw_below_drewN | apply below_drew1) | exact HB.out)⟩⟩
                                · rw [if_neg c63] at H
                                  exact absurd H (by simp)
                              · rw [if_neg c62] at H
                                exact absurd H (by simp)
                            · replace c61 := Bool.eq_false_iff.mpr c61
                              subst c61
                              have H1 : ((some (([] : List (S29)) : List (S29))).bind fun y289 => (if y289.length + x0_1.length < 1759218604441 then ((some (y289 ++ x0_1 : List (S29))).bind fun y292 => (if x5_1 < (y292.length : Int) then ((cellaretref18_Line.f ((rd_T29 y292 x5_1).f1)).bind fun bt296 => (cellaretlaw19_ReplyBack.l0 kj16 (y292.set (x5_1 : Int).toNat (⟨bt296.1, bt296.2.1, bt296.2.2.1, bt296.2.2.2.1, bt296.2.2.2.2.1, bt296.2.2.2.2.2.1, bt296.2.2.2.2.2.2⟩ : S29)) a1 (wrap64 (x5_1 + 1)))) else (none))) else (none))) = some r := by rw [if_neg (show ¬ (false = true) by decide)] at H; exact H
                              clear H
                              have H := H1
                              clear H1
                              obtain ⟨y289, hy289⟩ : ∃ y_ : List (S29), y_ = (([] : List (S29))) := ⟨_, rfl⟩
                              replace H : (if y289.length + x0_1.length < 1759218604441 then ((some (y289 ++ x0_1 : List (S29))).bind fun y292 => (if x5_1 < (y292.length : Int) then ((cellaretref18_Line.f ((rd_T29 y292 x5_1).f1)).bind fun bt296 => (cellaretlaw19_ReplyBack.l0 kj16 (y292.set (x5_1 : Int).toNat (⟨bt296.1, bt296.2.1, bt296.2.2.1, bt296.2.2.2.1, bt296.2.2.2.2.1, bt296.2.2.2.2.2.1, bt296.2.2.2.2.2.2⟩ : S29)) a1 (wrap64 (x5_1 + 1)))) else (none))) else (none)) = some r := by first | (rw [hy289]; with_reducible exact H) | (have H2_ := (Option.bind_some _ _).symm.trans H; rw [hy289]; with_reducible exact H2_) | (have H2_ := (Option.bind_some _ _).symm.trans H; with_reducible exact H2_) | with_reducible exact H | (rw [hy289]; exact H) | exact H
                              have Ny289 := Aside0.mk hy289
                              clear hy289
                              by_cases c70 : y289.length + x0_1.length < 1759218604441
                              · rw [if_pos c70] at H
                                have LMc70 := Aside0.mk c70
                                clear c70
                                obtain ⟨y292, hy292⟩ : ∃ y_ : List (S29), y_ = (y289 ++ x0_1) := ⟨_, rfl⟩
                                replace H : (if x5_1 < (y292.length : Int) then ((cellaretref18_Line.f ((rd_T29 y292 x5_1).f1)).bind fun bt296 => (cellaretlaw19_ReplyBack.l0 kj16 (y292.set (x5_1 : Int).toNat (⟨bt296.1, bt296.2.1, bt296.2.2.1, bt296.2.2.2.1, bt296.2.2.2.2.1, bt296.2.2.2.2.2.1, bt296.2.2.2.2.2.2⟩ : S29)) a1 (wrap64 (x5_1 + 1)))) else (none)) = some r := by first | (rw [hy292]; with_reducible exact H) | (have H2_ := (Option.bind_some _ _).symm.trans H; rw [hy292]; with_reducible exact H2_) | (have H2_ := (Option.bind_some _ _).symm.trans H; with_reducible exact H2_) | with_reducible exact H | (rw [hy292]; exact H) | exact H
                                have Ny292 := Aside0.mk hy292
                                clear hy292
                                by_cases c71 : x5_1 < (y292.length : Int)
                                · rw [if_pos c71] at H
                                  have c71b0 : decide (x5_1 < (y292.length : Int)) = true := decide_eq_true c71
                                  clear c71
                                  replace H := Option.bind_eq_some_iff.mp H
                                  obtain ⟨⟨t296, t297, t298, t299, t300, t301, t302⟩, A720, H⟩ := H
                                  replace H : (cellaretlaw19_ReplyBack.l0 kj16 (y292.set (x5_1 : Int).toNat (⟨t296, t297, t298, t299, t300, t301, t302⟩ : S29)) a1 (wrap64 (x5_1 + 1))) = some r := H
                                  have A72 := Aside0.mk A720
                                  clear A720
                                  obtain ⟨y303, hy303⟩ : ∃ y_ : List (S29), y_ = (y292.set (x5_1 : Int).toNat (⟨t296, t297, t298, t299, t300, t301, t302⟩ : S29)) := ⟨_, rfl⟩
                                  replace H : (cellaretlaw19_ReplyBack.l0 kj16 y303 a1 (wrap64 (x5_1 + 1))) = some r := by first | (rw [hy303]; with_reducible exact H) | (have H2_ := (Option.bind_some _ _).symm.trans H; rw [hy303]; with_reducible exact H2_) | (have H2_ := (Option.bind_some _ _).symm.trans H; with_reducible exact H2_) | with_reducible exact H | (rw [hy303]; exact H) | exact H
                                  have Ny303 := Aside0.mk hy303
                                  clear hy303
                                  have H' := Aside0.mk H
                                  clear H
                                  have p281 : 0 ≤ (x5_1 : Int) := of_decide_eq_true (by first | (with_reducible assumption) | assumption)
                                  have q281 : x5_1 < (x0_1.length : Int) := of_decide_eq_true (by first | (with_reducible assumption) | assumption)
                                  obtain ⟨ad281, e281, hx281_0, hx281_1, hx281_2, hx281_3, hx281_4, hx281_5, hx281_6⟩ := at_T29 (Kd.V_reads' HO_0.out).2.2 x5_1 p281 q281
                                  (try rw [← Nbq60.out] at hx281_0)
                                  (try rw [← Nbq60.out] at hx281_6)
                                  cases e281
                                  replace p281 := eq_true p281
                                  replace q281 := eq_true q281
                                  go_wp2_with (first | ((with_reducible refine gate_dst (N := 68) rfl ?_); (try (refine gate_guard (by rfl) ?_; dsimp only)); refine Kd.R_lit k29 _ 29 ?hg (N := 68) ?hd (xs := ([] : List (S29))) (inner := []) (ok := fun _ => True) (okp := fun _ => True) ?hr ?hp (fun _ hk => hk) trivial (Below.refl _ _) (Nat.le_refl _) (by simp) ?_; (case hd => rfl); (case hg => rfl); (case hr => first | (go_simp; done) | (go_simp; rfl)); (case hp => exact (Reps.none _ _)); intro v290 w74 ho75 hb hg_ hnew_; clear hg_ hnew_; (first | rw [← Ny289.out] at ho75 | (simp only [Int.reduceToNat] at ho75; rw [← Ny289.out] at ho75)); have n0_ := Aside0.mk (Kd.V_elder' (by (with_reducible repeat (first | apply Kd.V_alloc | apply Kd.V_drewN | apply Kd.V_drew)); exact HO_0.out) (Kd.R_base ho75) hb); have n1_ := Aside0.mk (Kd.R_lower (Kd.R_newM (M := fun k_ => (w.heap.size ≤ k_)) ho75 (below_size (by repeat (first | (with_reducible first | exact HB.out | apply below_alloc | apply pw_below_drewN | apply below_drew1) | exact HB.out))) (fun k_ h_ => h_)) (below_size (by repeat (first | (with_reducible first | exact HB.out | apply below_alloc | apply pw_below_drewN | apply below_drew1) | exact HB.out)))); have n2_ := Aside0.mk (below_step (by repeat (first | (with_reducible first | exact HB.out | apply below_alloc | apply pw_below_drewN | apply below_drew1) | exact HB.out)) hb); clear HO_0; clear HB; have HO_0 := n0_; have HO291 := n1_; have HB := n2_; clear n0_ n1_ n2_; clear hb ho75) | ((with_reducible refine gate_builtin (b := .append) (xs := #[.tmp 68, .tmp 69]) rfl ?_); (try (refine gate_guard (by rfl) ?_; dsimp only)); at_builtin; refine Kd.R_append_rows k29 (w0 := w) w.heap.size rfl (.tmp 68) (.tmp 69) 22 29 (.agg #[(.bool false), (.string ⟨#[]⟩), (.string ⟨#[]⟩), (.string ⟨#[]⟩), (.int .u32 0), (.int .u64 0), (.bool false)]) 80 rfl Tryd.underlying22 info29 rfl (by decide) (by omega) v290 y289 x0_1 _ _ _ (fun k_ => (w.heap.size ≤ k_)) (fun _ => False) rfl rfl ?aO ?aR (fun _ _ h => h) (fun _ h => h.elim) ?aF ?aB ?aS ?aL ?_; (case aR => repeat (first | exact (Kd.V_reads' HO_0.out).2.2 | (with_reducible refine Kd.C_alloc ?_ _) | (with_reducible refine Kd.C_drewN ?_ _) | (with_reducible refine Kd.C_drew ?_))); (case aB => exact (by repeat (first | (with_reducible first | exact HB.out | apply below_alloc | apply pw_below_drewN | apply below_drew1) | exact HB.out))); (case aF => exact (fun k_ hk => (Nat.le_trans (below_size (by repeat (first | (with_reducible first | exact HB.out | apply below_alloc | apply pw_below_drewN | apply below_drew1) | exact HB.out))) hk))); (case aO => exact (by (with_reducible repeat (first | apply Kd.R_alloc | apply Kd.R_drewN | apply Kd.R_drew)); exact Kd.R_mono HO291.out (fun _ hk => hk.1))); (case aS => exact (below_size (by repeat (first | (with_reducible first | exact HB.out | apply below_alloc | apply pw_below_drewN | apply below_drew1) | exact HB.out)))); (case aL => have := LMc70.out; omega); intro v293 w76 ho hb hg hat; rw [← Ny292.out] at ho; have n0_ := Aside0.mk (Kd.V_afterv (ok := (fun k_ => (P0_ k_ ∨ w.heap.size ≤ k_))) (by (with_reducible repeat (first | apply Kd.V_alloc | apply Kd.V_drewN | apply Kd.V_drew)); exact HO_0.out) hg hat); have n1_ := Aside0.mk (hb); have n2_ := Aside0.mk (ho); clear HO_0; clear HB; clear HO291; have HO_0 := n0_; have HB := n1_; have HO294 := n2_; clear n0_ n1_ n2_; clear ho hb hg hat; obtain ⟨Ao77, co77, eo77⟩ := Kd.R_slice HO294.out; subst eo77; have p295 : 0 ≤ (x5_1 : Int) := of_decide_eq_true (by first | (with_reducible assumption) | assumption); have q295 : x5_1 < (y292.length : Int) := of_decide_eq_true (by first | (with_reducible assumption) | assumption); obtain ⟨ad295, e295, hx295_0, hx295_1, hx295_2, hx295_3, hx295_4, hx295_5, hx295_6⟩ := at_T29 (Kd.R_reads' HO294.out).2.2 x5_1 p295 q295; (try rw [← Nbq60.out] at hx295_0); (try rw [← Nbq60.out] at hx295_6); cases e295; replace p295 := eq_true p295; replace q295 := eq_true q295) | ((with_reducible refine gate_callee (f := 13) rfl ?_); refine goesL_ (some 78) rfl rfl Tryd.func13 (by kernel_rfl) rfl #[.string ((rd_T29 y292 x5_1).f1)] rfl (by (try simp only [List.map_toArray, List.map_cons, List.map_nil]); first | done | rfl | (simp only [List.length_drop, List.length_take]; rfl)) ?_; (with_reducible refine (cellaretref18_Line.calls ((rd_T29 y292 x5_1).f1) t296 t297 t298 t299 t300 t301 t302 _ A72.out).mono ?_); rintro e w78 ⟨rfl, hb⟩; refine ⟨_, rfl, ?_⟩; have n0_ := Aside0.mk (Kd.V_below (by (with_reducible repeat (first | apply Kd.V_alloc | apply Kd.V_drewN | apply Kd.V_drew)); exact HO_0.out) hb); have n1_ := Aside0.mk (Kd.R_below (by (with_reducible repeat (first | apply Kd.R_alloc | apply Kd.R_drewN | apply Kd.R_drew)); exact HO294.out) hb); have n2_ := Aside0.mk (below_step (by repeat (first | (with_reducible first | exact HB.out | apply below_alloc | apply pw_below_drewN | apply below_drew1) | exact HB.out)) hb); clear HO_0; clear HO294; clear HB; have HO_0 := n0_; have HO294 := n1_; have HB := n2_; clear n0_ n1_ n2_; (try clear hb); (try clear hb2); (try clear hk); (try clear hi); have p73 : 0 ≤ (x5_1 : Int) := of_decide_eq_true (by first | (with_reducible assumption) | assumption); have q73 : (x5_1 : Int) < ((y292.length : Int) : Int) := of_decide_eq_true (by first | (with_reducible assumption) | assumption); obtain ⟨go73, co73, eo73, gb73, gl73, cl73, HG73⟩ := Kd.R_form HO294.out (by omega); (first | cases eo73 | (injection eo73 with ea_ en_ ec_; (first | subst ea_ | (injection ea_ with ea_; subst ea_)); subst ec_; clear en_)); have GB73 := Aside0.mk gb73; have GG73 := Aside0.mk HG73; clear gb73 gl73 HG73; (first | simp only [add_plain] at hx295_0 | skip); (first | simp only [add_plain] at hx295_1 | skip); (first | simp only [add_plain] at hx295_2 | skip); (first | simp only [add_plain] at hx295_3 | skip); (first | simp only [add_plain] at hx295_4 | skip); (first | simp only [add_plain] at hx295_5 | skip); (first | simp only [add_plain] at hx295_6 | skip); obtain ⟨ce73, hcl73, hM73, hcc73, hfr73⟩ := Kd.R_elem HO294.out z29 (x5_1 : Int) p73 q73; obtain rfl := k29_openM hM73; have hx73_0 : w78.cell? ⟨go73, (x5_1 : Int).toNat * 7, none⟩ = some (.bool ((rd_T29 y292 x5_1).f0)) := hcc73 0 _ rfl; have hx73_1 : w78.cell? ⟨go73, (x5_1 : Int).toNat * 7 + 1, none⟩ = some (.string ((rd_T29 y292 x5_1).f1)) := hcc73 1 _ rfl; have hx73_2 : w78.cell? ⟨go73, (x5_1 : Int).toNat * 7 + 2, none⟩ = some (.string ((rd_T29 y292 x5_1).f2)) := hcc73 2 _ rfl; have hx73_3 : w78.cell? ⟨go73, (x5_1 : Int).toNat * 7 + 3, none⟩ = some (.string ((rd_T29 y292 x5_1).f3)) := hcc73 3 _ rfl; have hx73_4 : w78.cell? ⟨go73, (x5_1 : Int).toNat * 7 + 4, none⟩ = some (.int .u32 ((rd_T29 y292 x5_1).f4)) := hcc73 4 _ rfl; have hx73_5 : w78.cell? ⟨go73, (x5_1 : Int).toNat * 7 + 5, none⟩ = some (.int .u64 ((rd_T29 y292 x5_1).f5)) := hcc73 5 _ rfl; have hx73_6 : w78.cell? ⟨go73, (x5_1 : Int).toNat * 7 + 6, none⟩ = some (.bool ((rd_T29 y292 x5_1).f6)) := hcc73 6 _ rfl; have hf73_0 : w78.frozen? ⟨go73, (x5_1 : Int).toNat * 7, none⟩ = false := hfr73 0; have hf73_1 : w78.frozen? ⟨go73, (x5_1 : Int).toNat * 7 + 1, none⟩ = false := hfr73 1; have hf73_2 : w78.frozen? ⟨go73, (x5_1 : Int).toNat * 7 + 2, none⟩ = false := hfr73 2; have hf73_3 : w78.frozen? ⟨go73, (x5_1 : Int).toNat * 7 + 3, none⟩ = false := hfr73 3; have hf73_4 : w78.frozen? ⟨go73, (x5_1 : Int).toNat * 7 + 4, none⟩ = false := hfr73 4; have hf73_5 : w78.frozen? ⟨go73, (x5_1 : Int).toNat * 7 + 5, none⟩ = false := hfr73 5; have hf73_6 : w78.frozen? ⟨go73, (x5_1 : Int).toNat * 7 + 6, none⟩ = false := hfr73 6; clear hcl73 hcc73 hfr73 hM73; replace p73 := eq_true p73; replace q73 := eq_true q73; have HX79 := Aside0.mk (show Kd.R k29 29 w78 w.heap.size (fun k_ => (w.heap.size ≤ k_)) (.slice (some ⟨go73, 0, none⟩) y292.length co77) y292 from (by (with_reducible repeat (first | apply Kd.R_alloc | apply Kd.R_drewN | apply Kd.R_drew)); exact HO294.out)); obtain ⟨ce79, hcl79, hM79, hcc79, hfr79⟩ := Kd.R_elem HX79.out z29 (x5_1 : Int) (of_decide_eq_true (by first | (with_reducible assumption) | assumption)) (by have h_ : (x5_1 : Int) < ((y292.length : Int) : Int) := of_decide_eq_true (by first | (with_reducible assumption) | assumption); first | exact h_ | (have e_ := (Kd.R_reads' HO294.out).1; omega) | simpa using h_); obtain rfl := k29_openM hM79; have HP79 := Kd.R_seg HX79.out (x5_1 : Int) (of_decide_eq_true (by first | (with_reducible assumption) | assumption)) (by have h_ : (x5_1 : Int) < ((y292.length : Int) : Int) := of_decide_eq_true (by first | (with_reducible assumption) | assumption); first | exact h_ | (have e_ := (Kd.R_reads' HO294.out).1; omega) | simpa using h_) (seg := [.bool t296, .string t297, .string t298, .string t299, .int .u32 t300, .int .u64 t301, .bool t302]) (j := 0) hcl79 hcc79 (show 7 ≤ 7 from by decide) (x' := (⟨t296, t297, t298, t299, t300, t301, t302⟩ : S29)) (k29_mkM _ _ _ (⟨t296, t297, t298, t299, t300, t301, t302⟩ : S29) ) (fun _ hk => hk); have hx79_0 := hcc79 0 _ rfl; (try simp only [show (k29).sz = 7 from rfl, Nat.mul_one, Nat.add_zero] at hx79_0); have hf79_0 := hfr79 0; (try simp only [show (k29).sz = 7 from rfl, Nat.mul_one, Nat.add_zero] at hf79_0); have hx79_1 := hcc79 1 _ rfl; (try simp only [show (k29).sz = 7 from rfl, Nat.mul_one, Nat.add_zero] at hx79_1); have hf79_1 := hfr79 1; (try simp only [show (k29).sz = 7 from rfl, Nat.mul_one, Nat.add_zero] at hf79_1); have hx79_2 := hcc79 2 _ rfl; (try simp only [show (k29).sz = 7 from rfl, Nat.mul_one, Nat.add_zero] at hx79_2); have hf79_2 := hfr79 2; (try simp only [show (k29).sz = 7 from rfl, Nat.mul_one, Nat.add_zero] at hf79_2); have hx79_3 := hcc79 3 _ rfl; (try simp only [show (k29).sz = 7 from rfl, Nat.mul_one, Nat.add_zero] at hx79_3); have hf79_3 := hfr79 3; (try simp only [show (k29).sz = 7 from rfl, Nat.mul_one, Nat.add_zero] at hf79_3); have hx79_4 := hcc79 4 _ rfl; (try simp only [show (k29).sz = 7 from rfl, Nat.mul_one, Nat.add_zero] at hx79_4); have hf79_4 := hfr79 4; (try simp only [show (k29).sz = 7 from rfl, Nat.mul_one, Nat.add_zero] at hf79_4); have hx79_5 := hcc79 5 _ rfl; (try simp only [show (k29).sz = 7 from rfl, Nat.mul_one, Nat.add_zero] at hx79_5); have hf79_5 := hfr79 5; (try simp only [show (k29).sz = 7 from rfl, Nat.mul_one, Nat.add_zero] at hf79_5); have hx79_6 := hcc79 6 _ rfl; (try simp only [show (k29).sz = 7 from rfl, Nat.mul_one, Nat.add_zero] at hx79_6); have hf79_6 := hfr79 6; (try simp only [show (k29).sz = 7 from rfl, Nat.mul_one, Nat.add_zero] at hf79_6); clear hcl79 hcc79 hfr79 hM79) | ((with_reducible refine gate_store (t := 29) (p := 79) rfl ?_); refine store_event (t := 29) (p := 79) (v := ?vo_w80) (w1 := (((((((w78.setCell ⟨go73, (x5_1 : Int).toNat * 7, none⟩ (.bool t296)).setCell ⟨go73, (x5_1 : Int).toNat * 7 + 1, none⟩ (.string t297)).setCell ⟨go73, (x5_1 : Int).toNat * 7 + 2, none⟩ (.string t298)).setCell ⟨go73, (x5_1 : Int).toNat * 7 + 3, none⟩ (.string t299)).setCell ⟨go73, (x5_1 : Int).toNat * 7 + 4, none⟩ (.int .u32 t300)).setCell ⟨go73, (x5_1 : Int).toNat * 7 + 5, none⟩ (.int .u64 t301)).setCell ⟨go73, (x5_1 : Int).toNat * 7 + 6, none⟩ (.bool t302))) ?hg ?ho ?hn ?hr ?_; (case ho => rfl); (case hg => rfl); (case hn => rfl); (case hr => first | (go_simp; done) | (go_simp; rfl)); intro w80 hw; have hg : w78.grownBy w80 (some go73) := (by rw [hw]; exact HP79.2); have hp_ : Kd.R k29 29 w80 w.heap.size (fun k_ => (w.heap.size ≤ k_)) (.slice (some ⟨go73, 0, none⟩) y292.length co77) y303 := (by rw [hw, Ny303.out]; exact HP79.1); clear HP79; have n0_ := Aside0.mk (Kd.V_afterv (v := (.slice (some ⟨go73, 0, none⟩) y292.length co77)) (v1 := (.slice (some ⟨go73, 0, none⟩) y292.length co77)) (ok := (fun k_ => (P0_ k_ ∨ w.heap.size ≤ k_))) (by (with_reducible repeat (first | apply Kd.V_alloc | apply Kd.V_drewN | apply Kd.V_drew)); exact HO_0.out) hg (.inl rfl)); have n1_ := Aside0.mk (hp_); have n2_ := Aside0.mk ((by rw [hw]; exact below_set (below_set (below_set (below_set (below_set (below_set (below_set (HB.out) GB73.out) GB73.out) GB73.out) GB73.out) GB73.out) GB73.out) GB73.out : Below w.heap.size w w80)); clear HO_0; clear HO294; clear HB; have HO_0 := n0_; have HO294 := n1_; have HB := n2_; clear n0_ n1_ n2_; clear hg hw hp_))
                                  go_roundg kj16
                                  case measure => have := HK1.out; have := HJ8.out; have := HJ16.out; omega
                                  case rel => exact ⟨(y303), (wrap64 (x5_1 + 1)), (by first | rfl | (simp; done) | (simp [*]; done)), H', ⟨by have := HK1.out; have := HJ8.out; have := HJ16.out; omega⟩, ⟨Kd.V_mono (Kd.R_V (by (with_reducible repeat (first | apply Kd.R_alloc | apply Kd.R_drewN | apply Kd.R_drew)); exact HO294.out)) (fun k_ hk => by first | exact ⟨(.inr (hk.1)), hk.2⟩ | exact (.inr (hk)))⟩, ⟨by repeat (first | (with_reducible first | exact HB.out | apply below_alloc | apply pw_below_drewN | apply below_drew1) | exact HB.out)⟩⟩
                                · rw [if_neg c71] at H
                                  exact absurd H (by simp)
                              · rw [if_neg c70] at H
                                exact absurd H (by simp)
                          · rw [if_neg c59] at H
                            exact absurd H (by simp)
                        · rw [if_neg c58] at H
                          exact absurd H (by simp)
          · rw [if_neg c8] at H
            have c8b0 : decide (x5_1 < (x0_1.length : Int)) = false := decide_eq_false c8
            clear c8
            have H' := Aside0.mk H
            clear H
            obtain ⟨Ao81, co81, eo81⟩ := Kd.V_slice HO_0.out
            subst eo81
            go_wp2
            go_loopg [6] k1 (fun kq v6 w' => ∃ (x6_2 : Int), v6 = .int .i64 x6_2 ∧ Aside0 (cellaretlaw19_ReplyBack.l1 kq x0_1 a1 x6_2 = some r) ∧ Aside0 (kq ≤ k1) ∧ Aside0 (Kd.V k29 29 w' w.heap.size (fun k_ => (P0_ k_ ∨ w.heap.size ≤ k_)) (.slice Ao81 x0_1.length co81) x0_1) ∧ Aside0 (Below w.heap.size w w'))
            case atStart => exact ⟨(0), (by first | rfl | (simp; done) | (simp [*]; done)), H', ⟨Nat.le_refl _⟩, ⟨by (with_reducible repeat (first | apply Kd.V_alloc | apply Kd.V_drewN | apply Kd.V_drew)); exact HO_0.out⟩, ⟨by repeat (first | (with_reducible first | exact HB.out | apply below_alloc | apply pw_below_drewN | apply below_drew1) | exact HB.out)⟩⟩
            case round =>
              clear H'
              try clear c1
              try clear c2
              try clear p2
              try clear q2
              try clear hx2
              try clear hf2
              try clear c3
              try clear p3
              try clear q3
              try clear hx3
              try clear hf3
              try clear c4
              try clear p4
              try clear q4
              try clear hx4
              try clear hf4
              try clear c5
              try clear c5b0
              try clear c5b1
              try clear hx5
              try clear hf5
              try clear c6
              try clear p6
              try clear q6
              try clear hx6
              try clear hf6
              try clear c7
              try clear p7
              try clear q7
              try clear hx7
              try clear hf7
              try clear c8
              try clear c8b0
              try clear c11
              try clear c11b0
              try clear c12
              try clear c13
              try clear c16
              try clear c18
              try clear c18b0
              try clear c19
              try clear c19b0
              try clear q20
              try clear c21
              try clear c22
              try clear c23
              try clear c24
              try clear c24b0
              try clear p24
              try clear q24
              try clear hx24
              try clear c25
              try clear c25b0
              try clear p25
              try clear q25
              try clear hx25
              try clear c26
              try clear p26
              try clear q26
              try clear hx26
              try clear hf26
              try clear p27
              try clear q27
              try clear hx27
              try clear c28
              try clear p28
              try clear q28
              try clear hx28
              try clear c29
              try clear p29
              try clear q29
              try clear hx29
              try clear c30
              try clear c30b0
              try clear c31
              try clear p31
              try clear q31
              try clear hx31
              try clear hf31
              try clear c35
              try clear hx35
              try clear hf35
              try clear c40
              try clear hx40
              try clear hf40
              try clear c42
              try clear c43
              try clear c43b0
              try clear c45
              try clear p45
              try clear q45
              try clear hx45
              try clear hf45
              try clear c49
              try clear hx49
              try clear hf49
              try clear c56
              try clear hx56
              try clear hf56
              try clear c58
              try clear c58b0
              try clear c59
              try clear c59b0
              try clear q60
              try clear c61
              try clear c62
              try clear c63
              try clear c63b0
              try clear c64
              try clear p64
              try clear q64
              try clear hx64
              try clear hf64
              try clear c68
              try clear hx68
              try clear hf68
              try clear c70
              try clear c71
              try clear c71b0
              try clear c73
              try clear p73
              try clear q73
              try clear hx73
              try clear hf73
              try clear c79
              try clear hx79
              try clear hf79
              try clear hx246_0
              try clear hx246_1
              try clear hx246_2
              try clear hx246_3
              try clear hx246_4
              try clear hx246_5
              try clear hx246_6
              try clear hx248_0
              try clear hx248_1
              try clear hx248_2
              try clear hx248_3
              try clear hx248_4
              try clear hx248_5
              try clear hx248_6
              try clear hx249_0
              try clear hx249_1
              try clear hx249_2
              try clear hx249_3
              try clear hx249_4
              try clear hx249_5
              try clear hx249_6
              try clear hx250_0
              try clear hx250_1
              try clear hx250_2
              try clear hx250_3
              try clear hx250_4
              try clear hx250_5
              try clear hx250_6
              try clear hx258_0
              try clear hx258_1
              try clear hx258_2
              try clear hx258_3
              try clear hx258_4
              try clear hx258_5
              try clear hx258_6
              try clear hx26_0
              try clear hx26_1
              try clear hx26_2
              try clear hx26_3
              try clear hx26_4
              try clear hx26_5
              try clear hx26_6
              try clear hx272_0
              try clear hx272_1
              try clear hx272_2
              try clear hx272_3
              try clear hx272_4
              try clear hx272_5
              try clear hx272_6
              try clear hx281_0
              try clear hx281_1
              try clear hx281_2
              try clear hx281_3
              try clear hx281_4
              try clear hx281_5
              try clear hx281_6
              try clear hx295_0
              try clear hx295_1
              try clear hx295_2
              try clear hx295_3
              try clear hx295_4
              try clear hx295_5
              try clear hx295_6
              try clear hx31_0
              try clear hx31_1
              try clear hx31_2
              try clear hx31_3
              try clear hx31_4
              try clear hx31_5
              try clear hx31_6
              try clear hx35_5
              try clear hx40_1
              try clear hx45_0
              try clear hx45_1
              try clear hx45_2
              try clear hx45_3
              try clear hx45_4
              try clear hx45_5
              try clear hx45_6
              try clear hx49_5
              try clear hx56_0
              try clear hx56_1
              try clear hx56_2
              try clear hx56_3
              try clear hx56_4
              try clear hx56_5
              try clear hx56_6
              try clear hx64_0
              try clear hx64_1
              try clear hx64_2
              try clear hx64_3
              try clear hx64_4
              try clear hx64_5
              try clear hx64_6
              try clear hx68_1
              try clear hx73_0
              try clear hx73_1
              try clear hx73_2
              try clear hx73_3
              try clear hx73_4
              try clear hx73_5
              try clear hx73_6
              try clear hx79_0
              try clear hx79_1
              try clear hx79_2
              try clear hx79_3
              try clear hx79_4
              try clear hx79_5
              try clear hx79_6
              try clear p2
              try clear p246
              try clear p248
              try clear p249
              try clear p250
              try clear p258
              try clear p26
              try clear p272
              try clear p281
              try clear p295
              try clear p31
              try clear p45
              try clear p64
              try clear p73
              try clear q2
              try clear q20
              try clear q246
              try clear q248
              try clear q249
              try clear q250
              try clear q258
              try clear q26
              try clear q272
              try clear q281
              try clear q295
              try clear q31
              try clear q45
              try clear q64
              try clear q73
              obtain ⟨x6_2, rfl, HA, HK2, HO_0, HB⟩ := hrel
              cases gk with
              | zero => exact absurd HA.out (by simp [cellaretlaw19_ReplyBack.l1])
              | succ k2 =>
                have H := HA.out
                clear HA
                simp only [cellaretlaw19_ReplyBack.l1] at H
                by_cases c82 : x6_2 < (a1.size : Int)
                · rw [if_pos c82] at H
                  have c82b0 : decide (x6_2 < (a1.size : Int)) = true := decide_eq_true c82
                  clear c82
                  by_cases c83 : 0 ≤ x6_2
                  · rw [if_pos c83] at H
                    have c83b0 : decide (0 ≤ x6_2) = true := decide_eq_true c83
                    clear c83
                    by_cases c85 : (bt a1 x6_2) = 10
                    · rw [if_pos c85] at H
                      have c85b0 : ((bt a1 x6_2) == 10) = true := beq_iff_eq.mpr c85
                      have c85b1 : ((bt a1 x6_2) != 10) = false := bne_eq_false_iff_eq.mpr c85
                      clear c85
                      obtain rfl := Option.some.inj H
                      have p84 : 0 ≤ (x6_2 : Int) := of_decide_eq_true (by first | (with_reducible assumption) | assumption)
                      have q84 : x6_2 < (a1.size : Int) := of_decide_eq_true (by first | (with_reducible assumption) | assumption)
                      have hx84 := bt_at a1 x6_2
                      replace p84 := eq_true p84
                      replace q84 := eq_true q84
                      go_wp2
                      go_ret
                      exact ⟨by first | rfl | (simp [errW_none, errW_some] <;> rfl) | (simp [*, errW_none, errW_some] <;> rfl), by repeat (first | (with_reducible first | exact HB.out | apply below_alloc | apply pw_below_drewN | apply below_drew1) | exact HB.out)⟩
                    · rw [if_neg c85] at H
                      have c85b0 : ((bt a1 x6_2) == 10) = false := beq_eq_false_iff_ne.mpr c85
                      have c85b1 : ((bt a1 x6_2) != 10) = true := bne_iff_ne.mpr c85
                      have H' := Aside0.mk H
                      clear H
                      have p84 : 0 ≤ (x6_2 : Int) := of_decide_eq_true (by first | (with_reducible assumption) | assumption)
                      have q84 : x6_2 < (a1.size : Int) := of_decide_eq_true (by first | (with_reducible assumption) | assumption)
                      have hx84 := bt_at a1 x6_2
                      replace p84 := eq_true p84
                      replace q84 := eq_true q84
                      go_wp2
                      go_roundg k2
                      case measure => have := HK1.out; have := HK2.out; omega
                      case rel => exact ⟨(wrap64 (x6_2 + 1)), (by first | rfl | (simp; done) | (simp [*]; done)), H', ⟨by have := HK1.out; have := HK2.out; omega⟩, ⟨by (with_reducible repeat (first | apply Kd.V_alloc | apply Kd.V_drewN | apply Kd.V_drew)); exact HO_0.out⟩, ⟨by repeat (first | (with_reducible first | exact HB.out | apply below_alloc | apply pw_below_drewN | apply below_drew1) | exact HB.out)⟩⟩
                  · rw [if_neg c83] at H
                    exact absurd H (by simp)
                · rw [if_neg c82] at H
                  have c82b0 : decide (x6_2 < (a1.size : Int)) = false := decide_eq_false c82
                  clear c82
                  replace H := Option.bind_eq_some_iff.mp H
                  obtain ⟨t304, A860, H⟩ := H
                  replace H : ((reply_All.f k2 t304).bind fun t307 => ((some (([] : List Int) : List Int)).bind fun y310 => (if y310.length + t307.length < 140737488355328 then ((some (y310 ++ t307 : List Int)).bind fun y313 => (if y313.length + a1.size < 140737488355328 then ((reply_Read.f k2 (y313 ++ bytesOf a1)).bind fun bt319 => (if bt319.2 = (t307.length : Int) then ((cellaretref17_SameAns.f k2 bt319.1 x0_1).bind fun t323 => (some t323)) else (some false))) else (none))) else (none)))) = some r := H
                  have A86 := Aside0.mk A860
                  clear A860
                  replace H := Option.bind_eq_some_iff.mp H
                  obtain ⟨t307, A870, H⟩ := H
                  replace H : ((some (([] : List Int) : List Int)).bind fun y310 => (if y310.length + t307.length < 140737488355328 then ((some (y310 ++ t307 : List Int)).bind fun y313 => (if y313.length + a1.size < 140737488355328 then ((reply_Read.f k2 (y313 ++ bytesOf a1)).bind fun bt319 => (if bt319.2 = (t307.length : Int) then ((cellaretref17_SameAns.f k2 bt319.1 x0_1).bind fun t323 => (some t323)) else (some false))) else (none))) else (none))) = some r := H
                  have A87 := Aside0.mk A870
                  clear A870
                  obtain ⟨y310, hy310⟩ : ∃ y_ : List Int, y_ = (([] : List Int)) := ⟨_, rfl⟩
                  replace H : (if y310.length + t307.length < 140737488355328 then ((some (y310 ++ t307 : List Int)).bind fun y313 => (if y313.length + a1.size < 140737488355328 then ((reply_Read.f k2 (y313 ++ bytesOf a1)).bind fun bt319 => (if bt319.2 = (t307.length : Int) then ((cellaretref17_SameAns.f k2 bt319.1 x0_1).bind fun t323 => (some t323)) else (some false))) else (none))) else (none)) = some r := by first | (rw [hy310]; with_reducible exact H) | (have H2_ := (Option.bind_some _ _).symm.trans H; rw [hy310]; with_reducible exact H2_) | (have H2_ := (Option.bind_some _ _).symm.trans H; with_reducible exact H2_) | with_reducible exact H | (rw [hy310]; exact H) | exact H
                  have Ny310 := Aside0.mk hy310
                  clear hy310
                  by_cases c88 : y310.length + t307.length < 140737488355328
                  · rw [if_pos c88] at H
                    have LMc88 := Aside0.mk c88
                    clear c88
                    obtain ⟨y313, hy313⟩ : ∃ y_ : List Int, y_ = (y310 ++ t307) := ⟨_, rfl⟩
                    replace H : (if y313.length + a1.size < 140737488355328 then ((reply_Read.f k2 (y313 ++ bytesOf a1)).bind fun bt319 => (if bt319.2 = (t307.length : Int) then ((cellaretref17_SameAns.f k2 bt319.1 x0_1).bind fun t323 => (some t323)) else (some false))) else (none)) = some r := by first | (rw [hy313]; with_reducible exact H) | (have H2_ := (Option.bind_some _ _).symm.trans H; rw [hy313]; with_reducible exact H2_) | (have H2_ := (Option.bind_some _ _).symm.trans H; with_reducible exact H2_) | with_reducible exact H | (rw [hy313]; exact H) | exact H
                    have Ny313 := Aside0.mk hy313
                    clear hy313
                    by_cases c89 : y313.length + a1.size < 140737488355328
                    · rw [if_pos c89] at H
                      have LMc89 := Aside0.mk c89
                      clear c89
                      obtain ⟨y316, hy316⟩ : ∃ y_ : List Int, y_ = (y313 ++ bytesOf a1) := ⟨_, rfl⟩
                      replace H : ((reply_Read.f k2 y316).bind fun bt319 => (if bt319.2 = (t307.length : Int) then ((cellaretref17_SameAns.f k2 bt319.1 x0_1).bind fun t323 => (some t323)) else (some false))) = some r := by first | (rw [hy316]; with_reducible exact H) | (have H2_ := (Option.bind_some _ _).symm.trans H; rw [hy316]; with_reducible exact H2_) | (have H2_ := (Option.bind_some _ _).symm.trans H; with_reducible exact H2_) | with_reducible exact H | (rw [hy316]; exact H) | exact H
                      have Ny316 := Aside0.mk hy316
                      clear hy316
                      replace H := Option.bind_eq_some_iff.mp H
                      obtain ⟨⟨t319, t320⟩, A900, H⟩ := H
                      replace H : (if t320 = (t307.length : Int) then ((cellaretref17_SameAns.f k2 t319 x0_1).bind fun t323 => (some t323)) else (some false)) = some r := H
                      have A90 := Aside0.mk A900
                      clear A900
                      by_cases c91 : t320 = (t307.length : Int)
                      · rw [if_pos c91] at H
                        have c91b0 : (t320 == (t307.length : Int)) = true := beq_iff_eq.mpr c91
                        have c91b1 : (t320 != (t307.length : Int)) = false := bne_eq_false_iff_eq.mpr c91
                        clear c91
                        replace H := Option.bind_eq_some_iff.mp H
                        obtain ⟨t323, A920, H⟩ := H
                        replace H : (some t323) = some r := H
                        have A92 := Aside0.mk A920
                        clear A920
                        obtain rfl := Option.some.inj H
                        go_wp2_with (first | ((with_reducible refine gate_callee (f := 8) rfl ?_); refine goesL_ (some 91) rfl rfl Tryd.func8 (by kernel_rfl) rfl #[.slice Ao81 x0_1.length co81] rfl (by (try simp only [List.map_toArray, List.map_cons, List.map_nil]); first | done | rfl | (simp only [List.length_drop, List.length_take]; rfl)) ?_; (with_reducible refine (cellaretref17_AnsBack.calls k2 _ _ x0_1 t304 _ ?side1 ?side2 A86.out).mono ?_); (case side1 => repeat (first | exact (Kd.V_reads' HO_0.out).2.2 | (with_reducible refine Kd.C_alloc ?_ _) | (with_reducible refine Kd.C_drewN ?_ _) | (with_reducible refine Kd.C_drew ?_))); (case side2 => exact (Kd.V_reads' HO_0.out).2.1); rintro e w93 ⟨v305, rfl, ho0, hb⟩; refine ⟨_, rfl, ?_⟩; have n0_ := Aside0.mk (Kd.V_elder' (by (with_reducible repeat (first | apply Kd.V_alloc | apply Kd.V_drewN | apply Kd.V_drew)); exact HO_0.out) (Kd.R_base ho0) hb); have n1_ := Aside0.mk (Kd.R_lower (Kd.R_newM (M := fun k_ => (w.heap.size ≤ k_)) ho0 (below_size (by repeat (first | (with_reducible first | exact HB.out | apply below_alloc | apply pw_below_drewN | apply below_drew1) | exact HB.out))) (fun k_ h_ => h_)) (below_size (by repeat (first | (with_reducible first | exact HB.out | apply below_alloc | apply pw_below_drewN | apply below_drew1) | exact HB.out)))); have n2_ := Aside0.mk (below_step (by repeat (first | (with_reducible first | exact HB.out | apply below_alloc | apply pw_below_drewN | apply below_drew1) | exact HB.out)) hb); clear HO_0; clear HB; have HO_0 := n0_; have HO306 := n1_; have HB := n2_; clear n0_ n1_ n2_; (try clear hb); (try clear hb2); (try clear hk); (try clear hi); (try clear ho0); obtain ⟨Ao94, co94, eo94⟩ := Kd.R_slice HO306.out; subst eo94) | ((with_reducible refine gate_callee (f := 11) rfl ?_); refine goesL_ (some 92) rfl rfl Tryd.func11 (by kernel_rfl) rfl #[.slice Ao94 t304.length co94] rfl (by (try simp only [List.map_toArray, List.map_cons, List.map_nil]); first | done | rfl | (simp only [List.length_drop, List.length_take]; rfl)) ?_; (with_reducible refine (reply_All.calls k2 _ _ t304 t307 _ ?side3 ?side1 ?side2 A87.out).mono ?_); (case side1 => repeat (first | exact (Kd.R_reads' HO306.out).2.2 | (with_reducible refine Kd.C_alloc ?_ _) | (with_reducible refine Kd.C_drewN ?_ _) | (with_reducible refine Kd.C_drew ?_))); (case side2 => exact (Kd.R_reads' HO306.out).2.1); (case side3 => exact HLD.below (by repeat (first | (with_reducible first | exact HB.out | apply below_alloc | apply pw_below_drewN | apply below_drew1) | exact HB.out))); rintro e w95 ⟨v308, rfl, ho0, hb⟩; refine ⟨_, rfl, ?_⟩; have n0_ := Aside0.mk (Kd.V_elder' (by (with_reducible repeat (first | apply Kd.V_alloc | apply Kd.V_drewN | apply Kd.V_drew)); exact HO_0.out) (Kd.R_base ho0) hb); have n1_ := Aside0.mk (Kd.R_below (by (with_reducible repeat (first | apply Kd.R_alloc | apply Kd.R_drewN | apply Kd.R_drew)); exact HO306.out) hb); have n2_ := Aside0.mk (Kd.R_lower (Kd.R_newM (M := fun k_ => (w.heap.size ≤ k_)) ho0 (below_size (by repeat (first | (with_reducible first | exact HB.out | apply below_alloc | apply pw_below_drewN | apply below_drew1) | exact HB.out))) (fun k_ h_ => h_)) (below_size (by repeat (first | (with_reducible first | exact HB.out | apply below_alloc | apply pw_below_drewN | apply below_drew1) | exact HB.out)))); have n3_ := Aside0.mk (below_step (by repeat (first | (with_reducible first | exact HB.out | apply below_alloc | apply pw_below_drewN | apply below_drew1) | exact HB.out)) hb); clear HO_0; clear HO306; clear HB; have HO_0 := n0_; have HO306 := n1_; have HO309 := n2_; have HB := n3_; clear n0_ n1_ n2_ n3_; (try clear hb); (try clear hb2); (try clear hk); (try clear hi); (try clear ho0)) | ((with_reducible refine gate_dst (N := 94) rfl ?_); (try (refine gate_guard (by rfl) ?_; dsimp only)); refine Kd.R_lit (Kd.int .u8) _ 5 ?hg (N := 94) ?hd (xs := ([] : List Int)) (inner := []) (ok := fun _ => True) (okp := fun _ => True) ?hr ?hp (fun _ hk => hk) trivial (Below.refl _ _) (Nat.le_refl _) (by simp) ?_; (case hd => rfl); (case hg => rfl); (case hr => first | (go_simp; done) | (go_simp; rfl)); (case hp => exact (Reps.none _ _)); intro v311 w96 ho97 hb hg_ hnew_; clear hg_ hnew_; (first | rw [← Ny310.out] at ho97 | (simp only [Int.reduceToNat] at ho97; rw [← Ny310.out] at ho97)); have n0_ := Aside0.mk (Kd.V_elder' (by (with_reducible repeat (first | apply Kd.V_alloc | apply Kd.V_drewN | apply Kd.V_drew)); exact HO_0.out) (Kd.R_base ho97) hb); have n1_ := Aside0.mk (Kd.R_below (by (with_reducible repeat (first | apply Kd.R_alloc | apply Kd.R_drewN | apply Kd.R_drew)); exact HO306.out) hb); have n2_ := Aside0.mk (Kd.R_elder' (by (with_reducible repeat (first | apply Kd.R_alloc | apply Kd.R_drewN | apply Kd.R_drew)); exact HO309.out) (Kd.R_base ho97) hb); have n3_ := Aside0.mk (Kd.R_lower (Kd.R_new' (Kd.R_newM (M := fun k_ => (w.heap.size ≤ k_)) ho97 (below_size (by repeat (first | (with_reducible first | exact HB.out | apply below_alloc | apply pw_below_drewN | apply below_drew1) | exact HB.out))) (fun k_ h_ => h_)) (Kd.R_lt (by (with_reducible repeat (first | apply Kd.R_alloc | apply Kd.R_drewN | apply Kd.R_drew)); exact HO309.out))) (below_size (by repeat (first | (with_reducible first | exact HB.out | apply below_alloc | apply pw_below_drewN | apply below_drew1) | exact HB.out)))); have n4_ := Aside0.mk (below_step (by repeat (first | (with_reducible first | exact HB.out | apply below_alloc | apply pw_below_drewN | apply below_drew1) | exact HB.out)) hb); clear HO_0; clear HO306; clear HO309; clear HB; have HO_0 := n0_; have HO306 := n1_; have HO309 := n2_; have HO312 := n3_; have HB := n4_; clear n0_ n1_ n2_ n3_ n4_; clear hb ho97; obtain ⟨Ao99, co99, eo99⟩ := Kd.R_slice HO309.out; subst eo99) | ((with_reducible refine gate_builtin (b := .append) (xs := #[.tmp 94, .tmp 95]) rfl ?_); (try (refine gate_guard (by rfl) ?_; dsimp only)); at_builtin; refine Kd.R_append_rows (Kd.int .u8) (w0 := w) w.heap.size rfl (.tmp 94) (.tmp 95) 31 5 (.int .u8 0) 1 rfl Tryd.underlying31 info5 rfl (by decide) (by omega) v311 y310 t307 _ _ _ (fun k_ => (w.heap.size ≤ k_) ∧ some k_ ≠ (.slice Ao99 t307.length co99 : Value).ownBlock) (fun _ => False) rfl rfl ?aO ?aR (fun _ _ h => h) (fun _ h => h.elim) ?aF ?aB ?aS ?aL ?_; (case aR => repeat (first | exact (Kd.R_reads' HO309.out).2.2 | (with_reducible refine Kd.C_alloc ?_ _) | (with_reducible refine Kd.C_drewN ?_ _) | (with_reducible refine Kd.C_drew ?_))); (case aB => exact (by repeat (first | (with_reducible first | exact HB.out | apply below_alloc | apply pw_below_drewN | apply below_drew1) | exact HB.out))); (case aF => exact (fun k_ hk => ⟨(Nat.le_trans (below_size (by repeat (first | (with_reducible first | exact HB.out | apply below_alloc | apply pw_below_drewN | apply below_drew1) | exact HB.out))) hk), Kd.fresh' (Kd.R_lt (by (with_reducible repeat (first | apply Kd.R_alloc | apply Kd.R_drewN | apply Kd.R_drew)); exact HO309.out)) k_ hk⟩)); (case aO => exact (by (with_reducible repeat (first | apply Kd.R_alloc | apply Kd.R_drewN | apply Kd.R_drew)); exact Kd.R_mono HO312.out (fun _ hk => ⟨hk.1.1, hk.2⟩))); (case aS => exact (below_size (by repeat (first | (with_reducible first | exact HB.out | apply below_alloc | apply pw_below_drewN | apply below_drew1) | exact HB.out)))); (case aL => have := LMc88.out; omega); intro v314 w98 ho hb hg hat; rw [← Ny313.out] at ho; have n0_ := Aside0.mk (Kd.V_afterv (ok := (fun k_ => (P0_ k_ ∨ w.heap.size ≤ k_) ∧ some k_ ≠ (.slice Ao94 t304.length co94 : Value).ownBlock ∧ some k_ ≠ (.slice Ao99 t307.length co99 : Value).ownBlock)) (by (with_reducible repeat (first | apply Kd.V_alloc | apply Kd.V_drewN | apply Kd.V_drew)); exact Kd.V_mono HO_0.out (fun _ hk => ⟨⟨hk.1.1.1, ⟨hk.1.1.2, hk.1.2⟩⟩, hk.2⟩)) hg hat); have n1_ := Aside0.mk (Kd.R_over' (by (with_reducible repeat (first | apply Kd.R_alloc | apply Kd.R_drewN | apply Kd.R_drew)); exact HO306.out) (Kd.R_typed (by (with_reducible repeat (first | apply Kd.R_alloc | apply Kd.R_drewN | apply Kd.R_drew)); exact HO312.out)) (by decide) hg); have n2_ := Aside0.mk (Kd.R_after (ok := (fun k_ => (w.heap.size ≤ k_))) (by (with_reducible repeat (first | apply Kd.R_alloc | apply Kd.R_drewN | apply Kd.R_drew)); exact Kd.R_mono HO309.out (fun _ hk => ⟨hk.1.1, hk.2⟩)) hg hat); have n3_ := Aside0.mk (hb); have n4_ := Aside0.mk (ho); clear HO_0; clear HO306; clear HO309; clear HB; clear HO312; have HO_0 := n0_; have HO306 := n1_; have HO309 := n2_; have HB := n3_; have HO315 := n4_; clear n0_ n1_ n2_ n3_ n4_; clear ho hb hg hat) | (at_builtin; refine append_str_ok (w0 := w) w.heap.size rfl (.tmp 96) _ 31 9 5 rfl Tryd.underlying31 Tryd.underlying9 info5 v314 y313 a1 (fun k_ => (w.heap.size ≤ k_) ∧ some k_ ≠ (.slice Ao99 t307.length co99 : Value).ownBlock) rfl rfl ?aF ?aO ?aB ?aS ?aL ?_; (case aB => exact (by repeat (first | (with_reducible first | exact HB.out | apply below_alloc | apply pw_below_drewN | apply below_drew1) | exact HB.out))); (case aF => exact (fun k_ hk => ⟨(Nat.le_trans (below_size (by repeat (first | (with_reducible first | exact HB.out | apply below_alloc | apply pw_below_drewN | apply below_drew1) | exact HB.out))) hk), Kd.fresh' (Kd.R_lt (by (with_reducible repeat (first | apply Kd.R_alloc | apply Kd.R_drewN | apply Kd.R_drew)); exact HO309.out)) k_ hk⟩)); (case aO => exact (by (with_reducible repeat (first | apply Kd.R_alloc | apply Kd.R_drewN | apply Kd.R_drew)); exact HO315.out)); (case aS => exact (below_size (by repeat (first | (with_reducible first | exact HB.out | apply below_alloc | apply pw_below_drewN | apply below_drew1) | exact HB.out)))); (case aL => have := LMc89.out; omega); intro v317 w100 ho hb hg hat; rw [← Ny316.out] at ho; have n0_ := Aside0.mk (Kd.V_afterv (ok := (fun k_ => (P0_ k_ ∨ w.heap.size ≤ k_) ∧ some k_ ≠ (.slice Ao94 t304.length co94 : Value).ownBlock ∧ some k_ ≠ (.slice Ao99 t307.length co99 : Value).ownBlock)) (by (with_reducible repeat (first | apply Kd.V_alloc | apply Kd.V_drewN | apply Kd.V_drew)); exact HO_0.out) hg hat); have n1_ := Aside0.mk (Kd.R_over' (by (with_reducible repeat (first | apply Kd.R_alloc | apply Kd.R_drewN | apply Kd.R_drew)); exact HO306.out) (Kd.R_typed (by (with_reducible repeat (first | apply Kd.R_alloc | apply Kd.R_drewN | apply Kd.R_drew)); exact HO315.out)) (by decide) hg); have n2_ := Aside0.mk (Kd.R_after (ok := (fun k_ => (w.heap.size ≤ k_))) (by (with_reducible repeat (first | apply Kd.R_alloc | apply Kd.R_drewN | apply Kd.R_drew)); exact HO309.out) hg hat); have n3_ := Aside0.mk (hb); have n4_ := Aside0.mk (ho); clear HO_0; clear HO306; clear HO309; clear HB; clear HO315; have HO_0 := n0_; have HO306 := n1_; have HO309 := n2_; have HB := n3_; have HO318 := n4_; clear n0_ n1_ n2_ n3_ n4_; clear ho hb hg hat; obtain ⟨Ao101, co101, eo101⟩ := Kd.R_slice HO318.out; subst eo101) | ((with_reducible refine gate_callee (f := 14) rfl ?_); refine goesL_ (some 99) rfl rfl Tryd.func14 (by kernel_rfl) rfl #[.slice Ao101 y316.length co101] rfl (by (try simp only [List.map_toArray, List.map_cons, List.map_nil]); first | done | rfl | (simp only [List.length_drop, List.length_take]; rfl)) ?_; (with_reducible refine (reply_Read.calls k2 _ _ y316 t319 t320 _ ?side3 ?side1 ?side2 A90.out).mono ?_); (case side1 => repeat (first | exact (Kd.R_reads' HO318.out).2.2 | (with_reducible refine Kd.C_alloc ?_ _) | (with_reducible refine Kd.C_drewN ?_ _) | (with_reducible refine Kd.C_drew ?_))); (case side2 => exact (Kd.R_reads' HO318.out).2.1); (case side3 => exact HLD.below (by repeat (first | (with_reducible first | exact HB.out | apply below_alloc | apply pw_below_drewN | apply below_drew1) | exact HB.out))); rintro e w102 ⟨v321, rfl, ho0, hb⟩; refine ⟨_, rfl, ?_⟩; have n0_ := Aside0.mk (Kd.V_elder' (by (with_reducible repeat (first | apply Kd.V_alloc | apply Kd.V_drewN | apply Kd.V_drew)); exact HO_0.out) (Kd.R_base ho0) hb); have n1_ := Aside0.mk (Kd.R_elder' (by (with_reducible repeat (first | apply Kd.R_alloc | apply Kd.R_drewN | apply Kd.R_drew)); exact HO306.out) (Kd.R_base ho0) hb); have n2_ := Aside0.mk (Kd.R_below (by (with_reducible repeat (first | apply Kd.R_alloc | apply Kd.R_drewN | apply Kd.R_drew)); exact HO309.out) hb); have n3_ := Aside0.mk (Kd.R_below (by (with_reducible repeat (first | apply Kd.R_alloc | apply Kd.R_drewN | apply Kd.R_drew)); exact HO318.out) hb); have n4_ := Aside0.mk (Kd.R_lower (Kd.R_new' (Kd.R_newM (M := fun k_ => (w.heap.size ≤ k_)) ho0 (below_size (by repeat (first | (with_reducible first | exact HB.out | apply below_alloc | apply pw_below_drewN | apply below_drew1) | exact HB.out))) (fun k_ h_ => h_)) (Kd.R_lt (by (with_reducible repeat (first | apply Kd.R_alloc | apply Kd.R_drewN | apply Kd.R_drew)); exact HO306.out))) (below_size (by repeat (first | (with_reducible first | exact HB.out | apply below_alloc | apply pw_below_drewN | apply below_drew1) | exact HB.out)))); have n5_ := Aside0.mk (below_step (by repeat (first | (with_reducible first | exact HB.out | apply below_alloc | apply pw_below_drewN | apply below_drew1) | exact HB.out)) hb); clear HO_0; clear HO306; clear HO309; clear HO318; clear HB; have HO_0 := n0_; have HO306 := n1_; have HO309 := n2_; have HO318 := n3_; have HO322 := n4_; have HB := n5_; clear n0_ n1_ n2_ n3_ n4_ n5_; (try clear hb); (try clear hb2); (try clear hk); (try clear hi); (try clear ho0); obtain ⟨Ao103, co103, eo103⟩ := Kd.R_slice HO322.out; subst eo103) | (go_at_call 15; (with_reducible refine (cellaretref17_SameAns.calls k2 _ _ t319 _ _ x0_1 t323 _ ?side1 ?side2 ?side3 ?side4 A92.out).mono ?_); (case side1 => repeat (first | exact (Kd.R_reads' HO322.out).2.2 | (with_reducible refine Kd.C_alloc ?_ _) | (with_reducible refine Kd.C_drewN ?_ _) | (with_reducible refine Kd.C_drew ?_))); (case side2 => exact (Kd.R_reads' HO322.out).2.1); (case side3 => repeat (first | exact (Kd.V_reads' HO_0.out).2.2 | (with_reducible refine Kd.C_alloc ?_ _) | (with_reducible refine Kd.C_drewN ?_ _) | (with_reducible refine Kd.C_drew ?_))); (case side4 => exact (Kd.V_reads' HO_0.out).2.1); rintro e w104 ⟨rfl, hb⟩; have n0_ := Aside0.mk (Kd.V_below (by (with_reducible repeat (first | apply Kd.V_alloc | apply Kd.V_drewN | apply Kd.V_drew)); exact HO_0.out) hb); have n1_ := Aside0.mk (Kd.R_below (by (with_reducible repeat (first | apply Kd.R_alloc | apply Kd.R_drewN | apply Kd.R_drew)); exact HO306.out) hb); have n2_ := Aside0.mk (Kd.R_below (by (with_reducible repeat (first | apply Kd.R_alloc | apply Kd.R_drewN | apply Kd.R_drew)); exact HO309.out) hb); have n3_ := Aside0.mk (Kd.R_below (by (with_reducible repeat (first | apply Kd.R_alloc | apply Kd.R_drewN | apply Kd.R_drew)); exact HO318.out) hb); have n4_ := Aside0.mk (Kd.R_below (by (with_reducible repeat (first | apply Kd.R_alloc | apply Kd.R_drewN | apply Kd.R_drew)); exact HO322.out) hb); have n5_ := Aside0.mk (below_step (by repeat (first | (with_reducible first | exact HB.out | apply below_alloc | apply pw_below_drewN | apply below_drew1) | exact HB.out)) hb); clear HO_0; clear HO306; clear HO309; clear HO318; clear HO322; clear HB; have HO_0 := n0_; have HO306 := n1_; have HO309 := n2_; have HO318 := n3_; have HO322 := n4_; have HB := n5_; clear n0_ n1_ n2_ n3_ n4_ n5_; (try clear hb); (try clear hb2); (try clear hk); (try clear hi)))
                        go_ret
                        exact ⟨by first | rfl | (simp [errW_none, errW_some] <;> rfl) | (simp [*, errW_none, errW_some] <;> rfl), by repeat (first | (with_reducible first | exact HB.out | apply below_alloc | apply pw_below_drewN | apply below_drew1) | exact HB.out)⟩
                      · rw [if_neg c91] at H
                        have c91b0 : (t320 == (t307.length : Int)) = false := beq_eq_false_iff_ne.mpr c91
                        have c91b1 : (t320 != (t307.length : Int)) = true := bne_iff_ne.mpr c91
                        obtain rfl := Option.some.inj H
                        go_wp2_with (first | ((with_reducible refine gate_callee (f := 8) rfl ?_); refine goesL_ (some 91) rfl rfl Tryd.func8 (by kernel_rfl) rfl #[.slice Ao81 x0_1.length co81] rfl (by (try simp only [List.map_toArray, List.map_cons, List.map_nil]); first | done | rfl | (simp only [List.length_drop, List.length_take]; rfl)) ?_; (with_reducible refine (cellaretref17_AnsBack.calls k2 _ _ x0_1 t304 _ ?side1 ?side2 A86.out).mono ?_); (case side1 => repeat (first | exact (Kd.V_reads' HO_0.out).2.2 | (with_reducible refine Kd.C_alloc ?_ _) | (with_reducible refine Kd.C_drewN ?_ _) | (with_reducible refine Kd.C_drew ?_))); (case side2 => exact (Kd.V_reads' HO_0.out).2.1); rintro e w105 ⟨v305, rfl, ho0, hb⟩; refine ⟨_, rfl, ?_⟩; have n0_ := Aside0.mk (Kd.V_elder' (by (with_reducible repeat (first | apply Kd.V_alloc | apply Kd.V_drewN | apply Kd.V_drew)); exact HO_0.out) (Kd.R_base ho0) hb); have n1_ := Aside0.mk (Kd.R_lower (Kd.R_newM (M := fun k_ => (w.heap.size ≤ k_)) ho0 (below_size (by repeat (first | (with_reducible first | exact HB.out | apply below_alloc | apply pw_below_drewN | apply below_drew1) | exact HB.out))) (fun k_ h_ => h_)) (below_size (by repeat (first | (with_reducible first | exact HB.out | apply below_alloc | apply pw_below_drewN | apply below_drew1) | exact HB.out)))); have n2_ := Aside0.mk (below_step (by repeat (first | (with_reducible first | exact HB.out | apply below_alloc | apply pw_below_drewN | apply below_drew1) | exact HB.out)) hb); clear HO_0; clear HB; have HO_0 := n0_; have HO306 := n1_; have HB := n2_; clear n0_ n1_ n2_; (try clear hb); (try clear hb2); (try clear hk); (try clear hi); (try clear ho0); obtain ⟨Ao106, co106, eo106⟩ := Kd.R_slice HO306.out; subst eo106) | ((with_reducible refine gate_callee (f := 11) rfl ?_); refine goesL_ (some 92) rfl rfl Tryd.func11 (by kernel_rfl) rfl #[.slice Ao106 t304.length co106] rfl (by (try simp only [List.map_toArray, List.map_cons, List.map_nil]); first | done | rfl | (simp only [List.length_drop, List.length_take]; rfl)) ?_; (with_reducible refine (reply_All.calls k2 _ _ t304 t307 _ ?side3 ?side1 ?side2 A87.out).mono ?_); (case side1 => repeat (first | exact (Kd.R_reads' HO306.out).2.2 | (with_reducible refine Kd.C_alloc ?_ _) | (with_reducible refine Kd.C_drewN ?_ _) | (with_reducible refine Kd.C_drew ?_))); (case side2 => exact (Kd.R_reads' HO306.out).2.1); (case side3 => exact HLD.below (by repeat (first | (with_reducible first | exact HB.out | apply below_alloc | apply pw_below_drewN | apply below_drew1) | exact HB.out))); rintro e w107 ⟨v308, rfl, ho0, hb⟩; refine ⟨_, rfl, ?_⟩; have n0_ := Aside0.mk (Kd.V_elder' (by (with_reducible repeat (first | apply Kd.V_alloc | apply Kd.V_drewN | apply Kd.V_drew)); exact HO_0.out) (Kd.R_base ho0) hb); have n1_ := Aside0.mk (Kd.R_below (by (with_reducible repeat (first | apply Kd.R_alloc | apply Kd.R_drewN | apply Kd.R_drew)); exact HO306.out) hb); have n2_ := Aside0.mk (Kd.R_lower (Kd.R_newM (M := fun k_ => (w.heap.size ≤ k_)) ho0 (below_size (by repeat (first | (with_reducible first | exact HB.out | apply below_alloc | apply pw_below_drewN | apply below_drew1) | exact HB.out))) (fun k_ h_ => h_)) (below_size (by repeat (first | (with_reducible first | exact HB.out | apply below_alloc | apply pw_below_drewN | apply below_drew1) | exact HB.out)))); have n3_ := Aside0.mk (below_step (by repeat (first | (with_reducible first | exact HB.out | apply below_alloc | apply pw_below_drewN | apply below_drew1) | exact HB.out)) hb); clear HO_0; clear HO306; clear HB; have HO_0 := n0_; have HO306 := n1_; have HO309 := n2_; have HB := n3_; clear n0_ n1_ n2_ n3_; (try clear hb); (try clear hb2); (try clear hk); (try clear hi); (try clear ho0)) | ((with_reducible refine gate_dst (N := 94) rfl ?_); (try (refine gate_guard (by rfl) ?_; dsimp only)); refine Kd.R_lit (Kd.int .u8) _ 5 ?hg (N := 94) ?hd (xs := ([] : List Int)) (inner := []) (ok := fun _ => True) (okp := fun _ => True) ?hr ?hp (fun _ hk => hk) trivial (Below.refl _ _) (Nat.le_refl _) (by simp) ?_; (case hd => rfl); (case hg => rfl); (case hr => first | (go_simp; done) | (go_simp; rfl)); (case hp => exact (Reps.none _ _)); intro v311 w108 ho109 hb hg_ hnew_; clear hg_ hnew_; (first | rw [← Ny310.out] at ho109 | (simp only [Int.reduceToNat] at ho109; rw [← Ny310.out] at ho109)); have n0_ := Aside0.mk (Kd.V_elder' (by (with_reducible repeat (first | apply Kd.V_alloc | apply Kd.V_drewN | apply Kd.V_drew)); exact HO_0.out) (Kd.R_base ho109) hb); have n1_ := Aside0.mk (Kd.R_below (by (with_reducible repeat (first | apply Kd.R_alloc | apply Kd.R_drewN | apply Kd.R_drew)); exact HO306.out) hb); have n2_ := Aside0.mk (Kd.R_elder' (by (with_reducible repeat (first | apply Kd.R_alloc | apply Kd.R_drewN | apply Kd.R_drew)); exact HO309.out) (Kd.R_base ho109) hb); have n3_ := Aside0.mk (Kd.R_lower (Kd.R_new' (Kd.R_newM (M := fun k_ => (w.heap.size ≤ k_)) ho109 (below_size (by repeat (first | (with_reducible first | exact HB.out | apply below_alloc | apply pw_below_drewN | apply below_drew1) | exact HB.out))) (fun k_ h_ => h_)) (Kd.R_lt (by (with_reducible repeat (first | apply Kd.R_alloc | apply Kd.R_drewN | apply Kd.R_drew)); exact HO309.out))) (below_size (by repeat (first | (with_reducible first | exact HB.out | apply below_alloc | apply pw_below_drewN | apply below_drew1) | exact HB.out)))); have n4_ := Aside0.mk (below_step (by repeat (first | (with_reducible first | exact HB.out | apply below_alloc | apply pw_below_drewN | apply below_drew1) | exact HB.out)) hb); clear HO_0; clear HO306; clear HO309; clear HB; have HO_0 := n0_; have HO306 := n1_; have HO309 := n2_; have HO312 := n3_; have HB := n4_; clear n0_ n1_ n2_ n3_ n4_; clear hb ho109; obtain ⟨Ao111, co111, eo111⟩ := Kd.R_slice HO309.out; subst eo111) | ((with_reducible refine gate_builtin (b := .append) (xs := #[.tmp 94, .tmp 95]) rfl ?_); (try (refine gate_guard (by rfl) ?_; dsimp only)); at_builtin; refine Kd.R_append_rows (Kd.int .u8) (w0 := w) w.heap.size rfl (.tmp 94) (.tmp 95) 31 5 (.int .u8 0) 1 rfl Tryd.underlying31 info5 rfl (by decide) (by omega) v311 y310 t307 _ _ _ (fun k_ => (w.heap.size ≤ k_) ∧ some k_ ≠ (.slice Ao111 t307.length co111 : Value).ownBlock) (fun _ => False) rfl rfl ?aO ?aR (fun _ _ h => h) (fun _ h => h.elim) ?aF ?aB ?aS ?aL ?_; (case aR => repeat (first | exact (Kd.R_reads' HO309.out).2.2 | (with_reducible refine Kd.C_alloc ?_ _) | (with_reducible refine Kd.C_drewN ?_ _) | (with_reducible refine Kd.C_drew ?_))); (case aB => exact (by repeat (first | (with_reducible first | exact HB.out | apply below_alloc | apply pw_below_drewN | apply below_drew1) | exact HB.out))); (case aF => exact (fun k_ hk => ⟨(Nat.le_trans (below_size (by repeat (first | (with_reducible first | exact HB.out | apply below_alloc | apply pw_below_drewN | apply below_drew1) | exact HB.out))) hk), Kd.fresh' (Kd.R_lt (by (with_reducible repeat (first | apply Kd.R_alloc | apply Kd.R_drewN | apply Kd.R_drew)); exact HO309.out)) k_ hk⟩)); (case aO => exact (by (with_reducible repeat (first | apply Kd.R_alloc | apply Kd.R_drewN | apply Kd.R_drew)); exact Kd.R_mono HO312.out (fun _ hk => ⟨hk.1.1, hk.2⟩))); (case aS => exact (below_size (by repeat (first | (with_reducible first | exact HB.out | apply below_alloc | apply pw_below_drewN | apply below_drew1) | exact HB.out)))); (case aL => have := LMc88.out; omega); intro v314 w110 ho hb hg hat; rw [← Ny313.out] at ho; have n0_ := Aside0.mk (Kd.V_afterv (ok := (fun k_ => (P0_ k_ ∨ w.heap.size ≤ k_) ∧ some k_ ≠ (.slice Ao106 t304.length co106 : Value).ownBlock ∧ some k_ ≠ (.slice Ao111 t307.length co111 : Value).ownBlock)) (by (with_reducible repeat (first | apply Kd.V_alloc | apply Kd.V_drewN | apply Kd.V_drew)); exact Kd.V_mono HO_0.out (fun _ hk => ⟨⟨hk.1.1.1, ⟨hk.1.1.2, hk.1.2⟩⟩, hk.2⟩)) hg hat); have n1_ := Aside0.mk (Kd.R_over' (by (with_reducible repeat (first | apply Kd.R_alloc | apply Kd.R_drewN | apply Kd.R_drew)); exact HO306.out) (Kd.R_typed (by (with_reducible repeat (first | apply Kd.R_alloc | apply Kd.R_drewN | apply Kd.R_drew)); exact HO312.out)) (by decide) hg); have n2_ := Aside0.mk (Kd.R_after (ok := (fun k_ => (w.heap.size ≤ k_))) (by (with_reducible repeat (first | apply Kd.R_alloc | apply Kd.R_drewN | apply Kd.R_drew)); exact Kd.R_mono HO309.out (fun _ hk => ⟨hk.1.1, hk.2⟩)) hg hat); have n3_ := Aside0.mk (hb); have n4_ := Aside0.mk (ho); clear HO_0; clear HO306; clear HO309; clear HB; clear HO312; have HO_0 := n0_; have HO306 := n1_; have HO309 := n2_; have HB := n3_; have HO315 := n4_; clear n0_ n1_ n2_ n3_ n4_; clear ho hb hg hat) | (at_builtin; refine append_str_ok (w0 := w) w.heap.size rfl (.tmp 96) _ 31 9 5 rfl Tryd.underlying31 Tryd.underlying9 info5 v314 y313 a1 (fun k_ => (w.heap.size ≤ k_) ∧ some k_ ≠ (.slice Ao111 t307.length co111 : Value).ownBlock) rfl rfl ?aF ?aO ?aB ?aS ?aL ?_; (case aB => exact (by repeat (first | (with_reducible first | exact HB.out | apply below_alloc | apply pw_below_drewN | apply below_drew1) | exact HB.out))); (case aF => exact (fun k_ hk => ⟨(Nat.le_trans (below_size (by repeat (first | (with_reducible first | exact HB.out | apply below_alloc | apply pw_below_drewN | apply below_drew1) | exact HB.out))) hk), Kd.fresh' (Kd.R_lt (by (with_reducible repeat (first | apply Kd.R_alloc | apply Kd.R_drewN | apply Kd.R_drew)); exact HO309.out)) k_ hk⟩)); (case aO => exact (by (with_reducible repeat (first | apply Kd.R_alloc | apply Kd.R_drewN | apply Kd.R_drew)); exact HO315.out)); (case aS => exact (below_size (by repeat (first | (with_reducible first | exact HB.out | apply below_alloc | apply pw_below_drewN | apply below_drew1) | exact HB.out)))); (case aL => have := LMc89.out; omega); intro v317 w112 ho hb hg hat; rw [← Ny316.out] at ho; have n0_ := Aside0.mk (Kd.V_afterv (ok := (fun k_ => (P0_ k_ ∨ w.heap.size ≤ k_) ∧ some k_ ≠ (.slice Ao106 t304.length co106 : Value).ownBlock ∧ some k_ ≠ (.slice Ao111 t307.length co111 : Value).ownBlock)) (by (with_reducible repeat (first | apply Kd.V_alloc | apply Kd.V_drewN | apply Kd.V_drew)); exact HO_0.out) hg hat); have n1_ := Aside0.mk (Kd.R_over' (by (with_reducible repeat (first | apply Kd.R_alloc | apply Kd.R_drewN | apply Kd.R_drew)); exact HO306.out) (Kd.R_typed (by (with_reducible repeat (first | apply Kd.R_alloc | apply Kd.R_drewN | apply Kd.R_drew)); exact HO315.out)) (by decide) hg); have n2_ := Aside0.mk (Kd.R_after (ok := (fun k_ => (w.heap.size ≤ k_))) (by (with_reducible repeat (first | apply Kd.R_alloc | apply Kd.R_drewN | apply Kd.R_drew)); exact HO309.out) hg hat); have n3_ := Aside0.mk (hb); have n4_ := Aside0.mk (ho); clear HO_0; clear HO306; clear HO309; clear HB; clear HO315; have HO_0 := n0_; have HO306 := n1_; have HO309 := n2_; have HB := n3_; have HO318 := n4_; clear n0_ n1_ n2_ n3_ n4_; clear ho hb hg hat; obtain ⟨Ao113, co113, eo113⟩ := Kd.R_slice HO318.out; subst eo113) | ((with_reducible refine gate_callee (f := 14) rfl ?_); refine goesL_ (some 99) rfl rfl Tryd.func14 (by kernel_rfl) rfl #[.slice Ao113 y316.length co113] rfl (by (try simp only [List.map_toArray, List.map_cons, List.map_nil]); first | done | rfl | (simp only [List.length_drop, List.length_take]; rfl)) ?_; (with_reducible refine (reply_Read.calls k2 _ _ y316 t319 t320 _ ?side3 ?side1 ?side2 A90.out).mono ?_); (case side1 => repeat (first | exact (Kd.R_reads' HO318.out).2.2 | (with_reducible refine Kd.C_alloc ?_ _) | (with_reducible refine Kd.C_drewN ?_ _) | (with_reducible refine Kd.C_drew ?_))); (case side2 => exact (Kd.R_reads' HO318.out).2.1); (case side3 => exact HLD.below (by repeat (first | (with_reducible first | exact HB.out | apply below_alloc | apply pw_below_drewN | apply below_drew1) | exact HB.out))); rintro e w114 ⟨v321, rfl, ho0, hb⟩; refine ⟨_, rfl, ?_⟩; have n0_ := Aside0.mk (Kd.V_elder' (by (with_reducible repeat (first | apply Kd.V_alloc | apply Kd.V_drewN | apply Kd.V_drew)); exact HO_0.out) (Kd.R_base ho0) hb); have n1_ := Aside0.mk (Kd.R_elder' (by (with_reducible repeat (first | apply Kd.R_alloc | apply Kd.R_drewN | apply Kd.R_drew)); exact HO306.out) (Kd.R_base ho0) hb); have n2_ := Aside0.mk (Kd.R_below (by (with_reducible repeat (first | apply Kd.R_alloc | apply Kd.R_drewN | apply Kd.R_drew)); exact HO309.out) hb); have n3_ := Aside0.mk (Kd.R_below (by (with_reducible repeat (first | apply Kd.R_alloc | apply Kd.R_drewN | apply Kd.R_drew)); exact HO318.out) hb); have n4_ := Aside0.mk (Kd.R_lower (Kd.R_new' (Kd.R_newM (M := fun k_ => (w.heap.size ≤ k_)) ho0 (below_size (by repeat (first | (with_reducible first | exact HB.out | apply below_alloc | apply pw_below_drewN | apply below_drew1) | exact HB.out))) (fun k_ h_ => h_)) (Kd.R_lt (by (with_reducible repeat (first | apply Kd.R_alloc | apply Kd.R_drewN | apply Kd.R_drew)); exact HO306.out))) (below_size (by repeat (first | (with_reducible first | exact HB.out | apply below_alloc | apply pw_below_drewN | apply below_drew1) | exact HB.out)))); have n5_ := Aside0.mk (below_step (by repeat (first | (with_reducible first | exact HB.out | apply below_alloc | apply pw_below_drewN | apply below_drew1) | exact HB.out)) hb); clear HO_0; clear HO306; clear HO309; clear HO318; clear HB; have HO_0 := n0_; have HO306 := n1_; have HO309 := n2_; have HO318 := n3_; have HO322 := n4_; have HB := n5_; clear n0_ n1_ n2_ n3_ n4_ n5_; (try clear hb); (try clear hb2); (try clear hk); (try clear hi); (try clear ho0)))
                        go_ret
                        exact ⟨by first | rfl | (simp [errW_none, errW_some] <;> rfl) | (simp [*, errW_none, errW_some] <;> rfl), by repeat (first | (with_reducible first | exact HB.out | apply below_alloc | apply pw_below_drewN | apply below_drew1) | exact HB.out)⟩
                    · rw [if_neg c89] at H
                      exact absurd H (by simp)
                  · rw [if_neg c88] at H
                    exact absurd H (by simp)
  · replace c4 := Bool.eq_false_iff.mpr c4
    subst c4
    have H1 : (some false) = some r := by rw [if_neg (show ¬ (false = true) by decide)] at H; exact H
    clear H
    have H := H1
    clear H1
    obtain rfl := Option.some.inj H
    go_enter Tryd.func4, Tryd.ntmps4
    go_wp2_with (first | ((with_reducible refine gate_callee (f := 7) rfl ?_); refine goesL_ (some 10) rfl rfl Tryd.func7 (by kernel_rfl) rfl #[] rfl (by (try simp only [List.map_toArray, List.map_cons, List.map_nil]); first | done | rfl | (simp only [List.length_drop, List.length_take]; rfl)) ?_; (with_reducible refine (cellaretlaw19_awake.calls k  false _ ?side1 A3.out).mono ?_); (case side1 => exact HLD.below (by repeat (first | (with_reducible first | exact HB.out | apply below_alloc | apply pw_below_drewN | apply below_drew1) | exact HB.out))); rintro e w115 ⟨rfl, hb⟩; refine ⟨_, rfl, ?_⟩; have n0_ := Aside0.mk (Kd.V_below (by (with_reducible repeat (first | apply Kd.V_alloc | apply Kd.V_drewN | apply Kd.V_drew)); exact HO0.out) hb); have n1_ := Aside0.mk (below_step (by repeat (first | (with_reducible first | exact HB.out | apply below_alloc | apply pw_below_drewN | apply below_drew1) | exact HB.out)) hb); clear HO0; clear HB; have HO0 := n0_; have HB := n1_; clear n0_ n1_; (try clear hb); (try clear hb2); (try clear hk); (try clear hi)))
    go_ret
    exact ⟨by first | rfl | (simp [errW_none, errW_some] <;> rfl) | (simp [*, errW_none, errW_some] <;> rfl), by repeat (first | (with_reducible first | exact HB.out | apply below_alloc | apply pw_below_drewN | apply below_drew1) | exact HB.out)⟩

end Go.Proofs.YtgopcfkofjipjaaDoor.H
