/-
  Printed by this session's hybrid.py (it runs the kit's print over contracts of our own for library functions): plain functions with the answers of Go functions, and that the calls come to them. Their conditions stand in each head.
-/
import Derived.Test.YtolbbhpcajepnaaDoorHX0
import Derived.Test.YtolbbhpcajepnaaDoorHX9
import Derived.Test.YtolbbhpcajepnaaDoorHX14
namespace Go.Proofs.YtolbbhpcajepnaaDoor.H
open Go.RowKit Go.Proofs.YtolbbhpcajepnaaDoorW.PrintWords Go.Proofs.YtolbbhpcajepnaaDoorW.PrintLast Go.Proofs.YtolbbhpcajepnaaDoorW.PrintMore
attribute [local go_sem] max2_int min2_int max_two min_two max_three min_three max_four min_four   -- for this text's walks alone
set_option linter.unusedVariables false
set_option linter.unusedSimpArgs false

/-! ### cellaretlaw2_WordsJoined: function 10 -/
mutual
def cellaretlaw2_WordsJoined.j0 : Nat → ByteArray → ByteArray → Bool → Option (Bool)
  | 0, _, _, _ => none
  | k + 1, x0, x1, x18 => if x18 = true then (some true) else ((words_Split.f k x0).bind fun t235 => ((words_Split.f k x1).bind fun t238 => (if x0.size + 1 ≤ 9223372036854775807 then (if (x0 ++ (⟨#[32]⟩ : ByteArray)).size + x1.size ≤ 9223372036854775807 then ((words_Split.f k ((x0 ++ (⟨#[32]⟩ : ByteArray)) ++ x1)).bind fun t241 => (if (t241.length : Int) = (wrap64 ((t235.length : Int) + (t238.length : Int))) then (cellaretlaw2_WordsJoined.l0 k t235 t238 t241 0) else (some false))) else (none)) else (none))))
def cellaretlaw2_WordsJoined.l0 : Nat → List ByteArray → List ByteArray → List ByteArray → Int → Option (Bool)
  | 0, _, _, _, _ => none
  | k + 1, x5, x6, x7, x8 => if x8 < (x7.length : Int) then (if x8 < (x5.length : Int) then (if 0 ≤ x8 then (if (rdOf ByteArray.empty x7 x8).toList = (rdOf ByteArray.empty x5 x8).toList then (if x8 ≥ (x5.length : Int) then (if 0 ≤ (wrap64 (x8 - (x5.length : Int))) then (if (wrap64 (x8 - (x5.length : Int))) < (x6.length : Int) then (if (rdOf ByteArray.empty x7 x8).toList = (rdOf ByteArray.empty x6 (wrap64 (x8 - (x5.length : Int)))).toList then (cellaretlaw2_WordsJoined.l0 k x5 x6 x7 (wrap64 (x8 + 1))) else (some false)) else (none)) else (none)) else (cellaretlaw2_WordsJoined.l0 k x5 x6 x7 (wrap64 (x8 + 1)))) else (some false)) else (none)) else (if x8 ≥ (x5.length : Int) then (if 0 ≤ x8 then (if 0 ≤ (wrap64 (x8 - (x5.length : Int))) then (if (wrap64 (x8 - (x5.length : Int))) < (x6.length : Int) then (if (rdOf ByteArray.empty x7 x8).toList = (rdOf ByteArray.empty x6 (wrap64 (x8 - (x5.length : Int)))).toList then (cellaretlaw2_WordsJoined.l0 k x5 x6 x7 (wrap64 (x8 + 1))) else (some false)) else (none)) else (none)) else (none)) else (cellaretlaw2_WordsJoined.l0 k x5 x6 x7 (wrap64 (x8 + 1))))) else (some true)
end
def cellaretlaw2_WordsJoined.f (k : Nat) (a0 : ByteArray) (a1 : ByteArray) : Option (Bool) := (cellaretlaw2_awake.f k).bind fun t234 => (if t234 = true then (if (a0.size : Int) > 500 then (cellaretlaw2_WordsJoined.j0 k a0 a1 true) else (cellaretlaw2_WordsJoined.j0 k a0 a1 (decide ((a1.size : Int) > 500)))) else (some false))
theorem cellaretlaw2_WordsJoined.mono_l : ∀ k, (∀ y0 y1 y2, LeO (cellaretlaw2_WordsJoined.j0 k y0 y1 y2) (cellaretlaw2_WordsJoined.j0 (k + 1) y0 y1 y2)) ∧ (∀ y0 y1 y2 y3, LeO (cellaretlaw2_WordsJoined.l0 k y0 y1 y2 y3) (cellaretlaw2_WordsJoined.l0 (k + 1) y0 y1 y2 y3))
  | 0 => ⟨fun _ _ _ r h => by simp [cellaretlaw2_WordsJoined.j0] at h, fun _ _ _ _ r h => by simp [cellaretlaw2_WordsJoined.l0] at h⟩
  | k + 1 => by
    obtain ⟨ih0, ih1⟩ := cellaretlaw2_WordsJoined.mono_l k
    refine ⟨?_, ?_⟩
    · intro y0 y1 y2
      unfold cellaretlaw2_WordsJoined.j0
      repeat' first
      | (with_reducible exact ih0 _ _ _)
      | (with_reducible exact ih1 _ _ _ _)
      | (with_reducible exact cellaretlaw2_awake.mono _)
      | (with_reducible exact words_Split.mono _ _)
      | (with_reducible exact LeO.refl _)
      | (with_reducible exact LeO.none _)
      | (with_reducible refine LeO.ite ?_ ?_)
      | (with_reducible refine LeO.bind ?_ (fun _ => ?_))
      | exact ih0 _ _ _
      | exact ih1 _ _ _ _
      | exact cellaretlaw2_awake.mono _
      | exact words_Split.mono _ _
      | exact LeO.none _
      | refine LeO.ite ?_ ?_
      | refine LeO.bind ?_ (fun _ => ?_)
    · intro y0 y1 y2 y3
      unfold cellaretlaw2_WordsJoined.l0
      repeat' first
      | (with_reducible exact ih0 _ _ _)
      | (with_reducible exact ih1 _ _ _ _)
      | (with_reducible exact cellaretlaw2_awake.mono _)
      | (with_reducible exact words_Split.mono _ _)
      | (with_reducible exact LeO.refl _)
      | (with_reducible exact LeO.none _)
      | (with_reducible refine LeO.ite ?_ ?_)
      | (with_reducible refine LeO.bind ?_ (fun _ => ?_))
      | exact ih0 _ _ _
      | exact ih1 _ _ _ _
      | exact cellaretlaw2_awake.mono _
      | exact words_Split.mono _ _
      | exact LeO.none _
      | refine LeO.ite ?_ ?_
      | refine LeO.bind ?_ (fun _ => ?_)
theorem cellaretlaw2_WordsJoined.mono : ∀ a0 a1 k, LeO (cellaretlaw2_WordsJoined.f k a0 a1) (cellaretlaw2_WordsJoined.f (k + 1) a0 a1) := by
  intro a0 a1 k
  obtain ⟨ih0, ih1⟩ := cellaretlaw2_WordsJoined.mono_l k
  unfold cellaretlaw2_WordsJoined.f
  repeat' first
      | (with_reducible exact ih0 _ _ _)
      | (with_reducible exact ih1 _ _ _ _)
      | (with_reducible exact cellaretlaw2_awake.mono _)
      | (with_reducible exact words_Split.mono _ _)
      | (with_reducible exact LeO.refl _)
      | (with_reducible exact LeO.none _)
      | (with_reducible refine LeO.ite ?_ ?_)
      | (with_reducible refine LeO.bind ?_ (fun _ => ?_))
      | exact ih0 _ _ _
      | exact ih1 _ _ _ _
      | exact cellaretlaw2_awake.mono _
      | exact words_Split.mono _ _
      | exact LeO.none _
      | refine LeO.ite ?_ ?_
      | refine LeO.bind ?_ (fun _ => ?_)
set_option maxHeartbeats 8000000 in
set_option maxRecDepth 100000 in
theorem cellaretlaw2_WordsJoined.calls (k : Nat) (a0 : ByteArray) (a1 : ByteArray) (r : Bool) (w : World) (HLD : LaidA w) (h : cellaretlaw2_WordsJoined.f k a0 a1 = some r) :
    Calls Tryd.prog 10 #[.string a0, .string a1] w fun e w' => e = .returned (.bool r) ∧ Below w.heap.size w w' := by
  have HB := Aside0.mk (Below.refl w.heap.size w)
  have H : ((cellaretlaw2_awake.f k).bind fun t234 => (if t234 = true then (if (a0.size : Int) > 500 then (cellaretlaw2_WordsJoined.j0 k a0 a1 true) else (cellaretlaw2_WordsJoined.j0 k a0 a1 (decide ((a1.size : Int) > 500)))) else (some false))) = some r := h
  clear h
  replace H := Option.bind_eq_some_iff.mp H
  obtain ⟨t234, A30, H⟩ := H
  replace H : (if t234 = true then (if (a0.size : Int) > 500 then (cellaretlaw2_WordsJoined.j0 k a0 a1 true) else (cellaretlaw2_WordsJoined.j0 k a0 a1 (decide ((a1.size : Int) > 500)))) else (some false)) = some r := H
  have A3 := Aside0.mk A30
  clear A30
  by_cases c4 : t234 = true
  · subst c4
    have H1 : (if (a0.size : Int) > 500 then (cellaretlaw2_WordsJoined.j0 k a0 a1 true) else (cellaretlaw2_WordsJoined.j0 k a0 a1 (decide ((a1.size : Int) > 500)))) = some r := by rw [if_pos rfl] at H; exact H
    clear H
    have H := H1
    clear H1
    have HC5 := Aside0.mk H
    clear H
    go_enter Tryd.func10, Tryd.ntmps10
    go_upto_region 3 with (first | (go_at_call 13; (with_reducible refine (cellaretlaw2_awake.calls k  true _ ?side1 A3.out).mono ?_); (case side1 => exact HLD.below (by repeat (first | (with_reducible first | exact HB.out | apply below_alloc | apply pw_below_drewN | apply below_drew1) | exact HB.out))); rintro e w6 ⟨rfl, hb⟩; have n0_ := Aside0.mk (below_step (by repeat (first | (with_reducible first | exact HB.out | apply below_alloc | apply pw_below_drewN | apply below_drew1) | exact HB.out)) hb); clear HB; have HB := n0_; clear n0_; (try clear hb); (try clear hb2); (try clear hk); (try clear hi)))
    repeat (go_quiet (first | (go_at_call 13; (with_reducible refine (cellaretlaw2_awake.calls k  true _ ?side1 A3.out).mono ?_); (case side1 => exact HLD.below (by repeat (first | (with_reducible first | exact HB.out | apply below_alloc | apply pw_below_drewN | apply below_drew1) | exact HB.out))); rintro e w6 ⟨rfl, hb⟩; have n0_ := Aside0.mk (below_step (by repeat (first | (with_reducible first | exact HB.out | apply below_alloc | apply pw_below_drewN | apply below_drew1) | exact HB.out)) hb); clear HB; have HB := n0_; clear n0_; (try clear hb); (try clear hb2); (try clear hk); (try clear hi))); go_upto_region 3 with (first | (go_at_call 13; (with_reducible refine (cellaretlaw2_awake.calls k  true _ ?side1 A3.out).mono ?_); (case side1 => exact HLD.below (by repeat (first | (with_reducible first | exact HB.out | apply below_alloc | apply pw_below_drewN | apply below_drew1) | exact HB.out))); rintro e w6 ⟨rfl, hb⟩; have n0_ := Aside0.mk (below_step (by repeat (first | (with_reducible first | exact HB.out | apply below_alloc | apply pw_below_drewN | apply below_drew1) | exact HB.out)) hb); clear HB; have HB := n0_; clear n0_; (try clear hb); (try clear hb2); (try clear hk); (try clear hi))))
    (try simp only [Act.put, List.setIfInBounds_toArray, List.set_cons_zero, List.set_cons_succ])
    go_cut [18] (fun v18 wc => ∃ (kq : Nat) (x18_4 : Bool), v18 = .bool x18_4 ∧ Aside0 (cellaretlaw2_WordsJoined.j0 kq a0 a1 x18_4 = some r) ∧ Aside0 (kq ≤ k) ∧ Aside0 (Below w.heap.size w wc))
    case first =>
      have H := HC5.out
      clear HC5
      by_cases c7 : (a0.size : Int) > 500
      · rw [if_pos c7] at H
        have c7b0 : decide (500 < (a0.size : Int)) = true := decide_eq_true c7
        have c7b1 : decide (500 < a0.size) = true := decide_eq_true (by omega)
        clear c7
        (first | rw [c7b0] | (simp only [i64_w, i32_w]; rw [c7b0]) | skip)
        have H' := Aside0.mk H
        clear H
        go_wp2
        repeat (go_quiet (fail); try go_wp2)
        go_meet
        case rel => exact ⟨_, (true), (by first | rfl | (simp; done) | (simp [*]; done)), H', ⟨by first | omega | exact Nat.le_refl _⟩, ⟨by repeat (first | (with_reducible first | exact HB.out | apply below_alloc | apply pw_below_drewN | apply below_drew1) | exact HB.out)⟩⟩
      · rw [if_neg c7] at H
        have c7b0 : decide (500 < (a0.size : Int)) = false := decide_eq_false c7
        have c7b1 : decide (500 < a0.size) = false := decide_eq_false (by omega)
        clear c7
        (first | rw [c7b0] | (simp only [i64_w, i32_w]; rw [c7b0]) | skip)
        have H' := Aside0.mk H
        clear H
        go_wp2
        repeat (go_quiet (fail); try go_wp2)
        go_meet
        case rel => exact ⟨_, (decide ((a1.size : Int) > 500)), (by first | rfl | (simp; done) | (simp [*]; done)), H', ⟨by first | omega | exact Nat.le_refl _⟩, ⟨by repeat (first | (with_reducible first | exact HB.out | apply below_alloc | apply pw_below_drewN | apply below_drew1) | exact HB.out)⟩⟩
    case rest =>
      clear HC5
      try clear c1
      try clear p2
      try clear c4
      try clear c7
      try clear c7b0
      try clear c7b1
      obtain ⟨kq, x18_4, rfl, HA, HJ4, HB⟩ := hcut
      cases kq with
      | zero => exact absurd HA.out (by simp [cellaretlaw2_WordsJoined.j0])
      | succ kj4 =>
        have H := HA.out
        clear HA
        simp only [cellaretlaw2_WordsJoined.j0] at H
        by_cases c8 : x18_4 = true
        · subst c8
          have H1 : (some true) = some r := by rw [if_pos rfl] at H; exact H
          clear H
          have H := H1
          clear H1
          obtain rfl := Option.some.inj H
          go_wp2
          repeat (go_quiet (fail); try go_wp2)
          go_ret
          exact ⟨by first | rfl | (simp [errW_none, errW_some] <;> rfl) | (simp [*, errW_none, errW_some] <;> rfl), by repeat (first | (with_reducible first | exact HB.out | apply below_alloc | apply pw_below_drewN | apply below_drew1) | exact HB.out)⟩
        · replace c8 := Bool.eq_false_iff.mpr c8
          subst c8
          have H1 : ((words_Split.f kj4 a0).bind fun t235 => ((words_Split.f kj4 a1).bind fun t238 => (if a0.size + 1 ≤ 9223372036854775807 then (if (a0 ++ (⟨#[32]⟩ : ByteArray)).size + a1.size ≤ 9223372036854775807 then ((words_Split.f kj4 ((a0 ++ (⟨#[32]⟩ : ByteArray)) ++ a1)).bind fun t241 => (if (t241.length : Int) = (wrap64 ((t235.length : Int) + (t238.length : Int))) then (cellaretlaw2_WordsJoined.l0 kj4 t235 t238 t241 0) else (some false))) else (none)) else (none)))) = some r := by rw [if_neg (show ¬ (false = true) by decide)] at H; exact H
          clear H
          have H := H1
          clear H1
          replace H := Option.bind_eq_some_iff.mp H
          obtain ⟨t235, A90, H⟩ := H
          replace H : ((words_Split.f kj4 a1).bind fun t238 => (if a0.size + 1 ≤ 9223372036854775807 then (if (a0 ++ (⟨#[32]⟩ : ByteArray)).size + a1.size ≤ 9223372036854775807 then ((words_Split.f kj4 ((a0 ++ (⟨#[32]⟩ : ByteArray)) ++ a1)).bind fun t241 => (if (t241.length : Int) = (wrap64 ((t235.length : Int) + (t238.length : Int))) then (cellaretlaw2_WordsJoined.l0 kj4 t235 t238 t241 0) else (some false))) else (none)) else (none))) = some r := H
          have A9 := Aside0.mk A90
          clear A90
          replace H := Option.bind_eq_some_iff.mp H
          obtain ⟨t238, A100, H⟩ := H
          replace H : (if a0.size + 1 ≤ 9223372036854775807 then (if (a0 ++ (⟨#[32]⟩ : ByteArray)).size + a1.size ≤ 9223372036854775807 then ((words_Split.f kj4 ((a0 ++ (⟨#[32]⟩ : ByteArray)) ++ a1)).bind fun t241 => (if (t241.length : Int) = (wrap64 ((t235.length : Int) + (t238.length : Int))) then (cellaretlaw2_WordsJoined.l0 kj4 t235 t238 t241 0) else (some false))) else (none)) else (none)) = some r := H
          have A10 := Aside0.mk A100
          clear A100
          by_cases c11 : a0.size + 1 ≤ 9223372036854775807
          · rw [if_pos c11] at H
            have c11b0 := eq_true c11
            have c11b1 : decide (a0.size + 1 ≤ 9223372036854775807) = true := decide_eq_true c11
            try have c11b2 : (9223372036854775807 < a0.size + 1) = False := eq_false (Nat.not_lt.2 c11)
            by_cases c12 : (a0 ++ (⟨#[32]⟩ : ByteArray)).size + a1.size ≤ 9223372036854775807
            · rw [if_pos c12] at H
              have c12b0 := eq_true c12
              have c12b1 : decide ((a0 ++ (⟨#[32]⟩ : ByteArray)).size + a1.size ≤ 9223372036854775807) = true := decide_eq_true c12
              try have c12b2 : (9223372036854775807 < (a0 ++ (⟨#[32]⟩ : ByteArray)).size + a1.size) = False := eq_false (Nat.not_lt.2 c12)
              replace H := Option.bind_eq_some_iff.mp H
              obtain ⟨t241, A130, H⟩ := H
              replace H : (if (t241.length : Int) = (wrap64 ((t235.length : Int) + (t238.length : Int))) then (cellaretlaw2_WordsJoined.l0 kj4 t235 t238 t241 0) else (some false)) = some r := H
              have A13 := Aside0.mk A130
              clear A130
              by_cases c14 : (t241.length : Int) = (wrap64 ((t235.length : Int) + (t238.length : Int)))
              · rw [if_pos c14] at H
                have c14b0 : ((t241.length : Int) == (wrap64 ((t235.length : Int) + (t238.length : Int)))) = true := beq_iff_eq.mpr c14
                have c14b1 : ((t241.length : Int) != (wrap64 ((t235.length : Int) + (t238.length : Int)))) = false := bne_eq_false_iff_eq.mpr c14
                clear c14
                have H' := Aside0.mk H
                clear H
                go_wp2_with (first | (go_at_call 17; (with_reducible refine (words_Split.calls kj4 a0 t235 _ ?side1 A9.out).mono ?_); (case side1 => exact HLD.below (by repeat (first | (with_reducible first | exact HB.out | apply below_alloc | apply pw_below_drewN | apply below_drew1) | exact HB.out))); rintro e w15 ⟨v236, rfl, ho0, hb⟩; have n0_ := Aside0.mk (Kd.R_lower ho0 (below_size (by repeat (first | (with_reducible first | exact HB.out | apply below_alloc | apply pw_below_drewN | apply below_drew1) | exact HB.out)))); have n1_ := Aside0.mk (below_step (by repeat (first | (with_reducible first | exact HB.out | apply below_alloc | apply pw_below_drewN | apply below_drew1) | exact HB.out)) hb); clear HB; have HO237 := n0_; have HB := n1_; clear n0_ n1_; (try clear hb); (try clear hb2); (try clear hk); (try clear hi); (try clear ho0)) | (go_at_call 17; (with_reducible refine (words_Split.calls kj4 a1 t238 _ ?side1 A10.out).mono ?_); (case side1 => exact HLD.below (by repeat (first | (with_reducible first | exact HB.out | apply below_alloc | apply pw_below_drewN | apply below_drew1) | exact HB.out))); rintro e w16 ⟨v239, rfl, ho0, hb⟩; have n0_ := Aside0.mk (Kd.R_elder' (by (with_reducible repeat (first | apply Kd.R_alloc | apply Kd.R_drewN | apply Kd.R_drew)); exact HO237.out) (Kd.R_base ho0) hb); have n1_ := Aside0.mk (Kd.R_lower (Kd.R_new' ho0 (Kd.R_lt (by (with_reducible repeat (first | apply Kd.R_alloc | apply Kd.R_drewN | apply Kd.R_drew)); exact HO237.out))) (below_size (by repeat (first | (with_reducible first | exact HB.out | apply below_alloc | apply pw_below_drewN | apply below_drew1) | exact HB.out)))); have n2_ := Aside0.mk (below_step (by repeat (first | (with_reducible first | exact HB.out | apply below_alloc | apply pw_below_drewN | apply below_drew1) | exact HB.out)) hb); clear HO237; clear HB; have HO237 := n0_; have HO240 := n1_; have HB := n2_; clear n0_ n1_ n2_; (try clear hb); (try clear hb2); (try clear hk); (try clear hi); (try clear ho0)) | (go_at_call 17; (with_reducible refine (words_Split.calls kj4 ((a0 ++ (⟨#[32]⟩ : ByteArray)) ++ a1) t241 _ ?side1 A13.out).mono ?_); (case side1 => exact HLD.below (by repeat (first | (with_reducible first | exact HB.out | apply below_alloc | apply pw_below_drewN | apply below_drew1) | exact HB.out))); rintro e w17 ⟨v242, rfl, ho0, hb⟩; have n0_ := Aside0.mk (Kd.R_elder' (by (with_reducible repeat (first | apply Kd.R_alloc | apply Kd.R_drewN | apply Kd.R_drew)); exact HO237.out) (Kd.R_base ho0) hb); have n1_ := Aside0.mk (Kd.R_elder' (by (with_reducible repeat (first | apply Kd.R_alloc | apply Kd.R_drewN | apply Kd.R_drew)); exact HO240.out) (Kd.R_base ho0) hb); have n2_ := Aside0.mk (Kd.R_lower (Kd.R_new' (Kd.R_new' ho0 (Kd.R_lt (by (with_reducible repeat (first | apply Kd.R_alloc | apply Kd.R_drewN | apply Kd.R_drew)); exact HO237.out))) (Kd.R_lt (by (with_reducible repeat (first | apply Kd.R_alloc | apply Kd.R_drewN | apply Kd.R_drew)); exact HO240.out))) (below_size (by repeat (first | (with_reducible first | exact HB.out | apply below_alloc | apply pw_below_drewN | apply below_drew1) | exact HB.out)))); have n3_ := Aside0.mk (below_step (by repeat (first | (with_reducible first | exact HB.out | apply below_alloc | apply pw_below_drewN | apply below_drew1) | exact HB.out)) hb); clear HO237; clear HO240; clear HB; have HO237 := n0_; have HO240 := n1_; have HO243 := n2_; have HB := n3_; clear n0_ n1_ n2_ n3_; (try clear hb); (try clear hb2); (try clear hk); (try clear hi); (try clear ho0); obtain ⟨Ao18, co18, eo18⟩ := Kd.R_slice HO243.out; subst eo18; obtain ⟨Ao19, co19, eo19⟩ := Kd.R_slice HO237.out; subst eo19; obtain ⟨Ao20, co20, eo20⟩ := Kd.R_slice HO240.out; subst eo20))
                repeat (go_quiet (first | (go_at_call 17; (with_reducible refine (words_Split.calls kj4 a0 t235 _ ?side1 A9.out).mono ?_); (case side1 => exact HLD.below (by repeat (first | (with_reducible first | exact HB.out | apply below_alloc | apply pw_below_drewN | apply below_drew1) | exact HB.out))); rintro e w15 ⟨v236, rfl, ho0, hb⟩; have n0_ := Aside0.mk (Kd.R_lower ho0 (below_size (by repeat (first | (with_reducible first | exact HB.out | apply below_alloc | apply pw_below_drewN | apply below_drew1) | exact HB.out)))); have n1_ := Aside0.mk (below_step (by repeat (first | (with_reducible first | exact HB.out | apply below_alloc | apply pw_below_drewN | apply below_drew1) | exact HB.out)) hb); clear HB; have HO237 := n0_; have HB := n1_; clear n0_ n1_; (try clear hb); (try clear hb2); (try clear hk); (try clear hi); (try clear ho0)) | (go_at_call 17; (with_reducible refine (words_Split.calls kj4 a1 t238 _ ?side1 A10.out).mono ?_); (case side1 => exact HLD.below (by repeat (first | (with_reducible first | exact HB.out | apply below_alloc | apply pw_below_drewN | apply below_drew1) | exact HB.out))); rintro e w16 ⟨v239, rfl, ho0, hb⟩; have n0_ := Aside0.mk (Kd.R_elder' (by (with_reducible repeat (first | apply Kd.R_alloc | apply Kd.R_drewN | apply Kd.R_drew)); exact HO237.out) (Kd.R_base ho0) hb); have n1_ := Aside0.mk (Kd.R_lower (Kd.R_new' ho0 (Kd.R_lt (by (with_reducible repeat (first | apply Kd.R_alloc | apply Kd.R_drewN | apply Kd.R_drew)); exact HO237.out))) (below_size (by repeat (first | (with_reducible first | exact HB.out | apply below_alloc | apply pw_below_drewN | apply below_drew1) | exact HB.out)))); have n2_ := Aside0.mk (below_step (by repeat (first | (with_reducible first | exact HB.out | apply below_alloc | apply pw_below_drewN | apply below_drew1) | exact HB.out)) hb); clear HO237; clear HB; have HO237 := n0_; have HO240 := n1_; have HB := n2_; clear n0_ n1_ n2_; (try clear hb); (try clear hb2); (try clear hk); (try clear hi); (try clear ho0)) | (go_at_call 17; (with_reducible refine (words_Split.calls kj4 ((a0 ++ (⟨#[32]⟩ : ByteArray)) ++ a1) t241 _ ?side1 A13.out).mono ?_); (case side1 => exact HLD.below (by repeat (first | (with_reducible first | exact HB.out | apply below_alloc | apply pw_below_drewN | apply below_drew1) | exact HB.out))); rintro e w17 ⟨v242, rfl, ho0, hb⟩; have n0_ := Aside0.mk (Kd.R_elder' (by (with_reducible repeat (first | apply Kd.R_alloc | apply Kd.R_drewN | apply Kd.R_drew)); exact HO237.out) (Kd.R_base ho0) hb); have n1_ := Aside0.mk (Kd.R_elder' (by (with_reducible repeat (first | apply Kd.R_alloc | apply Kd.R_drewN | apply Kd.R_drew)); exact HO240.out) (Kd.R_base ho0) hb); have n2_ := Aside0.mk (Kd.R_lower (Kd.R_new' (Kd.R_new' ho0 (Kd.R_lt (by (with_reducible repeat (first | apply Kd.R_alloc | apply Kd.R_drewN | apply Kd.R_drew)); exact HO237.out))) (Kd.R_lt (by (with_reducible repeat (first | apply Kd.R_alloc | apply Kd.R_drewN | apply Kd.R_drew)); exact HO240.out))) (below_size (by repeat (first | (with_reducible first | exact HB.out | apply below_alloc | apply pw_below_drewN | apply below_drew1) | exact HB.out)))); have n3_ := Aside0.mk (below_step (by repeat (first | (with_reducible first | exact HB.out | apply below_alloc | apply pw_below_drewN | apply below_drew1) | exact HB.out)) hb); clear HO237; clear HO240; clear HB; have HO237 := n0_; have HO240 := n1_; have HO243 := n2_; have HB := n3_; clear n0_ n1_ n2_ n3_; (try clear hb); (try clear hb2); (try clear hk); (try clear hi); (try clear ho0); obtain ⟨Ao18, co18, eo18⟩ := Kd.R_slice HO243.out; subst eo18; obtain ⟨Ao19, co19, eo19⟩ := Kd.R_slice HO237.out; subst eo19; obtain ⟨Ao20, co20, eo20⟩ := Kd.R_slice HO240.out; subst eo20)); try go_wp2_with (first | (go_at_call 17; (with_reducible refine (words_Split.calls kj4 a0 t235 _ ?side1 A9.out).mono ?_); (case side1 => exact HLD.below (by repeat (first | (with_reducible first | exact HB.out | apply below_alloc | apply pw_below_drewN | apply below_drew1) | exact HB.out))); rintro e w15 ⟨v236, rfl, ho0, hb⟩; have n0_ := Aside0.mk (Kd.R_lower ho0 (below_size (by repeat (first | (with_reducible first | exact HB.out | apply below_alloc | apply pw_below_drewN | apply below_drew1) | exact HB.out)))); have n1_ := Aside0.mk (below_step (by repeat (first | (with_reducible first | exact HB.out | apply below_alloc | apply pw_below_drewN | apply below_drew1) | exact HB.out)) hb); clear HB; have HO237 := n0_; have HB := n1_; clear n0_ n1_; (try clear hb); (try clear hb2); (try clear hk); (try clear hi); (try clear ho0)) | (go_at_call 17; (with_reducible refine (words_Split.calls kj4 a1 t238 _ ?side1 A10.out).mono ?_); (case side1 => exact HLD.below (by repeat (first | (with_reducible first | exact HB.out | apply below_alloc | apply pw_below_drewN | apply below_drew1) | exact HB.out))); rintro e w16 ⟨v239, rfl, ho0, hb⟩; have n0_ := Aside0.mk (Kd.R_elder' (by (with_reducible repeat (first | apply Kd.R_alloc | apply Kd.R_drewN | apply Kd.R_drew)); exact HO237.out) (Kd.R_base ho0) hb); have n1_ := Aside0.mk (Kd.R_lower (Kd.R_new' ho0 (Kd.R_lt (by (with_reducible repeat (first | apply Kd.R_alloc | apply Kd.R_drewN | apply Kd.R_drew)); exact HO237.out))) (below_size (by repeat (first | (with_reducible first | exact HB.out | apply below_alloc | apply pw_below_drewN | apply below_drew1) | exact HB.out)))); have n2_ := Aside0.mk (below_step (by repeat (first | (with_reducible first | exact HB.out | apply below_alloc | apply pw_below_drewN | apply below_drew1) | exact HB.out)) hb); clear HO237; clear HB; have HO237 := n0_; have HO240 := n1_; have HB := n2_; clear n0_ n1_ n2_; (try clear hb); (try clear hb2); (try clear hk); (try clear hi); (try clear ho0)) | (go_at_call 17; (with_reducible refine (words_Split.calls kj4 ((a0 ++ (⟨#[32]⟩ : ByteArray)) ++ a1) t241 _ ?side1 A13.out).mono ?_); (case side1 => exact HLD.below (by repeat (first | (with_reducible first | exact HB.out | apply below_alloc | apply pw_below_drewN | apply below_drew1) | exact HB.out))); rintro e w17 ⟨v242, rfl, ho0, hb⟩; have n0_ := Aside0.mk (Kd.R_elder' (by (with_reducible repeat (first | apply Kd.R_alloc | apply Kd.R_drewN | apply Kd.R_drew)); exact HO237.out) (Kd.R_base ho0) hb); have n1_ := Aside0.mk (Kd.R_elder' (by (with_reducible repeat (first | apply Kd.R_alloc | apply Kd.R_drewN | apply Kd.R_drew)); exact HO240.out) (Kd.R_base ho0) hb); have n2_ := Aside0.mk (Kd.R_lower (Kd.R_new' (Kd.R_new' ho0 (Kd.R_lt (by (with_reducible repeat (first | apply Kd.R_alloc | apply Kd.R_drewN | apply Kd.R_drew)); exact HO237.out))) (Kd.R_lt (by (with_reducible repeat (first | apply Kd.R_alloc | apply Kd.R_drewN | apply Kd.R_drew)); exact HO240.out))) (below_size (by repeat (first | (with_reducible first | exact HB.out | apply below_alloc | apply pw_below_drewN | apply below_drew1) | exact HB.out)))); have n3_ := Aside0.mk (below_step (by repeat (first | (with_reducible first | exact HB.out | apply below_alloc | apply pw_below_drewN | apply below_drew1) | exact HB.out)) hb); clear HO237; clear HO240; clear HB; have HO237 := n0_; have HO240 := n1_; have HO243 := n2_; have HB := n3_; clear n0_ n1_ n2_ n3_; (try clear hb); (try clear hb2); (try clear hk); (try clear hi); (try clear ho0); obtain ⟨Ao18, co18, eo18⟩ := Kd.R_slice HO243.out; subst eo18; obtain ⟨Ao19, co19, eo19⟩ := Kd.R_slice HO237.out; subst eo19; obtain ⟨Ao20, co20, eo20⟩ := Kd.R_slice HO240.out; subst eo20)))
                go_loopg [8] kj4 (fun kq v8 w' => ∃ (x8_2 : Int), v8 = .int .i64 x8_2 ∧ Aside0 (cellaretlaw2_WordsJoined.l0 kq t235 t238 t241 x8_2 = some r) ∧ Aside0 (kq ≤ kj4) ∧ Aside0 (Kd.R Kd.string 9 w' w.heap.size (fun k_ => some k_ ≠ ((.slice Ao20 t238.length co20) : Value).ownBlock ∧ some k_ ≠ ((.slice Ao18 t241.length co18) : Value).ownBlock) (.slice Ao19 t235.length co19) t235) ∧ Aside0 (Kd.R Kd.string 9 w' w.heap.size (fun k_ => some k_ ≠ ((.slice Ao19 t235.length co19) : Value).ownBlock ∧ some k_ ≠ ((.slice Ao18 t241.length co18) : Value).ownBlock) (.slice Ao20 t238.length co20) t238) ∧ Aside0 (Kd.R Kd.string 9 w' w.heap.size (fun k_ => some k_ ≠ ((.slice Ao19 t235.length co19) : Value).ownBlock ∧ some k_ ≠ ((.slice Ao20 t238.length co20) : Value).ownBlock) (.slice Ao18 t241.length co18) t241) ∧ Aside0 (Below w.heap.size w w'))
                case atStart => exact ⟨(0), (by first | rfl | (simp; done) | (simp [*]; done)), H', ⟨Nat.le_refl _⟩, ⟨by (with_reducible repeat (first | apply Kd.R_alloc | apply Kd.R_drewN | apply Kd.R_drew)); exact Kd.R_mono HO237.out (fun _ hk => ⟨hk.1.2, hk.2⟩)⟩, ⟨by (with_reducible repeat (first | apply Kd.R_alloc | apply Kd.R_drewN | apply Kd.R_drew)); exact Kd.R_mono HO240.out (fun _ hk => ⟨hk.1.2, hk.2⟩)⟩, ⟨by (with_reducible repeat (first | apply Kd.R_alloc | apply Kd.R_drewN | apply Kd.R_drew)); exact Kd.R_mono HO243.out (fun _ hk => ⟨hk.1.2, hk.2⟩)⟩, ⟨by repeat (first | (with_reducible first | exact HB.out | apply below_alloc | apply pw_below_drewN | apply below_drew1) | exact HB.out)⟩⟩
                case round =>
                  clear H'
                  try clear c1
                  try clear p2
                  try clear c4
                  try clear p6
                  try clear c7
                  try clear c7b0
                  try clear c7b1
                  try clear c8
                  try clear c10
                  try clear c11
                  try clear c11b0
                  try clear c11b1
                  try clear c11b2
                  try clear c12
                  try clear c12b0
                  try clear c12b1
                  try clear c12b2
                  try clear c14
                  try clear c14b0
                  try clear c14b1
                  try clear p2
                  obtain ⟨x8_2, rfl, HA, HK2, HO_5, HO_6, HO_7, HB⟩ := hrel
                  cases gk with
                  | zero => exact absurd HA.out (by simp [cellaretlaw2_WordsJoined.l0])
                  | succ k2 =>
                    have H := HA.out
                    clear HA
                    simp only [cellaretlaw2_WordsJoined.l0] at H
                    by_cases c21 : x8_2 < (t241.length : Int)
                    · rw [if_pos c21] at H
                      have c21b0 : decide (x8_2 < (t241.length : Int)) = true := decide_eq_true c21
                      clear c21
                      by_cases c22 : x8_2 < (t235.length : Int)
                      · rw [if_pos c22] at H
                        have c22b0 : decide (x8_2 < (t235.length : Int)) = true := decide_eq_true c22
                        clear c22
                        by_cases c23 : 0 ≤ x8_2
                        · rw [if_pos c23] at H
                          have c23b0 : decide (0 ≤ x8_2) = true := decide_eq_true c23
                          clear c23
                          by_cases c24 : (rdOf ByteArray.empty t241 x8_2).toList = (rdOf ByteArray.empty t235 x8_2).toList
                          · rw [if_pos c24] at H
                            have c24b0 : ((rdOf ByteArray.empty t241 x8_2).toList == (rdOf ByteArray.empty t235 x8_2).toList) = true := beq_iff_eq.mpr c24
                            have c24b1 : ((rdOf ByteArray.empty t241 x8_2).toList != (rdOf ByteArray.empty t235 x8_2).toList) = false := bne_eq_false_iff_eq.mpr c24
                            clear c24
                            by_cases c25 : x8_2 ≥ (t235.length : Int)
                            · rw [if_pos c25] at H
                              have c25b0 : decide ((t235.length : Int) ≤ x8_2) = true := decide_eq_true c25
                              clear c25
                              obtain ⟨ji26, hji26⟩ : ∃ j_ : Int, (wrap64 (x8_2 - (t235.length : Int))) = j_ := ⟨_, rfl⟩
                              replace H : (if 0 ≤ (ji26) then (if (ji26) < (t238.length : Int) then (if (rdOf ByteArray.empty t241 x8_2).toList = (rdOf ByteArray.empty t238 (ji26)).toList then (cellaretlaw2_WordsJoined.l0 k2 t235 t238 t241 (wrap64 (x8_2 + 1))) else (some false)) else (none)) else (none)) = some r := by first | (rw [hji26] at H; exact H) | (simp only [hji26] at H ⊢; exact H)
                              have hji26w : (IntKind.i64.wrap (x8_2 - (t235.length : Int))) = ji26 := (i64_w _).trans hji26
                              by_cases c27 : 0 ≤ (ji26)
                              · rw [if_pos c27] at H
                                have c27b0 : decide (0 ≤ (ji26)) = true := decide_eq_true c27
                                clear c27
                                by_cases c28 : (ji26) < (t238.length : Int)
                                · rw [if_pos c28] at H
                                  have c28b0 : decide ((ji26) < (t238.length : Int)) = true := decide_eq_true c28
                                  clear c28
                                  by_cases c29 : (rdOf ByteArray.empty t241 x8_2).toList = (rdOf ByteArray.empty t238 (ji26)).toList
                                  · rw [if_pos c29] at H
                                    have c29b0 : ((rdOf ByteArray.empty t241 x8_2).toList == (rdOf ByteArray.empty t238 (ji26)).toList) = true := beq_iff_eq.mpr c29
                                    have c29b1 : ((rdOf ByteArray.empty t241 x8_2).toList != (rdOf ByteArray.empty t238 (ji26)).toList) = false := bne_eq_false_iff_eq.mpr c29
                                    clear c29
                                    have H' := Aside0.mk H
                                    clear H
                                    have p244 : 0 ≤ (x8_2 : Int) := of_decide_eq_true (by first | (with_reducible assumption) | assumption)
                                    have q244 : x8_2 < (t241.length : Int) := of_decide_eq_true (by first | (with_reducible assumption) | assumption)
                                    obtain ⟨ad244, e244, hx244_0⟩ := Kd.at_string (Kd.R_reads' HO_7.out).2.2 x8_2 p244 q244
                                    cases e244
                                    replace p244 := eq_true p244
                                    replace q244 := eq_true q244
                                    have p245 : 0 ≤ (x8_2 : Int) := of_decide_eq_true (by first | (with_reducible assumption) | assumption)
                                    have q245 : x8_2 < (t235.length : Int) := of_decide_eq_true (by first | (with_reducible assumption) | assumption)
                                    obtain ⟨ad245, e245, hx245_0⟩ := Kd.at_string (Kd.R_reads' HO_5.out).2.2 x8_2 p245 q245
                                    cases e245
                                    replace p245 := eq_true p245
                                    replace q245 := eq_true q245
                                    have p246 : 0 ≤ (x8_2 : Int) := of_decide_eq_true (by first | (with_reducible assumption) | assumption)
                                    have q246 : x8_2 < (t241.length : Int) := of_decide_eq_true (by first | (with_reducible assumption) | assumption)
                                    obtain ⟨ad246, e246, hx246_0⟩ := Kd.at_string (Kd.R_reads' HO_7.out).2.2 x8_2 p246 q246
                                    obtain rfl : ad244 = ad246 := (by injection e246)
                                    replace p246 := eq_true p246
                                    replace q246 := eq_true q246
                                    have p247 : 0 ≤ ((ji26) : Int) := of_decide_eq_true (by first | (with_reducible assumption) | assumption)
                                    have q247 : (ji26) < (t238.length : Int) := of_decide_eq_true (by first | (with_reducible assumption) | assumption)
                                    obtain ⟨ad247, e247, hx247_0⟩ := Kd.at_string (Kd.R_reads' HO_6.out).2.2 (ji26) p247 q247
                                    cases e247
                                    replace p247 := eq_true p247
                                    replace q247 := eq_true q247
                                    go_wp2
                                    repeat (go_quiet (fail); try go_wp2)
                                    go_roundg k2
                                    case measure => have := HJ4.out; have := HK2.out; omega
                                    case rel => exact ⟨(wrap64 (x8_2 + 1)), (by first | rfl | (simp; done) | (simp [*]; done)), H', ⟨by have := HJ4.out; have := HK2.out; omega⟩, ⟨by (with_reducible repeat (first | apply Kd.R_alloc | apply Kd.R_drewN | apply Kd.R_drew)); exact HO_5.out⟩, ⟨by (with_reducible repeat (first | apply Kd.R_alloc | apply Kd.R_drewN | apply Kd.R_drew)); exact HO_6.out⟩, ⟨by (with_reducible repeat (first | apply Kd.R_alloc | apply Kd.R_drewN | apply Kd.R_drew)); exact HO_7.out⟩, ⟨by repeat (first | (with_reducible first | exact HB.out | apply below_alloc | apply pw_below_drewN | apply below_drew1) | exact HB.out)⟩⟩
                                  · rw [if_neg c29] at H
                                    have c29b0 : ((rdOf ByteArray.empty t241 x8_2).toList == (rdOf ByteArray.empty t238 (ji26)).toList) = false := beq_eq_false_iff_ne.mpr c29
                                    have c29b1 : ((rdOf ByteArray.empty t241 x8_2).toList != (rdOf ByteArray.empty t238 (ji26)).toList) = true := bne_iff_ne.mpr c29
                                    obtain rfl := Option.some.inj H
                                    have p244 : 0 ≤ (x8_2 : Int) := of_decide_eq_true (by first | (with_reducible assumption) | assumption)
                                    have q244 : x8_2 < (t241.length : Int) := of_decide_eq_true (by first | (with_reducible assumption) | assumption)
                                    obtain ⟨ad244, e244, hx244_0⟩ := Kd.at_string (Kd.R_reads' HO_7.out).2.2 x8_2 p244 q244
                                    cases e244
                                    replace p244 := eq_true p244
                                    replace q244 := eq_true q244
                                    have p245 : 0 ≤ (x8_2 : Int) := of_decide_eq_true (by first | (with_reducible assumption) | assumption)
                                    have q245 : x8_2 < (t235.length : Int) := of_decide_eq_true (by first | (with_reducible assumption) | assumption)
                                    obtain ⟨ad245, e245, hx245_0⟩ := Kd.at_string (Kd.R_reads' HO_5.out).2.2 x8_2 p245 q245
                                    cases e245
                                    replace p245 := eq_true p245
                                    replace q245 := eq_true q245
                                    have p246 : 0 ≤ (x8_2 : Int) := of_decide_eq_true (by first | (with_reducible assumption) | assumption)
                                    have q246 : x8_2 < (t241.length : Int) := of_decide_eq_true (by first | (with_reducible assumption) | assumption)
                                    obtain ⟨ad246, e246, hx246_0⟩ := Kd.at_string (Kd.R_reads' HO_7.out).2.2 x8_2 p246 q246
                                    obtain rfl : ad244 = ad246 := (by injection e246)
                                    replace p246 := eq_true p246
                                    replace q246 := eq_true q246
                                    have p247 : 0 ≤ ((ji26) : Int) := of_decide_eq_true (by first | (with_reducible assumption) | assumption)
                                    have q247 : (ji26) < (t238.length : Int) := of_decide_eq_true (by first | (with_reducible assumption) | assumption)
                                    obtain ⟨ad247, e247, hx247_0⟩ := Kd.at_string (Kd.R_reads' HO_6.out).2.2 (ji26) p247 q247
                                    cases e247
                                    replace p247 := eq_true p247
                                    replace q247 := eq_true q247
                                    go_wp2
                                    repeat (go_quiet (fail); try go_wp2)
                                    go_ret
                                    exact ⟨by first | rfl | (simp [errW_none, errW_some] <;> rfl) | (simp only [← hji26]; first | rfl | (simp [errW_none, errW_some] <;> rfl)) | (simp [*, errW_none, errW_some] <;> rfl), by repeat (first | (with_reducible first | exact HB.out | apply below_alloc | apply pw_below_drewN | apply below_drew1) | exact HB.out)⟩
                                · rw [if_neg c28] at H
                                  exact absurd H (by simp)
                              · rw [if_neg c27] at H
                                exact absurd H (by simp)
                            · rw [if_neg c25] at H
                              have c25b0 : decide ((t235.length : Int) ≤ x8_2) = false := decide_eq_false c25
                              clear c25
                              have H' := Aside0.mk H
                              clear H
                              have p244 : 0 ≤ (x8_2 : Int) := of_decide_eq_true (by first | (with_reducible assumption) | assumption)
                              have q244 : x8_2 < (t241.length : Int) := of_decide_eq_true (by first | (with_reducible assumption) | assumption)
                              obtain ⟨ad244, e244, hx244_0⟩ := Kd.at_string (Kd.R_reads' HO_7.out).2.2 x8_2 p244 q244
                              cases e244
                              replace p244 := eq_true p244
                              replace q244 := eq_true q244
                              have p245 : 0 ≤ (x8_2 : Int) := of_decide_eq_true (by first | (with_reducible assumption) | assumption)
                              have q245 : x8_2 < (t235.length : Int) := of_decide_eq_true (by first | (with_reducible assumption) | assumption)
                              obtain ⟨ad245, e245, hx245_0⟩ := Kd.at_string (Kd.R_reads' HO_5.out).2.2 x8_2 p245 q245
                              cases e245
                              replace p245 := eq_true p245
                              replace q245 := eq_true q245
                              go_wp2
                              repeat (go_quiet (fail); try go_wp2)
                              go_roundg k2
                              case measure => have := HJ4.out; have := HK2.out; omega
                              case rel => exact ⟨(wrap64 (x8_2 + 1)), (by first | rfl | (simp; done) | (simp [*]; done)), H', ⟨by have := HJ4.out; have := HK2.out; omega⟩, ⟨by (with_reducible repeat (first | apply Kd.R_alloc | apply Kd.R_drewN | apply Kd.R_drew)); exact HO_5.out⟩, ⟨by (with_reducible repeat (first | apply Kd.R_alloc | apply Kd.R_drewN | apply Kd.R_drew)); exact HO_6.out⟩, ⟨by (with_reducible repeat (first | apply Kd.R_alloc | apply Kd.R_drewN | apply Kd.R_drew)); exact HO_7.out⟩, ⟨by repeat (first | (with_reducible first | exact HB.out | apply below_alloc | apply pw_below_drewN | apply below_drew1) | exact HB.out)⟩⟩
                          · rw [if_neg c24] at H
                            have c24b0 : ((rdOf ByteArray.empty t241 x8_2).toList == (rdOf ByteArray.empty t235 x8_2).toList) = false := beq_eq_false_iff_ne.mpr c24
                            have c24b1 : ((rdOf ByteArray.empty t241 x8_2).toList != (rdOf ByteArray.empty t235 x8_2).toList) = true := bne_iff_ne.mpr c24
                            obtain rfl := Option.some.inj H
                            have p244 : 0 ≤ (x8_2 : Int) := of_decide_eq_true (by first | (with_reducible assumption) | assumption)
                            have q244 : x8_2 < (t241.length : Int) := of_decide_eq_true (by first | (with_reducible assumption) | assumption)
                            obtain ⟨ad244, e244, hx244_0⟩ := Kd.at_string (Kd.R_reads' HO_7.out).2.2 x8_2 p244 q244
                            cases e244
                            replace p244 := eq_true p244
                            replace q244 := eq_true q244
                            have p245 : 0 ≤ (x8_2 : Int) := of_decide_eq_true (by first | (with_reducible assumption) | assumption)
                            have q245 : x8_2 < (t235.length : Int) := of_decide_eq_true (by first | (with_reducible assumption) | assumption)
                            obtain ⟨ad245, e245, hx245_0⟩ := Kd.at_string (Kd.R_reads' HO_5.out).2.2 x8_2 p245 q245
                            cases e245
                            replace p245 := eq_true p245
                            replace q245 := eq_true q245
                            go_wp2
                            repeat (go_quiet (fail); try go_wp2)
                            go_ret
                            exact ⟨by first | rfl | (simp [errW_none, errW_some] <;> rfl) | (simp [*, errW_none, errW_some] <;> rfl), by repeat (first | (with_reducible first | exact HB.out | apply below_alloc | apply pw_below_drewN | apply below_drew1) | exact HB.out)⟩
                        · rw [if_neg c23] at H
                          exact absurd H (by simp)
                      · rw [if_neg c22] at H
                        have c22b0 : decide (x8_2 < (t235.length : Int)) = false := decide_eq_false c22
                        clear c22
                        by_cases c30 : x8_2 ≥ (t235.length : Int)
                        · rw [if_pos c30] at H
                          have c30b0 : decide ((t235.length : Int) ≤ x8_2) = true := decide_eq_true c30
                          clear c30
                          by_cases c31 : 0 ≤ x8_2
                          · rw [if_pos c31] at H
                            have c31b0 : decide (0 ≤ x8_2) = true := decide_eq_true c31
                            clear c31
                            obtain ⟨ji32, hji32⟩ : ∃ j_ : Int, (wrap64 (x8_2 - (t235.length : Int))) = j_ := ⟨_, rfl⟩
                            replace H : (if 0 ≤ (ji32) then (if (ji32) < (t238.length : Int) then (if (rdOf ByteArray.empty t241 x8_2).toList = (rdOf ByteArray.empty t238 (ji32)).toList then (cellaretlaw2_WordsJoined.l0 k2 t235 t238 t241 (wrap64 (x8_2 + 1))) else (some false)) else (none)) else (none)) = some r := by first | (rw [hji32] at H; exact H) | (simp only [hji32] at H ⊢; exact H)
                            have hji32w : (IntKind.i64.wrap (x8_2 - (t235.length : Int))) = ji32 := (i64_w _).trans hji32
                            by_cases c33 : 0 ≤ (ji32)
                            · rw [if_pos c33] at H
                              have c33b0 : decide (0 ≤ (ji32)) = true := decide_eq_true c33
                              clear c33
                              by_cases c34 : (ji32) < (t238.length : Int)
                              · rw [if_pos c34] at H
                                have c34b0 : decide ((ji32) < (t238.length : Int)) = true := decide_eq_true c34
                                clear c34
                                by_cases c35 : (rdOf ByteArray.empty t241 x8_2).toList = (rdOf ByteArray.empty t238 (ji32)).toList
                                · rw [if_pos c35] at H
                                  have c35b0 : ((rdOf ByteArray.empty t241 x8_2).toList == (rdOf ByteArray.empty t238 (ji32)).toList) = true := beq_iff_eq.mpr c35
                                  have c35b1 : ((rdOf ByteArray.empty t241 x8_2).toList != (rdOf ByteArray.empty t238 (ji32)).toList) = false := bne_eq_false_iff_eq.mpr c35
                                  clear c35
                                  have H' := Aside0.mk H
                                  clear H
                                  have p248 : 0 ≤ (x8_2 : Int) := of_decide_eq_true (by first | (with_reducible assumption) | assumption)
                                  have q248 : x8_2 < (t241.length : Int) := of_decide_eq_true (by first | (with_reducible assumption) | assumption)
                                  obtain ⟨ad248, e248, hx248_0⟩ := Kd.at_string (Kd.R_reads' HO_7.out).2.2 x8_2 p248 q248
                                  cases e248
                                  replace p248 := eq_true p248
                                  replace q248 := eq_true q248
                                  have p249 : 0 ≤ ((ji32) : Int) := of_decide_eq_true (by first | (with_reducible assumption) | assumption)
                                  have q249 : (ji32) < (t238.length : Int) := of_decide_eq_true (by first | (with_reducible assumption) | assumption)
                                  obtain ⟨ad249, e249, hx249_0⟩ := Kd.at_string (Kd.R_reads' HO_6.out).2.2 (ji32) p249 q249
                                  cases e249
                                  replace p249 := eq_true p249
                                  replace q249 := eq_true q249
                                  go_wp2
                                  repeat (go_quiet (fail); try go_wp2)
                                  go_roundg k2
                                  case measure => have := HJ4.out; have := HK2.out; omega
                                  case rel => exact ⟨(wrap64 (x8_2 + 1)), (by first | rfl | (simp; done) | (simp [*]; done)), H', ⟨by have := HJ4.out; have := HK2.out; omega⟩, ⟨by (with_reducible repeat (first | apply Kd.R_alloc | apply Kd.R_drewN | apply Kd.R_drew)); exact HO_5.out⟩, ⟨by (with_reducible repeat (first | apply Kd.R_alloc | apply Kd.R_drewN | apply Kd.R_drew)); exact HO_6.out⟩, ⟨by (with_reducible repeat (first | apply Kd.R_alloc | apply Kd.R_drewN | apply Kd.R_drew)); exact HO_7.out⟩, ⟨by repeat (first | (with_reducible first | exact HB.out | apply below_alloc | apply pw_below_drewN | apply below_drew1) | exact HB.out)⟩⟩
                                · rw [if_neg c35] at H
                                  have c35b0 : ((rdOf ByteArray.empty t241 x8_2).toList == (rdOf ByteArray.empty t238 (ji32)).toList) = false := beq_eq_false_iff_ne.mpr c35
                                  have c35b1 : ((rdOf ByteArray.empty t241 x8_2).toList != (rdOf ByteArray.empty t238 (ji32)).toList) = true := bne_iff_ne.mpr c35
                                  obtain rfl := Option.some.inj H
                                  have p248 : 0 ≤ (x8_2 : Int) := of_decide_eq_true (by first | (with_reducible assumption) | assumption)
                                  have q248 : x8_2 < (t241.length : Int) := of_decide_eq_true (by first | (with_reducible assumption) | assumption)
                                  obtain ⟨ad248, e248, hx248_0⟩ := Kd.at_string (Kd.R_reads' HO_7.out).2.2 x8_2 p248 q248
                                  cases e248
                                  replace p248 := eq_true p248
                                  replace q248 := eq_true q248
                                  have p249 : 0 ≤ ((ji32) : Int) := of_decide_eq_true (by first | (with_reducible assumption) | assumption)
                                  have q249 : (ji32) < (t238.length : Int) := of_decide_eq_true (by first | (with_reducible assumption) | assumption)
                                  obtain ⟨ad249, e249, hx249_0⟩ := Kd.at_string (Kd.R_reads' HO_6.out).2.2 (ji32) p249 q249
                                  cases e249
                                  replace p249 := eq_true p249
                                  replace q249 := eq_true q249
                                  go_wp2
                                  repeat (go_quiet (fail); try go_wp2)
                                  go_ret
                                  exact ⟨by first | rfl | (simp [errW_none, errW_some] <;> rfl) | (simp only [← hji32]; first | rfl | (simp [errW_none, errW_some] <;> rfl)) | (simp [*, errW_none, errW_some] <;> rfl), by repeat (first | (with_reducible first | exact HB.out | apply below_alloc | apply pw_below_drewN | apply below_drew1) | exact HB.out)⟩
                              · rw [if_neg c34] at H
                                exact absurd H (by simp)
                            · rw [if_neg c33] at H
                              exact absurd H (by simp)
                          · rw [if_neg c31] at H
                            exact absurd H (by simp)
                        · rw [if_neg c30] at H
                          have c30b0 : decide ((t235.length : Int) ≤ x8_2) = false := decide_eq_false c30
                          clear c30
                          have H' := Aside0.mk H
                          clear H
                          go_wp2
                          repeat (go_quiet (fail); try go_wp2)
                          go_roundg k2
                          case measure => have := HJ4.out; have := HK2.out; omega
                          case rel => exact ⟨(wrap64 (x8_2 + 1)), (by first | rfl | (simp; done) | (simp [*]; done)), H', ⟨by have := HJ4.out; have := HK2.out; omega⟩, ⟨by (with_reducible repeat (first | apply Kd.R_alloc | apply Kd.R_drewN | apply Kd.R_drew)); exact HO_5.out⟩, ⟨by (with_reducible repeat (first | apply Kd.R_alloc | apply Kd.R_drewN | apply Kd.R_drew)); exact HO_6.out⟩, ⟨by (with_reducible repeat (first | apply Kd.R_alloc | apply Kd.R_drewN | apply Kd.R_drew)); exact HO_7.out⟩, ⟨by repeat (first | (with_reducible first | exact HB.out | apply below_alloc | apply pw_below_drewN | apply below_drew1) | exact HB.out)⟩⟩
                    · rw [if_neg c21] at H
                      have c21b0 : decide (x8_2 < (t241.length : Int)) = false := decide_eq_false c21
                      clear c21
                      obtain rfl := Option.some.inj H
                      go_wp2
                      repeat (go_quiet (fail); try go_wp2)
                      go_ret
                      exact ⟨by first | rfl | (simp [errW_none, errW_some] <;> rfl) | (simp [*, errW_none, errW_some] <;> rfl), by repeat (first | (with_reducible first | exact HB.out | apply below_alloc | apply pw_below_drewN | apply below_drew1) | exact HB.out)⟩
              · rw [if_neg c14] at H
                have c14b0 : ((t241.length : Int) == (wrap64 ((t235.length : Int) + (t238.length : Int)))) = false := beq_eq_false_iff_ne.mpr c14
                have c14b1 : ((t241.length : Int) != (wrap64 ((t235.length : Int) + (t238.length : Int)))) = true := bne_iff_ne.mpr c14
                obtain rfl := Option.some.inj H
                go_wp2_with (first | (go_at_call 17; (with_reducible refine (words_Split.calls kj4 a0 t235 _ ?side1 A9.out).mono ?_); (case side1 => exact HLD.below (by repeat (first | (with_reducible first | exact HB.out | apply below_alloc | apply pw_below_drewN | apply below_drew1) | exact HB.out))); rintro e w36 ⟨v236, rfl, ho0, hb⟩; have n0_ := Aside0.mk (Kd.R_lower ho0 (below_size (by repeat (first | (with_reducible first | exact HB.out | apply below_alloc | apply pw_below_drewN | apply below_drew1) | exact HB.out)))); have n1_ := Aside0.mk (below_step (by repeat (first | (with_reducible first | exact HB.out | apply below_alloc | apply pw_below_drewN | apply below_drew1) | exact HB.out)) hb); clear HB; have HO237 := n0_; have HB := n1_; clear n0_ n1_; (try clear hb); (try clear hb2); (try clear hk); (try clear hi); (try clear ho0)) | (go_at_call 17; (with_reducible refine (words_Split.calls kj4 a1 t238 _ ?side1 A10.out).mono ?_); (case side1 => exact HLD.below (by repeat (first | (with_reducible first | exact HB.out | apply below_alloc | apply pw_below_drewN | apply below_drew1) | exact HB.out))); rintro e w37 ⟨v239, rfl, ho0, hb⟩; have n0_ := Aside0.mk (Kd.R_elder' (by (with_reducible repeat (first | apply Kd.R_alloc | apply Kd.R_drewN | apply Kd.R_drew)); exact HO237.out) (Kd.R_base ho0) hb); have n1_ := Aside0.mk (Kd.R_lower (Kd.R_new' ho0 (Kd.R_lt (by (with_reducible repeat (first | apply Kd.R_alloc | apply Kd.R_drewN | apply Kd.R_drew)); exact HO237.out))) (below_size (by repeat (first | (with_reducible first | exact HB.out | apply below_alloc | apply pw_below_drewN | apply below_drew1) | exact HB.out)))); have n2_ := Aside0.mk (below_step (by repeat (first | (with_reducible first | exact HB.out | apply below_alloc | apply pw_below_drewN | apply below_drew1) | exact HB.out)) hb); clear HO237; clear HB; have HO237 := n0_; have HO240 := n1_; have HB := n2_; clear n0_ n1_ n2_; (try clear hb); (try clear hb2); (try clear hk); (try clear hi); (try clear ho0)) | (go_at_call 17; (with_reducible refine (words_Split.calls kj4 ((a0 ++ (⟨#[32]⟩ : ByteArray)) ++ a1) t241 _ ?side1 A13.out).mono ?_); (case side1 => exact HLD.below (by repeat (first | (with_reducible first | exact HB.out | apply below_alloc | apply pw_below_drewN | apply below_drew1) | exact HB.out))); rintro e w38 ⟨v242, rfl, ho0, hb⟩; have n0_ := Aside0.mk (Kd.R_elder' (by (with_reducible repeat (first | apply Kd.R_alloc | apply Kd.R_drewN | apply Kd.R_drew)); exact HO237.out) (Kd.R_base ho0) hb); have n1_ := Aside0.mk (Kd.R_elder' (by (with_reducible repeat (first | apply Kd.R_alloc | apply Kd.R_drewN | apply Kd.R_drew)); exact HO240.out) (Kd.R_base ho0) hb); have n2_ := Aside0.mk (Kd.R_lower (Kd.R_new' (Kd.R_new' ho0 (Kd.R_lt (by (with_reducible repeat (first | apply Kd.R_alloc | apply Kd.R_drewN | apply Kd.R_drew)); exact HO237.out))) (Kd.R_lt (by (with_reducible repeat (first | apply Kd.R_alloc | apply Kd.R_drewN | apply Kd.R_drew)); exact HO240.out))) (below_size (by repeat (first | (with_reducible first | exact HB.out | apply below_alloc | apply pw_below_drewN | apply below_drew1) | exact HB.out)))); have n3_ := Aside0.mk (below_step (by repeat (first | (with_reducible first | exact HB.out | apply below_alloc | apply pw_below_drewN | apply below_drew1) | exact HB.out)) hb); clear HO237; clear HO240; clear HB; have HO237 := n0_; have HO240 := n1_; have HO243 := n2_; have HB := n3_; clear n0_ n1_ n2_ n3_; (try clear hb); (try clear hb2); (try clear hk); (try clear hi); (try clear ho0); obtain ⟨Ao39, co39, eo39⟩ := Kd.R_slice HO243.out; subst eo39; obtain ⟨Ao40, co40, eo40⟩ := Kd.R_slice HO237.out; subst eo40; obtain ⟨Ao41, co41, eo41⟩ := Kd.R_slice HO240.out; subst eo41))
                repeat (go_quiet (first | (go_at_call 17; (with_reducible refine (words_Split.calls kj4 a0 t235 _ ?side1 A9.out).mono ?_); (case side1 => exact HLD.below (by repeat (first | (with_reducible first | exact HB.out | apply below_alloc | apply pw_below_drewN | apply below_drew1) | exact HB.out))); rintro e w36 ⟨v236, rfl, ho0, hb⟩; have n0_ := Aside0.mk (Kd.R_lower ho0 (below_size (by repeat (first | (with_reducible first | exact HB.out | apply below_alloc | apply pw_below_drewN | apply below_drew1) | exact HB.out)))); have n1_ := Aside0.mk (below_step (by repeat (first | (with_reducible first | exact HB.out | apply below_alloc | apply pw_below_drewN | apply below_drew1) | exact HB.out)) hb); clear HB; have HO237 := n0_; have HB := n1_; clear n0_ n1_; (try clear hb); (try clear hb2); (try clear hk); (try clear hi); (try clear ho0)) | (go_at_call 17; (with_reducible refine (words_Split.calls kj4 a1 t238 _ ?side1 A10.out).mono ?_); (case side1 => exact HLD.below (by repeat (first | (with_reducible first | exact HB.out | apply below_alloc | apply pw_below_drewN | apply below_drew1) | exact HB.out))); rintro e w37 ⟨v239, rfl, ho0, hb⟩; have n0_ := Aside0.mk (Kd.R_elder' (by (with_reducible repeat (first | apply Kd.R_alloc | apply Kd.R_drewN | apply Kd.R_drew)); exact HO237.out) (Kd.R_base ho0) hb); have n1_ := Aside0.mk (Kd.R_lower (Kd.R_new' ho0 (Kd.R_lt (by (with_reducible repeat (first | apply Kd.R_alloc | apply Kd.R_drewN | apply Kd.R_drew)); exact HO237.out))) (below_size (by repeat (first | (with_reducible first | exact HB.out | apply below_alloc | apply pw_below_drewN | apply below_drew1) | exact HB.out)))); have n2_ := Aside0.mk (below_step (by repeat (first | (with_reducible first | exact HB.out | apply below_alloc | apply pw_below_drewN | apply below_drew1) | exact HB.out)) hb); clear HO237; clear HB; have HO237 := n0_; have HO240 := n1_; have HB := n2_; clear n0_ n1_ n2_; (try clear hb); (try clear hb2); (try clear hk); (try clear hi); (try clear ho0)) | (go_at_call 17; (with_reducible refine (words_Split.calls kj4 ((a0 ++ (⟨#[32]⟩ : ByteArray)) ++ a1) t241 _ ?side1 A13.out).mono ?_); (case side1 => exact HLD.below (by repeat (first | (with_reducible first | exact HB.out | apply below_alloc | apply pw_below_drewN | apply below_drew1) | exact HB.out))); rintro e w38 ⟨v242, rfl, ho0, hb⟩; have n0_ := Aside0.mk (Kd.R_elder' (by (with_reducible repeat (first | apply Kd.R_alloc | apply Kd.R_drewN | apply Kd.R_drew)); exact HO237.out) (Kd.R_base ho0) hb); have n1_ := Aside0.mk (Kd.R_elder' (by (with_reducible repeat (first | apply Kd.R_alloc | apply Kd.R_drewN | apply Kd.R_drew)); exact HO240.out) (Kd.R_base ho0) hb); have n2_ := Aside0.mk (Kd.R_lower (Kd.R_new' (Kd.R_new' ho0 (Kd.R_lt (by (with_reducible repeat (first | apply Kd.R_alloc | apply Kd.R_drewN | apply Kd.R_drew)); exact HO237.out))) (Kd.R_lt (by (with_reducible repeat (first | apply Kd.R_alloc | apply Kd.R_drewN | apply Kd.R_drew)); exact HO240.out))) (below_size (by repeat (first | (with_reducible first | exact HB.out | apply below_alloc | apply pw_below_drewN | apply below_drew1) | exact HB.out)))); have n3_ := Aside0.mk (below_step (by repeat (first | (with_reducible first | exact HB.out | apply below_alloc | apply pw_below_drewN | apply below_drew1) | exact HB.out)) hb); clear HO237; clear HO240; clear HB; have HO237 := n0_; have HO240 := n1_; have HO243 := n2_; have HB := n3_; clear n0_ n1_ n2_ n3_; (try clear hb); (try clear hb2); (try clear hk); (try clear hi); (try clear ho0); obtain ⟨Ao39, co39, eo39⟩ := Kd.R_slice HO243.out; subst eo39; obtain ⟨Ao40, co40, eo40⟩ := Kd.R_slice HO237.out; subst eo40; obtain ⟨Ao41, co41, eo41⟩ := Kd.R_slice HO240.out; subst eo41)); try go_wp2_with (first | (go_at_call 17; (with_reducible refine (words_Split.calls kj4 a0 t235 _ ?side1 A9.out).mono ?_); (case side1 => exact HLD.below (by repeat (first | (with_reducible first | exact HB.out | apply below_alloc | apply pw_below_drewN | apply below_drew1) | exact HB.out))); rintro e w36 ⟨v236, rfl, ho0, hb⟩; have n0_ := Aside0.mk (Kd.R_lower ho0 (below_size (by repeat (first | (with_reducible first | exact HB.out | apply below_alloc | apply pw_below_drewN | apply below_drew1) | exact HB.out)))); have n1_ := Aside0.mk (below_step (by repeat (first | (with_reducible first | exact HB.out | apply below_alloc | apply pw_below_drewN | apply below_drew1) | exact HB.out)) hb); clear HB; have HO237 := n0_; have HB := n1_; clear n0_ n1_; (try clear hb); (try clear hb2); (try clear hk); (try clear hi); (try clear ho0)) | (go_at_call 17; (with_reducible refine (words_Split.calls kj4 a1 t238 _ ?side1 A10.out).mono ?_); (case side1 => exact HLD.below (by repeat (first | (with_reducible first | exact HB.out | apply below_alloc | apply pw_below_drewN | apply below_drew1) | exact HB.out))); rintro e w37 ⟨v239, rfl, ho0, hb⟩; have n0_ := Aside0.mk (Kd.R_elder' (by (with_reducible repeat (first | apply Kd.R_alloc | apply Kd.R_drewN | apply Kd.R_drew)); exact HO237.out) (Kd.R_base ho0) hb); have n1_ := Aside0.mk (Kd.R_lower (Kd.R_new' ho0 (Kd.R_lt (by (with_reducible repeat (first | apply Kd.R_alloc | apply Kd.R_drewN | apply Kd.R_drew)); exact HO237.out))) (below_size (by repeat (first | (with_reducible first | exact HB.out | apply below_alloc | apply pw_below_drewN | apply below_drew1) | exact HB.out)))); have n2_ := Aside0.mk (below_step (by repeat (first | (with_reducible first | exact HB.out | apply below_alloc | apply pw_below_drewN | apply below_drew1) | exact HB.out)) hb); clear HO237; clear HB; have HO237 := n0_; have HO240 := n1_; have HB := n2_; clear n0_ n1_ n2_; (try clear hb); (try clear hb2); (try clear hk); (try clear hi); (try clear ho0)) | (go_at_call 17; (with_reducible refine (words_Split.calls kj4 ((a0 ++ (⟨#[32]⟩ : ByteArray)) ++ a1) t241 _ ?side1 A13.out).mono ?_); (case side1 => exact HLD.below (by repeat (first | (with_reducible first | exact HB.out | apply below_alloc | apply pw_below_drewN | apply below_drew1) | exact HB.out))); rintro e w38 ⟨v242, rfl, ho0, hb⟩; have n0_ := Aside0.mk (Kd.R_elder' (by (with_reducible repeat (first | apply Kd.R_alloc | apply Kd.R_drewN | apply Kd.R_drew)); exact HO237.out) (Kd.R_base ho0) hb); have n1_ := Aside0.mk (Kd.R_elder' (by (with_reducible repeat (first | apply Kd.R_alloc | apply Kd.R_drewN | apply Kd.R_drew)); exact HO240.out) (Kd.R_base ho0) hb); have n2_ := Aside0.mk (Kd.R_lower (Kd.R_new' (Kd.R_new' ho0 (Kd.R_lt (by (with_reducible repeat (first | apply Kd.R_alloc | apply Kd.R_drewN | apply Kd.R_drew)); exact HO237.out))) (Kd.R_lt (by (with_reducible repeat (first | apply Kd.R_alloc | apply Kd.R_drewN | apply Kd.R_drew)); exact HO240.out))) (below_size (by repeat (first | (with_reducible first | exact HB.out | apply below_alloc | apply pw_below_drewN | apply below_drew1) | exact HB.out)))); have n3_ := Aside0.mk (below_step (by repeat (first | (with_reducible first | exact HB.out | apply below_alloc | apply pw_below_drewN | apply below_drew1) | exact HB.out)) hb); clear HO237; clear HO240; clear HB; have HO237 := n0_; have HO240 := n1_; have HO243 := n2_; have HB := n3_; clear n0_ n1_ n2_ n3_; (try clear hb); (try clear hb2); (try clear hk); (try clear hi); (try clear ho0); obtain ⟨Ao39, co39, eo39⟩ := Kd.R_slice HO243.out; subst eo39; obtain ⟨Ao40, co40, eo40⟩ := Kd.R_slice HO237.out; subst eo40; obtain ⟨Ao41, co41, eo41⟩ := Kd.R_slice HO240.out; subst eo41)))
                go_ret
                exact ⟨by first | rfl | (simp [errW_none, errW_some] <;> rfl) | (simp [*, errW_none, errW_some] <;> rfl), by repeat (first | (with_reducible first | exact HB.out | apply below_alloc | apply pw_below_drewN | apply below_drew1) | exact HB.out)⟩
            · rw [if_neg c12] at H
              exact absurd H (by simp)
          · rw [if_neg c11] at H
            exact absurd H (by simp)
  · replace c4 := Bool.eq_false_iff.mpr c4
    subst c4
    have H1 : (some false) = some r := by rw [if_neg (show ¬ (false = true) by decide)] at H; exact H
    clear H
    have H := H1
    clear H1
    obtain rfl := Option.some.inj H
    go_enter Tryd.func10, Tryd.ntmps10
    go_wp2_with (first | (go_at_call 13; (with_reducible refine (cellaretlaw2_awake.calls k  false _ ?side1 A3.out).mono ?_); (case side1 => exact HLD.below (by repeat (first | (with_reducible first | exact HB.out | apply below_alloc | apply pw_below_drewN | apply below_drew1) | exact HB.out))); rintro e w42 ⟨rfl, hb⟩; have n0_ := Aside0.mk (below_step (by repeat (first | (with_reducible first | exact HB.out | apply below_alloc | apply pw_below_drewN | apply below_drew1) | exact HB.out)) hb); clear HB; have HB := n0_; clear n0_; (try clear hb); (try clear hb2); (try clear hk); (try clear hi)))
    repeat (go_quiet (first | (go_at_call 13; (with_reducible refine (cellaretlaw2_awake.calls k  false _ ?side1 A3.out).mono ?_); (case side1 => exact HLD.below (by repeat (first | (with_reducible first | exact HB.out | apply below_alloc | apply pw_below_drewN | apply below_drew1) | exact HB.out))); rintro e w42 ⟨rfl, hb⟩; have n0_ := Aside0.mk (below_step (by repeat (first | (with_reducible first | exact HB.out | apply below_alloc | apply pw_below_drewN | apply below_drew1) | exact HB.out)) hb); clear HB; have HB := n0_; clear n0_; (try clear hb); (try clear hb2); (try clear hk); (try clear hi))); try go_wp2_with (first | (go_at_call 13; (with_reducible refine (cellaretlaw2_awake.calls k  false _ ?side1 A3.out).mono ?_); (case side1 => exact HLD.below (by repeat (first | (with_reducible first | exact HB.out | apply below_alloc | apply pw_below_drewN | apply below_drew1) | exact HB.out))); rintro e w42 ⟨rfl, hb⟩; have n0_ := Aside0.mk (below_step (by repeat (first | (with_reducible first | exact HB.out | apply below_alloc | apply pw_below_drewN | apply below_drew1) | exact HB.out)) hb); clear HB; have HB := n0_; clear n0_; (try clear hb); (try clear hb2); (try clear hk); (try clear hi))))
    go_ret
    exact ⟨by first | rfl | (simp [errW_none, errW_some] <;> rfl) | (simp [*, errW_none, errW_some] <;> rfl), by repeat (first | (with_reducible first | exact HB.out | apply below_alloc | apply pw_below_drewN | apply below_drew1) | exact HB.out)⟩

/-- THE ONE PURE STATEMENT of cellaretlaw2_WordsJoined: yours. -/
def cellaretlaw2_WordsJoined.Pure : Prop := ∀ (a0 : ByteArray) (a1 : ByteArray), a0.size ≤ 140737488351232 → a1.size ≤ 140737488351232 → ∃ k, cellaretlaw2_WordsJoined.f k a0 a1 = some true
theorem cellaretlaw2_WordsJoined.walk (P : cellaretlaw2_WordsJoined.Pure) (a0 : ByteArray) (a1 : ByteArray) (w : World) (HLD : LaidA w) (w0 : a0.size ≤ 140737488351232) (w1 : a1.size ≤ 140737488351232) :
    Calls Tryd.prog 10 #[.string a0, .string a1] w fun e w' => e = .returned (.bool true) ∧ Below w.heap.size w w' := by
  obtain ⟨k, h⟩ := P a0 a1 w0 w1
  refine (cellaretlaw2_WordsJoined.calls k a0 a1 true w HLD h).mono ?_
  rintro e w' ⟨rfl, hd⟩
  exact ⟨rfl, hd⟩

end Go.Proofs.YtolbbhpcajepnaaDoor.H
