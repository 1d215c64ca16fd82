/-
  Printed by this session's hybrid.py (it runs the kit's print over contracts of our own for library functions): plain functions with the answers of Go functions, and that the calls come to them. Their conditions stand in each head.
-/
import Derived.Test.YtolbbhpcajepnaaDoorHX0
import Derived.Test.YtolbbhpcajepnaaDoorHX14
namespace Go.Proofs.YtolbbhpcajepnaaDoor.H
open Go.RowKit Go.Proofs.YtolbbhpcajepnaaDoorW.PrintWords Go.Proofs.YtolbbhpcajepnaaDoorW.PrintLast Go.Proofs.YtolbbhpcajepnaaDoorW.PrintMore
attribute [local go_sem] max2_int min2_int max_two min_two max_three min_three max_four min_four   -- for this text's walks alone
set_option linter.unusedVariables false
set_option linter.unusedSimpArgs false

/-! ### cellaretlaw2_WordsKeys: function 9 -/
def cellaretlaw2_WordsKeys.j0 : Nat → ByteArray → ByteArray → Int → Bool → Option (Bool)
  | 0, _, _, _, _ => none
  | k + 1, x0, x1, x2, x17 => if x17 = true then (some true) else (if (wrap64 ((x0.size : Int) + (x1.size : Int))) > 250 then (if x0.size + x1.size ≤ 9223372036854775807 then ((words_Key.f (x0 ++ x1)).bind fun t218 => (some (!t218))) else (none)) else (if x2 ≤ 32 then (if x0.size + x1.size ≤ 9223372036854775807 then ((words_Key.f (x0 ++ x1)).bind fun t219 => (if t219 = true then ((some (([x2] : List Int) : List Int)).bind fun y220 => (if x0.size + (strOfNums y220).size ≤ 9223372036854775807 then (if (x0 ++ (strOfNums y220)).size + x1.size ≤ 9223372036854775807 then ((words_Key.f ((x0 ++ (strOfNums y220)) ++ x1)).bind fun t223 => (some (!t223))) else (none)) else (none))) else (some false))) else (none)) else (if x2 = 127 then (if x0.size + x1.size ≤ 9223372036854775807 then ((words_Key.f (x0 ++ x1)).bind fun t224 => (if t224 = true then ((some (([x2] : List Int) : List Int)).bind fun y225 => (if x0.size + (strOfNums y225).size ≤ 9223372036854775807 then (if (x0 ++ (strOfNums y225)).size + x1.size ≤ 9223372036854775807 then ((words_Key.f ((x0 ++ (strOfNums y225)) ++ x1)).bind fun t228 => (some (!t228))) else (none)) else (none))) else (some false))) else (none)) else (if x0.size + x1.size ≤ 9223372036854775807 then ((words_Key.f (x0 ++ x1)).bind fun t229 => (if t229 = true then (if x2 ≥ 128 then ((some (([x2] : List Int) : List Int)).bind fun y230 => (if x0.size + (strOfNums y230).size ≤ 9223372036854775807 then (if (x0 ++ (strOfNums y230)).size + x1.size ≤ 9223372036854775807 then ((words_Key.f ((x0 ++ (strOfNums y230)) ++ x1)).bind fun t233 => (some (!t233))) else (none)) else (none))) else (some true)) else (some false))) else (none)))))
def cellaretlaw2_WordsKeys.f (k : Nat) (a0 : ByteArray) (a1 : ByteArray) (a2 : Int) : Option (Bool) := (cellaretlaw2_awake.f k).bind fun t215 => (if t215 = true then ((words_Key.f a0).bind fun t216 => (if t216 = true then ((words_Key.f a1).bind fun t217 => (cellaretlaw2_WordsKeys.j0 k a0 a1 a2 (!t217))) else (cellaretlaw2_WordsKeys.j0 k a0 a1 a2 true))) else (some false))
theorem cellaretlaw2_WordsKeys.mono_l : ∀ k, (∀ y0 y1 y2 y3, LeO (cellaretlaw2_WordsKeys.j0 k y0 y1 y2 y3) (cellaretlaw2_WordsKeys.j0 (k + 1) y0 y1 y2 y3))
  | 0 => fun _ _ _ _ r h => by simp [cellaretlaw2_WordsKeys.j0] at h
  | k + 1 => by
    have ih0 := cellaretlaw2_WordsKeys.mono_l k
    · intro y0 y1 y2 y3
      unfold cellaretlaw2_WordsKeys.j0
      repeat' first
      | (with_reducible exact ih0 _ _ _ _)
      | (with_reducible exact cellaretlaw2_awake.mono _)
      | (with_reducible exact LeO.refl _)
      | (with_reducible exact LeO.none _)
      | (with_reducible refine LeO.ite ?_ ?_)
      | (with_reducible refine LeO.bind ?_ (fun _ => ?_))
      | exact ih0 _ _ _ _
      | exact cellaretlaw2_awake.mono _
      | exact LeO.none _
      | refine LeO.ite ?_ ?_
      | refine LeO.bind ?_ (fun _ => ?_)
theorem cellaretlaw2_WordsKeys.mono : ∀ a0 a1 a2 k, LeO (cellaretlaw2_WordsKeys.f k a0 a1 a2) (cellaretlaw2_WordsKeys.f (k + 1) a0 a1 a2) := by
  intro a0 a1 a2 k
  have ih0 := cellaretlaw2_WordsKeys.mono_l k
  unfold cellaretlaw2_WordsKeys.f
  repeat' first
      | (with_reducible exact ih0 _ _ _ _)
      | (with_reducible exact cellaretlaw2_awake.mono _)
      | (with_reducible exact LeO.refl _)
      | (with_reducible exact LeO.none _)
      | (with_reducible refine LeO.ite ?_ ?_)
      | (with_reducible refine LeO.bind ?_ (fun _ => ?_))
      | exact ih0 _ _ _ _
      | exact cellaretlaw2_awake.mono _
      | exact LeO.none _
      | refine LeO.ite ?_ ?_
      | refine LeO.bind ?_ (fun _ => ?_)
set_option maxHeartbeats 8000000 in
set_option maxRecDepth 100000 in
theorem cellaretlaw2_WordsKeys.calls (k : Nat) (a0 : ByteArray) (a1 : ByteArray) (a2 : Int) (r : Bool) (w : World) (HLD : LaidA w) (h : cellaretlaw2_WordsKeys.f k a0 a1 a2 = some r) :
    Calls Tryd.prog 9 #[.string a0, .string a1, .int .u8 a2] w fun e w' => e = .returned (.bool r) ∧ Below w.heap.size w w' := by
  have HB := Aside0.mk (Below.refl w.heap.size w)
  have H : ((cellaretlaw2_awake.f k).bind fun t215 => (if t215 = true then ((words_Key.f a0).bind fun t216 => (if t216 = true then ((words_Key.f a1).bind fun t217 => (cellaretlaw2_WordsKeys.j0 k a0 a1 a2 (!t217))) else (cellaretlaw2_WordsKeys.j0 k a0 a1 a2 true))) else (some false))) = some r := h
  clear h
  replace H := Option.bind_eq_some_iff.mp H
  obtain ⟨t215, A40, H⟩ := H
  replace H : (if t215 = true then ((words_Key.f a0).bind fun t216 => (if t216 = true then ((words_Key.f a1).bind fun t217 => (cellaretlaw2_WordsKeys.j0 k a0 a1 a2 (!t217))) else (cellaretlaw2_WordsKeys.j0 k a0 a1 a2 true))) else (some false)) = some r := H
  have A4 := Aside0.mk A40
  clear A40
  by_cases c5 : t215 = true
  · subst c5
    have H1 : ((words_Key.f a0).bind fun t216 => (if t216 = true then ((words_Key.f a1).bind fun t217 => (cellaretlaw2_WordsKeys.j0 k a0 a1 a2 (!t217))) else (cellaretlaw2_WordsKeys.j0 k a0 a1 a2 true))) = some r := by rw [if_pos rfl] at H; exact H
    clear H
    have H := H1
    clear H1
    have HC6 := Aside0.mk H
    clear H
    go_enter Tryd.func9, Tryd.ntmps9
    go_upto_region 3 with (first | ((with_reducible refine gate_callee (f := 13) rfl ?_); refine goesL_ (some 8) rfl rfl Tryd.func13 (by kernel_rfl) rfl #[] rfl (by (try simp only [List.map_toArray, List.map_cons, List.map_nil]); first | done | rfl | (simp only [List.length_drop, List.length_take]; rfl)) ?_; (with_reducible refine (cellaretlaw2_awake.calls k  true _ ?side1 A4.out).mono ?_); (case side1 => exact HLD.below (by repeat (first | (with_reducible first | exact HB.out | apply below_alloc | apply pw_below_drewN | apply below_drew1) | exact HB.out))); rintro e w7 ⟨rfl, hb⟩; refine ⟨_, rfl, ?_⟩; have n0_ := Aside0.mk (below_step (by repeat (first | (with_reducible first | exact HB.out | apply below_alloc | apply pw_below_drewN | apply below_drew1) | exact HB.out)) hb); clear HB; have HB := n0_; clear n0_; (try clear hb); (try clear hb2); (try clear hk); (try clear hi)))
    (try simp only [Act.put, List.setIfInBounds_toArray, List.set_cons_zero, List.set_cons_succ])
    go_cut [17] (fun v17 wc => ∃ (kq : Nat) (x17_5 : Bool), v17 = .bool x17_5 ∧ Aside0 (cellaretlaw2_WordsKeys.j0 kq a0 a1 a2 x17_5 = some r) ∧ Aside0 (kq ≤ k) ∧ Aside0 (Below w.heap.size w wc))
    case first =>
      have H := HC6.out
      clear HC6
      replace H := Option.bind_eq_some_iff.mp H
      obtain ⟨t216, A80, H⟩ := H
      replace H : (if t216 = true then ((words_Key.f a1).bind fun t217 => (cellaretlaw2_WordsKeys.j0 k a0 a1 a2 (!t217))) else (cellaretlaw2_WordsKeys.j0 k a0 a1 a2 true)) = some r := H
      have A8 := Aside0.mk A80
      clear A80
      by_cases c9 : t216 = true
      · subst c9
        have H1 : ((words_Key.f a1).bind fun t217 => (cellaretlaw2_WordsKeys.j0 k a0 a1 a2 (!t217))) = some r := by rw [if_pos rfl] at H; exact H
        clear H
        have H := H1
        clear H1
        replace H := Option.bind_eq_some_iff.mp H
        obtain ⟨t217, A100, H⟩ := H
        replace H : (cellaretlaw2_WordsKeys.j0 k a0 a1 a2 (!t217)) = some r := H
        have A10 := Aside0.mk A100
        clear A100
        have H' := Aside0.mk H
        clear H
        go_wp2_with (first | ((with_reducible refine gate_callee (f := 16) rfl ?_); refine goesL_ (some 11) rfl rfl Tryd.func16 (by kernel_rfl) rfl #[.string a0] rfl (by (try simp only [List.map_toArray, List.map_cons, List.map_nil]); first | done | rfl | (simp only [List.length_drop, List.length_take]; rfl)) ?_; (with_reducible refine (words_Key.calls a0 true _ ?side1 A8.out).mono ?_); (case side1 => exact HLD.below (by repeat (first | (with_reducible first | exact HB.out | apply below_alloc | apply pw_below_drewN | apply below_drew1) | exact HB.out))); rintro e w11 ⟨rfl, hb⟩; refine ⟨_, rfl, ?_⟩; have n0_ := Aside0.mk (below_step (by repeat (first | (with_reducible first | exact HB.out | apply below_alloc | apply pw_below_drewN | apply below_drew1) | exact HB.out)) hb); clear HB; have HB := n0_; clear n0_; (try clear hb); (try clear hb2); (try clear hk); (try clear hi)) | (go_at_call 16; (with_reducible refine (words_Key.calls a1 t217 _ ?side1 A10.out).mono ?_); (case side1 => exact HLD.below (by repeat (first | (with_reducible first | exact HB.out | apply below_alloc | apply pw_below_drewN | apply below_drew1) | exact HB.out))); rintro e w12 ⟨rfl, hb⟩; have n0_ := Aside0.mk (below_step (by repeat (first | (with_reducible first | exact HB.out | apply below_alloc | apply pw_below_drewN | apply below_drew1) | exact HB.out)) hb); clear HB; have HB := n0_; clear n0_; (try clear hb); (try clear hb2); (try clear hk); (try clear hi)))
        go_meet
        case rel => exact ⟨_, (!t217), (by first | rfl | (simp; done) | (simp [*]; done)), H', ⟨by first | omega | exact Nat.le_refl _⟩, ⟨by repeat (first | (with_reducible first | exact HB.out | apply below_alloc | apply pw_below_drewN | apply below_drew1) | exact HB.out)⟩⟩
      · replace c9 := Bool.eq_false_iff.mpr c9
        subst c9
        have H1 : (cellaretlaw2_WordsKeys.j0 k a0 a1 a2 true) = some r := by rw [if_neg (show ¬ (false = true) by decide)] at H; exact H
        clear H
        have H := H1
        clear H1
        have H' := Aside0.mk H
        clear H
        go_wp2_with (first | ((with_reducible refine gate_callee (f := 16) rfl ?_); refine goesL_ (some 11) rfl rfl Tryd.func16 (by kernel_rfl) rfl #[.string a0] rfl (by (try simp only [List.map_toArray, List.map_cons, List.map_nil]); first | done | rfl | (simp only [List.length_drop, List.length_take]; rfl)) ?_; (with_reducible refine (words_Key.calls a0 false _ ?side1 A8.out).mono ?_); (case side1 => exact HLD.below (by repeat (first | (with_reducible first | exact HB.out | apply below_alloc | apply pw_below_drewN | apply below_drew1) | exact HB.out))); rintro e w13 ⟨rfl, hb⟩; refine ⟨_, rfl, ?_⟩; have n0_ := Aside0.mk (below_step (by repeat (first | (with_reducible first | exact HB.out | apply below_alloc | apply pw_below_drewN | apply below_drew1) | exact HB.out)) hb); clear HB; have HB := n0_; clear n0_; (try clear hb); (try clear hb2); (try clear hk); (try clear hi)))
        go_meet
        case rel => exact ⟨_, (true), (by first | rfl | (simp; done) | (simp [*]; done)), H', ⟨by first | omega | exact Nat.le_refl _⟩, ⟨by repeat (first | (with_reducible first | exact HB.out | apply below_alloc | apply pw_below_drewN | apply below_drew1) | exact HB.out)⟩⟩
    case rest =>
      clear HC6
      try clear c1
      try clear p2
      try clear c5
      try clear c9
      try clear c13
      obtain ⟨kq, x17_5, rfl, HA, HJ5, HB⟩ := hcut
      cases kq with
      | zero => exact absurd HA.out (by simp [cellaretlaw2_WordsKeys.j0])
      | succ kj5 =>
        have H := HA.out
        clear HA
        simp only [cellaretlaw2_WordsKeys.j0] at H
        by_cases c14 : x17_5 = true
        · subst c14
          have H1 : (some true) = some r := by rw [if_pos rfl] at H; exact H
          clear H
          have H := H1
          clear H1
          obtain rfl := Option.some.inj H
          go_wp2
          go_ret
          exact ⟨by first | rfl | (simp [errW_none, errW_some] <;> rfl) | (simp [*, errW_none, errW_some] <;> rfl), by repeat (first | (with_reducible first | exact HB.out | apply below_alloc | apply pw_below_drewN | apply below_drew1) | exact HB.out)⟩
        · replace c14 := Bool.eq_false_iff.mpr c14
          subst c14
          have H1 : (if (wrap64 ((a0.size : Int) + (a1.size : Int))) > 250 then (if a0.size + a1.size ≤ 9223372036854775807 then ((words_Key.f (a0 ++ a1)).bind fun t218 => (some (!t218))) else (none)) else (if a2 ≤ 32 then (if a0.size + a1.size ≤ 9223372036854775807 then ((words_Key.f (a0 ++ a1)).bind fun t219 => (if t219 = true then ((some (([a2] : List Int) : List Int)).bind fun y220 => (if a0.size + (strOfNums y220).size ≤ 9223372036854775807 then (if (a0 ++ (strOfNums y220)).size + a1.size ≤ 9223372036854775807 then ((words_Key.f ((a0 ++ (strOfNums y220)) ++ a1)).bind fun t223 => (some (!t223))) else (none)) else (none))) else (some false))) else (none)) else (if a2 = 127 then (if a0.size + a1.size ≤ 9223372036854775807 then ((words_Key.f (a0 ++ a1)).bind fun t224 => (if t224 = true then ((some (([a2] : List Int) : List Int)).bind fun y225 => (if a0.size + (strOfNums y225).size ≤ 9223372036854775807 then (if (a0 ++ (strOfNums y225)).size + a1.size ≤ 9223372036854775807 then ((words_Key.f ((a0 ++ (strOfNums y225)) ++ a1)).bind fun t228 => (some (!t228))) else (none)) else (none))) else (some false))) else (none)) else (if a0.size + a1.size ≤ 9223372036854775807 then ((words_Key.f (a0 ++ a1)).bind fun t229 => (if t229 = true then (if a2 ≥ 128 then ((some (([a2] : List Int) : List Int)).bind fun y230 => (if a0.size + (strOfNums y230).size ≤ 9223372036854775807 then (if (a0 ++ (strOfNums y230)).size + a1.size ≤ 9223372036854775807 then ((words_Key.f ((a0 ++ (strOfNums y230)) ++ a1)).bind fun t233 => (some (!t233))) else (none)) else (none))) else (some true)) else (some false))) else (none))))) = some r := by rw [if_neg (show ¬ (false = true) by decide)] at H; exact H
          clear H
          have H := H1
          clear H1
          by_cases c15 : (wrap64 ((a0.size : Int) + (a1.size : Int))) > 250
          · rw [if_pos c15] at H
            have c15b0 : decide (250 < (wrap64 ((a0.size : Int) + (a1.size : Int)))) = true := decide_eq_true c15
            clear c15
            by_cases c16 : a0.size + a1.size ≤ 9223372036854775807
            · rw [if_pos c16] at H
              have c16b0 := eq_true c16
              have c16b1 : decide (a0.size + a1.size ≤ 9223372036854775807) = true := decide_eq_true c16
              try have c16b2 : (9223372036854775807 < a0.size + a1.size) = False := eq_false (Nat.not_lt.2 c16)
              try rw [show wrap64 ((a0.size : Int) + (a1.size : Int)) = (a0.size : Int) + (a1.size : Int) from by unfold wrap64; omega] at c15b0
              replace H := Option.bind_eq_some_iff.mp H
              obtain ⟨t218, A170, H⟩ := H
              replace H : (some (!t218)) = some r := H
              have A17 := Aside0.mk A170
              clear A170
              obtain rfl := Option.some.inj H
              go_wp2_with (first | ((with_reducible refine gate_callee (f := 16) rfl ?_); refine goesL_ (some 27) rfl rfl Tryd.func16 (by kernel_rfl) rfl #[.string (a0 ++ a1)] rfl (by (try simp only [List.map_toArray, List.map_cons, List.map_nil]); first | done | rfl | (simp only [List.length_drop, List.length_take]; rfl)) ?_; (with_reducible refine (words_Key.calls (a0 ++ a1) t218 _ ?side1 A17.out).mono ?_); (case side1 => exact HLD.below (by repeat (first | (with_reducible first | exact HB.out | apply below_alloc | apply pw_below_drewN | apply below_drew1) | exact HB.out))); rintro e w18 ⟨rfl, hb⟩; refine ⟨_, rfl, ?_⟩; have n0_ := Aside0.mk (below_step (by repeat (first | (with_reducible first | exact HB.out | apply below_alloc | apply pw_below_drewN | apply below_drew1) | exact HB.out)) hb); clear HB; have HB := n0_; clear n0_; (try clear hb); (try clear hb2); (try clear hk); (try clear hi)))
              go_ret
              exact ⟨by first | rfl | (simp [errW_none, errW_some] <;> rfl) | (simp [*, errW_none, errW_some] <;> rfl), by repeat (first | (with_reducible first | exact HB.out | apply below_alloc | apply pw_below_drewN | apply below_drew1) | exact HB.out)⟩
            · rw [if_neg c16] at H
              exact absurd H (by simp)
          · rw [if_neg c15] at H
            have c15b0 : decide (250 < (wrap64 ((a0.size : Int) + (a1.size : Int)))) = false := decide_eq_false c15
            clear c15
            by_cases c19 : a2 ≤ 32
            · rw [if_pos c19] at H
              have c19b0 : decide (a2 ≤ 32) = true := decide_eq_true c19
              clear c19
              by_cases c20 : a0.size + a1.size ≤ 9223372036854775807
              · rw [if_pos c20] at H
                have c20b0 := eq_true c20
                have c20b1 : decide (a0.size + a1.size ≤ 9223372036854775807) = true := decide_eq_true c20
                try have c20b2 : (9223372036854775807 < a0.size + a1.size) = False := eq_false (Nat.not_lt.2 c20)
                try rw [show wrap64 ((a0.size : Int) + (a1.size : Int)) = (a0.size : Int) + (a1.size : Int) from by unfold wrap64; omega] at c15b0
                replace H := Option.bind_eq_some_iff.mp H
                obtain ⟨t219, A210, H⟩ := H
                replace H : (if t219 = true then ((some (([a2] : List Int) : List Int)).bind fun y220 => (if a0.size + (strOfNums y220).size ≤ 9223372036854775807 then (if (a0 ++ (strOfNums y220)).size + a1.size ≤ 9223372036854775807 then ((words_Key.f ((a0 ++ (strOfNums y220)) ++ a1)).bind fun t223 => (some (!t223))) else (none)) else (none))) else (some false)) = some r := H
                have A21 := Aside0.mk A210
                clear A210
                by_cases c22 : t219 = true
                · subst c22
                  have H1 : ((some (([a2] : List Int) : List Int)).bind fun y220 => (if a0.size + (strOfNums y220).size ≤ 9223372036854775807 then (if (a0 ++ (strOfNums y220)).size + a1.size ≤ 9223372036854775807 then ((words_Key.f ((a0 ++ (strOfNums y220)) ++ a1)).bind fun t223 => (some (!t223))) else (none)) else (none))) = some r := by rw [if_pos rfl] at H; exact H
                  clear H
                  have H := H1
                  clear H1
                  obtain ⟨y220, hy220⟩ : ∃ y_ : List Int, y_ = (([a2] : List Int)) := ⟨_, rfl⟩
                  replace H : (if a0.size + (strOfNums y220).size ≤ 9223372036854775807 then (if (a0 ++ (strOfNums y220)).size + a1.size ≤ 9223372036854775807 then ((words_Key.f ((a0 ++ (strOfNums y220)) ++ a1)).bind fun t223 => (some (!t223))) else (none)) else (none)) = some r := by first | (rw [hy220]; with_reducible exact H) | (have H2_ := (Option.bind_some _ _).symm.trans H; rw [hy220]; with_reducible exact H2_) | (have H2_ := (Option.bind_some _ _).symm.trans H; with_reducible exact H2_) | with_reducible exact H | (rw [hy220]; exact H) | exact H
                  have Ny220 := Aside0.mk hy220
                  clear hy220
                  by_cases c23 : a0.size + (strOfNums y220).size ≤ 9223372036854775807
                  · rw [if_pos c23] at H
                    have c23b0 := eq_true c23
                    have c23b1 : decide (a0.size + (strOfNums y220).size ≤ 9223372036854775807) = true := decide_eq_true c23
                    try have c23b2 : (9223372036854775807 < a0.size + (strOfNums y220).size) = False := eq_false (Nat.not_lt.2 c23)
                    by_cases c24 : (a0 ++ (strOfNums y220)).size + a1.size ≤ 9223372036854775807
                    · rw [if_pos c24] at H
                      have c24b0 := eq_true c24
                      have c24b1 : decide ((a0 ++ (strOfNums y220)).size + a1.size ≤ 9223372036854775807) = true := decide_eq_true c24
                      try have c24b2 : (9223372036854775807 < (a0 ++ (strOfNums y220)).size + a1.size) = False := eq_false (Nat.not_lt.2 c24)
                      replace H := Option.bind_eq_some_iff.mp H
                      obtain ⟨t223, A250, H⟩ := H
                      replace H : (some (!t223)) = some r := H
                      have A25 := Aside0.mk A250
                      clear A250
                      obtain rfl := Option.some.inj H
                      go_wp2_with (first | ((with_reducible refine gate_callee (f := 16) rfl ?_); refine goesL_ (some 42) rfl rfl Tryd.func16 (by kernel_rfl) rfl #[.string (a0 ++ a1)] rfl (by (try simp only [List.map_toArray, List.map_cons, List.map_nil]); first | done | rfl | (simp only [List.length_drop, List.length_take]; rfl)) ?_; (with_reducible refine (words_Key.calls (a0 ++ a1) true _ ?side1 A21.out).mono ?_); (case side1 => exact HLD.below (by repeat (first | (with_reducible first | exact HB.out | apply below_alloc | apply pw_below_drewN | apply below_drew1) | exact HB.out))); rintro e w26 ⟨rfl, hb⟩; refine ⟨_, rfl, ?_⟩; have n0_ := Aside0.mk (below_step (by repeat (first | (with_reducible first | exact HB.out | apply below_alloc | apply pw_below_drewN | apply below_drew1) | exact HB.out)) hb); clear HB; have HB := n0_; clear n0_; (try clear hb); (try clear hb2); (try clear hk); (try clear hi)) | ((with_reducible refine gate_dst (N := 49) rfl ?_); (try (refine gate_guard (by rfl) ?_; dsimp only)); refine Kd.R_lit (Kd.int .u8) _ 5 ?hg (N := 49) ?hd (xs := ([a2] : List Int)) (inner := [.int .u8 a2]) (ok := fun _ => True) (okp := fun _ => True) ?hr ?hp (fun _ hk => hk) trivial (Below.refl _ _) (Nat.le_refl _) (by simp) ?_; (case hd => rfl); (case hg => rfl); (case hr => first | (go_simp; done) | (go_simp; rfl)); (case hp => exact (Reps.one (show Kd.M (Kd.int .u8) _ _ _ a2 [.int .u8 a2] from rfl) (Reps.none _ _))); intro v221 w27 ho28 hb hg_ hnew_; clear hg_ hnew_; (first | rw [← Ny220.out] at ho28 | (simp only [Int.reduceToNat] at ho28; rw [← Ny220.out] at ho28)); have n0_ := Aside0.mk (Kd.R_lower ho28 (below_size (by repeat (first | (with_reducible first | exact HB.out | apply below_alloc | apply pw_below_drewN | apply below_drew1) | exact HB.out)))); have n1_ := Aside0.mk (below_step (by repeat (first | (with_reducible first | exact HB.out | apply below_alloc | apply pw_below_drewN | apply below_drew1) | exact HB.out)) hb); clear HB; have HO222 := n0_; have HB := n1_; clear n0_ n1_; clear hb ho28; have hcv29 := own_string (P := Tryd.prog) Tryd.underlying37 Tryd.underlying5 Tryd.underlying9 (Kd.own_of_R HO222.out)) | (go_at_call 16; (with_reducible refine (words_Key.calls ((a0 ++ (strOfNums y220)) ++ a1) t223 _ ?side1 A25.out).mono ?_); (case side1 => exact HLD.below (by repeat (first | (with_reducible first | exact HB.out | apply below_alloc | apply pw_below_drewN | apply below_drew1) | exact HB.out))); rintro e w30 ⟨rfl, hb⟩; have n0_ := Aside0.mk (Kd.R_below (by (with_reducible repeat (first | apply Kd.R_alloc | apply Kd.R_drewN | apply Kd.R_drew)); exact HO222.out) hb); have n1_ := Aside0.mk (below_step (by repeat (first | (with_reducible first | exact HB.out | apply below_alloc | apply pw_below_drewN | apply below_drew1) | exact HB.out)) hb); clear HO222; clear HB; have HO222 := n0_; have HB := n1_; clear n0_ n1_; (try clear hb); (try clear hb2); (try clear hk); (try clear hi)))
                      go_ret
                      exact ⟨by first | rfl | (simp [errW_none, errW_some] <;> rfl) | (simp [*, errW_none, errW_some] <;> rfl), by repeat (first | (with_reducible first | exact HB.out | apply below_alloc | apply pw_below_drewN | apply below_drew1) | exact HB.out)⟩
                    · rw [if_neg c24] at H
                      exact absurd H (by simp)
                  · rw [if_neg c23] at H
                    exact absurd H (by simp)
                · replace c22 := Bool.eq_false_iff.mpr c22
                  subst c22
                  have H1 : (some false) = some r := by rw [if_neg (show ¬ (false = true) by decide)] at H; exact H
                  clear H
                  have H := H1
                  clear H1
                  obtain rfl := Option.some.inj H
                  go_wp2_with (first | ((with_reducible refine gate_callee (f := 16) rfl ?_); refine goesL_ (some 42) rfl rfl Tryd.func16 (by kernel_rfl) rfl #[.string (a0 ++ a1)] rfl (by (try simp only [List.map_toArray, List.map_cons, List.map_nil]); first | done | rfl | (simp only [List.length_drop, List.length_take]; rfl)) ?_; (with_reducible refine (words_Key.calls (a0 ++ a1) false _ ?side1 A21.out).mono ?_); (case side1 => exact HLD.below (by repeat (first | (with_reducible first | exact HB.out | apply below_alloc | apply pw_below_drewN | apply below_drew1) | exact HB.out))); rintro e w31 ⟨rfl, hb⟩; refine ⟨_, rfl, ?_⟩; have n0_ := Aside0.mk (below_step (by repeat (first | (with_reducible first | exact HB.out | apply below_alloc | apply pw_below_drewN | apply below_drew1) | exact HB.out)) hb); clear HB; have HB := n0_; clear n0_; (try clear hb); (try clear hb2); (try clear hk); (try clear hi)))
                  go_ret
                  exact ⟨by first | rfl | (simp [errW_none, errW_some] <;> rfl) | (simp [*, errW_none, errW_some] <;> rfl), by repeat (first | (with_reducible first | exact HB.out | apply below_alloc | apply pw_below_drewN | apply below_drew1) | exact HB.out)⟩
              · rw [if_neg c20] at H
                exact absurd H (by simp)
            · rw [if_neg c19] at H
              have c19b0 : decide (a2 ≤ 32) = false := decide_eq_false c19
              clear c19
              by_cases c32 : a2 = 127
              · rw [if_pos c32] at H
                have c32b0 : (a2 == 127) = true := beq_iff_eq.mpr c32
                have c32b1 : (a2 != 127) = false := bne_eq_false_iff_eq.mpr c32
                clear c32
                by_cases c33 : a0.size + a1.size ≤ 9223372036854775807
                · rw [if_pos c33] at H
                  have c33b0 := eq_true c33
                  have c33b1 : decide (a0.size + a1.size ≤ 9223372036854775807) = true := decide_eq_true c33
                  try have c33b2 : (9223372036854775807 < a0.size + a1.size) = False := eq_false (Nat.not_lt.2 c33)
                  try rw [show wrap64 ((a0.size : Int) + (a1.size : Int)) = (a0.size : Int) + (a1.size : Int) from by unfold wrap64; omega] at c15b0
                  replace H := Option.bind_eq_some_iff.mp H
                  obtain ⟨t224, A340, H⟩ := H
                  replace H : (if t224 = true then ((some (([a2] : List Int) : List Int)).bind fun y225 => (if a0.size + (strOfNums y225).size ≤ 9223372036854775807 then (if (a0 ++ (strOfNums y225)).size + a1.size ≤ 9223372036854775807 then ((words_Key.f ((a0 ++ (strOfNums y225)) ++ a1)).bind fun t228 => (some (!t228))) else (none)) else (none))) else (some false)) = some r := H
                  have A34 := Aside0.mk A340
                  clear A340
                  by_cases c35 : t224 = true
                  · subst c35
                    have H1 : ((some (([a2] : List Int) : List Int)).bind fun y225 => (if a0.size + (strOfNums y225).size ≤ 9223372036854775807 then (if (a0 ++ (strOfNums y225)).size + a1.size ≤ 9223372036854775807 then ((words_Key.f ((a0 ++ (strOfNums y225)) ++ a1)).bind fun t228 => (some (!t228))) else (none)) else (none))) = some r := by rw [if_pos rfl] at H; exact H
                    clear H
                    have H := H1
                    clear H1
                    obtain ⟨y225, hy225⟩ : ∃ y_ : List Int, y_ = (([a2] : List Int)) := ⟨_, rfl⟩
                    replace H : (if a0.size + (strOfNums y225).size ≤ 9223372036854775807 then (if (a0 ++ (strOfNums y225)).size + a1.size ≤ 9223372036854775807 then ((words_Key.f ((a0 ++ (strOfNums y225)) ++ a1)).bind fun t228 => (some (!t228))) else (none)) else (none)) = some r := by first | (rw [hy225]; with_reducible exact H) | (have H2_ := (Option.bind_some _ _).symm.trans H; rw [hy225]; with_reducible exact H2_) | (have H2_ := (Option.bind_some _ _).symm.trans H; with_reducible exact H2_) | with_reducible exact H | (rw [hy225]; exact H) | exact H
                    have Ny225 := Aside0.mk hy225
                    clear hy225
                    by_cases c36 : a0.size + (strOfNums y225).size ≤ 9223372036854775807
                    · rw [if_pos c36] at H
                      have c36b0 := eq_true c36
                      have c36b1 : decide (a0.size + (strOfNums y225).size ≤ 9223372036854775807) = true := decide_eq_true c36
                      try have c36b2 : (9223372036854775807 < a0.size + (strOfNums y225).size) = False := eq_false (Nat.not_lt.2 c36)
                      by_cases c37 : (a0 ++ (strOfNums y225)).size + a1.size ≤ 9223372036854775807
                      · rw [if_pos c37] at H
                        have c37b0 := eq_true c37
                        have c37b1 : decide ((a0 ++ (strOfNums y225)).size + a1.size ≤ 9223372036854775807) = true := decide_eq_true c37
                        try have c37b2 : (9223372036854775807 < (a0 ++ (strOfNums y225)).size + a1.size) = False := eq_false (Nat.not_lt.2 c37)
                        replace H := Option.bind_eq_some_iff.mp H
                        obtain ⟨t228, A380, H⟩ := H
                        replace H : (some (!t228)) = some r := H
                        have A38 := Aside0.mk A380
                        clear A380
                        obtain rfl := Option.some.inj H
                        go_wp2_with (first | ((with_reducible refine gate_callee (f := 16) rfl ?_); refine goesL_ (some 42) rfl rfl Tryd.func16 (by kernel_rfl) rfl #[.string (a0 ++ a1)] rfl (by (try simp only [List.map_toArray, List.map_cons, List.map_nil]); first | done | rfl | (simp only [List.length_drop, List.length_take]; rfl)) ?_; (with_reducible refine (words_Key.calls (a0 ++ a1) true _ ?side1 A34.out).mono ?_); (case side1 => exact HLD.below (by repeat (first | (with_reducible first | exact HB.out | apply below_alloc | apply pw_below_drewN | apply below_drew1) | exact HB.out))); rintro e w39 ⟨rfl, hb⟩; refine ⟨_, rfl, ?_⟩; have n0_ := Aside0.mk (below_step (by repeat (first | (with_reducible first | exact HB.out | apply below_alloc | apply pw_below_drewN | apply below_drew1) | exact HB.out)) hb); clear HB; have HB := n0_; clear n0_; (try clear hb); (try clear hb2); (try clear hk); (try clear hi)) | ((with_reducible refine gate_dst (N := 49) rfl ?_); (try (refine gate_guard (by rfl) ?_; dsimp only)); refine Kd.R_lit (Kd.int .u8) _ 5 ?hg (N := 49) ?hd (xs := ([a2] : List Int)) (inner := [.int .u8 a2]) (ok := fun _ => True) (okp := fun _ => True) ?hr ?hp (fun _ hk => hk) trivial (Below.refl _ _) (Nat.le_refl _) (by simp) ?_; (case hd => rfl); (case hg => rfl); (case hr => first | (go_simp; done) | (go_simp; rfl)); (case hp => exact (Reps.one (show Kd.M (Kd.int .u8) _ _ _ a2 [.int .u8 a2] from rfl) (Reps.none _ _))); intro v226 w40 ho41 hb hg_ hnew_; clear hg_ hnew_; (first | rw [← Ny225.out] at ho41 | (simp only [Int.reduceToNat] at ho41; rw [← Ny225.out] at ho41)); have n0_ := Aside0.mk (Kd.R_lower ho41 (below_size (by repeat (first | (with_reducible first | exact HB.out | apply below_alloc | apply pw_below_drewN | apply below_drew1) | exact HB.out)))); have n1_ := Aside0.mk (below_step (by repeat (first | (with_reducible first | exact HB.out | apply below_alloc | apply pw_below_drewN | apply below_drew1) | exact HB.out)) hb); clear HB; have HO227 := n0_; have HB := n1_; clear n0_ n1_; clear hb ho41; have hcv42 := own_string (P := Tryd.prog) Tryd.underlying37 Tryd.underlying5 Tryd.underlying9 (Kd.own_of_R HO227.out)) | (go_at_call 16; (with_reducible refine (words_Key.calls ((a0 ++ (strOfNums y225)) ++ a1) t228 _ ?side1 A38.out).mono ?_); (case side1 => exact HLD.below (by repeat (first | (with_reducible first | exact HB.out | apply below_alloc | apply pw_below_drewN | apply below_drew1) | exact HB.out))); rintro e w43 ⟨rfl, hb⟩; have n0_ := Aside0.mk (Kd.R_below (by (with_reducible repeat (first | apply Kd.R_alloc | apply Kd.R_drewN | apply Kd.R_drew)); exact HO227.out) hb); have n1_ := Aside0.mk (below_step (by repeat (first | (with_reducible first | exact HB.out | apply below_alloc | apply pw_below_drewN | apply below_drew1) | exact HB.out)) hb); clear HO227; clear HB; have HO227 := n0_; have HB := n1_; clear n0_ n1_; (try clear hb); (try clear hb2); (try clear hk); (try clear hi)))
                        go_ret
                        exact ⟨by first | rfl | (simp [errW_none, errW_some] <;> rfl) | (simp [*, errW_none, errW_some] <;> rfl), by repeat (first | (with_reducible first | exact HB.out | apply below_alloc | apply pw_below_drewN | apply below_drew1) | exact HB.out)⟩
                      · rw [if_neg c37] at H
                        exact absurd H (by simp)
                    · rw [if_neg c36] at H
                      exact absurd H (by simp)
                  · replace c35 := Bool.eq_false_iff.mpr c35
                    subst c35
                    have H1 : (some false) = some r := by rw [if_neg (show ¬ (false = true) by decide)] at H; exact H
                    clear H
                    have H := H1
                    clear H1
                    obtain rfl := Option.some.inj H
                    go_wp2_with (first | ((with_reducible refine gate_callee (f := 16) rfl ?_); refine goesL_ (some 42) rfl rfl Tryd.func16 (by kernel_rfl) rfl #[.string (a0 ++ a1)] rfl (by (try simp only [List.map_toArray, List.map_cons, List.map_nil]); first | done | rfl | (simp only [List.length_drop, List.length_take]; rfl)) ?_; (with_reducible refine (words_Key.calls (a0 ++ a1) false _ ?side1 A34.out).mono ?_); (case side1 => exact HLD.below (by repeat (first | (with_reducible first | exact HB.out | apply below_alloc | apply pw_below_drewN | apply below_drew1) | exact HB.out))); rintro e w44 ⟨rfl, hb⟩; refine ⟨_, rfl, ?_⟩; have n0_ := Aside0.mk (below_step (by repeat (first | (with_reducible first | exact HB.out | apply below_alloc | apply pw_below_drewN | apply below_drew1) | exact HB.out)) hb); clear HB; have HB := n0_; clear n0_; (try clear hb); (try clear hb2); (try clear hk); (try clear hi)))
                    go_ret
                    exact ⟨by first | rfl | (simp [errW_none, errW_some] <;> rfl) | (simp [*, errW_none, errW_some] <;> rfl), by repeat (first | (with_reducible first | exact HB.out | apply below_alloc | apply pw_below_drewN | apply below_drew1) | exact HB.out)⟩
                · rw [if_neg c33] at H
                  exact absurd H (by simp)
              · rw [if_neg c32] at H
                have c32b0 : (a2 == 127) = false := beq_eq_false_iff_ne.mpr c32
                have c32b1 : (a2 != 127) = true := bne_iff_ne.mpr c32
                by_cases c45 : a0.size + a1.size ≤ 9223372036854775807
                · rw [if_pos c45] at H
                  have c45b0 := eq_true c45
                  have c45b1 : decide (a0.size + a1.size ≤ 9223372036854775807) = true := decide_eq_true c45
                  try have c45b2 : (9223372036854775807 < a0.size + a1.size) = False := eq_false (Nat.not_lt.2 c45)
                  try rw [show wrap64 ((a0.size : Int) + (a1.size : Int)) = (a0.size : Int) + (a1.size : Int) from by unfold wrap64; omega] at c15b0
                  replace H := Option.bind_eq_some_iff.mp H
                  obtain ⟨t229, A460, H⟩ := H
                  replace H : (if t229 = true then (if a2 ≥ 128 then ((some (([a2] : List Int) : List Int)).bind fun y230 => (if a0.size + (strOfNums y230).size ≤ 9223372036854775807 then (if (a0 ++ (strOfNums y230)).size + a1.size ≤ 9223372036854775807 then ((words_Key.f ((a0 ++ (strOfNums y230)) ++ a1)).bind fun t233 => (some (!t233))) else (none)) else (none))) else (some true)) else (some false)) = some r := H
                  have A46 := Aside0.mk A460
                  clear A460
                  by_cases c47 : t229 = true
                  · subst c47
                    have H1 : (if a2 ≥ 128 then ((some (([a2] : List Int) : List Int)).bind fun y230 => (if a0.size + (strOfNums y230).size ≤ 9223372036854775807 then (if (a0 ++ (strOfNums y230)).size + a1.size ≤ 9223372036854775807 then ((words_Key.f ((a0 ++ (strOfNums y230)) ++ a1)).bind fun t233 => (some (!t233))) else (none)) else (none))) else (some true)) = some r := by rw [if_pos rfl] at H; exact H
                    clear H
                    have H := H1
                    clear H1
                    by_cases c48 : a2 ≥ 128
                    · rw [if_pos c48] at H
                      have c48b0 : decide (128 ≤ a2) = true := decide_eq_true c48
                      clear c48
                      obtain ⟨y230, hy230⟩ : ∃ y_ : List Int, y_ = (([a2] : List Int)) := ⟨_, rfl⟩
                      replace H : (if a0.size + (strOfNums y230).size ≤ 9223372036854775807 then (if (a0 ++ (strOfNums y230)).size + a1.size ≤ 9223372036854775807 then ((words_Key.f ((a0 ++ (strOfNums y230)) ++ a1)).bind fun t233 => (some (!t233))) else (none)) else (none)) = some r := by first | (rw [hy230]; with_reducible exact H) | (have H2_ := (Option.bind_some _ _).symm.trans H; rw [hy230]; with_reducible exact H2_) | (have H2_ := (Option.bind_some _ _).symm.trans H; with_reducible exact H2_) | with_reducible exact H | (rw [hy230]; exact H) | exact H
                      have Ny230 := Aside0.mk hy230
                      clear hy230
                      by_cases c49 : a0.size + (strOfNums y230).size ≤ 9223372036854775807
                      · rw [if_pos c49] at H
                        have c49b0 := eq_true c49
                        have c49b1 : decide (a0.size + (strOfNums y230).size ≤ 9223372036854775807) = true := decide_eq_true c49
                        try have c49b2 : (9223372036854775807 < a0.size + (strOfNums y230).size) = False := eq_false (Nat.not_lt.2 c49)
                        by_cases c50 : (a0 ++ (strOfNums y230)).size + a1.size ≤ 9223372036854775807
                        · rw [if_pos c50] at H
                          have c50b0 := eq_true c50
                          have c50b1 : decide ((a0 ++ (strOfNums y230)).size + a1.size ≤ 9223372036854775807) = true := decide_eq_true c50
                          try have c50b2 : (9223372036854775807 < (a0 ++ (strOfNums y230)).size + a1.size) = False := eq_false (Nat.not_lt.2 c50)
                          replace H := Option.bind_eq_some_iff.mp H
                          obtain ⟨t233, A510, H⟩ := H
                          replace H : (some (!t233)) = some r := H
                          have A51 := Aside0.mk A510
                          clear A510
                          obtain rfl := Option.some.inj H
                          go_wp2_with (first | ((with_reducible refine gate_callee (f := 16) rfl ?_); refine goesL_ (some 42) rfl rfl Tryd.func16 (by kernel_rfl) rfl #[.string (a0 ++ a1)] rfl (by (try simp only [List.map_toArray, List.map_cons, List.map_nil]); first | done | rfl | (simp only [List.length_drop, List.length_take]; rfl)) ?_; (with_reducible refine (words_Key.calls (a0 ++ a1) true _ ?side1 A46.out).mono ?_); (case side1 => exact HLD.below (by repeat (first | (with_reducible first | exact HB.out | apply below_alloc | apply pw_below_drewN | apply below_drew1) | exact HB.out))); rintro e w52 ⟨rfl, hb⟩; refine ⟨_, rfl, ?_⟩; have n0_ := Aside0.mk (below_step (by repeat (first | (with_reducible first | exact HB.out | apply below_alloc | apply pw_below_drewN | apply below_drew1) | exact HB.out)) hb); clear HB; have HB := n0_; clear n0_; (try clear hb); (try clear hb2); (try clear hk); (try clear hi)) | ((with_reducible refine gate_dst (N := 49) rfl ?_); (try (refine gate_guard (by rfl) ?_; dsimp only)); refine Kd.R_lit (Kd.int .u8) _ 5 ?hg (N := 49) ?hd (xs := ([a2] : List Int)) (inner := [.int .u8 a2]) (ok := fun _ => True) (okp := fun _ => True) ?hr ?hp (fun _ hk => hk) trivial (Below.refl _ _) (Nat.le_refl _) (by simp) ?_; (case hd => rfl); (case hg => rfl); (case hr => first | (go_simp; done) | (go_simp; rfl)); (case hp => exact (Reps.one (show Kd.M (Kd.int .u8) _ _ _ a2 [.int .u8 a2] from rfl) (Reps.none _ _))); intro v231 w53 ho54 hb hg_ hnew_; clear hg_ hnew_; (first | rw [← Ny230.out] at ho54 | (simp only [Int.reduceToNat] at ho54; rw [← Ny230.out] at ho54)); have n0_ := Aside0.mk (Kd.R_lower ho54 (below_size (by repeat (first | (with_reducible first | exact HB.out | apply below_alloc | apply pw_below_drewN | apply below_drew1) | exact HB.out)))); have n1_ := Aside0.mk (below_step (by repeat (first | (with_reducible first | exact HB.out | apply below_alloc | apply pw_below_drewN | apply below_drew1) | exact HB.out)) hb); clear HB; have HO232 := n0_; have HB := n1_; clear n0_ n1_; clear hb ho54; have hcv55 := own_string (P := Tryd.prog) Tryd.underlying37 Tryd.underlying5 Tryd.underlying9 (Kd.own_of_R HO232.out)) | (go_at_call 16; (with_reducible refine (words_Key.calls ((a0 ++ (strOfNums y230)) ++ a1) t233 _ ?side1 A51.out).mono ?_); (case side1 => exact HLD.below (by repeat (first | (with_reducible first | exact HB.out | apply below_alloc | apply pw_below_drewN | apply below_drew1) | exact HB.out))); rintro e w56 ⟨rfl, hb⟩; have n0_ := Aside0.mk (Kd.R_below (by (with_reducible repeat (first | apply Kd.R_alloc | apply Kd.R_drewN | apply Kd.R_drew)); exact HO232.out) hb); have n1_ := Aside0.mk (below_step (by repeat (first | (with_reducible first | exact HB.out | apply below_alloc | apply pw_below_drewN | apply below_drew1) | exact HB.out)) hb); clear HO232; clear HB; have HO232 := n0_; have HB := n1_; clear n0_ n1_; (try clear hb); (try clear hb2); (try clear hk); (try clear hi)))
                          go_ret
                          exact ⟨by first | rfl | (simp [errW_none, errW_some] <;> rfl) | (simp [*, errW_none, errW_some] <;> rfl), by repeat (first | (with_reducible first | exact HB.out | apply below_alloc | apply pw_below_drewN | apply below_drew1) | exact HB.out)⟩
                        · rw [if_neg c50] at H
                          exact absurd H (by simp)
                      · rw [if_neg c49] at H
                        exact absurd H (by simp)
                    · rw [if_neg c48] at H
                      have c48b0 : decide (128 ≤ a2) = false := decide_eq_false c48
                      clear c48
                      obtain rfl := Option.some.inj H
                      go_wp2_with (first | ((with_reducible refine gate_callee (f := 16) rfl ?_); refine goesL_ (some 42) rfl rfl Tryd.func16 (by kernel_rfl) rfl #[.string (a0 ++ a1)] rfl (by (try simp only [List.map_toArray, List.map_cons, List.map_nil]); first | done | rfl | (simp only [List.length_drop, List.length_take]; rfl)) ?_; (with_reducible refine (words_Key.calls (a0 ++ a1) true _ ?side1 A46.out).mono ?_); (case side1 => exact HLD.below (by repeat (first | (with_reducible first | exact HB.out | apply below_alloc | apply pw_below_drewN | apply below_drew1) | exact HB.out))); rintro e w57 ⟨rfl, hb⟩; refine ⟨_, rfl, ?_⟩; have n0_ := Aside0.mk (below_step (by repeat (first | (with_reducible first | exact HB.out | apply below_alloc | apply pw_below_drewN | apply below_drew1) | exact HB.out)) hb); clear HB; have HB := n0_; clear n0_; (try clear hb); (try clear hb2); (try clear hk); (try clear hi)))
                      go_ret
                      exact ⟨by first | rfl | (simp [errW_none, errW_some] <;> rfl) | (simp [*, errW_none, errW_some] <;> rfl), by repeat (first | (with_reducible first | exact HB.out | apply below_alloc | apply pw_below_drewN | apply below_drew1) | exact HB.out)⟩
                  · replace c47 := Bool.eq_false_iff.mpr c47
                    subst c47
                    have H1 : (some false) = some r := by rw [if_neg (show ¬ (false = true) by decide)] at H; exact H
                    clear H
                    have H := H1
                    clear H1
                    obtain rfl := Option.some.inj H
                    go_wp2_with (first | ((with_reducible refine gate_callee (f := 16) rfl ?_); refine goesL_ (some 42) rfl rfl Tryd.func16 (by kernel_rfl) rfl #[.string (a0 ++ a1)] rfl (by (try simp only [List.map_toArray, List.map_cons, List.map_nil]); first | done | rfl | (simp only [List.length_drop, List.length_take]; rfl)) ?_; (with_reducible refine (words_Key.calls (a0 ++ a1) false _ ?side1 A46.out).mono ?_); (case side1 => exact HLD.below (by repeat (first | (with_reducible first | exact HB.out | apply below_alloc | apply pw_below_drewN | apply below_drew1) | exact HB.out))); rintro e w58 ⟨rfl, hb⟩; refine ⟨_, rfl, ?_⟩; have n0_ := Aside0.mk (below_step (by repeat (first | (with_reducible first | exact HB.out | apply below_alloc | apply pw_below_drewN | apply below_drew1) | exact HB.out)) hb); clear HB; have HB := n0_; clear n0_; (try clear hb); (try clear hb2); (try clear hk); (try clear hi)))
                    go_ret
                    exact ⟨by first | rfl | (simp [errW_none, errW_some] <;> rfl) | (simp [*, errW_none, errW_some] <;> rfl), by repeat (first | (with_reducible first | exact HB.out | apply below_alloc | apply pw_below_drewN | apply below_drew1) | exact HB.out)⟩
                · rw [if_neg c45] at H
                  exact absurd H (by simp)
  · replace c5 := Bool.eq_false_iff.mpr c5
    subst c5
    have H1 : (some false) = some r := by rw [if_neg (show ¬ (false = true) by decide)] at H; exact H
    clear H
    have H := H1
    clear H1
    obtain rfl := Option.some.inj H
    go_enter Tryd.func9, Tryd.ntmps9
    go_wp2_with (first | ((with_reducible refine gate_callee (f := 13) rfl ?_); refine goesL_ (some 8) rfl rfl Tryd.func13 (by kernel_rfl) rfl #[] rfl (by (try simp only [List.map_toArray, List.map_cons, List.map_nil]); first | done | rfl | (simp only [List.length_drop, List.length_take]; rfl)) ?_; (with_reducible refine (cellaretlaw2_awake.calls k  false _ ?side1 A4.out).mono ?_); (case side1 => exact HLD.below (by repeat (first | (with_reducible first | exact HB.out | apply below_alloc | apply pw_below_drewN | apply below_drew1) | exact HB.out))); rintro e w59 ⟨rfl, hb⟩; refine ⟨_, rfl, ?_⟩; have n0_ := Aside0.mk (below_step (by repeat (first | (with_reducible first | exact HB.out | apply below_alloc | apply pw_below_drewN | apply below_drew1) | exact HB.out)) hb); clear HB; have HB := n0_; clear n0_; (try clear hb); (try clear hb2); (try clear hk); (try clear hi)))
    go_ret
    exact ⟨by first | rfl | (simp [errW_none, errW_some] <;> rfl) | (simp [*, errW_none, errW_some] <;> rfl), by repeat (first | (with_reducible first | exact HB.out | apply below_alloc | apply pw_below_drewN | apply below_drew1) | exact HB.out)⟩

/-- THE ONE PURE STATEMENT of cellaretlaw2_WordsKeys: yours. -/
def cellaretlaw2_WordsKeys.Pure : Prop := ∀ (a0 : ByteArray) (a1 : ByteArray) (a2 : Int), a0.size ≤ 140737488351232 → a1.size ≤ 140737488351232 → (Lit.int .u8 a2).wf = true → ∃ k, cellaretlaw2_WordsKeys.f k a0 a1 a2 = some true
theorem cellaretlaw2_WordsKeys.walk (P : cellaretlaw2_WordsKeys.Pure) (a0 : ByteArray) (a1 : ByteArray) (a2 : Int) (w : World) (HLD : LaidA w) (w0 : a0.size ≤ 140737488351232) (w1 : a1.size ≤ 140737488351232) (w2 : (Lit.int .u8 a2).wf = true) :
    Calls Tryd.prog 9 #[.string a0, .string a1, .int .u8 a2] w fun e w' => e = .returned (.bool true) ∧ Below w.heap.size w w' := by
  obtain ⟨k, h⟩ := P a0 a1 a2 w0 w1 w2
  refine (cellaretlaw2_WordsKeys.calls k a0 a1 a2 true w HLD h).mono ?_
  rintro e w' ⟨rfl, hd⟩
  exact ⟨rfl, hd⟩

end Go.Proofs.YtolbbhpcajepnaaDoor.H
