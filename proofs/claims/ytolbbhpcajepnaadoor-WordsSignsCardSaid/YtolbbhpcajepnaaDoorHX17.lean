/-
  Printed by this session's hybrid.py (it runs the kit's print over contracts of our own for library functions): plain functions with the answers of Go functions, and that the calls come to them. Their conditions stand in each head.
-/
import Derived.Test.YtolbbhpcajepnaaDoorHX0
import Derived.Test.YtolbbhpcajepnaaDoorHX16
namespace Go.Proofs.YtolbbhpcajepnaaDoor.H
open Go.RowKit Go.Proofs.YtolbbhpcajepnaaDoorW.PrintWords Go.Proofs.YtolbbhpcajepnaaDoorW.PrintLast Go.Proofs.YtolbbhpcajepnaaDoorW.PrintMore
attribute [local go_sem] max2_int min2_int max_two min_two max_three min_three max_four min_four   -- for this text's walks alone
set_option linter.unusedVariables false
set_option linter.unusedSimpArgs false

/-! ### cellaretref1_Runes: function 20 -/
def cellaretref1_Runes.l0 : Nat → ByteArray → Int → Bool → Option (Int × Bool)
  | 0, _, _, _ => none
  | k + 1, x0, x4, x5 => if (x0.size : Int) > 0 then ((cellaretref1_rune1.f k x0).bind fun bt149 => (if x5 = true then (if 0 ≤ bt149.2 then (if bt149.2 ≤ (x0.size : Int) then (cellaretref1_Runes.l0 k (x0.extract (bt149.2 : Int).toNat x0.size) (wrap64 (x4 + 1)) (decide (bt149.1 ≥ 0))) else (none)) else (none)) else (if 0 ≤ bt149.2 then (if bt149.2 ≤ (x0.size : Int) then (cellaretref1_Runes.l0 k (x0.extract (bt149.2 : Int).toNat x0.size) (wrap64 (x4 + 1)) false) else (none)) else (none)))) else (some (x4, x5))
def cellaretref1_Runes.f (k : Nat) (a0 : ByteArray) : Option (Int × Bool) := cellaretref1_Runes.l0 k a0 0 true
theorem cellaretref1_Runes.mono_l : ∀ k, (∀ y0 y1 y2, LeO (cellaretref1_Runes.l0 k y0 y1 y2) (cellaretref1_Runes.l0 (k + 1) y0 y1 y2))
  | 0 => fun _ _ _ r h => by simp [cellaretref1_Runes.l0] at h
  | k + 1 => by
    have ih0 := cellaretref1_Runes.mono_l k
    · intro y0 y1 y2
      unfold cellaretref1_Runes.l0
      repeat' first
      | (with_reducible exact ih0 _ _ _)
      | (with_reducible exact cellaretref1_rune1.mono _ _)
      | (with_reducible exact LeO.refl _)
      | (with_reducible exact LeO.none _)
      | (with_reducible refine LeO.ite ?_ ?_)
      | (with_reducible refine LeO.bind ?_ (fun _ => ?_))
      | exact ih0 _ _ _
      | exact cellaretref1_rune1.mono _ _
      | exact LeO.none _
      | refine LeO.ite ?_ ?_
      | refine LeO.bind ?_ (fun _ => ?_)
theorem cellaretref1_Runes.mono : ∀ a0 k, LeO (cellaretref1_Runes.f k a0) (cellaretref1_Runes.f (k + 1) a0) := by
  intro a0 k
  have ih0 := cellaretref1_Runes.mono_l k
  unfold cellaretref1_Runes.f
  repeat' first
      | (with_reducible exact ih0 _ _ _)
      | (with_reducible exact cellaretref1_rune1.mono _ _)
      | (with_reducible exact LeO.refl _)
      | (with_reducible exact LeO.none _)
      | (with_reducible refine LeO.ite ?_ ?_)
      | (with_reducible refine LeO.bind ?_ (fun _ => ?_))
      | exact ih0 _ _ _
      | exact cellaretref1_rune1.mono _ _
      | exact LeO.none _
      | refine LeO.ite ?_ ?_
      | refine LeO.bind ?_ (fun _ => ?_)
set_option maxHeartbeats 8000000 in
set_option maxRecDepth 100000 in
theorem cellaretref1_Runes.calls (k : Nat) (a0 : ByteArray) (r1 : Int) (r2 : Bool) (w : World) (h : cellaretref1_Runes.f k a0 = some (r1, r2)) :
    Calls Tryd.prog 20 #[.string a0] w fun e w' => e = .returned (.tuple #[.int .i64 r1, .bool r2]) ∧ Drawn0 w w' := by
  have H : (cellaretref1_Runes.l0 k a0 0 true) = some (r1, r2) := h
  clear h
  have H' := Aside0.mk H
  clear H
  go_enter Tryd.func20, Tryd.ntmps20
  go_wp2
  go_loopg [0, 4, 5] k (fun kq v0 v4 v5 w' => ∃ (x0_1 : ByteArray) (x4_1 : Int) (x5_1 : Bool), v0 = .string x0_1 ∧ v4 = .int .i64 x4_1 ∧ v5 = .bool x5_1 ∧ Aside0 (cellaretref1_Runes.l0 kq x0_1 x4_1 x5_1 = some (r1, r2)) ∧ Aside0 (kq ≤ k) ∧ Drawn0 w w')
  case atStart => exact ⟨(a0), (0), (true), (by first | rfl | (simp; done) | (simp [*]; done)), (by first | rfl | (simp; done) | (simp [*]; done)), (by first | rfl | (simp; done) | (simp [*]; done)), H', ⟨Nat.le_refl _⟩, by repeat (first | exact Drawn0.refl _ | apply Drawn0.step)⟩
  case round =>
    clear H'
    obtain ⟨x0_1, x4_1, x5_1, rfl, rfl, rfl, HA, HK1, ⟨m1, rfl⟩⟩ := hrel
    cases gk with
    | zero => exact absurd HA.out (by simp [cellaretref1_Runes.l0])
    | succ k1 =>
      have H := HA.out
      clear HA
      simp only [cellaretref1_Runes.l0] at H
      by_cases c2 : (x0_1.size : Int) > 0
      · rw [if_pos c2] at H
        have c2b0 : decide (0 < (x0_1.size : Int)) = true := decide_eq_true c2
        have c2b1 : decide (0 < x0_1.size) = true := decide_eq_true (by omega)
        clear c2
        replace H := Option.bind_eq_some_iff.mp H
        obtain ⟨⟨t149, t150⟩, A30, H⟩ := H
        replace H : (if x5_1 = true then (if 0 ≤ t150 then (if t150 ≤ (x0_1.size : Int) then (cellaretref1_Runes.l0 k1 (x0_1.extract (t150 : Int).toNat x0_1.size) (wrap64 (x4_1 + 1)) (decide (t149 ≥ 0))) else (none)) else (none)) else (if 0 ≤ t150 then (if t150 ≤ (x0_1.size : Int) then (cellaretref1_Runes.l0 k1 (x0_1.extract (t150 : Int).toNat x0_1.size) (wrap64 (x4_1 + 1)) false) else (none)) else (none))) = some (r1, r2) := H
        have A3 := Aside0.mk A30
        clear A30
        by_cases c4 : x5_1 = true
        · subst c4
          have H1 : (if 0 ≤ t150 then (if t150 ≤ (x0_1.size : Int) then (cellaretref1_Runes.l0 k1 (x0_1.extract (t150 : Int).toNat x0_1.size) (wrap64 (x4_1 + 1)) (decide (t149 ≥ 0))) else (none)) else (none)) = some (r1, r2) := by rw [if_pos rfl] at H; exact H
          clear H
          have H := H1
          clear H1
          by_cases c5 : 0 ≤ t150
          · rw [if_pos c5] at H
            have c5b0 := eq_true c5
            have c5b1 : decide (0 ≤ t150) = true := decide_eq_true c5
            clear c5
            by_cases c6 : t150 ≤ (x0_1.size : Int)
            · rw [if_pos c6] at H
              have c6b0 := eq_true c6
              have c6b1 : decide (t150 ≤ (x0_1.size : Int)) = true := decide_eq_true c6
              clear c6
              have H' := Aside0.mk H
              clear H
              go_wp2_with (first | ((with_reducible refine gate_callee (f := 37) rfl ?_); refine goesL_ (some 13) rfl rfl Tryd.func37 (by kernel_rfl) rfl #[.string x0_1] rfl (by (try simp only [List.map_toArray, List.map_cons, List.map_nil]); first | done | rfl | (simp only [List.length_drop, List.length_take]; rfl)) ?_; (with_reducible refine (cellaretref1_rune1.calls k1 x0_1 t149 t150 _ A3.out).mono ?_); rintro e w' ⟨rfl, ⟨nd, rfl⟩⟩; refine ⟨_, rfl, ?_⟩))
              go_roundg k1
              case measure => have := HK1.out; omega
              case rel => exact ⟨(x0_1.extract (t150 : Int).toNat x0_1.size), (wrap64 (x4_1 + 1)), (decide (t149 ≥ 0)), (by first | rfl | (simp; done) | (simp [*]; done)), (by first | rfl | (simp; done) | (simp [*]; done)), (by first | rfl | (simp; done) | (simp [*]; done)), H', ⟨by have := HK1.out; omega⟩, by repeat (first | exact Drawn0.refl _ | apply Drawn0.step)⟩
            · rw [if_neg c6] at H
              exact absurd H (by simp)
          · rw [if_neg c5] at H
            exact absurd H (by simp)
        · replace c4 := Bool.eq_false_iff.mpr c4
          subst c4
          have H1 : (if 0 ≤ t150 then (if t150 ≤ (x0_1.size : Int) then (cellaretref1_Runes.l0 k1 (x0_1.extract (t150 : Int).toNat x0_1.size) (wrap64 (x4_1 + 1)) false) else (none)) else (none)) = some (r1, r2) := by rw [if_neg (show ¬ (false = true) by decide)] at H; exact H
          clear H
          have H := H1
          clear H1
          by_cases c7 : 0 ≤ t150
          · rw [if_pos c7] at H
            have c7b0 := eq_true c7
            have c7b1 : decide (0 ≤ t150) = true := decide_eq_true c7
            clear c7
            by_cases c8 : t150 ≤ (x0_1.size : Int)
            · rw [if_pos c8] at H
              have c8b0 := eq_true c8
              have c8b1 : decide (t150 ≤ (x0_1.size : Int)) = true := decide_eq_true c8
              clear c8
              have H' := Aside0.mk H
              clear H
              go_wp2_with (first | ((with_reducible refine gate_callee (f := 37) rfl ?_); refine goesL_ (some 13) rfl rfl Tryd.func37 (by kernel_rfl) rfl #[.string x0_1] rfl (by (try simp only [List.map_toArray, List.map_cons, List.map_nil]); first | done | rfl | (simp only [List.length_drop, List.length_take]; rfl)) ?_; (with_reducible refine (cellaretref1_rune1.calls k1 x0_1 t149 t150 _ A3.out).mono ?_); rintro e w' ⟨rfl, ⟨nd, rfl⟩⟩; refine ⟨_, rfl, ?_⟩))
              go_roundg k1
              case measure => have := HK1.out; omega
              case rel => exact ⟨(x0_1.extract (t150 : Int).toNat x0_1.size), (wrap64 (x4_1 + 1)), (false), (by first | rfl | (simp; done) | (simp [*]; done)), (by first | rfl | (simp; done) | (simp [*]; done)), (by first | rfl | (simp; done) | (simp [*]; done)), H', ⟨by have := HK1.out; omega⟩, by repeat (first | exact Drawn0.refl _ | apply Drawn0.step)⟩
            · rw [if_neg c8] at H
              exact absurd H (by simp)
          · rw [if_neg c7] at H
            exact absurd H (by simp)
      · rw [if_neg c2] at H
        have c2b0 : decide (0 < (x0_1.size : Int)) = false := decide_eq_false c2
        have c2b1 : decide (0 < x0_1.size) = false := decide_eq_false (by omega)
        clear c2
        simp only [Option.some.injEq, Prod.mk.injEq] at H
        obtain ⟨rfl, rfl⟩ := H
        go_wp2
        go_ret2
        exact ⟨by first | rfl | (simp; done) | (simp [*]; done), by repeat (first | exact Drawn0.refl _ | apply Drawn0.step)⟩

end Go.Proofs.YtolbbhpcajepnaaDoor.H
