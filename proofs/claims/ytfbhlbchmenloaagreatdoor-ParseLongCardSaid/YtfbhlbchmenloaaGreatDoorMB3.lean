/-
  The law's own walk, its plain statement and its row: the law holds. Its condition: none beside the given row's own.
-/
import Derived.Test.YtfbhlbchmenloaaGreatDoorMB2
import Derived.Lib.MapLaws
import Derived.Lib.TrimUEq
import Derived.Lib.Small
import Derived.Laws.BitsLemmas
import Derived.Lib.ItoaNum
import Derived.Deep.RegionHeld3
import Derived.KernelRfl
section
namespace Go.Proofs.YtfbhlbchmenloaaGreatDoor.H
open Go.RowKit Go.Proofs.YtfbhlbchmenloaaGreatDoorW.PrintWords Go.Proofs.YtfbhlbchmenloaaGreatDoorW.PrintLast Go.Proofs.YtfbhlbchmenloaaGreatDoorW.PrintMore
attribute [local go_sem] max2_int min2_int max_two min_two max_three min_three max_four min_four   -- for this text's walks alone
set_option linter.unusedVariables false
set_option linter.unusedSimpArgs false

/-! ### cellaretref1_Key: function 26 -/
mutual
def cellaretref1_Key.j0 : Nat → ByteArray → Bool → Option (Bool)
  | 0, _, _ => none
  | k + 1, x0, x12 => if x12 = true then (some false) else (cellaretref1_Key.l0 k x0)
def cellaretref1_Key.l0 : Nat → ByteArray → Option (Bool)
  | 0, _ => none
  | k + 1, x0 => if (x0.size : Int) > 0 then ((cellaretref1_rune1.f k x0).bind fun bt155 => (if bt155.1 ≤ 32 then (some false) else (if bt155.1 ≥ 127 then (if bt155.1 ≤ 160 then (some false) else (if bt155.1 = 8232 then (some false) else (if bt155.1 = 8233 then (some false) else (if 0 ≤ bt155.2 then (if bt155.2 ≤ (x0.size : Int) then (cellaretref1_Key.l0 k (x0.extract (bt155.2 : Int).toNat x0.size)) else (none)) else (none))))) else (if bt155.1 = 8232 then (some false) else (if bt155.1 = 8233 then (some false) else (if 0 ≤ bt155.2 then (if bt155.2 ≤ (x0.size : Int) then (cellaretref1_Key.l0 k (x0.extract (bt155.2 : Int).toNat x0.size)) else (none)) else (none))))))) else (some true)
end
def cellaretref1_Key.f (k : Nat) (a0 : ByteArray) : Option (Bool) := if (a0.size : Int) < 1 then (cellaretref1_Key.j0 k a0 true) else (cellaretref1_Key.j0 k a0 (decide ((a0.size : Int) > 250)))
theorem cellaretref1_Key.mono_l : ∀ k, (∀ y0 y1, LeO (cellaretref1_Key.j0 k y0 y1) (cellaretref1_Key.j0 (k + 1) y0 y1)) ∧ (∀ y0, LeO (cellaretref1_Key.l0 k y0) (cellaretref1_Key.l0 (k + 1) y0))
  | 0 => ⟨fun _ _ r h => by simp [cellaretref1_Key.j0] at h, fun _ r h => by simp [cellaretref1_Key.l0] at h⟩
  | k + 1 => by
    obtain ⟨ih0, ih1⟩ := cellaretref1_Key.mono_l k
    refine ⟨?_, ?_⟩
    · intro y0 y1
      unfold cellaretref1_Key.j0
      repeat' first
      | (with_reducible exact ih0 _ _)
      | (with_reducible exact ih1 _)
      | (with_reducible exact cellaretref1_rune1.mono _ _)
      | (with_reducible exact LeO.refl _)
      | (with_reducible exact LeO.none _)
      | (with_reducible refine LeO.ite ?_ ?_)
      | (with_reducible refine LeO.bind ?_ (fun _ => ?_))
      | exact ih0 _ _
      | exact ih1 _
      | exact cellaretref1_rune1.mono _ _
      | exact LeO.none _
      | refine LeO.ite ?_ ?_
      | refine LeO.bind ?_ (fun _ => ?_)
    · intro y0
      unfold cellaretref1_Key.l0
      repeat' first
      | (with_reducible exact ih0 _ _)
      | (with_reducible exact ih1 _)
      | (with_reducible exact cellaretref1_rune1.mono _ _)
      | (with_reducible exact LeO.refl _)
      | (with_reducible exact LeO.none _)
      | (with_reducible refine LeO.ite ?_ ?_)
      | (with_reducible refine LeO.bind ?_ (fun _ => ?_))
      | exact ih0 _ _
      | exact ih1 _
      | exact cellaretref1_rune1.mono _ _
      | exact LeO.none _
      | refine LeO.ite ?_ ?_
      | refine LeO.bind ?_ (fun _ => ?_)
theorem cellaretref1_Key.mono : ∀ a0 k, LeO (cellaretref1_Key.f k a0) (cellaretref1_Key.f (k + 1) a0) := by
  intro a0 k
  obtain ⟨ih0, ih1⟩ := cellaretref1_Key.mono_l k
  unfold cellaretref1_Key.f
  repeat' first
      | (with_reducible exact ih0 _ _)
      | (with_reducible exact ih1 _)
      | (with_reducible exact cellaretref1_rune1.mono _ _)
      | (with_reducible exact LeO.refl _)
      | (with_reducible exact LeO.none _)
      | (with_reducible refine LeO.ite ?_ ?_)
      | (with_reducible refine LeO.bind ?_ (fun _ => ?_))
      | exact ih0 _ _
      | exact ih1 _
      | exact cellaretref1_rune1.mono _ _
      | exact LeO.none _
      | refine LeO.ite ?_ ?_
      | refine LeO.bind ?_ (fun _ => ?_)
set_option maxHeartbeats 8000000 in
set_option maxRecDepth 100000 in
theorem cellaretref1_Key.calls (k : Nat) (a0 : ByteArray) (r : Bool) (w : World) (h : cellaretref1_Key.f k a0 = some r) :
  Calls Tryz.prog 26 #[.string a0] w fun e w' => e = .returned (.bool r) ∧ Drawn0 w w' := by
 have H : (if (a0.size : Int) < 1 then (cellaretref1_Key.j0 k a0 true) else (cellaretref1_Key.j0 k a0 (decide ((a0.size : Int) > 250)))) = some r := h
 clear h
 have HC2 := M0 H
 clear H
 go_enter Tryz.func26, Tryz.ntmps26
 go_upto_region 1 with (fail)
 go_cut [12] (fun v12 wc => ∃ (kq : Nat) (x12_1 : Bool), v12 = .bool x12_1 ∧ Aside0 (cellaretref1_Key.j0 kq a0 x12_1 = some r) ∧ Aside0 (kq ≤ k) ∧ Drawn0 w wc)
 case first =>
  have H := HC2.out
  clear HC2
  by_cases c3 : (a0.size : Int) < 1
  ·rw [if_pos c3] at H
   have c3b0 : decide ((a0.size : Int) < 1) = true := decide_eq_true c3
   have c3b1 : decide (a0.size < 1) = true := decide_eq_true (by omega)
   clear c3
   (first | rw [c3b0] | (simp only [i64_w, i32_w]; rw [c3b0]) | skip)
   have H' := M0 H
   clear H
   go_wp2
   go_meet
   case rel => exact ⟨_, (true), (by first | rfl | (simp; done) | (simp [*]; done)), H', ⟨by first | omega | exact Nat.le_refl _⟩, by repeat (first | exact Drawn0.refl _ | apply Drawn0.step)⟩
  ·rw [if_neg c3] at H
   have c3b0 : decide ((a0.size : Int) < 1) = false := decide_eq_false c3
   have c3b1 : decide (a0.size < 1) = false := decide_eq_false (by omega)
   clear c3
   (first | rw [c3b0] | (simp only [i64_w, i32_w]; rw [c3b0]) | skip)
   have H' := M0 H
   clear H
   go_wp2
   go_meet
   case rel => exact ⟨_, (decide ((a0.size : Int) > 250)), (by first | rfl | (simp; done) | (simp [*]; done)), H', ⟨by first | omega | exact Nat.le_refl _⟩, by repeat (first | exact Drawn0.refl _ | apply Drawn0.step)⟩
 case rest =>
  clear HC2
  try clear c2
  try clear p2
  try clear c3
  try clear c3b0
  try clear c3b1
  obtain ⟨kq, x12_1, rfl, HA, HJ1, ⟨mc1, rfl⟩⟩ := hcut
  cases kq with
  | zero => exact absurd HA.out (by simp [cellaretref1_Key.j0])
  | succ kj1 =>
   have H := HA.out
   clear HA
   simp only [cellaretref1_Key.j0] at H
   by_cases c4 : x12_1 = true
   ·subst c4
    have H1 : (some false) = some r := by rw [if_pos rfl] at H; exact H
    clear H
    have H := H1
    clear H1
    obtain rfl := Option.some.inj H
    go_wp2
    go_ret
    exact ⟨by first | rfl | (simp; done) | (simp [*]; done), by repeat (first | exact Drawn0.refl _ | apply Drawn0.step)⟩
   ·replace c4 := Bool.eq_false_iff.mpr c4
    subst c4
    have H1 : (cellaretref1_Key.l0 kj1 a0) = some r := by rw [if_neg (show ¬ (false = true) by decide)] at H; exact H
    clear H
    have H := H1
    clear H1
    have H' := M0 H
    clear H
    go_wp2
    go_loopg [0] kj1 (fun kq v0 w' => ∃ (x0_2 : ByteArray), v0 = .string x0_2 ∧ Aside0 (cellaretref1_Key.l0 kq x0_2 = some r) ∧ Aside0 (kq ≤ kj1) ∧ Drawn0 w w')
    case atStart => exact ⟨(a0), (by first | rfl | (simp; done) | (simp [*]; done)), H', ⟨Nat.le_refl _⟩, by repeat (first | exact Drawn0.refl _ | apply Drawn0.step)⟩
    case round =>
     clear H'
     try clear c1
     try clear c2
     try clear p2
     try clear c3
     try clear c3b0
     try clear c3b1
     try clear c4
     try clear p2
     obtain ⟨x0_2, rfl, HA, HK2, ⟨m2, rfl⟩⟩ := hrel
     cases gk with
     | zero => exact absurd HA.out (by simp [cellaretref1_Key.l0])
     | succ k2 =>
      have H := HA.out
      clear HA
      simp only [cellaretref1_Key.l0] at H
      by_cases c5 : (x0_2.size : Int) > 0
      ·rw [if_pos c5] at H
       have c5b0 : decide (0 < (x0_2.size : Int)) = true := decide_eq_true c5
       have c5b1 : decide (0 < x0_2.size) = true := decide_eq_true (by omega)
       clear c5
       replace H := Option.bind_eq_some_iff.mp H
       obtain ⟨⟨qA, qB⟩, A60, H⟩ := H
       replace H : (if qA ≤ 32 then (some false) else (if qA ≥ 127 then (if qA ≤ 160 then (some false) else (if qA = 8232 then (some false) else (if qA = 8233 then (some false) else (if 0 ≤ qB then (if qB ≤ (x0_2.size : Int) then (cellaretref1_Key.l0 k2 (x0_2.extract (qB : Int).toNat x0_2.size)) else (none)) else (none))))) else (if qA = 8232 then (some false) else (if qA = 8233 then (some false) else (if 0 ≤ qB then (if qB ≤ (x0_2.size : Int) then (cellaretref1_Key.l0 k2 (x0_2.extract (qB : Int).toNat x0_2.size)) else (none)) else (none)))))) = some r := H
       have A6 := M0 A60
       clear A60
       by_cases c7 : qA ≤ 32
       ·rw [if_pos c7] at H
        have c7b0 : decide (qA ≤ 32) = true := decide_eq_true c7
        clear c7
        obtain rfl := Option.some.inj H
        go_wp2_with (first | ((with_reducible refine gate_callee (f := 38) rfl ?_); refine goesL_ (some 18) rfl rfl Tryz.func38 (by kernel_rfl) rfl #[.string x0_2] rfl (by (try simp only [List.map_toArray, List.map_cons, List.map_nil]); first | done | rfl | (simp only [List.length_drop, List.length_take]; rfl)) ?_; (with_reducible refine (cellaretref1_rune1.calls k2 x0_2 qA qB _ A6.out).mono ?_); rintro e w' ⟨rfl, ⟨nd, rfl⟩⟩; refine ⟨_, rfl, ?_⟩))
        go_ret
        exact ⟨by first | rfl | (simp; done) | (simp [*]; done), by repeat (first | exact Drawn0.refl _ | apply Drawn0.step)⟩
       ·rw [if_neg c7] at H
        have c7b0 : decide (qA ≤ 32) = false := decide_eq_false c7
        clear c7
        by_cases c8 : qA ≥ 127
        ·rw [if_pos c8] at H
         have c8b0 : decide (127 ≤ qA) = true := decide_eq_true c8
         clear c8
         by_cases c9 : qA ≤ 160
         ·rw [if_pos c9] at H
          have c9b0 : decide (qA ≤ 160) = true := decide_eq_true c9
          clear c9
          obtain rfl := Option.some.inj H
          go_wp2_with (first | ((with_reducible refine gate_callee (f := 38) rfl ?_); refine goesL_ (some 18) rfl rfl Tryz.func38 (by kernel_rfl) rfl #[.string x0_2] rfl (by (try simp only [List.map_toArray, List.map_cons, List.map_nil]); first | done | rfl | (simp only [List.length_drop, List.length_take]; rfl)) ?_; (with_reducible refine (cellaretref1_rune1.calls k2 x0_2 qA qB _ A6.out).mono ?_); rintro e w' ⟨rfl, ⟨nd, rfl⟩⟩; refine ⟨_, rfl, ?_⟩))
          go_ret
          exact ⟨by first | rfl | (simp; done) | (simp [*]; done), by repeat (first | exact Drawn0.refl _ | apply Drawn0.step)⟩
         ·rw [if_neg c9] at H
          have c9b0 : decide (qA ≤ 160) = false := decide_eq_false c9
          clear c9
          by_cases c10 : qA = 8232
          ·rw [if_pos c10] at H
           have c10b0 : (qA == 8232) = true := beq_iff_eq.mpr c10
           have c10b1 : (qA != 8232) = false := bne_eq_false_iff_eq.mpr c10
           clear c10
           obtain rfl := Option.some.inj H
           go_wp2_with (first | ((with_reducible refine gate_callee (f := 38) rfl ?_); refine goesL_ (some 18) rfl rfl Tryz.func38 (by kernel_rfl) rfl #[.string x0_2] rfl (by (try simp only [List.map_toArray, List.map_cons, List.map_nil]); first | done | rfl | (simp only [List.length_drop, List.length_take]; rfl)) ?_; (with_reducible refine (cellaretref1_rune1.calls k2 x0_2 qA qB _ A6.out).mono ?_); rintro e w' ⟨rfl, ⟨nd, rfl⟩⟩; refine ⟨_, rfl, ?_⟩))
           go_ret
           exact ⟨by first | rfl | (simp; done) | (simp [*]; done), by repeat (first | exact Drawn0.refl _ | apply Drawn0.step)⟩
          ·rw [if_neg c10] at H
           have c10b0 : (qA == 8232) = false := beq_eq_false_iff_ne.mpr c10
           have c10b1 : (qA != 8232) = true := bne_iff_ne.mpr c10
           by_cases c11 : qA = 8233
           ·rw [if_pos c11] at H
            have c11b0 : (qA == 8233) = true := beq_iff_eq.mpr c11
            have c11b1 : (qA != 8233) = false := bne_eq_false_iff_eq.mpr c11
            clear c11
            obtain rfl := Option.some.inj H
            go_wp2_with (first | ((with_reducible refine gate_callee (f := 38) rfl ?_); refine goesL_ (some 18) rfl rfl Tryz.func38 (by kernel_rfl) rfl #[.string x0_2] rfl (by (try simp only [List.map_toArray, List.map_cons, List.map_nil]); first | done | rfl | (simp only [List.length_drop, List.length_take]; rfl)) ?_; (with_reducible refine (cellaretref1_rune1.calls k2 x0_2 qA qB _ A6.out).mono ?_); rintro e w' ⟨rfl, ⟨nd, rfl⟩⟩; refine ⟨_, rfl, ?_⟩))
            go_ret
            exact ⟨by first | rfl | (simp; done) | (simp [*]; done), by repeat (first | exact Drawn0.refl _ | apply Drawn0.step)⟩
           ·rw [if_neg c11] at H
            have c11b0 : (qA == 8233) = false := beq_eq_false_iff_ne.mpr c11
            have c11b1 : (qA != 8233) = true := bne_iff_ne.mpr c11
            by_cases c12 : 0 ≤ qB
            ·rw [if_pos c12] at H
             have c12b0 := eq_true c12
             have c12b1 : decide (0 ≤ qB) = true := decide_eq_true c12
             clear c12
             by_cases c13 : qB ≤ (x0_2.size : Int)
             ·rw [if_pos c13] at H
              have c13b0 := eq_true c13
              have c13b1 : decide (qB ≤ (x0_2.size : Int)) = true := decide_eq_true c13
              clear c13
              have H' := M0 H
              clear H
              go_wp2_with (first | ((with_reducible refine gate_callee (f := 38) rfl ?_); refine goesL_ (some 18) rfl rfl Tryz.func38 (by kernel_rfl) rfl #[.string x0_2] rfl (by (try simp only [List.map_toArray, List.map_cons, List.map_nil]); first | done | rfl | (simp only [List.length_drop, List.length_take]; rfl)) ?_; (with_reducible refine (cellaretref1_rune1.calls k2 x0_2 qA qB _ A6.out).mono ?_); rintro e w' ⟨rfl, ⟨nd, rfl⟩⟩; refine ⟨_, rfl, ?_⟩))
              go_roundg k2
              case measure => have := HJ1.out; have := HK2.out; omega
              case rel => exact ⟨(x0_2.extract (qB : Int).toNat x0_2.size), (by first | rfl | (simp; done) | (simp [*]; done)), H', ⟨by have := HJ1.out; have := HK2.out; omega⟩, by repeat (first | exact Drawn0.refl _ | apply Drawn0.step)⟩
             ·rw [if_neg c13] at H
              exact absurd H (by simp)
            ·rw [if_neg c12] at H
             exact absurd H (by simp)
        ·rw [if_neg c8] at H
         have c8b0 : decide (127 ≤ qA) = false := decide_eq_false c8
         clear c8
         by_cases c14 : qA = 8232
         ·rw [if_pos c14] at H
          have c14b0 : (qA == 8232) = true := beq_iff_eq.mpr c14
          have c14b1 : (qA != 8232) = false := bne_eq_false_iff_eq.mpr c14
          clear c14
          obtain rfl := Option.some.inj H
          go_wp2_with (first | ((with_reducible refine gate_callee (f := 38) rfl ?_); refine goesL_ (some 18) rfl rfl Tryz.func38 (by kernel_rfl) rfl #[.string x0_2] rfl (by (try simp only [List.map_toArray, List.map_cons, List.map_nil]); first | done | rfl | (simp only [List.length_drop, List.length_take]; rfl)) ?_; (with_reducible refine (cellaretref1_rune1.calls k2 x0_2 qA qB _ A6.out).mono ?_); rintro e w' ⟨rfl, ⟨nd, rfl⟩⟩; refine ⟨_, rfl, ?_⟩))
          go_ret
          exact ⟨by first | rfl | (simp; done) | (simp [*]; done), by repeat (first | exact Drawn0.refl _ | apply Drawn0.step)⟩
         ·rw [if_neg c14] at H
          have c14b0 : (qA == 8232) = false := beq_eq_false_iff_ne.mpr c14
          have c14b1 : (qA != 8232) = true := bne_iff_ne.mpr c14
          by_cases c15 : qA = 8233
          ·rw [if_pos c15] at H
           have c15b0 : (qA == 8233) = true := beq_iff_eq.mpr c15
           have c15b1 : (qA != 8233) = false := bne_eq_false_iff_eq.mpr c15
           clear c15
           obtain rfl := Option.some.inj H
           go_wp2_with (first | ((with_reducible refine gate_callee (f := 38) rfl ?_); refine goesL_ (some 18) rfl rfl Tryz.func38 (by kernel_rfl) rfl #[.string x0_2] rfl (by (try simp only [List.map_toArray, List.map_cons, List.map_nil]); first | done | rfl | (simp only [List.length_drop, List.length_take]; rfl)) ?_; (with_reducible refine (cellaretref1_rune1.calls k2 x0_2 qA qB _ A6.out).mono ?_); rintro e w' ⟨rfl, ⟨nd, rfl⟩⟩; refine ⟨_, rfl, ?_⟩))
           go_ret
           exact ⟨by first | rfl | (simp; done) | (simp [*]; done), by repeat (first | exact Drawn0.refl _ | apply Drawn0.step)⟩
          ·rw [if_neg c15] at H
           have c15b0 : (qA == 8233) = false := beq_eq_false_iff_ne.mpr c15
           have c15b1 : (qA != 8233) = true := bne_iff_ne.mpr c15
           by_cases c16 : 0 ≤ qB
           ·rw [if_pos c16] at H
            have c16b0 := eq_true c16
            have c16b1 : decide (0 ≤ qB) = true := decide_eq_true c16
            clear c16
            by_cases c17 : qB ≤ (x0_2.size : Int)
            ·rw [if_pos c17] at H
             have c17b0 := eq_true c17
             have c17b1 : decide (qB ≤ (x0_2.size : Int)) = true := decide_eq_true c17
             clear c17
             have H' := M0 H
             clear H
             go_wp2_with (first | ((with_reducible refine gate_callee (f := 38) rfl ?_); refine goesL_ (some 18) rfl rfl Tryz.func38 (by kernel_rfl) rfl #[.string x0_2] rfl (by (try simp only [List.map_toArray, List.map_cons, List.map_nil]); first | done | rfl | (simp only [List.length_drop, List.length_take]; rfl)) ?_; (with_reducible refine (cellaretref1_rune1.calls k2 x0_2 qA qB _ A6.out).mono ?_); rintro e w' ⟨rfl, ⟨nd, rfl⟩⟩; refine ⟨_, rfl, ?_⟩))
             go_roundg k2
             case measure => have := HJ1.out; have := HK2.out; omega
             case rel => exact ⟨(x0_2.extract (qB : Int).toNat x0_2.size), (by first | rfl | (simp; done) | (simp [*]; done)), H', ⟨by have := HJ1.out; have := HK2.out; omega⟩, by repeat (first | exact Drawn0.refl _ | apply Drawn0.step)⟩
            ·rw [if_neg c17] at H
             exact absurd H (by simp)
           ·rw [if_neg c16] at H
            exact absurd H (by simp)
      ·rw [if_neg c5] at H
       have c5b0 : decide (0 < (x0_2.size : Int)) = false := decide_eq_false c5
       have c5b1 : decide (0 < x0_2.size) = false := decide_eq_false (by omega)
       clear c5
       obtain rfl := Option.some.inj H
       go_wp2
       go_ret
       exact ⟨by first | rfl | (simp; done) | (simp [*]; done), by repeat (first | exact Drawn0.refl _ | apply Drawn0.step)⟩

end Go.Proofs.YtfbhlbchmenloaaGreatDoor.H
-- thinned
end
section
namespace Go.Proofs.YtfbhlbchmenloaaGreatDoor.H
open Go.RowKit Go.Proofs.YtfbhlbchmenloaaGreatDoorW.PrintWords Go.Proofs.YtfbhlbchmenloaaGreatDoorW.PrintLast Go.Proofs.YtfbhlbchmenloaaGreatDoorW.PrintMore
attribute [local go_sem] max2_int min2_int max_two min_two max_three min_three max_four min_four   -- for this text's walks alone
set_option linter.unusedVariables false
set_option linter.unusedSimpArgs false

/-! ### cellaretref1_Number: function 45 -/
mutual
def cellaretref1_Number.j0 : Nat → ByteArray → Bool → Option (Int × Bool)
  | 0, _, _ => none
  | k + 1, x0, x14 => if x14 = true then (some (0, false)) else (cellaretref1_Number.l0 k x0 0 0)
def cellaretref1_Number.l0 : Nat → ByteArray → Int → Int → Option (Int × Bool)
  | 0, _, _, _ => none
  | k + 1, x0, x4, x5 => if x5 < (x0.size : Int) then (if 0 ≤ x5 then (if (bt x0 x5) < 48 then (cellaretref1_Number.j2 k x0 x4 x5 true) else (cellaretref1_Number.j2 k x0 x4 x5 (decide ((bt x0 x5) > 57)))) else (none)) else (some (x4, true))
def cellaretref1_Number.j2 : Nat → ByteArray → Int → Int → Bool → Option (Int × Bool)
  | 0, _, _, _, _ => none
  | k + 1, x0, x4, x5, x30 => if x30 = true then (some (0, false)) else (if 0 ≤ x5 then (if x5 < (x0.size : Int) then (if x4 > 1844674407370955161 then (some (0, false)) else (if x4 = 1844674407370955161 then (if (((bt x0 x5) - 48) % 256) > 5 then (some (0, false)) else (cellaretref1_Number.l0 k x0 (IntKind.u64.wrap ((IntKind.u64.wrap (10 * x4)) + (((bt x0 x5) - 48) % 256))) (wrap64 (x5 + 1)))) else (cellaretref1_Number.l0 k x0 (IntKind.u64.wrap ((IntKind.u64.wrap (10 * x4)) + (((bt x0 x5) - 48) % 256))) (wrap64 (x5 + 1))))) else (none)) else (none))
end
def cellaretref1_Number.f (k : Nat) (a0 : ByteArray) : Option (Int × Bool) := if (a0.size : Int) < 1 then (cellaretref1_Number.j0 k a0 true) else (cellaretref1_Number.j0 k a0 (decide ((a0.size : Int) > 20)))
theorem cellaretref1_Number.mono_l : ∀ k, (∀ y0 y1, LeO (cellaretref1_Number.j0 k y0 y1) (cellaretref1_Number.j0 (k + 1) y0 y1)) ∧ (∀ y0 y1 y2, LeO (cellaretref1_Number.l0 k y0 y1 y2) (cellaretref1_Number.l0 (k + 1) y0 y1 y2)) ∧ (∀ y0 y1 y2 y3, LeO (cellaretref1_Number.j2 k y0 y1 y2 y3) (cellaretref1_Number.j2 (k + 1) y0 y1 y2 y3))
  | 0 => ⟨fun _ _ r h => by simp [cellaretref1_Number.j0] at h, fun _ _ _ r h => by simp [cellaretref1_Number.l0] at h, fun _ _ _ _ r h => by simp [cellaretref1_Number.j2] at h⟩
  | k + 1 => by
    obtain ⟨ih0, ih1, ih2⟩ := cellaretref1_Number.mono_l k
    refine ⟨?_, ?_, ?_⟩
    · intro y0 y1
      unfold cellaretref1_Number.j0
      repeat' first
      | (with_reducible exact ih0 _ _)
      | (with_reducible exact ih1 _ _ _)
      | (with_reducible exact ih2 _ _ _ _)
      | (with_reducible exact LeO.refl _)
      | (with_reducible exact LeO.none _)
      | (with_reducible refine LeO.ite ?_ ?_)
      | (with_reducible refine LeO.bind ?_ (fun _ => ?_))
      | exact ih0 _ _
      | exact ih1 _ _ _
      | exact ih2 _ _ _ _
      | exact LeO.none _
      | refine LeO.ite ?_ ?_
      | refine LeO.bind ?_ (fun _ => ?_)
    · intro y0 y1 y2
      unfold cellaretref1_Number.l0
      repeat' first
      | (with_reducible exact ih0 _ _)
      | (with_reducible exact ih1 _ _ _)
      | (with_reducible exact ih2 _ _ _ _)
      | (with_reducible exact LeO.refl _)
      | (with_reducible exact LeO.none _)
      | (with_reducible refine LeO.ite ?_ ?_)
      | (with_reducible refine LeO.bind ?_ (fun _ => ?_))
      | exact ih0 _ _
      | exact ih1 _ _ _
      | exact ih2 _ _ _ _
      | exact LeO.none _
      | refine LeO.ite ?_ ?_
      | refine LeO.bind ?_ (fun _ => ?_)
    · intro y0 y1 y2 y3
      unfold cellaretref1_Number.j2
      repeat' first
      | (with_reducible exact ih0 _ _)
      | (with_reducible exact ih1 _ _ _)
      | (with_reducible exact ih2 _ _ _ _)
      | (with_reducible exact LeO.refl _)
      | (with_reducible exact LeO.none _)
      | (with_reducible refine LeO.ite ?_ ?_)
      | (with_reducible refine LeO.bind ?_ (fun _ => ?_))
      | exact ih0 _ _
      | exact ih1 _ _ _
      | exact ih2 _ _ _ _
      | exact LeO.none _
      | refine LeO.ite ?_ ?_
      | refine LeO.bind ?_ (fun _ => ?_)
theorem cellaretref1_Number.mono : ∀ a0 k, LeO (cellaretref1_Number.f k a0) (cellaretref1_Number.f (k + 1) a0) := by
  intro a0 k
  obtain ⟨ih0, ih1, ih2⟩ := cellaretref1_Number.mono_l k
  unfold cellaretref1_Number.f
  repeat' first
      | (with_reducible exact ih0 _ _)
      | (with_reducible exact ih1 _ _ _)
      | (with_reducible exact ih2 _ _ _ _)
      | (with_reducible exact LeO.refl _)
      | (with_reducible exact LeO.none _)
      | (with_reducible refine LeO.ite ?_ ?_)
      | (with_reducible refine LeO.bind ?_ (fun _ => ?_))
      | exact ih0 _ _
      | exact ih1 _ _ _
      | exact ih2 _ _ _ _
      | exact LeO.none _
      | refine LeO.ite ?_ ?_
      | refine LeO.bind ?_ (fun _ => ?_)
set_option maxHeartbeats 8000000 in
set_option maxRecDepth 100000 in
theorem cellaretref1_Number.calls (k : Nat) (a0 : ByteArray) (r1 : Int) (r2 : Bool) (w : World) (h : cellaretref1_Number.f k a0 = some (r1, r2)) :
  Calls Tryz.prog 45 #[.string a0] w fun e w' => e = .returned (.tuple #[.int .u64 r1, .bool r2]) ∧ Drawn0 w w' := by
 have H : (if (a0.size : Int) < 1 then (cellaretref1_Number.j0 k a0 true) else (cellaretref1_Number.j0 k a0 (decide ((a0.size : Int) > 20)))) = some (r1, r2) := h
 clear h
 have HC2 := M0 H
 clear H
 go_enter Tryz.func45, Tryz.ntmps45
 go_upto_region 1 with (fail)
 go_cut [14] (fun v14 wc => ∃ (kq : Nat) (x14_1 : Bool), v14 = .bool x14_1 ∧ Aside0 (cellaretref1_Number.j0 kq a0 x14_1 = some (r1, r2)) ∧ Aside0 (kq ≤ k) ∧ Drawn0 w wc)
 case first =>
  have H := HC2.out
  clear HC2
  by_cases c3 : (a0.size : Int) < 1
  ·rw [if_pos c3] at H
   have c3b0 : decide ((a0.size : Int) < 1) = true := decide_eq_true c3
   have c3b1 : decide (a0.size < 1) = true := decide_eq_true (by omega)
   clear c3
   (first | rw [c3b0] | (simp only [i64_w, i32_w]; rw [c3b0]) | skip)
   have H' := M0 H
   clear H
   go_wp2
   go_meet
   case rel => exact ⟨_, (true), (by first | rfl | (simp; done) | (simp [*]; done)), H', ⟨by first | omega | exact Nat.le_refl _⟩, by repeat (first | exact Drawn0.refl _ | apply Drawn0.step)⟩
  ·rw [if_neg c3] at H
   have c3b0 : decide ((a0.size : Int) < 1) = false := decide_eq_false c3
   have c3b1 : decide (a0.size < 1) = false := decide_eq_false (by omega)
   clear c3
   (first | rw [c3b0] | (simp only [i64_w, i32_w]; rw [c3b0]) | skip)
   have H' := M0 H
   clear H
   go_wp2
   go_meet
   case rel => exact ⟨_, (decide ((a0.size : Int) > 20)), (by first | rfl | (simp; done) | (simp [*]; done)), H', ⟨by first | omega | exact Nat.le_refl _⟩, by repeat (first | exact Drawn0.refl _ | apply Drawn0.step)⟩
 case rest =>
  clear HC2
  try clear p2
  try clear c3
  try clear c3b0
  try clear c3b1
  obtain ⟨kq, x14_1, rfl, HA, HJ1, ⟨mc1, rfl⟩⟩ := hcut
  cases kq with
  | zero => exact absurd HA.out (by simp [cellaretref1_Number.j0])
  | succ kj1 =>
   have H := HA.out
   clear HA
   simp only [cellaretref1_Number.j0] at H
   by_cases c4 : x14_1 = true
   ·subst c4
    have H1 : (some (0, false)) = some (r1, r2) := by rw [if_pos rfl] at H; exact H
    clear H
    have H := H1
    clear H1
    simp only [Option.some.injEq, Prod.mk.injEq] at H
    obtain ⟨rfl, rfl⟩ := H
    go_wp2
    go_ret2
    exact ⟨by first | rfl | (simp; done) | (simp [*]; done), by repeat (first | exact Drawn0.refl _ | apply Drawn0.step)⟩
   ·replace c4 := Bool.eq_false_iff.mpr c4
    subst c4
    have H1 : (cellaretref1_Number.l0 kj1 a0 0 0) = some (r1, r2) := by rw [if_neg (show ¬ (false = true) by decide)] at H; exact H
    clear H
    have H := H1
    clear H1
    have H' := M0 H
    clear H
    go_wp2
    go_loopg [4, 5] kj1 (fun kq v4 v5 w' => ∃ (x4_2 : Int) (x5_2 : Int), v4 = .int .u64 x4_2 ∧ v5 = .int .i64 x5_2 ∧ Aside0 (cellaretref1_Number.l0 kq a0 x4_2 x5_2 = some (r1, r2)) ∧ Aside0 (kq ≤ kj1) ∧ Drawn0 w w')
    case atStart => exact ⟨(0), (0), (by first | rfl | (simp; done) | (simp [*]; done)), (by first | rfl | (simp; done) | (simp [*]; done)), H', ⟨Nat.le_refl _⟩, by repeat (first | exact Drawn0.refl _ | apply Drawn0.step)⟩
    case round =>
     clear H'
     try clear c1
     try clear p2
     try clear c3
     try clear c3b0
     try clear c3b1
     try clear c4
     try clear p2
     obtain ⟨x4_2, x5_2, rfl, rfl, HA, HK2, ⟨m2, rfl⟩⟩ := hrel
     cases gk with
     | zero => exact absurd HA.out (by simp [cellaretref1_Number.l0])
     | succ k2 =>
      have H := HA.out
      clear HA
      simp only [cellaretref1_Number.l0] at H
      by_cases c5 : x5_2 < (a0.size : Int)
      ·rw [if_pos c5] at H
       have c5b0 : decide (x5_2 < (a0.size : Int)) = true := decide_eq_true c5
       clear c5
       have HC6 := M0 H
       clear H
       go_upto_region 7 with (fail)
       go_cut [30] (fun v30 wc => ∃ (kq : Nat) (x30_5 : Bool), v30 = .bool x30_5 ∧ Aside0 (cellaretref1_Number.j2 kq a0 x4_2 x5_2 x30_5 = some (r1, r2)) ∧ Aside0 (kq ≤ k2) ∧ Drawn0 w wc)
       case first =>
        have H := HC6.out
        clear HC6
        by_cases c7 : 0 ≤ x5_2
        ·rw [if_pos c7] at H
         have c7b0 : decide (0 ≤ x5_2) = true := decide_eq_true c7
         clear c7
         (first | rw [c7b0] | (simp only [i64_w, i32_w]; rw [c7b0]) | skip)
         by_cases c9 : (bt a0 x5_2) < 48
         ·rw [if_pos c9] at H
          have c9b0 : decide ((bt a0 x5_2) < 48) = true := decide_eq_true c9
          clear c9
          have H' := M0 H
          clear H
          have p8 : 0 ≤ (x5_2 : Int) := of_decide_eq_true (by first | (with_reducible assumption) | assumption)
          have q8 : x5_2 < (a0.size : Int) := of_decide_eq_true (by first | (with_reducible assumption) | assumption)
          have qB := bt_at a0 x5_2
          replace p8 := eq_true p8
          replace q8 := eq_true q8
          go_wp2
          go_meet
          case rel => exact ⟨_, (true), (by first | rfl | (simp; done) | (simp [*]; done)), H', ⟨by have := HJ1.out; have := HK2.out; first | omega | exact Nat.le_refl _⟩, by repeat (first | exact Drawn0.refl _ | apply Drawn0.step)⟩
         ·rw [if_neg c9] at H
          have c9b0 : decide ((bt a0 x5_2) < 48) = false := decide_eq_false c9
          clear c9
          have H' := M0 H
          clear H
          have p8 : 0 ≤ (x5_2 : Int) := of_decide_eq_true (by first | (with_reducible assumption) | assumption)
          have q8 : x5_2 < (a0.size : Int) := of_decide_eq_true (by first | (with_reducible assumption) | assumption)
          have qB := bt_at a0 x5_2
          replace p8 := eq_true p8
          replace q8 := eq_true q8
          have p10 : 0 ≤ (x5_2 : Int) := of_decide_eq_true (by first | (with_reducible assumption) | assumption)
          have q10 : x5_2 < (a0.size : Int) := of_decide_eq_true (by first | (with_reducible assumption) | assumption)
          have qC := bt_at a0 x5_2
          replace p10 := eq_true p10
          replace q10 := eq_true q10
          go_wp2
          go_meet
          case rel => exact ⟨_, (decide ((bt a0 x5_2) > 57)), (by first | rfl | (simp; done) | (simp [*]; done)), H', ⟨by have := HJ1.out; have := HK2.out; first | omega | exact Nat.le_refl _⟩, by repeat (first | exact Drawn0.refl _ | apply Drawn0.step)⟩
        ·rw [if_neg c7] at H
         exact absurd H (by simp)
       case rest =>
        clear HC6
        try clear c1
        try clear p1
        try clear q1
        try clear qD
        try clear p2
        try clear c3
        try clear c3b0
        try clear c3b1
        try clear c4
        try clear c5
        try clear c5b0
        try clear c7
        try clear c7b0
        try clear p8
        try clear q8
        try clear qB
        try clear c9
        try clear c9b0
        try clear p10
        try clear q10
        try clear qC
        try clear p10
        try clear p2
        try clear p8
        try clear q10
        try clear q8
        obtain ⟨kq, x30_5, rfl, HA, HJ5, ⟨mc5, rfl⟩⟩ := hcut
        cases kq with
        | zero => exact absurd HA.out (by simp [cellaretref1_Number.j2])
        | succ kj5 =>
         have H := HA.out
         clear HA
         simp only [cellaretref1_Number.j2] at H
         by_cases c11 : x30_5 = true
         ·subst c11
          have H1 : (some (0, false)) = some (r1, r2) := by rw [if_pos rfl] at H; exact H
          clear H
          have H := H1
          clear H1
          simp only [Option.some.injEq, Prod.mk.injEq] at H
          obtain ⟨rfl, rfl⟩ := H
          go_wp2
          go_ret2
          exact ⟨by first | rfl | (simp; done) | (simp [*]; done), by repeat (first | exact Drawn0.refl _ | apply Drawn0.step)⟩
         ·replace c11 := Bool.eq_false_iff.mpr c11
          subst c11
          have H1 : (if 0 ≤ x5_2 then (if x5_2 < (a0.size : Int) then (if x4_2 > 1844674407370955161 then (some (0, false)) else (if x4_2 = 1844674407370955161 then (if (((bt a0 x5_2) - 48) % 256) > 5 then (some (0, false)) else (cellaretref1_Number.l0 kj5 a0 (IntKind.u64.wrap ((IntKind.u64.wrap (10 * x4_2)) + (((bt a0 x5_2) - 48) % 256))) (wrap64 (x5_2 + 1)))) else (cellaretref1_Number.l0 kj5 a0 (IntKind.u64.wrap ((IntKind.u64.wrap (10 * x4_2)) + (((bt a0 x5_2) - 48) % 256))) (wrap64 (x5_2 + 1))))) else (none)) else (none)) = some (r1, r2) := by rw [if_neg (show ¬ (false = true) by decide)] at H; exact H
          clear H
          have H := H1
          clear H1
          by_cases c12 : 0 ≤ x5_2
          ·rw [if_pos c12] at H
           have c12b0 : decide (0 ≤ x5_2) = true := decide_eq_true c12
           clear c12
           by_cases c13 : x5_2 < (a0.size : Int)
           ·rw [if_pos c13] at H
            have c13b0 : decide (x5_2 < (a0.size : Int)) = true := decide_eq_true c13
            clear c13
            by_cases c15 : x4_2 > 1844674407370955161
            ·rw [if_pos c15] at H
             have c15b0 : decide (1844674407370955161 < x4_2) = true := decide_eq_true c15
             clear c15
             simp only [Option.some.injEq, Prod.mk.injEq] at H
             obtain ⟨rfl, rfl⟩ := H
             have p14 : 0 ≤ (x5_2 : Int) := of_decide_eq_true (by first | (with_reducible assumption) | assumption)
             have q14 : x5_2 < (a0.size : Int) := of_decide_eq_true (by first | (with_reducible assumption) | assumption)
             have qA := bt_at a0 x5_2
             replace p14 := eq_true p14
             replace q14 := eq_true q14
             go_wp2
             go_ret2
             exact ⟨by first | rfl | (simp; done) | (simp [*]; done), by repeat (first | exact Drawn0.refl _ | apply Drawn0.step)⟩
            ·rw [if_neg c15] at H
             have c15b0 : decide (1844674407370955161 < x4_2) = false := decide_eq_false c15
             clear c15
             by_cases c16 : x4_2 = 1844674407370955161
             ·rw [if_pos c16] at H
              have c16b0 : (x4_2 == 1844674407370955161) = true := beq_iff_eq.mpr c16
              have c16b1 : (x4_2 != 1844674407370955161) = false := bne_eq_false_iff_eq.mpr c16
              clear c16
              by_cases c17 : (((bt a0 x5_2) - 48) % 256) > 5
              ·rw [if_pos c17] at H
               have c17b0 : decide (5 < (((bt a0 x5_2) - 48) % 256)) = true := decide_eq_true c17
               clear c17
               simp only [Option.some.injEq, Prod.mk.injEq] at H
               obtain ⟨rfl, rfl⟩ := H
               have p14 : 0 ≤ (x5_2 : Int) := of_decide_eq_true (by first | (with_reducible assumption) | assumption)
               have q14 : x5_2 < (a0.size : Int) := of_decide_eq_true (by first | (with_reducible assumption) | assumption)
               have qA := bt_at a0 x5_2
               replace p14 := eq_true p14
               replace q14 := eq_true q14
               go_wp2
               go_ret2
               exact ⟨by first | rfl | (simp; done) | (simp [*]; done), by repeat (first | exact Drawn0.refl _ | apply Drawn0.step)⟩
              ·rw [if_neg c17] at H
               have c17b0 : decide (5 < (((bt a0 x5_2) - 48) % 256)) = false := decide_eq_false c17
               clear c17
               have H' := M0 H
               clear H
               have p14 : 0 ≤ (x5_2 : Int) := of_decide_eq_true (by first | (with_reducible assumption) | assumption)
               have q14 : x5_2 < (a0.size : Int) := of_decide_eq_true (by first | (with_reducible assumption) | assumption)
               have qA := bt_at a0 x5_2
               replace p14 := eq_true p14
               replace q14 := eq_true q14
               go_wp2
               go_roundg kj5
               case measure => have := HJ1.out; have := HK2.out; have := HJ5.out; omega
               case rel => exact ⟨(IntKind.u64.wrap ((IntKind.u64.wrap (10 * x4_2)) + (((bt a0 x5_2) - 48) % 256))), (wrap64 (x5_2 + 1)), (by first | rfl | (simp; done) | (simp [*]; done)), (by first | rfl | (simp; done) | (simp [*]; done)), H', ⟨by have := HJ1.out; have := HK2.out; have := HJ5.out; omega⟩, by repeat (first | exact Drawn0.refl _ | apply Drawn0.step)⟩
             ·rw [if_neg c16] at H
              have c16b0 : (x4_2 == 1844674407370955161) = false := beq_eq_false_iff_ne.mpr c16
              have c16b1 : (x4_2 != 1844674407370955161) = true := bne_iff_ne.mpr c16
              have H' := M0 H
              clear H
              have p14 : 0 ≤ (x5_2 : Int) := of_decide_eq_true (by first | (with_reducible assumption) | assumption)
              have q14 : x5_2 < (a0.size : Int) := of_decide_eq_true (by first | (with_reducible assumption) | assumption)
              have qA := bt_at a0 x5_2
              replace p14 := eq_true p14
              replace q14 := eq_true q14
              go_wp2
              go_roundg kj5
              case measure => have := HJ1.out; have := HK2.out; have := HJ5.out; omega
              case rel => exact ⟨(IntKind.u64.wrap ((IntKind.u64.wrap (10 * x4_2)) + (((bt a0 x5_2) - 48) % 256))), (wrap64 (x5_2 + 1)), (by first | rfl | (simp; done) | (simp [*]; done)), (by first | rfl | (simp; done) | (simp [*]; done)), H', ⟨by have := HJ1.out; have := HK2.out; have := HJ5.out; omega⟩, by repeat (first | exact Drawn0.refl _ | apply Drawn0.step)⟩
           ·rw [if_neg c13] at H
            exact absurd H (by simp)
          ·rw [if_neg c12] at H
           exact absurd H (by simp)
      ·rw [if_neg c5] at H
       have c5b0 : decide (x5_2 < (a0.size : Int)) = false := decide_eq_false c5
       clear c5
       simp only [Option.some.injEq, Prod.mk.injEq] at H
       obtain ⟨rfl, rfl⟩ := H
       go_wp2
       go_ret2
       exact ⟨by first | rfl | (simp; done) | (simp [*]; done), by repeat (first | exact Drawn0.refl _ | apply Drawn0.step)⟩

end Go.Proofs.YtfbhlbchmenloaaGreatDoor.H
-- thinned
end
section
namespace Go.Proofs.YtfbhlbchmenloaaGreatDoor.H
open Go.RowKit Go.Proofs.YtfbhlbchmenloaaGreatDoorW.PrintWords Go.Proofs.YtfbhlbchmenloaaGreatDoorW.PrintLast Go.Proofs.YtfbhlbchmenloaaGreatDoorW.PrintMore
attribute [local go_sem] max2_int min2_int max_two min_two max_three min_three max_four min_four   -- for this text's walks alone
set_option linter.unusedVariables false
set_option linter.unusedSimpArgs false

/-! ### cellaretref1_Signed: function 44 -/
mutual
def cellaretref1_Signed.j0 : Nat → ByteArray → Bool → Option (Int × Bool)
  | 0, _, _ => none
  | k + 1, x0, x15 => if x15 = true then (if 1 ≤ (x0.size : Int) then ((cellaretref1_Number.f k (x0.extract 1 x0.size)).bind fun bt194 => (if bt194.2 = true then (cellaretref1_Signed.j1 k bt194.1 (decide (bt194.1 > 9223372036854775808))) else (cellaretref1_Signed.j1 k bt194.1 true))) else (none)) else ((cellaretref1_Number.f k x0).bind fun bt196 => (if bt196.2 = true then (if bt196.1 > 9223372036854775807 then (some (0, false)) else (some (wrap64 (bt196.1), true))) else (some (0, false))))
def cellaretref1_Signed.j1 : Nat → Int → Bool → Option (Int × Bool)
  | 0, _, _ => none
  | k + 1, x4, x27 => if x27 = true then (some (0, false)) else (some (wrap64 (-(wrap64 (x4))), true))
end
def cellaretref1_Signed.f (k : Nat) (a0 : ByteArray) : Option (Int × Bool) := if (a0.size : Int) > 0 then (if 0 < (a0.size : Int) then (cellaretref1_Signed.j0 k a0 ((bt a0 0) == 45)) else (none)) else (cellaretref1_Signed.j0 k a0 false)
theorem cellaretref1_Signed.mono_l : ∀ k, (∀ y0 y1, LeO (cellaretref1_Signed.j0 k y0 y1) (cellaretref1_Signed.j0 (k + 1) y0 y1)) ∧ (∀ y0 y1, LeO (cellaretref1_Signed.j1 k y0 y1) (cellaretref1_Signed.j1 (k + 1) y0 y1))
  | 0 => ⟨fun _ _ r h => by simp [cellaretref1_Signed.j0] at h, fun _ _ r h => by simp [cellaretref1_Signed.j1] at h⟩
  | k + 1 => by
    obtain ⟨ih0, ih1⟩ := cellaretref1_Signed.mono_l k
    refine ⟨?_, ?_⟩
    · intro y0 y1
      unfold cellaretref1_Signed.j0
      repeat' first
      | (with_reducible exact ih0 _ _)
      | (with_reducible exact ih1 _ _)
      | (with_reducible exact cellaretref1_Number.mono _ _)
      | (with_reducible exact LeO.refl _)
      | (with_reducible exact LeO.none _)
      | (with_reducible refine LeO.ite ?_ ?_)
      | (with_reducible refine LeO.bind ?_ (fun _ => ?_))
      | exact ih0 _ _
      | exact ih1 _ _
      | exact cellaretref1_Number.mono _ _
      | exact LeO.none _
      | refine LeO.ite ?_ ?_
      | refine LeO.bind ?_ (fun _ => ?_)
    · intro y0 y1
      unfold cellaretref1_Signed.j1
      repeat' first
      | (with_reducible exact ih0 _ _)
      | (with_reducible exact ih1 _ _)
      | (with_reducible exact cellaretref1_Number.mono _ _)
      | (with_reducible exact LeO.refl _)
      | (with_reducible exact LeO.none _)
      | (with_reducible refine LeO.ite ?_ ?_)
      | (with_reducible refine LeO.bind ?_ (fun _ => ?_))
      | exact ih0 _ _
      | exact ih1 _ _
      | exact cellaretref1_Number.mono _ _
      | exact LeO.none _
      | refine LeO.ite ?_ ?_
      | refine LeO.bind ?_ (fun _ => ?_)
theorem cellaretref1_Signed.mono : ∀ a0 k, LeO (cellaretref1_Signed.f k a0) (cellaretref1_Signed.f (k + 1) a0) := by
  intro a0 k
  obtain ⟨ih0, ih1⟩ := cellaretref1_Signed.mono_l k
  unfold cellaretref1_Signed.f
  repeat' first
      | (with_reducible exact ih0 _ _)
      | (with_reducible exact ih1 _ _)
      | (with_reducible exact cellaretref1_Number.mono _ _)
      | (with_reducible exact LeO.refl _)
      | (with_reducible exact LeO.none _)
      | (with_reducible refine LeO.ite ?_ ?_)
      | (with_reducible refine LeO.bind ?_ (fun _ => ?_))
      | exact ih0 _ _
      | exact ih1 _ _
      | exact cellaretref1_Number.mono _ _
      | exact LeO.none _
      | refine LeO.ite ?_ ?_
      | refine LeO.bind ?_ (fun _ => ?_)
set_option maxHeartbeats 8000000 in
set_option maxRecDepth 100000 in
theorem cellaretref1_Signed.calls (k : Nat) (a0 : ByteArray) (r1 : Int) (r2 : Bool) (w : World) (h : cellaretref1_Signed.f k a0 = some (r1, r2)) :
  Calls Tryz.prog 44 #[.string a0] w fun e w' => e = .returned (.tuple #[.int .i64 r1, .bool r2]) ∧ Drawn0 w w' := by
 have H : (if (a0.size : Int) > 0 then (if 0 < (a0.size : Int) then (cellaretref1_Signed.j0 k a0 ((bt a0 0) == 45)) else (none)) else (cellaretref1_Signed.j0 k a0 false)) = some (r1, r2) := h
 clear h
 have HC2 := M0 H
 clear H
 go_enter Tryz.func44, Tryz.ntmps44
 go_upto_region 1 with (fail)
 go_cut [15] (fun v15 wc => ∃ (kq : Nat) (x15_1 : Bool), v15 = .bool x15_1 ∧ Aside0 (cellaretref1_Signed.j0 kq a0 x15_1 = some (r1, r2)) ∧ Aside0 (kq ≤ k) ∧ Drawn0 w wc)
 case first =>
  have H := HC2.out
  clear HC2
  by_cases c3 : (a0.size : Int) > 0
  ·rw [if_pos c3] at H
   have c3b0 : decide (0 < (a0.size : Int)) = true := decide_eq_true c3
   have c3b1 : decide (0 < a0.size) = true := decide_eq_true (by omega)
   clear c3
   (first | rw [c3b0] | (simp only [i64_w, i32_w]; rw [c3b0]) | skip)
   by_cases c4 : 0 < (a0.size : Int)
   ·rw [if_pos c4] at H
    have c4b0 : decide (0 < (a0.size : Int)) = true := decide_eq_true c4
    have c4b1 : decide (0 < a0.size) = true := decide_eq_true (by omega)
    clear c4
    have H' := M0 H
    clear H
    have p5 : 0 ≤ (0 : Int) := (by omega)
    have q5 : 0 < a0.size := (by have : (0 : Int) < (a0.size : Int) := of_decide_eq_true (by first | (with_reducible assumption) | assumption); omega)
    have qE : ∀ h : 0 < a0.size, ((a0[0]'h).toNat : Int) = bt a0 0 := bt_at a0 0
    clear p5
    have qi5 : (0 < (a0.size : Int)) = True := eq_true (of_decide_eq_true (by first | (with_reducible assumption) | assumption))
    replace q5 := eq_true q5
    go_wp2
    go_meet
    case rel => exact ⟨_, (((bt a0 0) == 45)), (by first | rfl | (simp; done) | (simp [*]; done)), H', ⟨by first | omega | exact Nat.le_refl _⟩, by repeat (first | exact Drawn0.refl _ | apply Drawn0.step)⟩
   ·rw [if_neg c4] at H
    exact absurd H (by simp)
  ·rw [if_neg c3] at H
   have c3b0 : decide (0 < (a0.size : Int)) = false := decide_eq_false c3
   have c3b1 : decide (0 < a0.size) = false := decide_eq_false (by omega)
   clear c3
   (first | rw [c3b0] | (simp only [i64_w, i32_w]; rw [c3b0]) | skip)
   have H' := M0 H
   clear H
   go_wp2
   go_meet
   case rel => exact ⟨_, (false), (by first | rfl | (simp; done) | (simp [*]; done)), H', ⟨by first | omega | exact Nat.le_refl _⟩, by repeat (first | exact Drawn0.refl _ | apply Drawn0.step)⟩
 case rest =>
  clear HC2
  try clear p2
  try clear c3
  try clear c3b0
  try clear c3b1
  try clear c4
  try clear c4b0
  try clear c4b1
  try clear p5
  try clear q5
  try clear qE
  try clear qi5
  try clear p5
  try clear q5
  obtain ⟨kq, x15_1, rfl, HA, HJ1, ⟨mc1, rfl⟩⟩ := hcut
  cases kq with
  | zero => exact absurd HA.out (by simp [cellaretref1_Signed.j0])
  | succ kj1 =>
   have H := HA.out
   clear HA
   simp only [cellaretref1_Signed.j0] at H
   by_cases c6 : x15_1 = true
   ·subst c6
    have H1 : (if 1 ≤ (a0.size : Int) then ((cellaretref1_Number.f kj1 (a0.extract 1 a0.size)).bind fun bt194 => (if bt194.2 = true then (cellaretref1_Signed.j1 kj1 bt194.1 (decide (bt194.1 > 9223372036854775808))) else (cellaretref1_Signed.j1 kj1 bt194.1 true))) else (none)) = some (r1, r2) := by rw [if_pos rfl] at H; exact H
    clear H
    have H := H1
    clear H1
    by_cases c7 : 1 ≤ (a0.size : Int)
    ·rw [if_pos c7] at H
     have c7b0 := eq_true c7
     have c7b1 : decide (1 ≤ (a0.size : Int)) = true := decide_eq_true c7
     clear c7
     replace H := Option.bind_eq_some_iff.mp H
     obtain ⟨⟨qA, qC⟩, A80, H⟩ := H
     replace H : (if qC = true then (cellaretref1_Signed.j1 kj1 qA (decide (qA > 9223372036854775808))) else (cellaretref1_Signed.j1 kj1 qA true)) = some (r1, r2) := H
     have A8 := M0 A80
     clear A80
     have HC9 := M0 H
     clear H
     go_upto_region 3 with (first | ((with_reducible refine gate_callee (f := 45) rfl ?_); refine goesL_ (some 19) rfl rfl Tryz.func45 (by kernel_rfl) rfl #[.string (a0.extract 1 a0.size)] rfl (by (try simp only [List.map_toArray, List.map_cons, List.map_nil]); first | done | rfl | (simp only [List.length_drop, List.length_take]; rfl)) ?_; (with_reducible refine (cellaretref1_Number.calls kj1 (a0.extract 1 a0.size) qA qC _ A8.out).mono ?_); rintro e w' ⟨rfl, ⟨nd, rfl⟩⟩; refine ⟨_, rfl, ?_⟩))
     (try simp only [Act.put, List.setIfInBounds_toArray, List.set_cons_zero, List.set_cons_succ])
     go_cut [27] (fun v27 wc => ∃ (kq : Nat) (x27_8 : Bool), v27 = .bool x27_8 ∧ Aside0 (cellaretref1_Signed.j1 kq qA x27_8 = some (r1, r2)) ∧ Aside0 (kq ≤ kj1) ∧ Drawn0 w wc)
     case first =>
      have H := HC9.out
      clear HC9
      by_cases c10 : qC = true
      ·subst c10
       have H1 : (cellaretref1_Signed.j1 kj1 qA (decide (qA > 9223372036854775808))) = some (r1, r2) := by rw [if_pos rfl] at H; exact H
       clear H
       have H := H1
       clear H1
       have H' := M0 H
       clear H
       go_wp2
       go_meet
       case rel => exact ⟨_, (decide (qA > 9223372036854775808)), (by first | rfl | (simp; done) | (simp [*]; done)), H', ⟨by have := HJ1.out; first | omega | exact Nat.le_refl _⟩, by repeat (first | exact Drawn0.refl _ | apply Drawn0.step)⟩
      ·replace c10 := Bool.eq_false_iff.mpr c10
       subst c10
       have H1 : (cellaretref1_Signed.j1 kj1 qA true) = some (r1, r2) := by rw [if_neg (show ¬ (false = true) by decide)] at H; exact H
       clear H
       have H := H1
       clear H1
       have H' := M0 H
       clear H
       go_wp2
       go_meet
       case rel => exact ⟨_, (true), (by first | rfl | (simp; done) | (simp [*]; done)), H', ⟨by have := HJ1.out; first | omega | exact Nat.le_refl _⟩, by repeat (first | exact Drawn0.refl _ | apply Drawn0.step)⟩
     case rest =>
      clear HC9
      try clear c1
      try clear p2
      try clear c3
      try clear c3b0
      try clear c3b1
      try clear c4
      try clear c4b0
      try clear c4b1
      try clear p5
      try clear q5
      try clear qE
      try clear qi5
      try clear c6
      try clear c7
      try clear c7b0
      try clear c7b1
      try clear c10
      try clear p2
      try clear p5
      try clear q5
      obtain ⟨kq, x27_8, rfl, HA, HJ8, ⟨mc8, rfl⟩⟩ := hcut
      cases kq with
      | zero => exact absurd HA.out (by simp [cellaretref1_Signed.j1])
      | succ kj8 =>
       have H := HA.out
       clear HA
       simp only [cellaretref1_Signed.j1] at H
       by_cases c11 : x27_8 = true
       ·subst c11
        have H1 : (some (0, false)) = some (r1, r2) := by rw [if_pos rfl] at H; exact H
        clear H
        have H := H1
        clear H1
        simp only [Option.some.injEq, Prod.mk.injEq] at H
        obtain ⟨rfl, rfl⟩ := H
        go_wp2
        go_ret2
        exact ⟨by first | rfl | (simp; done) | (simp [*]; done), by repeat (first | exact Drawn0.refl _ | apply Drawn0.step)⟩
       ·replace c11 := Bool.eq_false_iff.mpr c11
        subst c11
        have H1 : (some (wrap64 (-(wrap64 (qA))), true)) = some (r1, r2) := by rw [if_neg (show ¬ (false = true) by decide)] at H; exact H
        clear H
        have H := H1
        clear H1
        simp only [Option.some.injEq, Prod.mk.injEq] at H
        obtain ⟨rfl, rfl⟩ := H
        go_wp2
        go_ret2
        exact ⟨by first | rfl | (simp; done) | (simp [*]; done), by repeat (first | exact Drawn0.refl _ | apply Drawn0.step)⟩
    ·rw [if_neg c7] at H
     exact absurd H (by simp)
   ·replace c6 := Bool.eq_false_iff.mpr c6
    subst c6
    have H1 : ((cellaretref1_Number.f kj1 a0).bind fun bt196 => (if bt196.2 = true then (if bt196.1 > 9223372036854775807 then (some (0, false)) else (some (wrap64 (bt196.1), true))) else (some (0, false)))) = some (r1, r2) := by rw [if_neg (show ¬ (false = true) by decide)] at H; exact H
    clear H
    have H := H1
    clear H1
    replace H := Option.bind_eq_some_iff.mp H
    obtain ⟨⟨qB, qD⟩, A120, H⟩ := H
    replace H : (if qD = true then (if qB > 9223372036854775807 then (some (0, false)) else (some (wrap64 (qB), true))) else (some (0, false))) = some (r1, r2) := H
    have A12 := M0 A120
    clear A120
    by_cases c13 : qD = true
    ·subst c13
     have H1 : (if qB > 9223372036854775807 then (some (0, false)) else (some (wrap64 (qB), true))) = some (r1, r2) := by rw [if_pos rfl] at H; exact H
     clear H
     have H := H1
     clear H1
     by_cases c14 : qB > 9223372036854775807
     ·rw [if_pos c14] at H
      have c14b0 : decide (9223372036854775807 < qB) = true := decide_eq_true c14
      clear c14
      simp only [Option.some.injEq, Prod.mk.injEq] at H
      obtain ⟨rfl, rfl⟩ := H
      go_wp2_with (first | ((with_reducible refine gate_callee (f := 45) rfl ?_); refine goesL_ (some 33) rfl rfl Tryz.func45 (by kernel_rfl) rfl #[.string a0] rfl (by (try simp only [List.map_toArray, List.map_cons, List.map_nil]); first | done | rfl | (simp only [List.length_drop, List.length_take]; rfl)) ?_; (with_reducible refine (cellaretref1_Number.calls kj1 a0 qB true _ A12.out).mono ?_); rintro e w' ⟨rfl, ⟨nd, rfl⟩⟩; refine ⟨_, rfl, ?_⟩))
      go_ret2
      exact ⟨by first | rfl | (simp; done) | (simp [*]; done), by repeat (first | exact Drawn0.refl _ | apply Drawn0.step)⟩
     ·rw [if_neg c14] at H
      have c14b0 : decide (9223372036854775807 < qB) = false := decide_eq_false c14
      clear c14
      simp only [Option.some.injEq, Prod.mk.injEq] at H
      obtain ⟨rfl, rfl⟩ := H
      go_wp2_with (first | ((with_reducible refine gate_callee (f := 45) rfl ?_); refine goesL_ (some 33) rfl rfl Tryz.func45 (by kernel_rfl) rfl #[.string a0] rfl (by (try simp only [List.map_toArray, List.map_cons, List.map_nil]); first | done | rfl | (simp only [List.length_drop, List.length_take]; rfl)) ?_; (with_reducible refine (cellaretref1_Number.calls kj1 a0 qB true _ A12.out).mono ?_); rintro e w' ⟨rfl, ⟨nd, rfl⟩⟩; refine ⟨_, rfl, ?_⟩))
      go_ret2
      exact ⟨by first | rfl | (simp; done) | (simp [*]; done), by repeat (first | exact Drawn0.refl _ | apply Drawn0.step)⟩
    ·replace c13 := Bool.eq_false_iff.mpr c13
     subst c13
     have H1 : (some (0, false)) = some (r1, r2) := by rw [if_neg (show ¬ (false = true) by decide)] at H; exact H
     clear H
     have H := H1
     clear H1
     simp only [Option.some.injEq, Prod.mk.injEq] at H
     obtain ⟨rfl, rfl⟩ := H
     go_wp2_with (first | ((with_reducible refine gate_callee (f := 45) rfl ?_); refine goesL_ (some 33) rfl rfl Tryz.func45 (by kernel_rfl) rfl #[.string a0] rfl (by (try simp only [List.map_toArray, List.map_cons, List.map_nil]); first | done | rfl | (simp only [List.length_drop, List.length_take]; rfl)) ?_; (with_reducible refine (cellaretref1_Number.calls kj1 a0 qB false _ A12.out).mono ?_); rintro e w' ⟨rfl, ⟨nd, rfl⟩⟩; refine ⟨_, rfl, ?_⟩))
     go_ret2
     exact ⟨by first | rfl | (simp; done) | (simp [*]; done), by repeat (first | exact Drawn0.refl _ | apply Drawn0.step)⟩

end Go.Proofs.YtfbhlbchmenloaaGreatDoor.H
-- thinned
end
section
namespace Go.Proofs.YtfbhlbchmenloaaGreatDoor.H
open Go.RowKit Go.Proofs.YtfbhlbchmenloaaGreatDoorW.PrintWords Go.Proofs.YtfbhlbchmenloaaGreatDoorW.PrintLast Go.Proofs.YtfbhlbchmenloaaGreatDoorW.PrintMore
attribute [local go_sem] max2_int min2_int max_two min_two max_three min_three max_four min_four   -- for this text's walks alone
set_option linter.unusedVariables false
set_option linter.unusedSimpArgs false

/-! ### cellaretref1_Text: function 25 -/
def cellaretref1_Text.f : Nat → Int → Option (ByteArray)
  | 0, _ => none
  | k + 1, a0 => if a0 < 10 then (if 0 ≤ a0 then (if a0 ≤ (IntKind.u64.wrap (a0 + 1)) then (if (IntKind.u64.wrap (a0 + 1)) ≤ 10 then (some ((⟨#[48, 49, 50, 51, 52, 53, 54, 55, 56, 57]⟩ : ByteArray).extract (a0 : Int).toNat ((IntKind.u64.wrap (a0 + 1)) : Int).toNat)) else (none)) else (none)) else (none)) else ((cellaretref1_Text.f k (IntKind.u64.wrap (Int.tdiv a0 10))).bind fun t141 => (if 0 ≤ (Int.tmod a0 10) then (if (Int.tmod a0 10) ≤ (IntKind.u64.wrap ((Int.tmod a0 10) + 1)) then (if (IntKind.u64.wrap ((Int.tmod a0 10) + 1)) ≤ 10 then (if t141.size + ((⟨#[48, 49, 50, 51, 52, 53, 54, 55, 56, 57]⟩ : ByteArray).extract ((Int.tmod a0 10) : Int).toNat ((IntKind.u64.wrap ((Int.tmod a0 10) + 1)) : Int).toNat).size ≤ 9223372036854775807 then (some (t141 ++ ((⟨#[48, 49, 50, 51, 52, 53, 54, 55, 56, 57]⟩ : ByteArray).extract ((Int.tmod a0 10) : Int).toNat ((IntKind.u64.wrap ((Int.tmod a0 10) + 1)) : Int).toNat))) else (none)) else (none)) else (none)) else (none)))
theorem cellaretref1_Text.mono_l : ∀ k, (∀ y0, LeO (cellaretref1_Text.f k y0) (cellaretref1_Text.f (k + 1) y0))
  | 0 => fun _ r h => by simp [cellaretref1_Text.f] at h
  | k + 1 => by
    have ih0 := cellaretref1_Text.mono_l k
    · intro y0
      unfold cellaretref1_Text.f
      repeat' first
      | (with_reducible exact ih0 _)
      | (with_reducible exact LeO.refl _)
      | (with_reducible exact LeO.none _)
      | (with_reducible refine LeO.ite ?_ ?_)
      | (with_reducible refine LeO.bind ?_ (fun _ => ?_))
      | exact ih0 _
      | exact LeO.none _
      | refine LeO.ite ?_ ?_
      | refine LeO.bind ?_ (fun _ => ?_)
theorem cellaretref1_Text.mono : ∀ a0 k, LeO (cellaretref1_Text.f k a0) (cellaretref1_Text.f (k + 1) a0) := by
  intro a0 k
  have ih0 := cellaretref1_Text.mono_l k
  exact ih0 a0
def cellaretref1_Text.T3 : Bool × List (List Nat × List Nat) := (true, [([], []), ([0], [0]), ([1], [1]), ([], []), ([3], [3]), ([], []), ([5], [5]), ([6], [6]), ([4, 7], [4, 7]), ([2, 8], [2, 8]), ([9, 2, 0, 1, 2, 3, 4, 5, 6, 7, 8, 9], [9])])
def cellaretref1_Text.B3 : List Nat := [0, 1, 3, 0, 8, 0, 32, 96, 248, 511, 1023]
theorem cellaretref1_Text.tab3 : rtab .any (opsOf Tryz.f25 3) = cellaretref1_Text.T3 := by kernel_rfl
theorem cellaretref1_Text.bits3 : waitsOk cellaretref1_Text.T3.2 cellaretref1_Text.B3 = true := by kernel_rfl
set_option maxHeartbeats 8000000 in
set_option maxRecDepth 100000 in
theorem cellaretref1_Text.calls (k : Nat) : ∀ (a0 : Int) (r : ByteArray) (w : World) (h : cellaretref1_Text.f k a0 = some r),
  Calls Tryz.prog 25 #[.int .u64 a0] w fun e w' => e = .returned (.string r) ∧ Below w.heap.size w w' := by
 induction k using Nat.strongRecOn with
 | _ k ih =>
 intro a0 r w h
 cases k with
 | zero => exact absurd h (by simp [cellaretref1_Text.f])
 | succ k =>
 simp only [cellaretref1_Text.f] at h
 have HB := M0 (Below.refl w.heap.size w)
 have H : (if a0 < 10 then (if 0 ≤ a0 then (if a0 ≤ (IntKind.u64.wrap (a0 + 1)) then (if (IntKind.u64.wrap (a0 + 1)) ≤ 10 then (some ((⟨#[48, 49, 50, 51, 52, 53, 54, 55, 56, 57]⟩ : ByteArray).extract (a0 : Int).toNat ((IntKind.u64.wrap (a0 + 1)) : Int).toNat)) else (none)) else (none)) else (none)) else ((cellaretref1_Text.f k (IntKind.u64.wrap (Int.tdiv a0 10))).bind fun qA => (if 0 ≤ (Int.tmod a0 10) then (if (Int.tmod a0 10) ≤ (IntKind.u64.wrap ((Int.tmod a0 10) + 1)) then (if (IntKind.u64.wrap ((Int.tmod a0 10) + 1)) ≤ 10 then (if qA.size + ((⟨#[48, 49, 50, 51, 52, 53, 54, 55, 56, 57]⟩ : ByteArray).extract ((Int.tmod a0 10) : Int).toNat ((IntKind.u64.wrap ((Int.tmod a0 10) + 1)) : Int).toNat).size ≤ 9223372036854775807 then (some (qA ++ ((⟨#[48, 49, 50, 51, 52, 53, 54, 55, 56, 57]⟩ : ByteArray).extract ((Int.tmod a0 10) : Int).toNat ((IntKind.u64.wrap ((Int.tmod a0 10) + 1)) : Int).toNat))) else (none)) else (none)) else (none)) else (none)))) = some r := h
 clear h
 by_cases c2 : a0 < 10
 ·rw [if_pos c2] at H
  have c2b0 : decide (a0 < 10) = true := decide_eq_true c2
  clear c2
  by_cases c3 : 0 ≤ a0
  ·rw [if_pos c3] at H
   have c3b0 := eq_true c3
   have c3b1 : decide (0 ≤ a0) = true := decide_eq_true c3
   clear c3
   by_cases c4 : a0 ≤ (IntKind.u64.wrap (a0 + 1))
   ·rw [if_pos c4] at H
    have c4b0 := eq_true c4
    have c4b1 : decide (a0 ≤ (IntKind.u64.wrap (a0 + 1))) = true := decide_eq_true c4
    by_cases c5 : (IntKind.u64.wrap (a0 + 1)) ≤ 10
    ·rw [if_pos c5] at H
     have c5b0 := eq_true c5
     have c5b1 : decide ((IntKind.u64.wrap (a0 + 1)) ≤ 10) = true := decide_eq_true c5
     obtain rfl := Option.some.inj H
     go_enter Tryz.func25, Tryz.ntmps25
     go_wp2
     go_ret
     exact ⟨by first | rfl | (simp [errW_none, errW_some] <;> rfl) | (simp [*, errW_none, errW_some] <;> rfl), by repeat (first | (with_reducible first | exact HB.out | apply wA | apply wN | apply wD) | exact HB.out)⟩
    ·rw [if_neg c5] at H
     exact absurd H (by simp)
   ·rw [if_neg c4] at H
    exact absurd H (by simp)
  ·rw [if_neg c3] at H
   exact absurd H (by simp)
 ·rw [if_neg c2] at H
  have c2b0 : decide (a0 < 10) = false := decide_eq_false c2
  clear c2
  replace H := Option.bind_eq_some_iff.mp H
  obtain ⟨qA, A60, H⟩ := H
  replace H : (if 0 ≤ (Int.tmod a0 10) then (if (Int.tmod a0 10) ≤ (IntKind.u64.wrap ((Int.tmod a0 10) + 1)) then (if (IntKind.u64.wrap ((Int.tmod a0 10) + 1)) ≤ 10 then (if qA.size + ((⟨#[48, 49, 50, 51, 52, 53, 54, 55, 56, 57]⟩ : ByteArray).extract ((Int.tmod a0 10) : Int).toNat ((IntKind.u64.wrap ((Int.tmod a0 10) + 1)) : Int).toNat).size ≤ 9223372036854775807 then (some (qA ++ ((⟨#[48, 49, 50, 51, 52, 53, 54, 55, 56, 57]⟩ : ByteArray).extract ((Int.tmod a0 10) : Int).toNat ((IntKind.u64.wrap ((Int.tmod a0 10) + 1)) : Int).toNat))) else (none)) else (none)) else (none)) else (none)) = some r := H
  have A6 := M0 A60
  clear A60
  obtain ⟨ji7, hji7⟩ : ∃ j_ : Int, (Int.tmod a0 10) = j_ := ⟨_, rfl⟩
  replace H : (if 0 ≤ (ji7) then (if (ji7) ≤ (IntKind.u64.wrap ((ji7) + 1)) then (if (IntKind.u64.wrap ((ji7) + 1)) ≤ 10 then (if qA.size + ((⟨#[48, 49, 50, 51, 52, 53, 54, 55, 56, 57]⟩ : ByteArray).extract ((ji7) : Int).toNat ((IntKind.u64.wrap ((ji7) + 1)) : Int).toNat).size ≤ 9223372036854775807 then (some (qA ++ ((⟨#[48, 49, 50, 51, 52, 53, 54, 55, 56, 57]⟩ : ByteArray).extract ((ji7) : Int).toNat ((IntKind.u64.wrap ((ji7) + 1)) : Int).toNat))) else (none)) else (none)) else (none)) else (none)) = some r := by first | (rw [hji7] at H; exact H) | (simp only [hji7] at H ⊢; exact H)
  (try rw [hji7] at A6)
  by_cases c8 : 0 ≤ (ji7)
  ·rw [if_pos c8] at H
   have c8b0 := eq_true c8
   have c8b1 : decide (0 ≤ (ji7)) = true := decide_eq_true c8
   clear c8
   by_cases c9 : (ji7) ≤ (IntKind.u64.wrap ((ji7) + 1))
   ·rw [if_pos c9] at H
    have c9b0 := eq_true c9
    have c9b1 : decide ((ji7) ≤ (IntKind.u64.wrap ((ji7) + 1))) = true := decide_eq_true c9
    by_cases c10 : (IntKind.u64.wrap ((ji7) + 1)) ≤ 10
    ·rw [if_pos c10] at H
     have c10b0 := eq_true c10
     have c10b1 : decide ((IntKind.u64.wrap ((ji7) + 1)) ≤ 10) = true := decide_eq_true c10
     by_cases c11 : qA.size + ((⟨#[48, 49, 50, 51, 52, 53, 54, 55, 56, 57]⟩ : ByteArray).extract ((ji7) : Int).toNat ((IntKind.u64.wrap ((ji7) + 1)) : Int).toNat).size ≤ 9223372036854775807
     ·rw [if_pos c11] at H
      have c11b0 := eq_true c11
      have c11b1 : decide (qA.size + ((⟨#[48, 49, 50, 51, 52, 53, 54, 55, 56, 57]⟩ : ByteArray).extract ((ji7) : Int).toNat ((IntKind.u64.wrap ((ji7) + 1)) : Int).toNat).size ≤ 9223372036854775807) = true := decide_eq_true c11
      try have c11b2 : (9223372036854775807 < qA.size + ((⟨#[48, 49, 50, 51, 52, 53, 54, 55, 56, 57]⟩ : ByteArray).extract ((ji7) : Int).toNat ((IntKind.u64.wrap ((ji7) + 1)) : Int).toNat).size) = False := eq_false (Nat.not_lt.2 c11)
      have c11z : (9223372036854775807 < qA.size + (((IntKind.u64.wrap ((ji7) + 1)) : Int).toNat - (ji7 : Int).toNat)) = False := by
       have h := c11
       rw [ByteArray.size_extract, show (⟨#[48, 49, 50, 51, 52, 53, 54, 55, 56, 57]⟩ : ByteArray).size = 10 from rfl] at h
       exact eq_false (by omega)
      obtain rfl := Option.some.inj H
      go_enter Tryz.func25, Tryz.ntmps25
      try go_wp2
      have n0_ := M0 (below_drew1 HB.out)
      clear HB
      have HB := n0_
      clear n0_
      refine start_ (n := 11) (S := fun w' => True) (ds := []) #[false, false, false, false, false, false, false, false, false, false, false] (by kernel_rfl) rfl rfl trivial (fun hHeld => ?_); refine with_tabW cellaretref1_Text.tab3 cellaretref1_Text.bits3 (fun HT_ HW_ => ?_)
      generalize w.drew = w12 at HB hHeld ⊢
      refine pure_ (i := 0) (N := some 9) (v := ?_) (a' := ?_) #[true, false, false, false, false, false, false, false, false, false, false] rfl rfl (any_of HT_.out (by kernel_rfl)) (fun _ _ _ h => h) (Or.inl ⟨by rfl, ?_⟩) ?_ ?_
      rotate_left
      ·intro w'
       go_simp
       with_reducible rfl
      rotate_left
      ·simp only [Act.put, List.setIfInBounds_toArray, List.set_cons_zero, List.set_cons_succ, i64_w, i32_w]
       rfl
      refine pure_ (i := 1) (N := some 10) (v := ?_) (a' := ?_) #[true, true, false, false, false, false, false, false, false, false, false] rfl rfl (any_of HT_.out (by kernel_rfl)) (fun _ _ _ h => h) (Or.inl ⟨by rfl, ?_⟩) ?_ ?_
      rotate_left
      ·intro w'
       go_simp
       with_reducible rfl
      rotate_left
      ·simp only [Act.put, List.setIfInBounds_toArray, List.set_cons_zero, List.set_cons_succ, i64_w, i32_w]
       rfl
      refine pure_ (i := 3) (N := some 12) (v := ?_) (a' := ?_) #[true, true, false, true, false, false, false, false, false, false, false] rfl rfl (any_of HT_.out (by kernel_rfl)) (fun _ _ _ h => h) (Or.inl ⟨by rfl, ?_⟩) ?_ ?_
      rotate_left
      ·intro w'
       go_simp
       with_reducible rfl
      rotate_left
      ·simp only [Act.put, List.setIfInBounds_toArray, List.set_cons_zero, List.set_cons_succ, i64_w, i32_w]
       rfl
      refine pure_ (i := 4) (N := some 13) (v := ?_) (a' := ?_) #[true, true, false, true, true, false, false, false, false, false, false] rfl rfl (any_of HT_.out (by kernel_rfl)) (fun _ _ _ h => h) (Or.inl ⟨by rfl, ?_⟩) ?_ ?_
      rotate_left
      ·intro w'
       go_simp
       with_reducible rfl
      rotate_left
      ·simp only [Act.put, List.setIfInBounds_toArray, List.set_cons_zero, List.set_cons_succ, i64_w, i32_w]
       rfl
      refine pure_ (i := 5) (N := some 14) (v := ?_) (a' := ?_) #[true, true, false, true, true, true, false, false, false, false, false] rfl rfl (any_of HT_.out (by kernel_rfl)) (fun _ _ _ h => h) (Or.inl ⟨by rfl, ?_⟩) ?_ ?_
      rotate_left
      ·intro w'
       go_simp
       with_reducible rfl
      rotate_left
      ·simp only [Act.put, List.setIfInBounds_toArray, List.set_cons_zero, List.set_cons_succ, i64_w, i32_w]
       rfl
      refine pure_ (i := 6) (N := some 15) (v := ?_) (a' := ?_) #[true, true, false, true, true, true, true, false, false, false, false] rfl rfl (any_of HT_.out (by kernel_rfl)) (fun _ _ _ h => h) (Or.inl ⟨by rfl, ?_⟩) ?_ ?_
      rotate_left
      ·intro w'
       go_simp
       with_reducible rfl
      rotate_left
      ·simp only [Act.put, List.setIfInBounds_toArray, List.set_cons_zero, List.set_cons_succ, i64_w, i32_w]
       rfl
      refine pure_ (i := 7) (N := some 16) (v := ?_) (a' := ?_) #[true, true, false, true, true, true, true, true, false, false, false] rfl rfl (any_of HT_.out (by kernel_rfl)) (fun _ _ _ h => h) (Or.inl ⟨by rfl, ?_⟩) ?_ ?_
      rotate_left
      ·intro w'
       go_simp
       with_reducible rfl
      rotate_left
      ·simp only [Act.put, List.setIfInBounds_toArray, List.set_cons_zero, List.set_cons_succ, i64_w, i32_w]
       rfl
      refine pure_ (i := 8) (N := some 17) (v := ?_) (a' := ?_) #[true, true, false, true, true, true, true, true, true, false, false] rfl rfl (any_of HT_.out (by kernel_rfl)) (fun _ _ _ h => h) (Or.inl ⟨by rfl, ?_⟩) ?_ ?_
      rotate_left
      ·intro w'
       go_simp
       with_reducible rfl
      rotate_left
      ·simp only [Act.put, List.setIfInBounds_toArray, List.set_cons_zero, List.set_cons_succ, i64_w, i32_w]
       rfl
      refine one_ (i := 2) (N := some 11) #[true, true, true, true, true, true, true, true, true, false, false] rfl rfl (one_of HT_.out (by kernel_rfl)) (by decide) (fun K hK => ?_)
      refine goes_ Tryz.func25 (by kernel_rfl) rfl #[.int .u64 (IntKind.u64.wrap (Int.tdiv a0 10))] (by rfl) rfl rfl (by (try simp only [List.map_toArray, List.map_cons, List.map_nil]); first | done | rfl | (simp only [List.length_drop, List.length_take]; rfl)) ?_
      with_reducible refine (ih k (by omega) (IntKind.u64.wrap (Int.tdiv a0 10)) qA _ A6.out).mono ?_
      rintro e w13 ⟨rfl, hb⟩
      refine ⟨_, rfl, ?_⟩
      have n0_ := M0 (below_step (by repeat (first | (with_reducible first | exact HB.out | apply wA | apply wN | apply wD) | exact HB.out)) hb)
      clear HB
      have HB := n0_
      clear n0_
      (try clear hb)
      (try clear hb2)
      (try clear hk)
      (try clear hi)
      refine hK.out _ _ trivial (fun hHeld => ?_)
      clear hK K
      refine norm_ (a' := ?_) ?_ ?_
      rotate_left
      ·show Act.put _ (some 11) _ = _
       simp only [Act.put, List.setIfInBounds_toArray, List.set_cons_zero, List.set_cons_succ, i64_w, i32_w]
       rfl
      refine pure_ (i := 9) (N := some 18) (v := ?_) (a' := ?_) #[true, true, true, true, true, true, true, true, true, true, false] rfl rfl (any_of HT_.out (by kernel_rfl)) (fun _ _ _ h => h) (Or.inl ⟨by rfl, ?_⟩) ?_ ?_
      rotate_left
      ·intro w'
       go_simp
       with_reducible rfl
      rotate_left
      ·simp only [Act.put, List.setIfInBounds_toArray, List.set_cons_zero, List.set_cons_succ, i64_w, i32_w]
       rfl
      refine pure_ (i := 10) (N := some 2) (v := ?_) (a' := ?_) #[true, true, true, true, true, true, true, true, true, true, true] rfl rfl (any_of HT_.out (by kernel_rfl)) (fun _ _ _ h => h) (Or.inl ⟨by rfl, ?_⟩) ?_ ?_
      rotate_left
      ·intro w'
       go_simp
       with_reducible rfl
      rotate_left
      ·simp only [Act.put, List.setIfInBounds_toArray, List.set_cons_zero, List.set_cons_succ, i64_w, i32_w]
       rfl
      refine done_ (done_of HT_.out (by kernel_rfl)) ?_
      try go_wp2
      go_ret
      exact ⟨by first | rfl | (simp [errW_none, errW_some] <;> rfl) | (simp only [← hji7]; first | rfl | (simp [errW_none, errW_some] <;> rfl)) | (simp [*, errW_none, errW_some] <;> rfl), by repeat (first | (with_reducible first | exact HB.out | apply wA | apply wN | apply wD) | exact HB.out)⟩
     ·rw [if_neg c11] at H
      exact absurd H (by simp)
    ·rw [if_neg c10] at H
     exact absurd H (by simp)
   ·rw [if_neg c9] at H
    exact absurd H (by simp)
  ·rw [if_neg c8] at H
   exact absurd H (by simp)

end Go.Proofs.YtfbhlbchmenloaaGreatDoor.H
-- thinned
end
section
namespace Go.Proofs.YtfbhlbchmenloaaGreatDoor.U8
open Go

theorem drop_len (s : ByteArray) (pos : Nat) : (s.data.toList.drop pos).length = s.size - pos := by
  rw [List.length_drop]; show s.data.toList.length - pos = s.data.size - pos; rw [Array.length_toList]
theorem dec_fits (s : ByteArray) (pos : Nat) (h : pos < s.size) : pos + (Utf8.decode s pos).2 ≤ s.size := by
  rw [← Lib.decodeL_drop]
  have h1 := Lib.decodeL_le (s.data.toList.drop pos) (by intro e; have := drop_len s pos; rw [e] at this; simp at this; omega)
  rw [drop_len] at h1
  omega
/-- A rune's shape: well formed and as wide as its number says, or U+FFFD of one byte. -/
theorem dec_shape (l : List UInt8) : ((Lib.decodeL l).2 = 1 ∧ (Lib.decodeL l).1 = 65533) ∨ (Lib.runeLen ((Lib.decodeL l).1 : Int) = ((Lib.decodeL l).2 : Int) ∧ ((Lib.decodeL l).1 = 65533 → (Lib.decodeL l).2 = 3)) := by
  rw [Lib.decodeL_N]
  have k0 := (l.getD 0 0).toNat_lt
  have k1 := (l.getD 1 0).toNat_lt
  have k2 := (l.getD 2 0).toNat_lt
  have k3 := (l.getD 3 0).toNat_lt
  rcases Lib.decodeN_shape l.length (l.getD 0 0).toNat (l.getD 1 0).toNat (l.getD 2 0).toNat (l.getD 3 0).toNat with ⟨c, e⟩ | ⟨c1, c2, c3, cv, e⟩ | ⟨c1, c2, c3, c4, cv, cs, e⟩ | ⟨c1, c2, c3, c4, c5, cv, cw, e⟩ | e
  all_goals rw [e]
  · refine .inr ⟨?_, fun h => by dsimp only at h; omega⟩
    unfold Lib.runeLen
    rw [if_neg (by omega), if_pos (by omega)]; rfl
  · refine .inr ⟨?_, fun h => by dsimp only at h; omega⟩
    unfold Lib.runeLen
    rw [if_neg (by omega), if_neg (by omega), if_pos (by omega)]; rfl
  · refine .inr ⟨?_, fun _ => rfl⟩
    unfold Lib.runeLen
    rw [if_neg (by omega), if_neg (by omega), if_neg (by omega), if_neg (by omega), if_pos (by omega)]; rfl
  · refine .inr ⟨?_, fun h => by dsimp only at h; omega⟩
    unfold Lib.runeLen
    rw [if_neg (by omega), if_neg (by omega), if_neg (by omega), if_neg (by omega), if_neg (by omega), if_pos (by omega)]; rfl
  · exact .inl ⟨rfl, rfl⟩
end Go.Proofs.YtfbhlbchmenloaaGreatDoor.U8
end
section
namespace Go.Proofs.YtfbhlbchmenloaaGreatDoor.L
open Go Go.Proofs.YtfbhlbchmenloaaGreatDoor.H
set_option linter.unusedSimpArgs false
set_option linter.unusedVariables false

/-- Is the rune that l begins with well formed? -/
def okL (l : List UInt8) : Bool := (Lib.decodeL l).1 != 65533 || decide (1 < (Lib.decodeL l).2)
/-- A text's runes: well formed or not, the number, the bytes. -/
def rsF : Nat → List UInt8 → List (Bool × Nat × List UInt8)
  | 0, _ => []
  | f + 1, l => if l = [] then [] else (okL l, (Lib.decodeL l).1, l.take (Lib.decodeL l).2) :: rsF f (l.drop (Lib.decodeL l).2)
def rs (l : List UInt8) : List (Bool × Nat × List UInt8) := rsF l.length l

theorem wide_pos (l : List UInt8) : 1 ≤ (Lib.decodeL l).2 := by
  rw [Lib.decodeL_N]
  rcases Lib.decodeN_shape l.length (l.getD 0 0).toNat (l.getD 1 0).toNat (l.getD 2 0).toNat (l.getD 3 0).toNat with ⟨c, e⟩ | ⟨c1, c2, c3, cv, e⟩ | ⟨c1, c2, c3, c4, cv, cs, e⟩ | ⟨c1, c2, c3, c4, c5, cv, cw, e⟩ | e
  all_goals rw [e]; simp
theorem rsF_fuel : ∀ (f : Nat) (l : List UInt8), l.length ≤ f → rsF f l = rs l
  | f, l, h => by
    unfold rs
    induction f using Nat.strongRecOn generalizing l with
    | _ f ih =>
      by_cases e : l = []
      · subst e; cases f <;> simp [rsF]
      · have hp := List.length_pos_iff.2 e
        have hw := wide_pos l
        obtain ⟨g, rfl⟩ : ∃ g, f = g + 1 := ⟨f - 1, by omega⟩
        obtain ⟨m, hm⟩ : ∃ m, l.length = m + 1 := ⟨l.length - 1, by omega⟩
        have hd : (l.drop (Lib.decodeL l).2).length ≤ m := by rw [List.length_drop]; omega
        rw [hm]
        simp only [rsF, if_neg e]
        rw [ih g (by omega) _ (by omega)]
        by_cases hmg : m < g + 1
        · rw [ih m hmg _ hd]
        · omega
theorem rs_nil : rs [] = [] := rfl
theorem rs_cons (l : List UInt8) (e : l ≠ []) : rs l = (okL l, (Lib.decodeL l).1, l.take (Lib.decodeL l).2) :: rs (l.drop (Lib.decodeL l).2) := by
  have hp := List.length_pos_iff.2 e
  have hw := wide_pos l
  obtain ⟨m, hm⟩ : ∃ m, l.length = m + 1 := ⟨l.length - 1, by omega⟩
  have h : rs l = rsF (m + 1) l := by rw [rsF_fuel _ _ (by omega)]
  rw [h]
  simp only [rsF, if_neg e]
  rw [rsF_fuel _ _ (by rw [List.length_drop]; omega)]

/-! The walks' functions, told by the runes. -/
theorem drop_ne (s : ByteArray) (pos : Nat) : pos < s.size ↔ s.data.toList.drop pos ≠ [] := by
  have := U8.drop_len s pos
  constructor
  · intro h e; rw [e] at this; simp at this; omega
  · intro h
    have := List.length_pos_iff.2 h
    omega
theorem okAt_eq (s : ByteArray) (pos : Nat) : okAt s pos = okL (s.data.toList.drop pos) := by unfold okAt okL; rw [Lib.decodeL_drop]
def keyOk (r : Bool × Nat × List UInt8) : Bool := r.1 && decide (32 < r.2.1) && !(decide (127 ≤ r.2.1) && decide (r.2.1 ≤ 160)) && r.2.1 != 8232 && r.2.1 != 8233
theorem key_rs (s : ByteArray) : ∀ f pos, keyFrom s f pos = (rsF f (s.data.toList.drop pos)).all keyOk
  | 0, _ => rfl
  | f + 1, pos => by
    unfold keyFrom
    by_cases h : pos < s.size
    · rw [if_pos h, key_rs s f, rsF, if_neg ((drop_ne s pos).1 h), Lib.decodeL_drop, List.drop_drop, List.all_cons]
      congr 1
      unfold keyAt keyOk
      rw [okAt_eq]
    · rw [if_neg h, rsF, if_pos (Classical.not_not.1 (fun e => h ((drop_ne s pos).2 e)))]
      rfl
theorem keyF_eq (s : ByteArray) : keyF s = (!(decide (s.size < 1)) && !(decide (250 < s.size)) && (rs s.data.toList).all keyOk) := by
  unfold keyF rs
  rw [key_rs, List.drop_zero, len_eq]
/-! Texts put together. -/
theorem decN_1 {n b0 b1 b2 b3 : Nat} (h : b0 < 128) : Lib.decodeN n b0 b1 b2 b3 = (b0, 1) := by unfold Lib.decodeN; rw [if_pos h]
theorem decN_2 {n b0 b1 b2 b3 : Nat} (h0 : b0 / 32 = 6) (h1 : 1 < n) (h2 : b1 / 64 = 2) (h3 : 128 ≤ b0 % 32 * 64 + b1 % 64) : Lib.decodeN n b0 b1 b2 b3 = (b0 % 32 * 64 + b1 % 64, 2) := by
  unfold Lib.decodeN; rw [if_neg (by omega), if_pos (by omega), if_pos (by omega)]
theorem decN_3 {n b0 b1 b2 b3 : Nat} (h0 : b0 / 16 = 14) (h1 : 2 < n) (h2 : b1 / 64 = 2) (h3 : b2 / 64 = 2) (h4 : 2048 ≤ b0 % 16 * 4096 + b1 % 64 * 64 + b2 % 64) (h5 : b0 % 16 * 4096 + b1 % 64 * 64 + b2 % 64 < 55296 ∨ 57344 ≤ b0 % 16 * 4096 + b1 % 64 * 64 + b2 % 64) :
    Lib.decodeN n b0 b1 b2 b3 = (b0 % 16 * 4096 + b1 % 64 * 64 + b2 % 64, 3) := by
  unfold Lib.decodeN; rw [if_neg (by omega), if_neg (by omega), if_pos (by omega), if_pos (by omega)]
theorem decN_4 {n b0 b1 b2 b3 : Nat} (h0 : b0 / 8 = 30) (h1 : 3 < n) (h2 : b1 / 64 = 2) (h3 : b2 / 64 = 2) (h4 : b3 / 64 = 2) (h5 : 65536 ≤ b0 % 8 * 262144 + b1 % 64 * 4096 + b2 % 64 * 64 + b3 % 64) (h6 : b0 % 8 * 262144 + b1 % 64 * 4096 + b2 % 64 * 64 + b3 % 64 ≤ 1114111) :
    Lib.decodeN n b0 b1 b2 b3 = (b0 % 8 * 262144 + b1 % 64 * 4096 + b2 % 64 * 64 + b3 % 64, 4) := by
  unfold Lib.decodeN; rw [if_neg (by omega), if_neg (by omega), if_neg (by omega), if_pos (by omega), if_pos (by omega)]
theorem getD_app (l r : List UInt8) (i : Nat) (h : i < l.length) : (l ++ r).getD i 0 = l.getD i 0 := by
  rw [List.getD_eq_getElem?_getD, List.getD_eq_getElem?_getD, List.getElem?_append_left h]
/-- A well formed rune is read alike, whatever stands behind it. -/
theorem dec_app (l r : List UInt8) (e : l ≠ []) (h : okL l = true) : Lib.decodeL (l ++ r) = Lib.decodeL l := by
  have hp := List.length_pos_iff.2 e
  unfold okL at h
  rw [Lib.decodeL_N] at h ⊢
  rw [Lib.decodeL_N l]
  rw [List.length_append, getD_app l r 0 hp]
  rcases Lib.decodeN_shape l.length (l.getD 0 0).toNat (l.getD 1 0).toNat (l.getD 2 0).toNat (l.getD 3 0).toNat with ⟨c, e⟩ | ⟨c1, c2, c3, cv, e⟩ | ⟨c1, c2, c3, c4, cv, cs, e⟩ | ⟨c1, c2, c3, c4, c5, cv, cw, e⟩ | e
  · rw [e, decN_1 c]
  · rw [e, getD_app l r 1 c2, decN_2 c1 (by omega) c3 cv]
  · rw [e, getD_app l r 1 (by omega), getD_app l r 2 (by omega), decN_3 c1 (by omega) c3 c4 cv cs]
  · rw [e, getD_app l r 1 (by omega), getD_app l r 2 (by omega), getD_app l r 3 (by omega), decN_4 c1 (by omega) c3 c4 c5 cv cw]
  · rw [e] at h
    simp at h
theorem rs_app (r : List UInt8) : ∀ (n : Nat) (l : List UInt8), l.length ≤ n → (rs l).all (fun x => x.1) = true → rs (l ++ r) = rs l ++ rs r
  | n, l, hn, h => by
    by_cases e : l = []
    · subst e; rfl
    · have hp := List.length_pos_iff.2 e
      have hw := wide_pos l
      have hle := Lib.decodeL_le l e
      obtain ⟨m, rfl⟩ : ∃ m, n = m + 1 := ⟨n - 1, by omega⟩
      rw [rs_cons l e, List.all_cons, Bool.and_eq_true] at h
      have hd := dec_app l r e h.1
      have hk : okL (l ++ r) = okL l := by unfold okL; rw [hd]
      rw [rs_cons (l ++ r) (by simp [e]), rs_cons l e, hk, hd, List.take_append_of_le_length hle, List.drop_append_of_le_length hle, rs_app r m _ (by rw [List.length_drop]; omega) h.2]
      rfl
end Go.Proofs.YtfbhlbchmenloaaGreatDoor.L

namespace Go.Proofs.YtfbhlbchmenloaaGreatDoor.Pure
open Go Go.RowKit Go.Proofs.YtfbhlbchmenloaaGreatDoorW.PrintWords Go.Proofs.YtfbhlbchmenloaaGreatDoor.H Go.Proofs.YtfbhlbchmenloaaGreatDoor.L
set_option linter.unusedSimpArgs false
set_option linter.unusedVariables false

/-- A byte of a text, 0 behind its end. -/
def by_ (s : ByteArray) (i : Nat) : Nat := (s.data.toList.getD i 0).toNat
theorem by_lt (s : ByteArray) (i : Nat) : by_ s i < 256 := (s.data.toList.getD i 0).toNat_lt
theorem bt_by (s : ByteArray) (i : Nat) (h : i < s.size) : bt s (i : Int) = (by_ s i : Int) := by
  unfold bt by_
  rw [dif_pos (by simpa using h), List.getD_eq_getElem?_getD, List.getElem?_eq_getElem (by rw [len_eq]; exact h)]
  rfl
theorem and192 : ∀ x : Fin 256, (Go.bits .and .u8 ((x.val : Nat) : Int) 192 = 128) ↔ x.val / 64 = 2 := by
  intro x
  have h : Go.bits .and .u8 ((x.val : Nat) : Int) 192 = ((x.val / 64 * 64 : Nat) : Int) := by
    revert x; decide +kernel
  rw [h]; omega
theorem and63 (x : Nat) (h : x < 256) : Go.bits .and .u8 (x : Int) 63 = ((x % 64 : Nat) : Int) := by rw [u8_and63 (x := (x : Int)) (by omega) (by omega)]; omega
theorem wraps_i64 (n : Int) (h₀ : 0 ≤ n) (h₁ : n < 2 ^ 62) : IntKind.i64.wrap n = n := by rw [IntKind.wrap_i64]; omega
theorem and31 (x : Nat) (h : x < 256) : Go.bits .and .i64 (x : Int) 31 = ((x % 32 : Nat) : Int) := by
  have := bits_mask .i64 62 (by decide) wraps_i64 5 (by decide) (x : Int) (by omega) (by omega)
  rw [show ((2 : Int) ^ 5 - 1) = 31 from rfl] at this
  rw [this]; omega
theorem and15 (x : Nat) (h : x < 256) : Go.bits .and .i64 (x : Int) 15 = ((x % 16 : Nat) : Int) := by
  have := bits_mask .i64 62 (by decide) wraps_i64 4 (by decide) (x : Int) (by omega) (by omega)
  rw [show ((2 : Int) ^ 4 - 1) = 15 from rfl] at this
  rw [this]; omega
theorem and7 (x : Nat) (h : x < 256) : Go.bits .and .i64 (x : Int) 7 = ((x % 8 : Nat) : Int) := by
  have := bits_mask .i64 62 (by decide) wraps_i64 3 (by decide) (x : Int) (by omega) (by omega)
  rw [show ((2 : Int) ^ 3 - 1) = 7 from rfl] at this
  rw [this]; omega
theorem or64 (v b : Nat) (hv : v < 1048576) (hb : b < 64) : Go.bits .or .i64 (wrap64 ((v : Int) * 64)) (wrap64 (b : Int)) = ((v * 64 + b : Nat) : Int) := by
  rw [show wrap64 ((v : Int) * 64) = (v : Int) * 64 by unfold wrap64; omega, show wrap64 (b : Int) = (b : Int) by unfold wrap64; omega]
  have := bits_join .i64 62 (by decide) wraps_i64 6 ((v : Int) * 64) (b : Int) (by omega) (by omega) (by omega) (by omega) (by omega) (by omega)
  rw [this]; omega

def finR (v n lo : Nat) : Int × Int := if v < lo ∨ 1114111 < v ∨ (55296 ≤ v ∧ v < 57344) then (-1, 1) else ((v : Int), (n : Int))
theorem l0_end (s : ByteArray) (n lo v i : Nat) (h : ¬ i < n) : Ev (fun k => cellaretref1_rune1.l0 k s (n : Int) (lo : Int) (v : Int) (i : Int)) (finR v n lo) := by
  refine Ev.step (fun k => cellaretref1_rune1.l0.eq_2 _ _ _ _ _ _) ?_
  simp only [if_neg (show ¬ (i : Int) < (n : Int) by omega)]
  unfold finR
  by_cases h1 : v < lo
  · simp only [if_pos (show (v : Int) < (lo : Int) by omega), if_pos (show v < lo ∨ 1114111 < v ∨ (55296 ≤ v ∧ v < 57344) from .inl h1)]; exact Ev.now _
  · simp only [if_neg (show ¬ (v : Int) < (lo : Int) by omega)]
    by_cases h2 : 1114111 < v
    · simp only [if_pos (show (v : Int) > 1114111 by omega), if_pos (show v < lo ∨ 1114111 < v ∨ (55296 ≤ v ∧ v < 57344) from .inr (.inl h2))]; exact Ev.now _
    · simp only [if_neg (show ¬ (v : Int) > 1114111 by omega)]
      by_cases h3 : 55296 ≤ v
      · simp only [if_pos (show (v : Int) ≥ 55296 by omega)]
        by_cases h4 : v < 57344
        · simp only [if_pos (show (v : Int) < 57344 by omega), if_pos (show v < lo ∨ 1114111 < v ∨ (55296 ≤ v ∧ v < 57344) from .inr (.inr ⟨h3, h4⟩))]; exact Ev.now _
        · simp only [if_neg (show ¬ (v : Int) < 57344 by omega), if_neg (show ¬ (v < lo ∨ 1114111 < v ∨ (55296 ≤ v ∧ v < 57344)) by omega)]; exact Ev.now _
      · simp only [if_neg (show ¬ (v : Int) ≥ 55296 by omega), if_neg (show ¬ (v < lo ∨ 1114111 < v ∨ (55296 ≤ v ∧ v < 57344)) by omega)]; exact Ev.now _
theorem l0_bad (s : ByteArray) (n lo v i : Nat) (h : i < n) (hs : i < s.size) (hc : by_ s i / 64 ≠ 2) : Ev (fun k => cellaretref1_rune1.l0 k s (n : Int) (lo : Int) (v : Int) (i : Int)) (-1, 1) := by
  refine Ev.step (fun k => cellaretref1_rune1.l0.eq_2 _ _ _ _ _ _) ?_
  simp only [if_pos (show (i : Int) < (n : Int) by omega), if_pos (show (0 : Int) ≤ (i : Int) by omega), if_pos (show (i : Int) < (s.size : Int) by omega), bt_by s i hs, if_neg (fun e => hc ((and192 ⟨by_ s i, by_lt s i⟩).1 e))]
  exact Ev.now _
theorem l0_step (s : ByteArray) (n lo v i : Nat) (h : i < n) (hs : i < s.size) (hz : s.size < 140737488355328) (hv : v < 1048576) (hc : by_ s i / 64 = 2) {r : Int × Int}
    (hr : Ev (fun k => cellaretref1_rune1.l0 k s (n : Int) (lo : Int) ((v * 64 + by_ s i % 64 : Nat) : Int) ((i + 1 : Nat) : Int)) r) : Ev (fun k => cellaretref1_rune1.l0 k s (n : Int) (lo : Int) (v : Int) (i : Int)) r := by
  refine Ev.step (fun k => cellaretref1_rune1.l0.eq_2 _ _ _ _ _ _) ?_
  simp only [if_pos (show (i : Int) < (n : Int) by omega), if_pos (show (0 : Int) ≤ (i : Int) by omega), if_pos (show (i : Int) < (s.size : Int) by omega), bt_by s i hs, if_pos ((and192 ⟨by_ s i, by_lt s i⟩).2 hc), and63 _ (by_lt s i), or64 v (by_ s i % 64) hv (by omega), wrap_next (show (0 : Int) ≤ (i : Int) by omega) (by omega)]
  exact hr
/-- From the second byte on. -/
def tailR (s : ByteArray) (n lo v : Nat) : Int × Int :=
  if s.size < n then (-1, 1)
  else if by_ s 1 / 64 ≠ 2 then (-1, 1)
  else if n = 2 then finR (v * 64 + by_ s 1 % 64) 2 lo
  else if by_ s 2 / 64 ≠ 2 then (-1, 1)
  else if n = 3 then finR ((v * 64 + by_ s 1 % 64) * 64 + by_ s 2 % 64) 3 lo
  else if by_ s 3 / 64 ≠ 2 then (-1, 1)
  else finR (((v * 64 + by_ s 1 % 64) * 64 + by_ s 2 % 64) * 64 + by_ s 3 % 64) 4 lo
theorem evTail (s : ByteArray) (n lo v : Nat) (hn : n = 2 ∨ n = 3 ∨ n = 4) (hv : v < 32) (hz : s.size < 140737488355328) : Ev (fun k => cellaretref1_rune1.j2 k s (n : Int) (lo : Int) (v : Int)) (tailR s n lo v) := by
  refine Ev.step (fun k => cellaretref1_rune1.j2.eq_2 _ _ _ _ _) ?_
  unfold tailR
  by_cases h0 : s.size < n
  · simp only [if_pos (show (s.size : Int) < (n : Int) by omega), if_pos h0]; exact Ev.now _
  · simp only [if_neg (show ¬ (s.size : Int) < (n : Int) by omega), if_neg h0]
    by_cases h1 : by_ s 1 / 64 ≠ 2
    · rw [if_pos h1]; exact l0_bad s n lo v 1 (by omega) (by omega) h1
    · rw [if_neg h1]
      refine l0_step s n lo v 1 (by omega) (by omega) hz (by omega) (by omega) ?_
      by_cases h2 : n = 2
      · rw [if_pos h2]; subst h2; exact l0_end s 2 lo _ 2 (by omega)
      · rw [if_neg h2]
        by_cases h3 : by_ s 2 / 64 ≠ 2
        · rw [if_pos h3]; exact l0_bad s n lo _ 2 (by omega) (by omega) h3
        · rw [if_neg h3]
          refine l0_step s n lo _ 2 (by omega) (by omega) hz (by omega) (by omega) ?_
          by_cases h4 : n = 3
          · rw [if_pos h4]; subst h4; exact l0_end s 3 lo _ 3 (by omega)
          · rw [if_neg h4]
            obtain rfl : n = 4 := by omega
            by_cases h5 : by_ s 3 / 64 ≠ 2
            · rw [if_pos h5]; exact l0_bad s 4 lo _ 3 (by omega) (by omega) h5
            · rw [if_neg h5]
              refine l0_step s 4 lo _ 3 (by omega) (by omega) hz (by omega) (by omega) ?_
              exact l0_end s 4 lo _ 4 (by omega)
def runeR (l : List UInt8) : Int × Int := if okL l = true then (((Lib.decodeL l).1 : Int), ((Lib.decodeL l).2 : Int)) else (-1, 1)
def headR (s : ByteArray) : Int × Int :=
  let b := by_ s 0
  if b < 128 then ((b : Int), 1) else if b < 194 then (-1, 1) else if b < 224 then tailR s 2 128 (b % 32) else if b < 240 then tailR s 3 2048 (b % 16) else if b < 245 then tailR s 4 65536 (b % 8) else (-1, 1)
theorem bad_of {l : List UInt8} {n : Nat} {b0 b1 b2 b3 : Nat} (hd : Lib.decodeL l = Lib.decodeN n b0 b1 b2 b3) (h : Lib.decodeN n b0 b1 b2 b3 = (65533, 1)) : runeR l = (-1, 1) := by
  unfold runeR okL; rw [hd, h]; simp
theorem good_of {l : List UInt8} {n : Nat} {b0 b1 b2 b3 c w : Nat} (hd : Lib.decodeL l = Lib.decodeN n b0 b1 b2 b3) (h : Lib.decodeN n b0 b1 b2 b3 = (c, w)) (hw : c ≠ 65533 ∨ 1 < w) : runeR l = ((c : Int), (w : Int)) := by
  unfold runeR okL
  rw [hd, h, if_pos]
  rcases hw with hw | hw
  · simp [hw]
  · simp [hw]
theorem headR_eq (s : ByteArray) (h : 0 < s.size) : headR s = runeR s.data.toList := by
  have hd : Lib.decodeL s.data.toList = Lib.decodeN s.size (by_ s 0) (by_ s 1) (by_ s 2) (by_ s 3) := by rw [Lib.decodeL_N, len_eq]; rfl
  have k0 := by_lt s 0; have k1 := by_lt s 1; have k2 := by_lt s 2; have k3 := by_lt s 3
  have bad : Lib.decodeN s.size (by_ s 0) (by_ s 1) (by_ s 2) (by_ s 3) = (65533, 1) → runeR s.data.toList = (-1, 1) := bad_of hd
  unfold headR
  generalize hb0 : by_ s 0 = b0 at *
  generalize hb1 : by_ s 1 = b1 at *
  generalize hb2 : by_ s 2 = b2 at *
  generalize hb3 : by_ s 3 = b3 at *
  dsimp only
  by_cases h1 : b0 < 128
  · rw [if_pos h1, good_of hd (decN_1 h1) (.inl (by omega))]; rfl
  · rw [if_neg h1]
    by_cases h2 : b0 < 194
    · rw [if_pos h2, bad (by unfold Lib.decodeN; repeat' split
                             all_goals first | rfl | (exfalso; omega))]
    · rw [if_neg h2]
      by_cases h3 : b0 < 224
      · rw [if_pos h3]
        unfold tailR
        rw [hb1, hb2, hb3]
        by_cases c1 : s.size < 2
        · rw [if_pos c1, bad (by unfold Lib.decodeN; repeat' split
                                 all_goals first | rfl | (exfalso; omega))]
        · rw [if_neg c1]
          by_cases c2 : b1 / 64 ≠ 2
          · rw [if_pos c2, bad (by unfold Lib.decodeN; repeat' split
                                   all_goals first | rfl | (exfalso; omega))]
          · rw [if_neg c2, if_pos rfl, good_of hd (decN_2 (by omega) (by omega) (by omega) (by omega)) (.inr (by omega))]
            unfold finR
            rw [if_neg (by omega)]
      · rw [if_neg h3]
        by_cases h4 : b0 < 240
        · rw [if_pos h4]
          unfold tailR
          rw [hb1, hb2, hb3]
          by_cases c1 : s.size < 3
          · rw [if_pos c1, bad (by unfold Lib.decodeN; repeat' split
                                   all_goals first | rfl | (exfalso; omega))]
          · rw [if_neg c1]
            by_cases c2 : b1 / 64 ≠ 2
            · rw [if_pos c2, bad (by unfold Lib.decodeN; repeat' split
                                     all_goals first | rfl | (exfalso; omega))]
            · rw [if_neg c2, if_neg (by omega)]
              by_cases c3 : b2 / 64 ≠ 2
              · rw [if_pos c3, bad (by unfold Lib.decodeN; repeat' split
                                       all_goals first | rfl | (exfalso; omega))]
              · rw [if_neg c3, if_pos rfl]
                unfold finR
                by_cases c4 : (b0 % 16 * 64 + b1 % 64) * 64 + b2 % 64 < 2048 ∨ 1114111 < (b0 % 16 * 64 + b1 % 64) * 64 + b2 % 64 ∨ (55296 ≤ (b0 % 16 * 64 + b1 % 64) * 64 + b2 % 64 ∧ (b0 % 16 * 64 + b1 % 64) * 64 + b2 % 64 < 57344)
                · rw [if_pos c4, bad (by unfold Lib.decodeN; repeat' split
                                         all_goals first | rfl | (exfalso; omega))]
                · rw [if_neg c4, good_of hd (decN_3 (by omega) (by omega) (by omega) (by omega) (by omega) (by omega)) (.inr (by omega))]
                  rw [show (b0 % 16 * 64 + b1 % 64) * 64 + b2 % 64 = b0 % 16 * 4096 + b1 % 64 * 64 + b2 % 64 by omega]
        · rw [if_neg h4]
          by_cases h5 : b0 < 245
          · rw [if_pos h5]
            unfold tailR
            rw [hb1, hb2, hb3]
            by_cases c1 : s.size < 4
            · rw [if_pos c1, bad (by unfold Lib.decodeN; repeat' split
                                     all_goals first | rfl | (exfalso; omega))]
            · rw [if_neg c1]
              by_cases c2 : b1 / 64 ≠ 2
              · rw [if_pos c2, bad (by unfold Lib.decodeN; repeat' split
                                       all_goals first | rfl | (exfalso; omega))]
              · rw [if_neg c2, if_neg (by omega)]
                by_cases c3 : b2 / 64 ≠ 2
                · rw [if_pos c3, bad (by unfold Lib.decodeN; repeat' split
                                         all_goals first | rfl | (exfalso; omega))]
                · rw [if_neg c3, if_neg (by omega)]
                  by_cases c4 : b3 / 64 ≠ 2
                  · rw [if_pos c4, bad (by unfold Lib.decodeN; repeat' split
                                           all_goals first | rfl | (exfalso; omega))]
                  · rw [if_neg c4]
                    unfold finR
                    by_cases c5 : ((b0 % 8 * 64 + b1 % 64) * 64 + b2 % 64) * 64 + b3 % 64 < 65536 ∨ 1114111 < ((b0 % 8 * 64 + b1 % 64) * 64 + b2 % 64) * 64 + b3 % 64 ∨ (55296 ≤ ((b0 % 8 * 64 + b1 % 64) * 64 + b2 % 64) * 64 + b3 % 64 ∧ ((b0 % 8 * 64 + b1 % 64) * 64 + b2 % 64) * 64 + b3 % 64 < 57344)
                    · rw [if_pos c5, bad (by unfold Lib.decodeN; repeat' split
                                             all_goals first | rfl | (exfalso; omega))]
                    · rw [if_neg c5, good_of hd (decN_4 (by omega) (by omega) (by omega) (by omega) (by omega) (by omega) (by omega)) (.inr (by omega))]
                      rw [show ((b0 % 8 * 64 + b1 % 64) * 64 + b2 % 64) * 64 + b3 % 64 = b0 % 8 * 262144 + b1 % 64 * 4096 + b2 % 64 * 64 + b3 % 64 by omega]
          · rw [if_neg h5, bad (by unfold Lib.decodeN; repeat' split
                                   all_goals first | rfl | (exfalso; omega))]
theorem evRune1 (s : ByteArray) (h : 0 < s.size) (hz : s.size < 140737488355328) : Ev (fun k => cellaretref1_rune1.f k s) (runeR s.data.toList) := by
  rw [← headR_eq s h]
  unfold cellaretref1_rune1.f headR
  have hb := by_lt s 0
  have e0 : bt s 0 = (by_ s 0 : Int) := bt_by s 0 h
  simp only [if_pos (show (0 : Int) < (s.size : Int) by omega), e0, show wrap64 (by_ s 0 : Int) = (by_ s 0 : Int) by unfold wrap64; omega]
  by_cases h1 : by_ s 0 < 128
  · simp only [if_pos (show (by_ s 0 : Int) < 128 by omega), if_pos h1]; exact Ev.now _
  · simp only [if_neg (show ¬ (by_ s 0 : Int) < 128 by omega), if_neg h1]
    by_cases h2 : by_ s 0 < 194
    · simp only [if_neg (show ¬ (by_ s 0 : Int) ≥ 194 by omega), if_pos h2]
      refine Ev.step (fun k => cellaretref1_rune1.j0.eq_2 _ _ _ _) ?_
      simp only [Bool.false_eq_true, if_false, if_neg (show ¬ (by_ s 0 : Int) ≥ 224 by omega)]
      refine Ev.step (fun k => cellaretref1_rune1.j1.eq_2 _ _ _ _) ?_
      simp only [Bool.false_eq_true, if_false, if_neg (show ¬ (by_ s 0 : Int) ≥ 240 by omega)]
      exact Ev.now _
    · simp only [if_pos (show (by_ s 0 : Int) ≥ 194 by omega), if_neg h2]
      by_cases h3 : by_ s 0 < 224
      · simp only [decide_eq_true (show (by_ s 0 : Int) < 224 by omega), if_pos h3]
        refine Ev.step (fun k => cellaretref1_rune1.j0.eq_2 _ _ _ _) ?_
        simp only [if_true, and31 _ hb]
        exact evTail s 2 128 _ (by omega) (by omega) hz
      · simp only [decide_eq_false (show ¬ (by_ s 0 : Int) < 224 by omega), if_neg h3]
        refine Ev.step (fun k => cellaretref1_rune1.j0.eq_2 _ _ _ _) ?_
        simp only [Bool.false_eq_true, if_false, if_pos (show (by_ s 0 : Int) ≥ 224 by omega)]
        by_cases h4 : by_ s 0 < 240
        · simp only [decide_eq_true (show (by_ s 0 : Int) < 240 by omega), if_pos h4]
          refine Ev.step (fun k => cellaretref1_rune1.j1.eq_2 _ _ _ _) ?_
          simp only [if_true, and15 _ hb]
          exact evTail s 3 2048 _ (by omega) (by omega) hz
        · simp only [decide_eq_false (show ¬ (by_ s 0 : Int) < 240 by omega), if_neg h4]
          refine Ev.step (fun k => cellaretref1_rune1.j1.eq_2 _ _ _ _) ?_
          simp only [Bool.false_eq_true, if_false, if_pos (show (by_ s 0 : Int) ≥ 240 by omega)]
          by_cases h5 : by_ s 0 < 245
          · simp only [if_pos (show (by_ s 0 : Int) < 245 by omega), if_pos h5, and7 _ hb]
            exact evTail s 4 65536 _ (by omega) (by omega) hz
          · simp only [if_neg (show ¬ (by_ s 0 : Int) < 245 by omega), if_neg h5]
            exact Ev.now _
end Go.Proofs.YtfbhlbchmenloaaGreatDoor.Pure

namespace Go.Proofs.YtfbhlbchmenloaaGreatDoor.Pure
open Go Go.RowKit Go.Proofs.YtfbhlbchmenloaaGreatDoorW.PrintWords Go.Proofs.YtfbhlbchmenloaaGreatDoor.H Go.Proofs.YtfbhlbchmenloaaGreatDoor.L
set_option linter.unusedSimpArgs false
set_option linter.unusedVariables false

theorem runeR_2 (l : List UInt8) : (runeR l).2 = ((Lib.decodeL l).2 : Int) := by
  unfold runeR
  by_cases h : okL l = true
  · rw [if_pos h]
  · rw [if_neg h]
    have := wide_pos l
    simp [okL] at h
    show (1 : Int) = _
    omega
theorem runeR_ok (l : List UInt8) : decide ((runeR l).1 ≥ 0) = okL l := by
  unfold runeR
  by_cases h : okL l = true
  · rw [if_pos h, h]; simp
  · rw [if_neg h]
    have : okL l = false := by simpa using h
    rw [this]; rfl
theorem cut_size (s : ByteArray) (h : 0 < s.size) : (s.extract (Lib.decodeL s.data.toList).2 s.size).size = s.size - (Lib.decodeL s.data.toList).2 := by
  rw [ByteArray.size_extract]; omega
theorem ne_of (s : ByteArray) (h : 0 < s.size) : s.data.toList ≠ [] := by
  intro e; have := len_eq s; rw [e] at this; simp at this; omega
theorem fits (s : ByteArray) (h : 0 < s.size) : (Lib.decodeL s.data.toList).2 ≤ s.size := by
  have := Lib.decodeL_le s.data.toList (ne_of s h)
  rw [len_eq] at this; exact this

theorem keyOk_bad (l : List UInt8) (h : (runeR l).1 ≤ 32) : keyOk (okL l, (Lib.decodeL l).1, l.take (Lib.decodeL l).2) = false := by
  unfold runeR at h
  by_cases hk : okL l = true
  · rw [if_pos hk] at h
    simp only [keyOk, hk, Bool.true_and, decide_eq_false (show ¬ 32 < (Lib.decodeL l).1 by simp at h; omega), Bool.false_and]
  · have : okL l = false := by simpa using hk
    simp [keyOk, this]
theorem runeR_1 (l : List UInt8) (h : ¬ (runeR l).1 ≤ 32) : okL l = true ∧ (runeR l).1 = ((Lib.decodeL l).1 : Int) := by
  unfold runeR at h ⊢
  by_cases hk : okL l = true
  · rw [if_pos hk]; exact ⟨hk, rfl⟩
  · rw [if_neg hk] at h
    exact absurd (by decide) h
theorem key_loop : ∀ (n : Nat) (s : ByteArray), s.size ≤ n → s.size < 140737488355328 →
    Ev (fun k => cellaretref1_Key.l0 k s) ((rs s.data.toList).all keyOk)
  | n, s, hn, hc => by
    refine Ev.step (fun k => cellaretref1_Key.l0.eq_2 _ _) ?_
    by_cases h : 0 < s.size
    · simp only [if_pos (show (s.size : Int) > 0 by omega)]
      refine Ev.bind (evRune1 s h (by omega)) ?_
      have hw := wide_pos s.data.toList
      have hf := fits s h
      obtain ⟨m, rfl⟩ : ∃ m, n = m + 1 := ⟨n - 1, by omega⟩
      have hs := cut_size s h
      have ih := key_loop m (s.extract (Lib.decodeL s.data.toList).2 s.size) (by omega) (by omega)
      rw [Lib.extract_to_end] at ih
      rw [rs_cons _ (ne_of s h), List.all_cons]
      by_cases h1 : (runeR s.data.toList).1 ≤ 32
      · simp only [if_pos h1]
        rw [keyOk_bad _ h1, Bool.false_and]
        exact Ev.now _
      · obtain ⟨hk, e1⟩ := runeR_1 _ h1
        simp only [runeR_2, e1, if_pos (show (0 : Int) ≤ ((Lib.decodeL s.data.toList).2 : Int) by omega), if_pos (show ((Lib.decodeL s.data.toList).2 : Int) ≤ (s.size : Int) by omega), Int.toNat_natCast]
        rw [e1] at h1
        generalize hr : (Lib.decodeL s.data.toList).1 = r at *
        have hK : ∀ x, keyOk (true, r, x) = (decide (32 < r) && !(decide (127 ≤ r) && decide (r ≤ 160)) && r != 8232 && r != 8233) := fun _ => by simp [keyOk]
        rw [hk, hK]
        simp only [if_neg (show ¬ (r : Int) ≤ 32 by omega)]
        by_cases h2 : 127 ≤ r
        · simp only [if_pos (show (r : Int) ≥ 127 by omega)]
          by_cases h3 : r ≤ 160
          · simp only [if_pos (show (r : Int) ≤ 160 by omega)]
            simpa [h2, h3] using Ev.now _
          · simp only [if_neg (show ¬ (r : Int) ≤ 160 by omega)]
            by_cases h4 : r = 8232
            · simp only [if_pos (show (r : Int) = 8232 by omega)]
              simpa [h4] using Ev.now _
            · simp only [if_neg (show ¬ (r : Int) = 8232 by omega)]
              by_cases h5 : r = 8233
              · simp only [if_pos (show (r : Int) = 8233 by omega)]
                simpa [h5] using Ev.now _
              · simp only [if_neg (show ¬ (r : Int) = 8233 by omega)]
                simpa [h2, h3, bne_iff_ne.2 h4, bne_iff_ne.2 h5, show 32 < r by omega] using ih
        · simp only [if_neg (show ¬ (r : Int) ≥ 127 by omega), if_neg (show ¬ (r : Int) = 8232 by omega), if_neg (show ¬ (r : Int) = 8233 by omega)]
          simpa [h2, show 32 < r by omega, bne_iff_ne.2 (show r ≠ 8232 by omega), bne_iff_ne.2 (show r ≠ 8233 by omega)] using ih
    · simp only [if_neg (show ¬ (s.size : Int) > 0 by omega)]
      have e : s.data.toList = [] := List.eq_nil_of_length_eq_zero (by rw [len_eq]; omega)
      rw [e, rs_nil]
      exact Ev.now _
theorem evRefKey (s : ByteArray) (hs : s.size < 140737488355328) : Ev (fun k => cellaretref1_Key.f k s) (keyF s) := by
  rw [keyF_eq]
  unfold cellaretref1_Key.f
  by_cases h1 : s.size < 1
  · simp only [if_pos (show (s.size : Int) < 1 by omega)]
    refine Ev.step (fun k => cellaretref1_Key.j0.eq_2 _ _ _) ?_
    simpa [h1] using Ev.now _
  · simp only [if_neg (show ¬ (s.size : Int) < 1 by omega)]
    refine Ev.step (fun k => cellaretref1_Key.j0.eq_2 _ _ _) ?_
    by_cases h2 : 250 < s.size
    · simp only [decide_eq_true (show (s.size : Int) > 250 by omega), if_true]
      simpa [h1, h2] using Ev.now _
    · simp only [decide_eq_false (show ¬ (s.size : Int) > 250 by omega), Bool.false_eq_true, if_false]
      have h := key_loop s.size s (Nat.le_refl _) hs
      simpa [h1, h2] using h
end Go.Proofs.YtfbhlbchmenloaaGreatDoor.Pure

namespace Go.Proofs.YtfbhlbchmenloaaGreatDoor.Pure
open Go Go.RowKit Go.Proofs.YtfbhlbchmenloaaGreatDoorW.PrintWords Go.Proofs.YtfbhlbchmenloaaGreatDoor.H Go.Proofs.YtfbhlbchmenloaaGreatDoor.L
set_option linter.unusedSimpArgs false
set_option linter.unusedVariables false
theorem bt_get (s : ByteArray) (i : Nat) (h : i < s.size) : bt s (i : Int) = ((s[i]'h).toNat : Int) := by
  unfold bt
  rw [dif_pos (by simpa using h)]
  rfl
theorem drop_get (s : ByteArray) (i : Nat) (h : i < s.size) : s.data.toList.drop i = (s[i]'h) :: s.data.toList.drop (i + 1) := by
  have hl : s.data.toList.length = s.size := Array.length_toList
  rw [List.drop_eq_getElem_cons (by omega)]
  rfl
theorem u8_32 (c : UInt8) : ((c.toNat : Int) = 32) ↔ c = 32 := by
  constructor
  · intro e
    exact UInt8.toNat_inj.1 (show c.toNat = 32 by omega)
  · rintro rfl
    rfl
theorem one_byte (s : ByteArray) (i : Nat) (h : i < s.size) : (s.extract i (i + 1)).data.toList = [s[i]'h] := by
  rw [Lib.extract_data, drop_get s i h]
  simp

theorem refSplit_loop (s : ByteArray) (hs : s.size < 4000000000) : ∀ (d i : Nat) (out : List ByteArray) (w : ByteArray), i + d = s.size → out.length ≤ i → w.size ≤ i →
    Ev (fun k => cellaretref1_Split.l0 k s out w (i : Int)) (out ++ (wl w.data.toList (s.data.toList.drop i)).map ba)
  | 0, i, out, w, hi, ho, hw => by
    refine Ev.step (fun k => cellaretref1_Split.l0.eq_2 _ _ _ _ _) ?_
    have hl : s.data.toList.length = s.size := Array.length_toList
    simp only [if_neg (show ¬ ((i : Int) < (s.size : Int)) by omega)]
    rw [List.drop_of_length_le (by omega)]
    by_cases he : w.toList = []
    · simp only [if_pos he]
      rw [tl] at he
      simpa [wl, he] using Ev.now _
    · simp only [if_neg he, if_pos (show out.length < 8796093022208 by omega)]
      rw [tl] at he
      simpa [wl, he, ba_of] using Ev.now _
  | d + 1, i, out, w, hi, ho, hw => by
    have hlt : i < s.size := by omega
    refine Ev.step (fun k => cellaretref1_Split.l0.eq_2 _ _ _ _ _) ?_
    simp only [if_pos (show (i : Int) < (s.size : Int) by omega), if_pos (show (0 : Int) ≤ (i : Int) by omega), wrap_next (show (0 : Int) ≤ (i : Int) by omega) (by omega), bt_get s i hlt]
    rw [drop_get s i hlt]
    by_cases hc : s[i]'hlt = 32
    · simp only [if_pos ((u8_32 (s[i]'hlt)).2 hc)]
      by_cases he : w.toList = []
      · simp only [if_pos he]
        have h := refSplit_loop s hs d (i + 1) out w (by omega) (by omega) (by omega)
        rw [tl] at he
        simp only [wl, if_pos hc, if_pos he]
        rw [he] at h
        exact h
      · simp only [if_neg he, if_pos (show out.length < 8796093022208 by omega)]
        have h := refSplit_loop s hs d (i + 1) (out ++ [w]) ⟨#[]⟩ (by omega) (by simp; omega) (by show 0 ≤ _; omega)
        rw [tl] at he
        simp only [wl, if_pos hc, if_neg he, List.map_cons, ba_of]
        rw [List.append_assoc, List.singleton_append] at h
        exact h
    · simp only [if_neg (fun e => hc ((u8_32 (s[i]'hlt)).1 e)), if_pos (show (i : Int) ≤ (i : Int) + 1 by omega), if_pos (show (i : Int) + 1 ≤ (s.size : Int) by omega)]
      have ex : s.extract (i : Int).toNat ((i : Int) + 1).toNat = s.extract i (i + 1) := by rw [show ((i : Int) + 1).toNat = i + 1 by omega, Int.toNat_natCast]
      have exs : (s.extract i (i + 1)).size = 1 := by rw [ByteArray.size_extract]; omega
      simp only [ex, exs, if_pos (show w.size + 1 ≤ 9223372036854775807 by omega)]
      have h := refSplit_loop s hs d (i + 1) out (w ++ s.extract i (i + 1)) (by omega) (by omega) (by rw [ByteArray.size_append, exs]; omega)
      have hd : (w ++ s.extract i (i + 1)).data.toList = w.data.toList ++ [s[i]'hlt] := by rw [ByteArray.data_append, Array.toList_append, one_byte s i hlt]
      rw [hd] at h
      simp only [wl, if_neg hc]
      exact h
theorem evRefSplit (s : ByteArray) (hs : s.size < 4000000000) : Ev (fun k => cellaretref1_Split.f k s) ((wl [] s.data.toList).map ba) := by
  unfold cellaretref1_Split.f
  simp only [Nat.zero_le, if_true]
  exact refSplit_loop s hs _ 0 [] ⟨#[]⟩ (Nat.zero_add _) (Nat.le_refl _) (Nat.le_refl _)

/-- What the loop of WordsSplits puts together: the first i words. -/
theorem u64w (n : Int) (h0 : 0 ≤ n) (h1 : n < 18446744073709551616) : IntKind.u64.wrap n = n := by rw [IntKind.wrap_u64]; omega
theorem drop_by (s : ByteArray) (i : Nat) (h : i < s.size) : ∃ c : UInt8, s.data.toList.drop i = c :: s.data.toList.drop (i + 1) ∧ c.toNat = by_ s i := by
  have hl := len_eq s
  refine ⟨s.data.toList[i]'(by omega), List.drop_eq_getElem_cons (by omega), ?_⟩
  unfold by_
  rw [List.getD_eq_getElem?_getD, List.getElem?_eq_getElem (by omega)]
  rfl
theorem refNum_loop (s : ByteArray) (hs : s.size < 140737488355328) : ∀ (d i acc : Nat), i + d = s.size → acc < 18446744073709551616 →
    Ev (fun k => cellaretref1_Number.l0 k s (acc : Int) (i : Int)) (numG acc (s.data.toList.drop i))
  | 0, i, acc, hi, ha => by
    refine Ev.step (fun k => cellaretref1_Number.l0.eq_2 _ _ _ _) ?_
    simp only [if_neg (show ¬ (i : Int) < (s.size : Int) by omega)]
    rw [List.drop_of_length_le (by rw [len_eq]; omega)]
    exact Ev.now _
  | d + 1, i, acc, hi, ha => by
    have hlt : i < s.size := by omega
    have hb := by_lt s i
    obtain ⟨c, hc, hcb⟩ := drop_by s i hlt
    refine Ev.step (fun k => cellaretref1_Number.l0.eq_2 _ _ _ _) ?_
    simp only [if_pos (show (i : Int) < (s.size : Int) by omega), if_pos (show (0 : Int) ≤ (i : Int) by omega), bt_by s i hlt]
    rw [hc]
    unfold numG
    rw [hcb]
    by_cases h1 : by_ s i < 48
    · simp only [if_pos (show (by_ s i : Int) < 48 by omega)]
      refine Ev.step (fun k => cellaretref1_Number.j2.eq_2 _ _ _ _ _) ?_
      simp only [if_true, if_neg (show ¬ (48 ≤ by_ s i ∧ by_ s i ≤ 57) by omega)]
      exact Ev.now _
    · simp only [if_neg (show ¬ (by_ s i : Int) < 48 by omega)]
      refine Ev.step (fun k => cellaretref1_Number.j2.eq_2 _ _ _ _ _) ?_
      by_cases h2 : 57 < by_ s i
      · simp only [decide_eq_true (show (by_ s i : Int) > 57 by omega), if_true, if_neg (show ¬ (48 ≤ by_ s i ∧ by_ s i ≤ 57) by omega)]
        exact Ev.now _
      · have e48 : ((by_ s i : Int) - 48) % 256 = ((by_ s i - 48 : Nat) : Int) := by omega
        simp only [decide_eq_false (show ¬ (by_ s i : Int) > 57 by omega), Bool.false_eq_true, if_false, if_pos (show (i : Int) < (s.size : Int) by omega), if_pos (show (0 : Int) ≤ (i : Int) by omega), bt_by s i hlt, if_pos (show 48 ≤ by_ s i ∧ by_ s i ≤ 57 by omega), e48, wrap_next (show (0 : Int) ≤ (i : Int) by omega) (by omega)]
        by_cases h3 : 1844674407370955161 < acc
        · simp only [if_pos (show (acc : Int) > 1844674407370955161 by omega), if_pos (show 1844674407370955161 < acc ∨ (acc = 1844674407370955161 ∧ 5 < by_ s i - 48) from .inl h3)]
          exact Ev.now _
        · simp only [if_neg (show ¬ (acc : Int) > 1844674407370955161 by omega)]
          have ew : acc < 1844674407370955161 ∨ by_ s i - 48 ≤ 5 → IntKind.u64.wrap (IntKind.u64.wrap (10 * (acc : Int)) + ((by_ s i - 48 : Nat) : Int)) = ((acc * 10 + (by_ s i - 48) : Nat) : Int) := fun h => by
            rw [u64w (10 * (acc : Int)) (by omega) (by omega), u64w _ (by omega) (by omega)]
            omega
          by_cases h4 : acc = 1844674407370955161
          · simp only [if_pos (show (acc : Int) = 1844674407370955161 by omega)]
            by_cases h5 : 5 < by_ s i - 48
            · simp only [if_pos (show ((by_ s i - 48 : Nat) : Int) > 5 by omega), if_pos (show 1844674407370955161 < acc ∨ (acc = 1844674407370955161 ∧ 5 < by_ s i - 48) from .inr ⟨h4, h5⟩)]
              exact Ev.now _
            · simp only [if_neg (show ¬ ((by_ s i - 48 : Nat) : Int) > 5 by omega), if_neg (show ¬ (1844674407370955161 < acc ∨ (acc = 1844674407370955161 ∧ 5 < by_ s i - 48)) by omega), ew (.inr (by omega))]
              exact refNum_loop s hs d (i + 1) _ (by omega) (by omega)
          · simp only [if_neg (show ¬ (acc : Int) = 1844674407370955161 by omega), if_neg (show ¬ (1844674407370955161 < acc ∨ (acc = 1844674407370955161 ∧ 5 < by_ s i - 48)) by omega), ew (.inl (by omega))]
            exact refNum_loop s hs d (i + 1) _ (by omega) (by omega)
theorem evRefNumber (s : ByteArray) : Ev (fun k => cellaretref1_Number.f k s) (numF s.data.toList) := by
  rw [numF_eq, len_eq]
  unfold cellaretref1_Number.f
  by_cases h1 : s.size < 1
  · simp only [if_pos (show (s.size : Int) < 1 by omega), if_pos (show s.size < 1 ∨ 20 < s.size from .inl h1)]
    refine Ev.step (fun k => cellaretref1_Number.j0.eq_2 _ _ _) ?_
    simp only [if_true]
    exact Ev.now _
  · simp only [if_neg (show ¬ (s.size : Int) < 1 by omega)]
    refine Ev.step (fun k => cellaretref1_Number.j0.eq_2 _ _ _) ?_
    by_cases h2 : 20 < s.size
    · simp only [decide_eq_true (show (s.size : Int) > 20 by omega), if_true, if_pos (show s.size < 1 ∨ 20 < s.size from .inr h2)]
      exact Ev.now _
    · simp only [decide_eq_false (show ¬ (s.size : Int) > 20 by omega), Bool.false_eq_true, if_false, if_neg (show ¬ (s.size < 1 ∨ 20 < s.size) by omega)]
      have h := refNum_loop s (by omega) _ 0 0 (Nat.zero_add _) (by omega)
      rw [List.drop_zero] at h
      exact h

/-! Signed. -/
theorem neg_by (s : ByteArray) (h : 0 < s.size) : (bt s 0 == 45) = negL s.data.toList := by
  obtain ⟨c, hc, hcb⟩ := drop_by s 0 h
  rw [List.drop_zero] at hc
  rw [hc, show bt s 0 = (by_ s 0 : Int) from bt_by s 0 h, ← hcb]
  unfold negL
  rw [Bool.eq_iff_iff, beq_iff_eq, beq_iff_eq]
  constructor
  · intro e; exact UInt8.toNat_inj.1 (show c.toNat = 45 by omega)
  · rintro rfl; rfl
theorem evRefSigned (s : ByteArray) : Ev (fun k => cellaretref1_Signed.f k s) (signF s.data.toList) := by
  have hl := len_eq s
  have key : Ev (fun k => cellaretref1_Signed.j0 k s (negL s.data.toList)) (signF s.data.toList) := by
    refine Ev.step (fun k => cellaretref1_Signed.j0.eq_2 _ _ _) ?_
    unfold signF
    by_cases h : negL s.data.toList = true
    · have h1 : 1 ≤ s.size := by
        by_cases h0 : 1 ≤ s.size
        · exact h0
        · have e : s.data.toList = [] := List.eq_nil_of_length_eq_zero (by omega)
          rw [e] at h; cases h
      simp only [if_pos h, if_pos (show (1 : Int) ≤ (s.size : Int) by omega)]
      have hn := evRefNumber (s.extract 1 s.size)
      rw [Lib.extract_to_end] at hn
      refine Ev.bind hn ?_
      by_cases h1 : (numF (s.data.toList.drop 1)).2 = true
      · simp only [if_pos h1]
        refine Ev.step (fun k => cellaretref1_Signed.j1.eq_2 _ _ _) ?_
        by_cases h2 : (numF (s.data.toList.drop 1)).1 ≤ 9223372036854775808
        · simp only [decide_eq_false (show ¬ (numF (s.data.toList.drop 1)).1 > 9223372036854775808 by omega), Bool.false_eq_true, if_false, if_pos (And.intro h1 h2)]; exact Ev.now _
        · simp only [decide_eq_true (show (numF (s.data.toList.drop 1)).1 > 9223372036854775808 by omega), if_true, if_neg (fun e : _ ∧ _ => h2 e.2)]; exact Ev.now _
      · simp only [if_neg h1, if_neg (fun e : _ ∧ _ => h1 e.1)]
        refine Ev.step (fun k => cellaretref1_Signed.j1.eq_2 _ _ _) ?_
        simp only [if_true]; exact Ev.now _
    · simp only [if_neg h]
      refine Ev.bind (evRefNumber s) ?_
      by_cases h1 : (numF s.data.toList).2 = true
      · simp only [if_pos h1]
        by_cases h2 : (numF s.data.toList).1 < 9223372036854775808
        · simp only [if_neg (show ¬ (numF s.data.toList).1 > 9223372036854775807 by omega), if_pos (And.intro h1 h2)]; exact Ev.now _
        · simp only [if_pos (show (numF s.data.toList).1 > 9223372036854775807 by omega), if_neg (fun e : _ ∧ _ => h2 e.2)]; exact Ev.now _
      · simp only [if_neg h1, if_neg (fun e : _ ∧ _ => h1 e.1)]; exact Ev.now _
  unfold cellaretref1_Signed.f
  by_cases h : 0 < s.size
  · simp only [if_pos (show (s.size : Int) > 0 by omega), if_pos (show (0 : Int) < (s.size : Int) by omega), neg_by s h]
    exact key
  · simp only [if_neg (show ¬ (s.size : Int) > 0 by omega)]
    have e : s.data.toList = [] := List.eq_nil_of_length_eq_zero (by omega)
    rw [e] at key ⊢
    exact key

/-! Text. -/
theorem digit_at : ∀ n : Fin 10, (⟨#[48, 49, 50, 51, 52, 53, 54, 55, 56, 57]⟩ : ByteArray).extract n.val (n.val + 1) = ba [UInt8.ofNat (48 + n.val)] := by
  intro n
  match n with
  | 0 => rfl | 1 => rfl | 2 => rfl | 3 => rfl | 4 => rfl | 5 => rfl | 6 => rfl | 7 => rfl | 8 => rfl | 9 => rfl
theorem ba_app (a : ByteArray) (x : List UInt8) : (a ++ ba x).data.toList = a.data.toList ++ x := by rw [ByteArray.data_append, Array.toList_append, ba_toList]
theorem evRefText (n : Nat) (h : n < 18446744073709551616) : Ev (fun k => cellaretref1_Text.f k (n : Int)) (ba (Lib.decDigits n)) := by
  induction n using Nat.strongRecOn with
  | _ n ih =>
    refine Ev.step (fun k => cellaretref1_Text.f.eq_2 _ _) ?_
    rw [Lib.decDigits]
    by_cases h1 : n < 10
    · have e1 : (((n : Int) + 1).toNat) = n + 1 := by omega
      simp only [if_pos (show (n : Int) < 10 by omega), if_pos (show (0 : Int) ≤ (n : Int) by omega), u64w ((n : Int) + 1) (by omega) (by omega), if_pos (show (n : Int) ≤ (n : Int) + 1 by omega), if_pos (show (n : Int) + 1 ≤ 10 by omega), e1, Int.toNat_natCast, dif_pos h1]
      rw [digit_at ⟨n, h1⟩]
      exact Ev.now _
    · have e0 : Int.tdiv (n : Int) 10 = ((n / 10 : Nat) : Int) := by rw [Int.tdiv_eq_ediv_of_nonneg (by omega)]; omega
      have e2 : Int.tmod (n : Int) 10 = ((n % 10 : Nat) : Int) := by rw [Int.tmod_eq_emod_of_nonneg (by omega)]; omega
      have e1 : ((((n % 10 : Nat) : Int) + 1).toNat) = n % 10 + 1 := by omega
      simp only [if_neg (show ¬ (n : Int) < 10 by omega), e0, e2, u64w ((n / 10 : Nat) : Int) (by omega) (by omega), dif_neg h1]
      refine Ev.bind (ih (n / 10) (by omega) (by omega)) ?_
      have hd := digit_at ⟨n % 10, by omega⟩
      have hlen : (ba (Lib.decDigits (n / 10))).size ≤ 20 := by
        have : (ba (Lib.decDigits (n / 10))).size = (Lib.decDigits (n / 10)).length := by simp [ba, ByteArray.size]
        rw [this, Lib.decDigits_length]
        by_cases hz : n / 10 = 0
        · rw [hz]; decide +kernel
        · have := Lib.numDigits_eq (n / 10) (by omega) (by omega)
          split at this <;> omega
      have hs1 : (ba [UInt8.ofNat (48 + n % 10)]).size = 1 := rfl
      simp only [u64w (((n % 10 : Nat) : Int) + 1) (by omega) (by omega), if_pos (show (0 : Int) ≤ ((n % 10 : Nat) : Int) by omega), if_pos (show ((n % 10 : Nat) : Int) ≤ ((n % 10 : Nat) : Int) + 1 by omega), if_pos (show ((n % 10 : Nat) : Int) + 1 ≤ 10 by omega), e1, Int.toNat_natCast]
      rw [hd, hs1]
      simp only [if_pos (show (ba (Lib.decDigits (n / 10))).size + 1 ≤ 9223372036854775807 by omega)]
      have hx : ba (Lib.decDigits (n / 10)) ++ ba [UInt8.ofNat (48 + n % 10)] = ba (Lib.decDigits (n / 10) ++ [UInt8.ofNat (48 + n % 10)]) := ba_ext (by rw [ba_app, ba_toList, ba_toList])
      rw [hx]
      exact Ev.now _
end Go.Proofs.YtfbhlbchmenloaaGreatDoor.Pure
end
section
namespace Go.Proofs.YtfbhlbchmenloaaGreatDoor.H
open Go.RowKit Go.Proofs.YtfbhlbchmenloaaGreatDoorW.PrintWords Go.Proofs.YtfbhlbchmenloaaGreatDoorW.PrintLast Go.Proofs.YtfbhlbchmenloaaGreatDoorW.PrintMore
attribute [local go_sem] max2_int min2_int max_two min_two max_three min_three max_four min_four   -- for this text's walks alone
set_option linter.unusedVariables false
set_option linter.unusedSimpArgs false

/-! ### cellaretref18_verb: function 27 -/
def cellaretref18_verb.f (a0 : ByteArray) : Option (Bool) := if a0.toList = ([115, 101, 116] : List UInt8) then (some true) else (if a0.toList = ([97, 100, 100] : List UInt8) then (some true) else (if a0.toList = ([114, 101, 112, 108, 97, 99, 101] : List UInt8) then (some true) else (if a0.toList = ([97, 112, 112, 101, 110, 100] : List UInt8) then (some true) else (if a0.toList = ([112, 114, 101, 112, 101, 110, 100] : List UInt8) then (some true) else (some (a0.toList == ([99, 97, 115] : List UInt8)))))))
set_option maxHeartbeats 8000000 in
set_option maxRecDepth 100000 in
theorem cellaretref18_verb.calls (a0 : ByteArray) (r : Bool) (w : World) (h : cellaretref18_verb.f a0 = some r) :
  Calls Tryz.prog 27 #[.string a0] w fun e w' => e = .returned (.bool r) ∧ Drawn0 w w' := by
 have H : (if a0.toList = ([115, 101, 116] : List UInt8) then (some true) else (if a0.toList = ([97, 100, 100] : List UInt8) then (some true) else (if a0.toList = ([114, 101, 112, 108, 97, 99, 101] : List UInt8) then (some true) else (if a0.toList = ([97, 112, 112, 101, 110, 100] : List UInt8) then (some true) else (if a0.toList = ([112, 114, 101, 112, 101, 110, 100] : List UInt8) then (some true) else (some (a0.toList == ([99, 97, 115] : List UInt8)))))))) = some r := h
 clear h
 by_cases c2 : a0.toList = ([115, 101, 116] : List UInt8)
 ·rw [if_pos c2] at H
  have c2b0 : (a0.toList == ([115, 101, 116] : List UInt8)) = true := beq_iff_eq.mpr c2
  have c2b1 : (a0.toList != ([115, 101, 116] : List UInt8)) = false := bne_eq_false_iff_eq.mpr c2
  clear c2
  obtain rfl := Option.some.inj H
  go_enter Tryz.func27, Tryz.ntmps27
  go_wp2
  go_ret
  exact ⟨by first | rfl | (simp; done) | (simp [*]; done), by repeat (first | exact Drawn0.refl _ | apply Drawn0.step)⟩
 ·rw [if_neg c2] at H
  have c2b0 : (a0.toList == ([115, 101, 116] : List UInt8)) = false := beq_eq_false_iff_ne.mpr c2
  have c2b1 : (a0.toList != ([115, 101, 116] : List UInt8)) = true := bne_iff_ne.mpr c2
  by_cases c3 : a0.toList = ([97, 100, 100] : List UInt8)
  ·rw [if_pos c3] at H
   have c3b0 : (a0.toList == ([97, 100, 100] : List UInt8)) = true := beq_iff_eq.mpr c3
   have c3b1 : (a0.toList != ([97, 100, 100] : List UInt8)) = false := bne_eq_false_iff_eq.mpr c3
   clear c3
   obtain rfl := Option.some.inj H
   go_enter Tryz.func27, Tryz.ntmps27
   go_wp2
   go_ret
   exact ⟨by first | rfl | (simp; done) | (simp [*]; done), by repeat (first | exact Drawn0.refl _ | apply Drawn0.step)⟩
  ·rw [if_neg c3] at H
   have c3b0 : (a0.toList == ([97, 100, 100] : List UInt8)) = false := beq_eq_false_iff_ne.mpr c3
   have c3b1 : (a0.toList != ([97, 100, 100] : List UInt8)) = true := bne_iff_ne.mpr c3
   by_cases c4 : a0.toList = ([114, 101, 112, 108, 97, 99, 101] : List UInt8)
   ·rw [if_pos c4] at H
    have c4b0 : (a0.toList == ([114, 101, 112, 108, 97, 99, 101] : List UInt8)) = true := beq_iff_eq.mpr c4
    have c4b1 : (a0.toList != ([114, 101, 112, 108, 97, 99, 101] : List UInt8)) = false := bne_eq_false_iff_eq.mpr c4
    clear c4
    obtain rfl := Option.some.inj H
    go_enter Tryz.func27, Tryz.ntmps27
    go_wp2
    go_ret
    exact ⟨by first | rfl | (simp; done) | (simp [*]; done), by repeat (first | exact Drawn0.refl _ | apply Drawn0.step)⟩
   ·rw [if_neg c4] at H
    have c4b0 : (a0.toList == ([114, 101, 112, 108, 97, 99, 101] : List UInt8)) = false := beq_eq_false_iff_ne.mpr c4
    have c4b1 : (a0.toList != ([114, 101, 112, 108, 97, 99, 101] : List UInt8)) = true := bne_iff_ne.mpr c4
    by_cases c5 : a0.toList = ([97, 112, 112, 101, 110, 100] : List UInt8)
    ·rw [if_pos c5] at H
     have c5b0 : (a0.toList == ([97, 112, 112, 101, 110, 100] : List UInt8)) = true := beq_iff_eq.mpr c5
     have c5b1 : (a0.toList != ([97, 112, 112, 101, 110, 100] : List UInt8)) = false := bne_eq_false_iff_eq.mpr c5
     clear c5
     obtain rfl := Option.some.inj H
     go_enter Tryz.func27, Tryz.ntmps27
     go_wp2
     go_ret
     exact ⟨by first | rfl | (simp; done) | (simp [*]; done), by repeat (first | exact Drawn0.refl _ | apply Drawn0.step)⟩
    ·rw [if_neg c5] at H
     have c5b0 : (a0.toList == ([97, 112, 112, 101, 110, 100] : List UInt8)) = false := beq_eq_false_iff_ne.mpr c5
     have c5b1 : (a0.toList != ([97, 112, 112, 101, 110, 100] : List UInt8)) = true := bne_iff_ne.mpr c5
     by_cases c6 : a0.toList = ([112, 114, 101, 112, 101, 110, 100] : List UInt8)
     ·rw [if_pos c6] at H
      have c6b0 : (a0.toList == ([112, 114, 101, 112, 101, 110, 100] : List UInt8)) = true := beq_iff_eq.mpr c6
      have c6b1 : (a0.toList != ([112, 114, 101, 112, 101, 110, 100] : List UInt8)) = false := bne_eq_false_iff_eq.mpr c6
      clear c6
      obtain rfl := Option.some.inj H
      go_enter Tryz.func27, Tryz.ntmps27
      go_wp2
      go_ret
      exact ⟨by first | rfl | (simp; done) | (simp [*]; done), by repeat (first | exact Drawn0.refl _ | apply Drawn0.step)⟩
     ·rw [if_neg c6] at H
      have c6b0 : (a0.toList == ([112, 114, 101, 112, 101, 110, 100] : List UInt8)) = false := beq_eq_false_iff_ne.mpr c6
      have c6b1 : (a0.toList != ([112, 114, 101, 112, 101, 110, 100] : List UInt8)) = true := bne_iff_ne.mpr c6
      obtain rfl := Option.some.inj H
      go_enter Tryz.func27, Tryz.ntmps27
      go_wp2
      go_ret
      exact ⟨by first | rfl | (simp; done) | (simp [*]; done), by repeat (first | exact Drawn0.refl _ | apply Drawn0.step)⟩

end Go.Proofs.YtfbhlbchmenloaaGreatDoor.H
-- thinned
end
section
namespace Go.Proofs.YtfbhlbchmenloaaGreatDoor.H
open Go.RowKit Go.Proofs.YtfbhlbchmenloaaGreatDoorW.PrintWords Go.Proofs.YtfbhlbchmenloaaGreatDoorW.PrintLast Go.Proofs.YtfbhlbchmenloaaGreatDoorW.PrintMore
attribute [local go_sem] max2_int min2_int max_two min_two max_three min_three max_four min_four   -- for this text's walks alone
set_option linter.unusedVariables false
set_option linter.unusedSimpArgs false

/-! ### cellaretref18_Bad: function 31 -/
def cellaretref18_Bad.f (a0 : ByteArray) : Option (ByteArray × ByteArray × List ByteArray × ByteArray × Int × Int × Int × Int × Bool × Bool × Bool × Bool) := some ((⟨#[98, 97, 100]⟩ : ByteArray), a0, ([] : List ByteArray), (⟨#[]⟩ : ByteArray), 0, 0, 0, 0, false, false, false, false)
theorem bBY22 {B : Nat} {w W : World} (h : Below B w W := by repeat (first | (with_reducible first | exact HB.out | apply wA | apply wN | apply wD | refine below_set ?_ qC.out) | exact HB.out)) : Below B w W := h
set_option maxHeartbeats 8000000 in
set_option maxRecDepth 100000 in
theorem cellaretref18_Bad.calls (a0 : ByteArray) (r1 : ByteArray) (r2 : ByteArray) (r3 : List ByteArray) (r4 : ByteArray) (r5 : Int) (r6 : Int) (r7 : Int) (r8 : Int) (r9 : Bool) (r10 : Bool) (r11 : Bool) (r12 : Bool) (w : World) (h : cellaretref18_Bad.f a0 = some (r1, r2, r3, r4, r5, r6, r7, r8, r9, r10, r11, r12)) :
  Calls Tryz.prog 31 #[.string a0] w fun e w' => ∃ v2_ : Value, e = .returned (.agg #[.string r1, .string r2, v2_, .string r4, .int .u32 r5, .int .i64 r6, .int .u64 r7, .int .u64 r8, .bool r9, .bool r10, .bool r11, .bool r12]) ∧ Kd.R Kd.string 9 w' w.heap.size (fun _ => True) v2_ r3 ∧ Below w.heap.size w w' := by
 have hu26 := Tryz.underlying26
 have HB := M0 (Below.refl w.heap.size w)
 have H : (some ((⟨#[98, 97, 100]⟩ : ByteArray), a0, ([] : List ByteArray), (⟨#[]⟩ : ByteArray), 0, 0, 0, 0, false, false, false, false)) = some (r1, r2, r3, r4, r5, r6, r7, r8, r9, r10, r11, r12) := h
 clear h
 simp only [Option.some.injEq, Prod.mk.injEq] at H
 obtain ⟨rfl, rfl, rfl, rfl, rfl, rfl, rfl, rfl, rfl, rfl, rfl, rfl⟩ := H
 go_enter Tryz.func31, Tryz.ntmps31
 go_wp2_with (first | ((with_reducible refine gate_dst (N := 2) rfl ?_); refine box_event ?hg (N := 2) ?hd (cs := #[.string (⟨#[]⟩ : ByteArray), .string (⟨#[]⟩ : ByteArray), .slice none 0 0, .string (⟨#[]⟩ : ByteArray), .int .u32 0, .int .i64 0, .int .u64 0, .int .u64 0, .bool false, .bool false, .bool false, .bool false]) (t := 26) ?hr ?_; (case hd => rfl); (case hg => rfl); (case hr => first | (go_simp; done) | (go_simp; rfl)); intro qA hg w2 hbox hb; have n0_ := M0 (below_step bBY22 hb); have n1_ := M0 (hbox); have n2_ := M0 ((by rw [hg]; exact (below_size bBY22) : w.heap.size ≤ qA)); have n3_ := M0 ((by rw [hg]; exact (below_size bBY22) : w.heap.size ≤ qA)); clear HB; have HB := n0_; have qB := n1_; have GW175 := n2_; have qC := n3_; clear n0_ n1_ n2_ n3_; clear hb hbox hg; obtain ⟨qH, qI, qJ, qK, qL, qM, qN, qO, qP, qQ, qD, qE⟩ := celL qB.out; obtain ⟨qR, qS, qT, qU, qV, qW, qX, qY, qZ, qa, qF, qG⟩ := froZ qB.out))
 refine bodyPost_ret (results_cell_row rfl _ _ qA 26 #[.string (⟨#[98, 97, 100]⟩ : ByteArray), .string a0, .slice none 0 0, .string (⟨#[]⟩ : ByteArray), .int .u32 0, .int .i64 0, .int .u64 0, .int .u64 0, .bool false, .bool false, .bool false, .bool false] (0, 0) _ rfl (by (with_reducible repeat (first | refine bN ?_ _ | refine bD ?_ | refine bA ?_ _)); refine blk_put (cs := #[.string (⟨#[98, 97, 100]⟩ : ByteArray), .string a0, .slice none 0 0, .string (⟨#[]⟩ : ByteArray), .int .u32 0, .int .i64 0, .int .u64 0, .int .u64 0, .bool false, .bool false, .bool false, .bool false]) ?_ 11 _ rfl; (with_reducible repeat (first | refine bN ?_ _ | refine bD ?_ | refine bA ?_ _)); refine blk_put (cs := #[.string (⟨#[98, 97, 100]⟩ : ByteArray), .string a0, .slice none 0 0, .string (⟨#[]⟩ : ByteArray), .int .u32 0, .int .i64 0, .int .u64 0, .int .u64 0, .bool false, .bool false, .bool false, .bool false]) ?_ 10 _ rfl; (with_reducible repeat (first | refine bN ?_ _ | refine bD ?_ | refine bA ?_ _)); refine blk_put (cs := #[.string (⟨#[98, 97, 100]⟩ : ByteArray), .string a0, .slice none 0 0, .string (⟨#[]⟩ : ByteArray), .int .u32 0, .int .i64 0, .int .u64 0, .int .u64 0, .bool false, .bool false, .bool false, .bool false]) ?_ 9 _ rfl; (with_reducible repeat (first | refine bN ?_ _ | refine bD ?_ | refine bA ?_ _)); refine blk_put (cs := #[.string (⟨#[98, 97, 100]⟩ : ByteArray), .string a0, .slice none 0 0, .string (⟨#[]⟩ : ByteArray), .int .u32 0, .int .i64 0, .int .u64 0, .int .u64 0, .bool false, .bool false, .bool false, .bool false]) ?_ 8 _ rfl; (with_reducible repeat (first | refine bN ?_ _ | refine bD ?_ | refine bA ?_ _)); refine blk_put (cs := #[.string (⟨#[98, 97, 100]⟩ : ByteArray), .string a0, .slice none 0 0, .string (⟨#[]⟩ : ByteArray), .int .u32 0, .int .i64 0, .int .u64 0, .int .u64 0, .bool false, .bool false, .bool false, .bool false]) ?_ 7 _ rfl; (with_reducible repeat (first | refine bN ?_ _ | refine bD ?_ | refine bA ?_ _)); refine blk_put (cs := #[.string (⟨#[98, 97, 100]⟩ : ByteArray), .string a0, .slice none 0 0, .string (⟨#[]⟩ : ByteArray), .int .u32 0, .int .i64 0, .int .u64 0, .int .u64 0, .bool false, .bool false, .bool false, .bool false]) ?_ 6 _ rfl; (with_reducible repeat (first | refine bN ?_ _ | refine bD ?_ | refine bA ?_ _)); refine blk_put (cs := #[.string (⟨#[98, 97, 100]⟩ : ByteArray), .string a0, .slice none 0 0, .string (⟨#[]⟩ : ByteArray), .int .u32 0, .int .i64 0, .int .u64 0, .int .u64 0, .bool false, .bool false, .bool false, .bool false]) ?_ 5 _ rfl; (with_reducible repeat (first | refine bN ?_ _ | refine bD ?_ | refine bA ?_ _)); refine blk_put (cs := #[.string (⟨#[98, 97, 100]⟩ : ByteArray), .string a0, .slice none 0 0, .string (⟨#[]⟩ : ByteArray), .int .u32 0, .int .i64 0, .int .u64 0, .int .u64 0, .bool false, .bool false, .bool false, .bool false]) ?_ 4 _ rfl; (with_reducible repeat (first | refine bN ?_ _ | refine bD ?_ | refine bA ?_ _)); refine blk_put (cs := #[.string (⟨#[98, 97, 100]⟩ : ByteArray), .string a0, .slice none 0 0, .string (⟨#[]⟩ : ByteArray), .int .u32 0, .int .i64 0, .int .u64 0, .int .u64 0, .bool false, .bool false, .bool false, .bool false]) ?_ 3 _ rfl; (with_reducible repeat (first | refine bN ?_ _ | refine bD ?_ | refine bA ?_ _)); refine blk_put (cs := #[.string (⟨#[98, 97, 100]⟩ : ByteArray), .string a0, .slice none 0 0, .string (⟨#[]⟩ : ByteArray), .int .u32 0, .int .i64 0, .int .u64 0, .int .u64 0, .bool false, .bool false, .bool false, .bool false]) ?_ 2 _ rfl; (with_reducible repeat (first | refine bN ?_ _ | refine bD ?_ | refine bA ?_ _)); refine blk_put (cs := #[.string (⟨#[98, 97, 100]⟩ : ByteArray), .string (⟨#[]⟩ : ByteArray), .slice none 0 0, .string (⟨#[]⟩ : ByteArray), .int .u32 0, .int .i64 0, .int .u64 0, .int .u64 0, .bool false, .bool false, .bool false, .bool false]) ?_ 1 _ rfl; (with_reducible repeat (first | refine bN ?_ _ | refine bD ?_ | refine bA ?_ _)); refine blk_put (cs := #[.string (⟨#[]⟩ : ByteArray), .string (⟨#[]⟩ : ByteArray), .slice none 0 0, .string (⟨#[]⟩ : ByteArray), .int .u32 0, .int .i64 0, .int .u64 0, .int .u64 0, .bool false, .bool false, .bool false, .bool false]) ?_ 0 _ rfl; (with_reducible repeat (first | refine bN ?_ _ | refine bD ?_ | refine bA ?_ _)); exact qB.out) Tryz.underlying26 rfl (by kernel_rfl)) rfl ?_
 exact ⟨_, by first | rfl | (simp [errW_none, errW_some] <;> rfl) | (simp [*, errW_none, errW_some] <;> rfl), by first | exact Kd.R_nil _ _ _ _ _ | exact Kd.N_nil _ _ _ _ _ | exact Kd.V_nil _ _ _ _ _ | exact Kd.Q_nil _ _ _ _ _ | exact Kd.S_nil _ _ _ _ _, bBY22⟩

end Go.Proofs.YtfbhlbchmenloaaGreatDoor.H
-- thinned
end
section
namespace Go.Proofs.YtfbhlbchmenloaaGreatDoor.H
open Go.RowKit Go.Proofs.YtfbhlbchmenloaaGreatDoorW.PrintWords Go.Proofs.YtfbhlbchmenloaaGreatDoorW.PrintLast Go.Proofs.YtfbhlbchmenloaaGreatDoorW.PrintMore
attribute [local go_sem] max2_int min2_int max_two min_two max_three min_three max_four min_four   -- for this text's walks alone
set_option linter.unusedVariables false
set_option linter.unusedSimpArgs false

/-! ### cellaretref18_keys: function 43 -/
def cellaretref18_keys.l0 : Nat → List ByteArray → Int → Option (Bool)
  | 0, _, _ => none
  | k + 1, x0, x3 => if x3 < (x0.length : Int) then (if 0 ≤ x3 then ((cellaretref1_Key.f k (rdOf ByteArray.empty x0 x3)).bind fun t177 => (if t177 = true then (cellaretref18_keys.l0 k x0 (wrap64 (x3 + 1))) else (some false))) else (none)) else (some (decide ((x0.length : Int) ≤ 64)))
def cellaretref18_keys.f (k : Nat) (l0 : List ByteArray) : Option (Bool) := cellaretref18_keys.l0 k l0 0
theorem cellaretref18_keys.mono_l : ∀ k, (∀ y0 y1, LeO (cellaretref18_keys.l0 k y0 y1) (cellaretref18_keys.l0 (k + 1) y0 y1))
  | 0 => fun _ _ r h => by simp [cellaretref18_keys.l0] at h
  | k + 1 => by
    have ih0 := cellaretref18_keys.mono_l k
    · intro y0 y1
      unfold cellaretref18_keys.l0
      repeat' first
      | (with_reducible exact ih0 _ _)
      | (with_reducible exact cellaretref1_Key.mono _ _)
      | (with_reducible exact LeO.refl _)
      | (with_reducible exact LeO.none _)
      | (with_reducible refine LeO.ite ?_ ?_)
      | (with_reducible refine LeO.bind ?_ (fun _ => ?_))
      | exact ih0 _ _
      | exact cellaretref1_Key.mono _ _
      | exact LeO.none _
      | refine LeO.ite ?_ ?_
      | refine LeO.bind ?_ (fun _ => ?_)
theorem cellaretref18_keys.mono : ∀ a0 k, LeO (cellaretref18_keys.f k a0) (cellaretref18_keys.f (k + 1) a0) := by
  intro a0 k
  have ih0 := cellaretref18_keys.mono_l k
  unfold cellaretref18_keys.f
  repeat' first
      | (with_reducible exact ih0 _ _)
      | (with_reducible exact cellaretref1_Key.mono _ _)
      | (with_reducible exact LeO.refl _)
      | (with_reducible exact LeO.none _)
      | (with_reducible refine LeO.ite ?_ ?_)
      | (with_reducible refine LeO.bind ?_ (fun _ => ?_))
      | exact ih0 _ _
      | exact cellaretref1_Key.mono _ _
      | exact LeO.none _
      | refine LeO.ite ?_ ?_
      | refine LeO.bind ?_ (fun _ => ?_)
set_option maxHeartbeats 8000000 in
set_option maxRecDepth 100000 in
theorem cellaretref18_keys.calls (k : Nat) (A0 : Option Addr) (c0 : Nat) (l0 : List ByteArray) (r : Bool) (w : World) (hr0 : Kd.C Kd.string w A0 l0.length l0) (hc0 : l0.length ≤ c0) (h : cellaretref18_keys.f k l0 = some r) :
  Calls Tryz.prog 43 #[.slice A0 l0.length c0] w fun e w' => e = .returned (.bool r) ∧ Drawn0 w w' := by
 have HR0 := M0 hr0
 have HC0 := M0 hc0
 clear hr0 hc0
 have H : (cellaretref18_keys.l0 k l0 0) = some r := h
 clear h
 have H' := M0 H
 clear H
 go_enter Tryz.func43, Tryz.ntmps43
 go_wp2
 go_loopg [3] k (fun kq v3 w' => ∃ (x3_1 : Int), v3 = .int .i64 x3_1 ∧ Aside0 (cellaretref18_keys.l0 kq l0 x3_1 = some r) ∧ Aside0 (kq ≤ k) ∧ Drawn0 w w')
 case atStart => exact ⟨(0), (by first | rfl | (simp; done) | (simp [*]; done)), H', ⟨Nat.le_refl _⟩, by repeat (first | exact Drawn0.refl _ | apply Drawn0.step)⟩
 case round =>
  clear H'
  obtain ⟨x3_1, rfl, HA, HK1, ⟨m1, rfl⟩⟩ := hrel
  cases gk with
  | zero => exact absurd HA.out (by simp [cellaretref18_keys.l0])
  | succ k1 =>
   have H := HA.out
   clear HA
   simp only [cellaretref18_keys.l0] at H
   by_cases c2 : x3_1 < (l0.length : Int)
   ·rw [if_pos c2] at H
    have c2b0 : decide (x3_1 < (l0.length : Int)) = true := decide_eq_true c2
    clear c2
    by_cases c3 : 0 ≤ x3_1
    ·rw [if_pos c3] at H
     have c3b0 : decide (0 ≤ x3_1) = true := decide_eq_true c3
     clear c3
     replace H := Option.bind_eq_some_iff.mp H
     obtain ⟨qB, A40, H⟩ := H
     replace H : (if qB = true then (cellaretref18_keys.l0 k1 l0 (wrap64 (x3_1 + 1))) else (some false)) = some r := H
     have A4 := M0 A40
     clear A40
     by_cases c5 : qB = true
     ·subst c5
      have H1 : (cellaretref18_keys.l0 k1 l0 (wrap64 (x3_1 + 1))) = some r := by rw [if_pos rfl] at H; exact H
      clear H
      have H := H1
      clear H1
      have H' := M0 H
      clear H
      have p176 : 0 ≤ (x3_1 : Int) := of_decide_eq_true (by first | (with_reducible assumption) | assumption)
      have q176 : x3_1 < (l0.length : Int) := of_decide_eq_true (by first | (with_reducible assumption) | assumption)
      obtain ⟨qC, e176, qA⟩ := Kd.at_string HR0.out x3_1 p176 q176
      cases e176
      replace p176 := eq_true p176
      replace q176 := eq_true q176
      go_wp2_with (first | ((with_reducible refine gate_callee (f := 26) rfl ?_); refine goesL_ (some 14) rfl rfl Tryz.func26 (by kernel_rfl) rfl #[.string (rdOf ByteArray.empty l0 x3_1)] rfl (by (try simp only [List.map_toArray, List.map_cons, List.map_nil]); first | done | rfl | (simp only [List.length_drop, List.length_take]; rfl)) ?_; (with_reducible refine (cellaretref1_Key.calls k1 (rdOf ByteArray.empty l0 x3_1) true _ A4.out).mono ?_); rintro e w' ⟨rfl, ⟨nd, rfl⟩⟩; refine ⟨_, rfl, ?_⟩))
      go_roundg k1
      case measure => have := HK1.out; omega
      case rel => exact ⟨(wrap64 (x3_1 + 1)), (by first | rfl | (simp; done) | (simp [*]; done)), H', ⟨by have := HK1.out; omega⟩, by repeat (first | exact Drawn0.refl _ | apply Drawn0.step)⟩
     ·replace c5 := Bool.eq_false_iff.mpr c5
      subst c5
      have H1 : (some false) = some r := by rw [if_neg (show ¬ (false = true) by decide)] at H; exact H
      clear H
      have H := H1
      clear H1
      obtain rfl := Option.some.inj H
      have p176 : 0 ≤ (x3_1 : Int) := of_decide_eq_true (by first | (with_reducible assumption) | assumption)
      have q176 : x3_1 < (l0.length : Int) := of_decide_eq_true (by first | (with_reducible assumption) | assumption)
      obtain ⟨qC, e176, qA⟩ := Kd.at_string HR0.out x3_1 p176 q176
      cases e176
      replace p176 := eq_true p176
      replace q176 := eq_true q176
      go_wp2_with (first | ((with_reducible refine gate_callee (f := 26) rfl ?_); refine goesL_ (some 14) rfl rfl Tryz.func26 (by kernel_rfl) rfl #[.string (rdOf ByteArray.empty l0 x3_1)] rfl (by (try simp only [List.map_toArray, List.map_cons, List.map_nil]); first | done | rfl | (simp only [List.length_drop, List.length_take]; rfl)) ?_; (with_reducible refine (cellaretref1_Key.calls k1 (rdOf ByteArray.empty l0 x3_1) false _ A4.out).mono ?_); rintro e w' ⟨rfl, ⟨nd, rfl⟩⟩; refine ⟨_, rfl, ?_⟩))
      go_ret
      exact ⟨by first | rfl | (simp; done) | (simp [*]; done), by repeat (first | exact Drawn0.refl _ | apply Drawn0.step)⟩
    ·rw [if_neg c3] at H
     exact absurd H (by simp)
   ·rw [if_neg c2] at H
    have c2b0 : decide (x3_1 < (l0.length : Int)) = false := decide_eq_false c2
    clear c2
    obtain rfl := Option.some.inj H
    go_wp2
    go_ret
    exact ⟨by first | rfl | (simp; done) | (simp [*]; done), by repeat (first | exact Drawn0.refl _ | apply Drawn0.step)⟩

end Go.Proofs.YtfbhlbchmenloaaGreatDoor.H
-- thinned
end
section
namespace Go.Proofs.YtfbhlbchmenloaaGreatDoor.O
open Go Go.RowKit Go.Proofs.YtfbhlbchmenloaaGreatDoorW.PrintWords Go.Proofs.YtfbhlbchmenloaaGreatDoorW.PrintLast Go.Proofs.YtfbhlbchmenloaaGreatDoorW.PrintMore Go.Proofs.YtfbhlbchmenloaaGreatDoor.H Go.Proofs.YtfbhlbchmenloaaGreatDoor.L Go.Proofs.YtfbhlbchmenloaaGreatDoor.Pure
set_option linter.unusedVariables false
set_option linter.unusedSimpArgs false
/-! A struct that has just been put into a variable of its own: the world gets a letter. -/
theorem calls_var {P : Program} {f : FuncId} {args : Array Value} {K : Ending → World → Prop} {W : World} {cs : Array Value} {t : TypeId} (h : ∀ W' : World, Below W.heap.size W W' → W'.heap[W.heap.size]? = some (.cells cs t (0, 0)) → Calls P f args W' K) : Calls P f args (W.alloc (.cells cs t)) K :=
 h _ (below_alloc (Below.refl _ _) _) (heap_alloc_new W _)
theorem wp_var {P : Program} {c : Code} {a : Act} {K : Exit → Act → World → Prop} {W : World} {cs : Array Value} {t : TypeId} (h : ∀ W' : World, Below W.heap.size W W' → W'.heap[W.heap.size]? = some (.cells cs t (0, 0)) → c.wp P K a W') : c.wp P K a (W.alloc (.cells cs t)) :=
 h _ (below_alloc (Below.refl _ _) _) (heap_alloc_new W _)
theorem key_ref (s : ByteArray) (hs : s.size < 100000) (w : World) : Calls Tryz.prog 26 #[.string s] w fun e w' => e = .returned (.bool (keyF s)) ∧ Below w.heap.size w w' := by
 obtain ⟨k, h⟩ := (evRefKey s (by omega)).rounds
 exact (cellaretref1_Key.calls k s _ w h).mono fun e w' h => ⟨h.1, h.2.below⟩
theorem num_ref (s : ByteArray) (w : World) : Calls Tryz.prog 45 #[.string s] w fun e w' => e = .returned (.tuple #[.int .u64 (numF s.data.toList).1, .bool (numF s.data.toList).2]) ∧ Below w.heap.size w w' := by
 obtain ⟨k, h⟩ := (evRefNumber s).rounds
 exact (cellaretref1_Number.calls k s _ _ w h).mono fun e w' h => ⟨h.1, h.2.below⟩
theorem sign_ref (s : ByteArray) (w : World) : Calls Tryz.prog 44 #[.string s] w fun e w' => e = .returned (.tuple #[.int .i64 (signF s.data.toList).1, .bool (signF s.data.toList).2]) ∧ Below w.heap.size w w' := by
 obtain ⟨k, h⟩ := (evRefSigned s).rounds
 exact (cellaretref1_Signed.calls k s _ _ w h).mono fun e w' h => ⟨h.1, h.2.below⟩
/-- A command is handed back, its keys a row that is only read. -/
def Tells (d : Cd) (W : World) (e : Ending) (w' : World) : Prop := ∃ A c, e = .returned (cdV d (.slice A d.keys.length c)) ∧ d.keys.length ≤ c ∧ Kd.C Kd.string w' A d.keys.length d.keys ∧ Below W.heap.size W w'
/-- The same, of keys that lie where the words lie. -/
def TellsA (A0 : Option Addr) (d : Cd) (W : World) (e : Ending) (w' : World) : Prop := ∃ A c, e = .returned (cdV d (.slice A d.keys.length c)) ∧ d.keys.length ≤ c ∧ Kd.C Kd.string w' A d.keys.length d.keys ∧ Below W.heap.size W w' ∧ (0 < d.keys.length → A.map (·.block) = A0.map (·.block))
theorem bad_ref (t : ByteArray) (w : World) : Calls Tryz.prog 31 #[.string t] w (Tells (toD (.bad t)) w) := by
 refine (cellaretref18_Bad.calls t ⟨#[98, 97, 100]⟩ t [] ⟨#[]⟩ 0 0 0 0 false false false false w (by first | rfl | kernel_rfl)).mono ?_
 rintro e w' ⟨v, rfl, hr, hb⟩
 obtain ⟨A, c, ev⟩ := Kd.R_slice hr
 subst ev
 exact ⟨A, c, rfl, Nat.zero_le _, ⟨rfl, Nat.zero_le _, fun h => absurd h (Nat.lt_irrefl 0)⟩, hb⟩
theorem at_get (ws : List ByteArray) (i : Nat) : ws.getD i ByteArray.empty = at_ ws i := rfl
/-- The words of a line, as the walk reads them. -/
theorem one_key {W : World} {gb ob : Nat} {ws : List ByteArray} (hmax : ws.length ≤ 9223372036854775807) (h : ∀ j, j < ws.length → W.cell? ⟨gb, ob + j, none⟩ = some (.string (ws.getD j ByteArray.empty))) (h2 : 1 < ws.length) : Kd.C Kd.string W (some ⟨gb, ob + 1, none⟩) [at_ ws 1].length [at_ ws 1] := by
 refine ⟨rfl, by simp, fun _ => ⟨_, rfl, fun j p hj => ⟨[.string p], rfl, rfl, fun k u hu => ?_⟩⟩⟩
 have hj0 : j = 0 := by
  have := (List.getElem?_eq_some_iff.1 hj).1
  simp at this
  exact this
 subst hj0
 obtain rfl := Option.some.inj hj
 have hk : k = 0 := by
  have := (List.getElem?_eq_some_iff.1 hu).1
  simp at this
  omega
 subst hk
 obtain rfl := Option.some.inj hu
 rw [add_at]
 exact h 1 h2
def WordsAt (W : World) (gb ob : Nat) (ws : List ByteArray) : Prop := (gb < W.heap.size ∧ ws.length ≤ 9223372036854775807) ∧ ∀ j, j < ws.length → W.cell? ⟨gb, ob + j, none⟩ = some (.string (ws.getD j ByteArray.empty))
theorem WordsAt.below {W W1 : World} {gb ob : Nat} {ws : List ByteArray} (h : WordsAt W gb ob ws) (hb : Below W.heap.size W W1) : WordsAt W1 gb ob ws :=
 ⟨⟨Nat.lt_of_lt_of_le h.1.1 hb.size, h.1.2⟩, fun j hj => (hb.cell (p := ⟨gb, ob + j, none⟩) h.1.1).trans (h.2 j hj)⟩
theorem WordsAt.of {W : World} {A : Option Addr} {ws : List ByteArray} (hr : Kd.C Kd.string W A ws.length ws) (hn : 0 < ws.length) : ∃ gb ob, A = some ⟨gb, ob, none⟩ ∧ WordsAt W gb ob ws := by
 obtain ⟨gb, ob, hA, hcell⟩ := str_cells hr hn
 exact ⟨gb, ob, hA, ⟨World.block_lt_of_cell? W _ (hcell 0 hn), hr.2.1⟩, hcell⟩
theorem WordsAt.cell {W : World} {gb ob : Nat} {ws : List ByteArray} (h : WordsAt W gb ob ws) (j : Nat) (hj : j < ws.length) : W.cell? ⟨gb, ob + j, none⟩ = some (.string (at_ ws j)) := h.2 j hj
theorem WordsAt.key {W : World} {gb ob : Nat} {ws : List ByteArray} (h : WordsAt W gb ob ws) (h2 : 1 < ws.length) : Kd.C Kd.string W (some ⟨gb, ob + 1, none⟩) [at_ ws 1].length [at_ ws 1] := one_key h.1.2 h.2 h2
theorem putG {W : World} {g t : Nat} {c0 c1 c2 c3 c4 c5 c6 c7 c8 c9 c10 c11 v0 v1 v2 v3 v4 v5 v6 v7 v8 v9 v10 v11 : Value} (h0 : W.heap[g]? = some (.cells #[c0, c1, c2, c3, c4, c5, c6, c7, c8, c9, c10, c11] t (0, 0))) :
  ((((((((((((W.setCell ⟨g, 0, none⟩ v0).setCell ⟨g, 1, none⟩ v1).setCell ⟨g, 2, none⟩ v2).setCell ⟨g, 3, none⟩ v3).setCell ⟨g, 4, none⟩ v4).setCell ⟨g, 5, none⟩ v5).setCell ⟨g, 6, none⟩ v6).setCell ⟨g, 7, none⟩ v7).setCell ⟨g, 8, none⟩ v8).setCell ⟨g, 9, none⟩ v9).setCell ⟨g, 10, none⟩ v10).setCell ⟨g, 11, none⟩ v11).heap[g]? = some (.cells #[v0, v1, v2, v3, v4, v5, v6, v7, v8, v9, v10, v11] t (0, 0)) := by
 have h1 : (W.setCell ⟨g, 0, none⟩ v0).heap[g]? = some (.cells #[v0, c1, c2, c3, c4, c5, c6, c7, c8, c9, c10, c11] t (0, 0)) := blk_set h0 0 v0
 have h2 : ((W.setCell ⟨g, 0, none⟩ v0).setCell ⟨g, 1, none⟩ v1).heap[g]? = some (.cells #[v0, v1, c2, c3, c4, c5, c6, c7, c8, c9, c10, c11] t (0, 0)) := blk_set h1 1 v1
 have h3 : (((W.setCell ⟨g, 0, none⟩ v0).setCell ⟨g, 1, none⟩ v1).setCell ⟨g, 2, none⟩ v2).heap[g]? = some (.cells #[v0, v1, v2, c3, c4, c5, c6, c7, c8, c9, c10, c11] t (0, 0)) := blk_set h2 2 v2
 have h4 : ((((W.setCell ⟨g, 0, none⟩ v0).setCell ⟨g, 1, none⟩ v1).setCell ⟨g, 2, none⟩ v2).setCell ⟨g, 3, none⟩ v3).heap[g]? = some (.cells #[v0, v1, v2, v3, c4, c5, c6, c7, c8, c9, c10, c11] t (0, 0)) := blk_set h3 3 v3
 have h5 : (((((W.setCell ⟨g, 0, none⟩ v0).setCell ⟨g, 1, none⟩ v1).setCell ⟨g, 2, none⟩ v2).setCell ⟨g, 3, none⟩ v3).setCell ⟨g, 4, none⟩ v4).heap[g]? = some (.cells #[v0, v1, v2, v3, v4, c5, c6, c7, c8, c9, c10, c11] t (0, 0)) := blk_set h4 4 v4
 have h6 : ((((((W.setCell ⟨g, 0, none⟩ v0).setCell ⟨g, 1, none⟩ v1).setCell ⟨g, 2, none⟩ v2).setCell ⟨g, 3, none⟩ v3).setCell ⟨g, 4, none⟩ v4).setCell ⟨g, 5, none⟩ v5).heap[g]? = some (.cells #[v0, v1, v2, v3, v4, v5, c6, c7, c8, c9, c10, c11] t (0, 0)) := blk_set h5 5 v5
 have h7 : (((((((W.setCell ⟨g, 0, none⟩ v0).setCell ⟨g, 1, none⟩ v1).setCell ⟨g, 2, none⟩ v2).setCell ⟨g, 3, none⟩ v3).setCell ⟨g, 4, none⟩ v4).setCell ⟨g, 5, none⟩ v5).setCell ⟨g, 6, none⟩ v6).heap[g]? = some (.cells #[v0, v1, v2, v3, v4, v5, v6, c7, c8, c9, c10, c11] t (0, 0)) := blk_set h6 6 v6
 have h8 : ((((((((W.setCell ⟨g, 0, none⟩ v0).setCell ⟨g, 1, none⟩ v1).setCell ⟨g, 2, none⟩ v2).setCell ⟨g, 3, none⟩ v3).setCell ⟨g, 4, none⟩ v4).setCell ⟨g, 5, none⟩ v5).setCell ⟨g, 6, none⟩ v6).setCell ⟨g, 7, none⟩ v7).heap[g]? = some (.cells #[v0, v1, v2, v3, v4, v5, v6, v7, c8, c9, c10, c11] t (0, 0)) := blk_set h7 7 v7
 have h9 : (((((((((W.setCell ⟨g, 0, none⟩ v0).setCell ⟨g, 1, none⟩ v1).setCell ⟨g, 2, none⟩ v2).setCell ⟨g, 3, none⟩ v3).setCell ⟨g, 4, none⟩ v4).setCell ⟨g, 5, none⟩ v5).setCell ⟨g, 6, none⟩ v6).setCell ⟨g, 7, none⟩ v7).setCell ⟨g, 8, none⟩ v8).heap[g]? = some (.cells #[v0, v1, v2, v3, v4, v5, v6, v7, v8, c9, c10, c11] t (0, 0)) := blk_set h8 8 v8
 have h10 : ((((((((((W.setCell ⟨g, 0, none⟩ v0).setCell ⟨g, 1, none⟩ v1).setCell ⟨g, 2, none⟩ v2).setCell ⟨g, 3, none⟩ v3).setCell ⟨g, 4, none⟩ v4).setCell ⟨g, 5, none⟩ v5).setCell ⟨g, 6, none⟩ v6).setCell ⟨g, 7, none⟩ v7).setCell ⟨g, 8, none⟩ v8).setCell ⟨g, 9, none⟩ v9).heap[g]? = some (.cells #[v0, v1, v2, v3, v4, v5, v6, v7, v8, v9, c10, c11] t (0, 0)) := blk_set h9 9 v9
 have h11 : (((((((((((W.setCell ⟨g, 0, none⟩ v0).setCell ⟨g, 1, none⟩ v1).setCell ⟨g, 2, none⟩ v2).setCell ⟨g, 3, none⟩ v3).setCell ⟨g, 4, none⟩ v4).setCell ⟨g, 5, none⟩ v5).setCell ⟨g, 6, none⟩ v6).setCell ⟨g, 7, none⟩ v7).setCell ⟨g, 8, none⟩ v8).setCell ⟨g, 9, none⟩ v9).setCell ⟨g, 10, none⟩ v10).heap[g]? = some (.cells #[v0, v1, v2, v3, v4, v5, v6, v7, v8, v9, v10, c11] t (0, 0)) := blk_set h10 10 v10
 have h12 : ((((((((((((W.setCell ⟨g, 0, none⟩ v0).setCell ⟨g, 1, none⟩ v1).setCell ⟨g, 2, none⟩ v2).setCell ⟨g, 3, none⟩ v3).setCell ⟨g, 4, none⟩ v4).setCell ⟨g, 5, none⟩ v5).setCell ⟨g, 6, none⟩ v6).setCell ⟨g, 7, none⟩ v7).setCell ⟨g, 8, none⟩ v8).setCell ⟨g, 9, none⟩ v9).setCell ⟨g, 10, none⟩ v10).setCell ⟨g, 11, none⟩ v11).heap[g]? = some (.cells #[v0, v1, v2, v3, v4, v5, v6, v7, v8, v9, v10, v11] t (0, 0)) := blk_set h11 11 v11
 exact h12
theorem drew_cell {W : World} {a : Addr} {v : Value} (h : W.cell? a = some v) : W.drew.cell? a = some v := h
theorem C_none {w : World} (A : Option Addr) : Kd.C Kd.string w A ([] : List ByteArray).length [] := ⟨rfl, Nat.zero_le _, fun h => absurd h (Nat.lt_irrefl 0)⟩
def arithC (ws : List ByteArray) (q : Bool) : Cm := if keyF (at_ ws 1) = false then .bad formT else if (numF (at_ ws 2).data.toList).2 = true then .arith (at_ ws 1) (numF (at_ ws 2).data.toList).1 (decide (at_ ws 0 = decrW)) q else .bad deltaT
set_option maxHeartbeats 2000000 in
set_option maxRecDepth 100000 in
theorem ref_arith (A : Option Addr) (c : Nat) (ws : List ByteArray) (q : Bool) (W : World) (hr : Kd.C Kd.string W A ws.length ws) (hc : ws.length ≤ c) (h3 : 3 ≤ ws.length) (hz : ∀ i, (at_ ws i).size < 100000) :
  Calls Tryz.prog 34 #[.slice A ws.length c, .bool q] W (TellsA A (toD (arithC ws q)) W) := by
 obtain ⟨gb, ob, hA, hws⟩ := WordsAt.of hr (by omega)
 subst hA
 have hu := Tryz.underlying22
 have hu26 := Tryz.underlying26
 have HW0 := Aside0.mk hws
 clear hws hr
 have b0 : (0 : Int) < (ws.length : Int) := by omega
 have b1 : (1 : Int) < (ws.length : Int) := by omega
 have b2 : (2 : Int) < (ws.length : Int) := by omega
 have b9 : (2 : Int) ≤ (c : Int) := by omega
 have z3 : (0 < ws.length) = True := eq_true (by omega)
 have z4 : 0 < ws.length := by omega
 by_cases hk : keyF (at_ ws 1) = true
 ·by_cases hn : (numF (at_ ws 2).data.toList).2 = true
  ·have ea : arithC ws q = .arith (at_ ws 1) (numF (at_ ws 2).data.toList).1 (decide (at_ ws 0 = decrW)) q := by unfold arithC; rw [if_neg (by rw [hk]; decide), if_pos hn]
   rw [ea]
   have x1 := HW0.out.cell 1 (by omega)
   have lg := HW0.out.1.1
   have n1 := World.new_ne W _ x1
   go_enter Tryz.func34, Tryz.ntmps34
   go_wp2_with fail
   refine calls_var ?_
   intro W1 hs hv
   have HW1 := Aside0.mk (HW0.out.below hs)
   have HV1 := Aside0.mk hv
   have HB1 := Aside0.mk hs
   clear hs hv
   clear x1 n1
   refine (key_ref (at_ ws 1) (hz 1) W1).mono ?_
   rintro e W2 ⟨rfl, hs⟩
   have HW2 := Aside0.mk (HW1.out.below hs)
   have HV2 := Aside0.mk (blk_below HV1.out hs)
   have HB2 := Aside0.mk (below_step HB1.out hs)
   clear hs HW1 HV1 HB1
   have x2 : W2.cell? ⟨gb, ob + 2, none⟩ = some (.string (at_ ws 2)) := HW2.out.cell 2 (by omega)
   go_wp2_with fail
   refine (num_ref (at_ ws 2) W2).mono ?_
   rintro e W3 ⟨rfl, hs⟩
   have HW3 := Aside0.mk (HW2.out.below hs)
   have HV3 := Aside0.mk (blk_below HV2.out hs)
   have HB3 := Aside0.mk (below_step HB2.out hs)
   clear hs HW2 HV2 HB2 x2
   have x0 : W3.cell? ⟨gb, ob, none⟩ = some (.string (at_ ws 0)) := HW3.out.cell 0 (by omega)
   obtain ⟨r0, r1, r2, r3, r4, r5, r6, r7, r8, r9, r10, r11⟩ := celL HV3.out
   obtain ⟨f0, f1, f2, f3, f4, f5, f6, f7, f8, f9, f10, f11⟩ := froZ HV3.out
   have d1 : (c = 1) = False := eq_false (by omega)
   have d2 : (1 = c) = False := eq_false (by omega)
   have d3 : (c - 1 = 0) = False := eq_false (by omega)
   have d4 : (2 ≤ c) = True := eq_true (by omega)
   have d5 : decide ((2 : Int) ≤ (c : Int)) = true := decide_eq_true b9
   have hg2 : ¬ gb = W.heap.size := Nat.ne_of_lt HW0.out.1.1
   go_wp2_with fail
   go_region_held3 (fun w' => w'.cell? ⟨gb, ob, none⟩ = some (.string (at_ ws 0))) (((with_reducible repeat (first | refine far_cell hg2 ?_ | refine drew_cell ?_)); with_reducible assumption)) (fail)
   go_wp2_with fail
   refine bodyPost_ret (results_cell_row rfl _ _ W.heap.size 26 #[.string ⟨#[97, 114, 105, 116, 104]⟩, .string ez, .slice (some ⟨gb, ob + 1, none⟩) 1 (c - 1), .string ez, .int .u32 0, .int .i64 0, .int .u64 0, .int .u64 (numF (at_ ws 2).data.toList).1, .bool false, .bool false, .bool ((at_ ws 0).toList == [100, 101, 99, 114]), .bool q] (0, 0) _ rfl (blk_drew (putG HV3.out)) Tryz.underlying26 rfl (by kernel_rfl)) rfl ?_
   have hB := below_drew1 (below12 HB3.out (Nat.le_refl _) (.string ⟨#[97, 114, 105, 116, 104]⟩) (.string ez) (.slice (some ⟨gb, ob + 1, none⟩) 1 (c - 1)) (.string ez) (.int .u32 0) (.int .i64 0) (.int .u64 0) (.int .u64 (numF (at_ ws 2).data.toList).1) (.bool false) (.bool false) (.bool ((at_ ws 0).toList == [100, 101, 99, 114])) (.bool q))
   refine ⟨some ⟨gb, ob + 1, none⟩, c - 1, ?_, by show 1 ≤ c - 1; omega, (HW0.out.below hB).key (by omega), hB, fun _ => rfl⟩
   rw [beq_tl (at_ ws 0) decrW _ (tl _)]
   rfl
  ·have hn2 := eq_false_of_ne_true hn
   have ea : arithC ws q = .bad deltaT := by unfold arithC; rw [if_neg (by rw [hk]; decide), if_neg hn]
   rw [ea]
   clear hn
   have x1 := HW0.out.cell 1 (by omega)
   have lg := HW0.out.1.1
   have n1 := World.new_ne W _ x1
   go_enter Tryz.func34, Tryz.ntmps34
   go_wp2_with fail
   refine calls_var ?_
   intro W1 hs hv
   have HW1 := Aside0.mk (HW0.out.below hs)
   have HV1 := Aside0.mk hv
   have HB1 := Aside0.mk hs
   clear hs hv
   clear x1 n1
   refine (key_ref (at_ ws 1) (hz 1) W1).mono ?_
   rintro e W2 ⟨rfl, hs⟩
   have HW2 := Aside0.mk (HW1.out.below hs)
   have HV2 := Aside0.mk (blk_below HV1.out hs)
   have HB2 := Aside0.mk (below_step HB1.out hs)
   clear hs HW1 HV1 HB1
   have x2 : W2.cell? ⟨gb, ob + 2, none⟩ = some (.string (at_ ws 2)) := HW2.out.cell 2 (by omega)
   go_wp2_with fail
   refine (num_ref (at_ ws 2) W2).mono ?_
   rintro e W3 ⟨rfl, hs⟩
   have HW3 := Aside0.mk (HW2.out.below hs)
   have HV3 := Aside0.mk (blk_below HV2.out hs)
   have HB3 := Aside0.mk (below_step HB2.out hs)
   clear hs HW2 HV2 HB2 x2
   go_wp2_with fail
   refine (bad_ref _ W3).mono ?_
   rintro e W4 ⟨A3, c3, rfl, hl, hC, hs⟩
   have HW4 := Aside0.mk (HW3.out.below hs)
   have HV4 := Aside0.mk (blk_below HV3.out hs)
   have HB4 := Aside0.mk (below_step HB3.out hs)
   clear hs hl hC
   unfold cdV toD
   obtain ⟨r0, r1, r2, r3, r4, r5, r6, r7, r8, r9, r10, r11⟩ := celL HV4.out
   obtain ⟨f0, f1, f2, f3, f4, f5, f6, f7, f8, f9, f10, f11⟩ := froZ HV4.out
   go_wp2_with fail
   refine bodyPost_ret (results_cell_row rfl _ _ W.heap.size 26 #[.string ⟨#[98, 97, 100]⟩, .string deltaT, .slice A3 0 c3, .string ez, .int .u32 0, .int .i64 0, .int .u64 0, .int .u64 0, .bool false, .bool false, .bool false, .bool false] (0, 0) _ rfl (putG HV4.out) Tryz.underlying26 rfl (by kernel_rfl)) rfl ?_
   exact ⟨A3, c3, rfl, Nat.zero_le _, C_none A3, below12 HB4.out (Nat.le_refl _) _ _ _ _ _ _ _ _ _ _ _ _, fun h => absurd h (Nat.lt_irrefl 0)⟩
 ·have ea : arithC ws q = .bad formT := by unfold arithC; rw [if_pos (by simpa using hk)]
  rw [ea]
  have hk2 : keyF (at_ ws 1) = false := by simpa using hk
  clear hk
  have x1 := HW0.out.cell 1 (by omega)
  have lg := HW0.out.1.1
  have n1 := World.new_ne W _ x1
  go_enter Tryz.func34, Tryz.ntmps34
  go_wp2_with fail
  refine calls_var ?_
  intro W1 hs hv
  have HW1 := Aside0.mk (HW0.out.below hs)
  have HV1 := Aside0.mk hv
  have HB1 := Aside0.mk hs
  clear hs hv
  clear x1 n1
  refine (key_ref (at_ ws 1) (hz 1) W1).mono ?_
  rintro e W2 ⟨rfl, hs⟩
  have HW2 := Aside0.mk (HW1.out.below hs)
  have HV2 := Aside0.mk (blk_below HV1.out hs)
  have HB2 := Aside0.mk (below_step HB1.out hs)
  clear hs HW1 HV1 HB1
  go_wp2_with fail
  refine (bad_ref _ W2).mono ?_
  rintro e W3 ⟨A3, c3, rfl, hl, hC, hs⟩
  have HW3 := Aside0.mk (HW2.out.below hs)
  have HV3 := Aside0.mk (blk_below HV2.out hs)
  have HB3 := Aside0.mk (below_step HB2.out hs)
  clear hs hl hC
  unfold cdV toD
  obtain ⟨r0, r1, r2, r3, r4, r5, r6, r7, r8, r9, r10, r11⟩ := celL HV3.out
  obtain ⟨f0, f1, f2, f3, f4, f5, f6, f7, f8, f9, f10, f11⟩ := froZ HV3.out
  go_wp2_with fail
  refine bodyPost_ret (results_cell_row rfl _ _ W.heap.size 26 #[.string ⟨#[98, 97, 100]⟩, .string formT, .slice A3 0 c3, .string ez, .int .u32 0, .int .i64 0, .int .u64 0, .int .u64 0, .bool false, .bool false, .bool false, .bool false] (0, 0) _ rfl (putG HV3.out) Tryz.underlying26 rfl (by kernel_rfl)) rfl ?_
  exact ⟨A3, c3, rfl, Nat.zero_le _, C_none A3, below12 HB3.out (Nat.le_refl _) _ _ _ _ _ _ _ _ _ _ _ _, fun h => absurd h (Nat.lt_irrefl 0)⟩
def touchC (ws : List ByteArray) (q : Bool) : Cm := if keyF (at_ ws 1) = false then .bad formT else if (signF (at_ ws 2).data.toList).2 = true then .touch (at_ ws 1) (signF (at_ ws 2).data.toList).1 q else .bad timeT
set_option maxHeartbeats 2000000 in
set_option maxRecDepth 100000 in
theorem ref_touch (A : Option Addr) (c : Nat) (ws : List ByteArray) (q : Bool) (W : World) (hr : Kd.C Kd.string W A ws.length ws) (hc : ws.length ≤ c) (h3 : 3 ≤ ws.length) (hz : ∀ i, (at_ ws i).size < 100000) :
  Calls Tryz.prog 35 #[.slice A ws.length c, .bool q] W (TellsA A (toD (touchC ws q)) W) := by
 obtain ⟨gb, ob, hA, hws⟩ := WordsAt.of hr (by omega)
 subst hA
 have hu := Tryz.underlying22
 have hu26 := Tryz.underlying26
 have HW0 := Aside0.mk hws
 clear hws hr
 have b0 : (0 : Int) < (ws.length : Int) := by omega
 have b1 : (1 : Int) < (ws.length : Int) := by omega
 have b2 : (2 : Int) < (ws.length : Int) := by omega
 have b9 : (2 : Int) ≤ (c : Int) := by omega
 have z3 : (0 < ws.length) = True := eq_true (by omega)
 have z4 : 0 < ws.length := by omega
 by_cases hk : keyF (at_ ws 1) = true
 ·by_cases hn : (signF (at_ ws 2).data.toList).2 = true
  ·have ea : touchC ws q = .touch (at_ ws 1) (signF (at_ ws 2).data.toList).1 q := by unfold touchC; rw [if_neg (by rw [hk]; decide), if_pos hn]
   rw [ea]
   have x1 := HW0.out.cell 1 (by omega)
   have lg := HW0.out.1.1
   have n1 := World.new_ne W _ x1
   go_enter Tryz.func35, Tryz.ntmps35
   go_wp2_with fail
   refine calls_var ?_
   intro W1 hs hv
   have HW1 := Aside0.mk (HW0.out.below hs)
   have HV1 := Aside0.mk hv
   have HB1 := Aside0.mk hs
   clear hs hv
   clear x1 n1
   refine (key_ref (at_ ws 1) (hz 1) W1).mono ?_
   rintro e W2 ⟨rfl, hs⟩
   have HW2 := Aside0.mk (HW1.out.below hs)
   have HV2 := Aside0.mk (blk_below HV1.out hs)
   have HB2 := Aside0.mk (below_step HB1.out hs)
   clear hs HW1 HV1 HB1
   have x2 : W2.cell? ⟨gb, ob + 2, none⟩ = some (.string (at_ ws 2)) := HW2.out.cell 2 (by omega)
   go_wp2_with fail
   refine (sign_ref (at_ ws 2) W2).mono ?_
   rintro e W3 ⟨rfl, hs⟩
   have HW3 := Aside0.mk (HW2.out.below hs)
   have HV3 := Aside0.mk (blk_below HV2.out hs)
   have HB3 := Aside0.mk (below_step HB2.out hs)
   clear hs HW2 HV2 HB2 x2
   obtain ⟨r0, r1, r2, r3, r4, r5, r6, r7, r8, r9, r10, r11⟩ := celL HV3.out
   obtain ⟨f0, f1, f2, f3, f4, f5, f6, f7, f8, f9, f10, f11⟩ := froZ HV3.out
   have d1 : (c = 1) = False := eq_false (by omega)
   have d2 : (1 = c) = False := eq_false (by omega)
   have d3 : (c - 1 = 0) = False := eq_false (by omega)
   have d4 : (2 ≤ c) = True := eq_true (by omega)
   have d5 : decide ((2 : Int) ≤ (c : Int)) = true := decide_eq_true b9
   have hg2 : ¬ gb = W.heap.size := Nat.ne_of_lt HW0.out.1.1
   go_wp2_with fail
   refine bodyPost_ret (results_cell_row rfl _ _ W.heap.size 26 #[.string ⟨#[116, 111, 117, 99, 104]⟩, .string ez, .slice (some ⟨gb, ob + 1, none⟩) 1 (c - 1), .string ez, .int .u32 0, .int .i64 (signF (at_ ws 2).data.toList).1, .int .u64 0, .int .u64 0, .bool false, .bool false, .bool false, .bool q] (0, 0) _ rfl (putG HV3.out) Tryz.underlying26 rfl (by kernel_rfl)) rfl ?_
   have hB := (below12 HB3.out (Nat.le_refl _) (.string ⟨#[116, 111, 117, 99, 104]⟩) (.string ez) (.slice (some ⟨gb, ob + 1, none⟩) 1 (c - 1)) (.string ez) (.int .u32 0) (.int .i64 (signF (at_ ws 2).data.toList).1) (.int .u64 0) (.int .u64 0) (.bool false) (.bool false) (.bool false) (.bool q))
   refine ⟨some ⟨gb, ob + 1, none⟩, c - 1, ?_, by show 1 ≤ c - 1; omega, (HW0.out.below hB).key (by omega), hB, fun _ => rfl⟩
   rfl
  ·have hn2 := eq_false_of_ne_true hn
   have ea : touchC ws q = .bad timeT := by unfold touchC; rw [if_neg (by rw [hk]; decide), if_neg hn]
   rw [ea]
   clear hn
   have x1 := HW0.out.cell 1 (by omega)
   have lg := HW0.out.1.1
   have n1 := World.new_ne W _ x1
   go_enter Tryz.func35, Tryz.ntmps35
   go_wp2_with fail
   refine calls_var ?_
   intro W1 hs hv
   have HW1 := Aside0.mk (HW0.out.below hs)
   have HV1 := Aside0.mk hv
   have HB1 := Aside0.mk hs
   clear hs hv
   clear x1 n1
   refine (key_ref (at_ ws 1) (hz 1) W1).mono ?_
   rintro e W2 ⟨rfl, hs⟩
   have HW2 := Aside0.mk (HW1.out.below hs)
   have HV2 := Aside0.mk (blk_below HV1.out hs)
   have HB2 := Aside0.mk (below_step HB1.out hs)
   clear hs HW1 HV1 HB1
   have x2 : W2.cell? ⟨gb, ob + 2, none⟩ = some (.string (at_ ws 2)) := HW2.out.cell 2 (by omega)
   go_wp2_with fail
   refine (sign_ref (at_ ws 2) W2).mono ?_
   rintro e W3 ⟨rfl, hs⟩
   have HW3 := Aside0.mk (HW2.out.below hs)
   have HV3 := Aside0.mk (blk_below HV2.out hs)
   have HB3 := Aside0.mk (below_step HB2.out hs)
   clear hs HW2 HV2 HB2 x2
   go_wp2_with fail
   refine (bad_ref _ W3).mono ?_
   rintro e W4 ⟨A3, c3, rfl, hl, hC, hs⟩
   have HW4 := Aside0.mk (HW3.out.below hs)
   have HV4 := Aside0.mk (blk_below HV3.out hs)
   have HB4 := Aside0.mk (below_step HB3.out hs)
   clear hs hl hC
   unfold cdV toD
   obtain ⟨r0, r1, r2, r3, r4, r5, r6, r7, r8, r9, r10, r11⟩ := celL HV4.out
   obtain ⟨f0, f1, f2, f3, f4, f5, f6, f7, f8, f9, f10, f11⟩ := froZ HV4.out
   go_wp2_with fail
   refine bodyPost_ret (results_cell_row rfl _ _ W.heap.size 26 #[.string ⟨#[98, 97, 100]⟩, .string timeT, .slice A3 0 c3, .string ez, .int .u32 0, .int .i64 0, .int .u64 0, .int .u64 0, .bool false, .bool false, .bool false, .bool false] (0, 0) _ rfl (putG HV4.out) Tryz.underlying26 rfl (by kernel_rfl)) rfl ?_
   exact ⟨A3, c3, rfl, Nat.zero_le _, C_none A3, below12 HB4.out (Nat.le_refl _) _ _ _ _ _ _ _ _ _ _ _ _, fun h => absurd h (Nat.lt_irrefl 0)⟩
 ·have ea : touchC ws q = .bad formT := by unfold touchC; rw [if_pos (by simpa using hk)]
  rw [ea]
  have hk2 : keyF (at_ ws 1) = false := by simpa using hk
  clear hk
  have x1 := HW0.out.cell 1 (by omega)
  have lg := HW0.out.1.1
  have n1 := World.new_ne W _ x1
  go_enter Tryz.func35, Tryz.ntmps35
  go_wp2_with fail
  refine calls_var ?_
  intro W1 hs hv
  have HW1 := Aside0.mk (HW0.out.below hs)
  have HV1 := Aside0.mk hv
  have HB1 := Aside0.mk hs
  clear hs hv
  clear x1 n1
  refine (key_ref (at_ ws 1) (hz 1) W1).mono ?_
  rintro e W2 ⟨rfl, hs⟩
  have HW2 := Aside0.mk (HW1.out.below hs)
  have HV2 := Aside0.mk (blk_below HV1.out hs)
  have HB2 := Aside0.mk (below_step HB1.out hs)
  clear hs HW1 HV1 HB1
  go_wp2_with fail
  refine (bad_ref _ W2).mono ?_
  rintro e W3 ⟨A3, c3, rfl, hl, hC, hs⟩
  have HW3 := Aside0.mk (HW2.out.below hs)
  have HV3 := Aside0.mk (blk_below HV2.out hs)
  have HB3 := Aside0.mk (below_step HB2.out hs)
  clear hs hl hC
  unfold cdV toD
  obtain ⟨r0, r1, r2, r3, r4, r5, r6, r7, r8, r9, r10, r11⟩ := celL HV3.out
  obtain ⟨f0, f1, f2, f3, f4, f5, f6, f7, f8, f9, f10, f11⟩ := froZ HV3.out
  go_wp2_with fail
  refine bodyPost_ret (results_cell_row rfl _ _ W.heap.size 26 #[.string ⟨#[98, 97, 100]⟩, .string formT, .slice A3 0 c3, .string ez, .int .u32 0, .int .i64 0, .int .u64 0, .int .u64 0, .bool false, .bool false, .bool false, .bool false] (0, 0) _ rfl (putG HV3.out) Tryz.underlying26 rfl (by kernel_rfl)) rfl ?_
  exact ⟨A3, c3, rfl, Nat.zero_le _, C_none A3, below12 HB3.out (Nat.le_refl _) _ _ _ _ _ _ _ _ _ _ _ _, fun h => absurd h (Nat.lt_irrefl 0)⟩
def keysB (ks : List ByteArray) : Bool := ks.all keyF && decide (ks.length ≤ 64)
theorem keys_loop (ks : List ByteArray) (hz : ∀ x ∈ ks, x.size < 100000) (hk : ks.length < 1000000) : ∀ (d i : Nat), i + d = ks.length → Ev (fun k => cellaretref18_keys.l0 k ks (i : Int)) ((ks.drop i).all keyF && decide (ks.length ≤ 64))
 | 0, i, hi => by
  refine Ev.step (fun k => cellaretref18_keys.l0.eq_2 _ _ _) ?_
  simp only [if_neg (show ¬ (i : Int) < (ks.length : Int) by omega)]
  rw [List.drop_of_length_le (by omega), List.all_nil, Bool.true_and, show decide ((ks.length : Int) ≤ 64) = decide (ks.length ≤ 64) from decide_eq_decide.2 (by omega)]
  exact Ev.now _
 | d + 1, i, hi => by
  have hlt : i < ks.length := by omega
  refine Ev.step (fun k => cellaretref18_keys.l0.eq_2 _ _ _) ?_
  simp only [if_pos (show (i : Int) < (ks.length : Int) by omega), if_pos (show (0 : Int) ≤ (i : Int) by omega), rdOf_at ByteArray.empty ks i hlt, wrap_next (show (0 : Int) ≤ (i : Int) by omega) (by omega)]
  refine Ev.bind (evRefKey _ (by have := hz _ (List.getElem_mem hlt); omega)) ?_
  rw [List.drop_eq_getElem_cons hlt, List.all_cons]
  by_cases h : keyF ks[i] = true
  ·simp only [h, if_true, Bool.true_and]
   exact keys_loop ks hz hk d (i + 1) (by omega)
  ·simp only [h, if_false, Bool.false_and]
   exact Ev.now _
theorem keys_ref (A : Option Addr) (c : Nat) (ks : List ByteArray) (W : World) (hr : Kd.C Kd.string W A ks.length ks) (hc : ks.length ≤ c) (hz : ∀ x ∈ ks, x.size < 100000) (hk : ks.length < 1000000) : Calls Tryz.prog 43 #[.slice A ks.length c] W fun e w' => e = .returned (.bool (keysB ks)) ∧ Below W.heap.size W w' := by
 obtain ⟨k, h⟩ := (keys_loop ks hz hk ks.length 0 (by omega)).rounds
 exact (cellaretref18_keys.calls k A c ks _ W hr hc h).mono fun e w' h => ⟨h.1, h.2.below⟩
theorem keysB_bad {ks : List ByteArray} (h : keysB ks = false) (ca t : Bool) (sg : Int × Bool) : getX ks ca t sg = .pl (.bad formT) := by
 unfold getX
 rw [if_pos]
 unfold keysB at h
 rw [Bool.and_eq_false_iff, List.all_eq_false, decide_eq_false_iff_not] at h
 rcases h with ⟨x, hx, hk⟩ | h
 ·exact .inl (List.any_eq_true.2 ⟨x, hx, by simpa using hk⟩)
 ·exact .inr (by omega)
theorem keysB_good {ks : List ByteArray} (h : keysB ks = true) (ca t : Bool) (sg : Int × Bool) : getX ks ca t sg = if sg.2 = true then .get ks ca t sg.1 else .pl (.bad timeT) := by
 unfold getX
 unfold keysB at h
 rw [Bool.and_eq_true, List.all_eq_true, decide_eq_true_iff] at h
 rw [if_neg]
 ·match sg with
  | (e, true) => rfl
  | (e, false) => rfl
 ·rintro (h2 | h2)
  ·obtain ⟨x, hx, hk⟩ := List.any_eq_true.1 h2
   rw [h.1 x hx] at hk
   cases hk
  ·omega
set_option maxHeartbeats 2000000 in
set_option maxRecDepth 100000 in
theorem ref_get (A : Option Addr) (c : Nat) (ks : List ByteArray) (ca : Bool) (W : World) (hr : Kd.C Kd.string W A ks.length ks) (hc : ks.length ≤ c) (h3 : 1 ≤ ks.length) (hz : ∀ x ∈ ks, x.size < 100000) (hk : ks.length < 1000000) :
  Calls Tryz.prog 32 #[.slice A ks.length c, .bool ca] W (TellsA A (toX (getX ks ca false (0, true))) W) := by
 have hu := Tryz.underlying22
 have hu26 := Tryz.underlying26
 have HR := Aside0.mk hr
 clear hr
 by_cases hb : keysB ks = true
 ·rw [keysB_good hb, if_pos rfl]
  go_enter Tryz.func32, Tryz.ntmps32
  go_wp2_with fail
  refine calls_var ?_
  intro W1 hs hv
  have HV1 := Aside0.mk hv
  have HB1 := Aside0.mk hs
  clear hs hv
  refine (keys_ref A c ks W1 (Kd.C_below HR.out HB1.out) hc hz hk).mono ?_
  rintro e W2 ⟨rfl, hs⟩
  have HV2 := Aside0.mk (blk_below HV1.out hs)
  have HB2 := Aside0.mk (below_step HB1.out hs)
  clear hs HV1 HB1
  obtain ⟨r0, r1, r2, r3, r4, r5, r6, r7, r8, r9, r10, r11⟩ := celL HV2.out
  obtain ⟨f0, f1, f2, f3, f4, f5, f6, f7, f8, f9, f10, f11⟩ := froZ HV2.out
  go_wp2_with fail
  refine bodyPost_ret (results_cell_row rfl _ _ W.heap.size 26 #[.string ⟨#[103, 101, 116]⟩, .string ez, .slice A ks.length c, .string ez, .int .u32 0, .int .i64 0, .int .u64 0, .int .u64 0, .bool ca, .bool false, .bool false, .bool false] (0, 0) _ rfl (putG HV2.out) Tryz.underlying26 rfl (by kernel_rfl)) rfl ?_
  have hB := below12 HB2.out (Nat.le_refl _) (.string ⟨#[103, 101, 116]⟩) (.string ez) (.slice A ks.length c) (.string ez) (.int .u32 0) (.int .i64 0) (.int .u64 0) (.int .u64 0) (.bool ca) (.bool false) (.bool false) (.bool false)
  exact ⟨A, c, rfl, hc, Kd.C_below HR.out hB, hB, fun _ => rfl⟩
 ·have hb2 := eq_false_of_ne_true hb
  rw [keysB_bad hb2]
  clear hb
  go_enter Tryz.func32, Tryz.ntmps32
  go_wp2_with fail
  refine calls_var ?_
  intro W1 hs hv
  have HV1 := Aside0.mk hv
  have HB1 := Aside0.mk hs
  clear hs hv
  refine (keys_ref A c ks W1 (Kd.C_below HR.out HB1.out) hc hz hk).mono ?_
  rintro e W2 ⟨rfl, hs⟩
  have HV2 := Aside0.mk (blk_below HV1.out hs)
  have HB2 := Aside0.mk (below_step HB1.out hs)
  clear hs HV1 HB1
  go_wp2_with fail
  refine (bad_ref _ W2).mono ?_
  rintro e W3 ⟨A3, c3, rfl, hl, hC, hs⟩
  have HV3 := Aside0.mk (blk_below HV2.out hs)
  have HB3 := Aside0.mk (below_step HB2.out hs)
  clear hs hl hC
  unfold cdV
  simp only [toX, toD]
  obtain ⟨r0, r1, r2, r3, r4, r5, r6, r7, r8, r9, r10, r11⟩ := celL HV3.out
  obtain ⟨f0, f1, f2, f3, f4, f5, f6, f7, f8, f9, f10, f11⟩ := froZ HV3.out
  go_wp2_with fail
  refine bodyPost_ret (results_cell_row rfl _ _ W.heap.size 26 #[.string ⟨#[98, 97, 100]⟩, .string formT, .slice A3 0 c3, .string ez, .int .u32 0, .int .i64 0, .int .u64 0, .int .u64 0, .bool false, .bool false, .bool false, .bool false] (0, 0) _ rfl (putG HV3.out) Tryz.underlying26 rfl (by kernel_rfl)) rfl ?_
  exact ⟨A3, c3, rfl, Nat.zero_le _, C_none A3, below12 HB3.out (Nat.le_refl _) _ _ _ _ _ _ _ _ _ _ _ _, fun h => absurd h (Nat.lt_irrefl 0)⟩
theorem keys_refN (A : Option Addr) (c : Nat) (ks : List ByteArray) (n : Nat) (hn : ks.length = n) (W : World) (hr : Kd.C Kd.string W A n ks) (hc : n ≤ c) (hz : ∀ x ∈ ks, x.size < 100000) (hk : ks.length < 1000000) : Calls Tryz.prog 43 #[.slice A n c] W fun e w' => e = .returned (.bool (keysB ks)) ∧ Below W.heap.size W w' := by
 subst hn
 exact keys_ref A c ks W hr hc hz hk
theorem WordsAt.drop {W : World} {gb ob : Nat} {ws : List ByteArray} (h : WordsAt W gb ob ws) (n : Nat) : Kd.C Kd.string W (some ⟨gb, ob + n, none⟩) (ws.length - n) (ws.drop n) := str_drop h.1.2 h.2 n _ (List.length_drop ..)
theorem drop_z {ws : List ByteArray} (hz : ∀ i, (at_ ws i).size < 100000) (n : Nat) : ∀ x ∈ ws.drop n, x.size < 100000 := by
 intro x hx
 obtain ⟨i, hi, rfl⟩ := List.getElem_of_mem (List.mem_of_mem_drop hx)
 have := hz i
 unfold at_ at this
 rwa [List.getD_eq_getElem?_getD, List.getElem?_eq_getElem hi] at this
set_option maxHeartbeats 2000000 in
set_option maxRecDepth 100000 in
theorem ref_gat (A : Option Addr) (c : Nat) (ws : List ByteArray) (W : World) (hr : Kd.C Kd.string W A ws.length ws) (hc : ws.length ≤ c) (h3 : 3 ≤ ws.length) (hz : ∀ i, (at_ ws i).size < 100000) (hk : ws.length < 1000000) :
  Calls Tryz.prog 33 #[.slice A ws.length c] W (TellsA A (toX (getX (ws.drop 2) (decide (at_ ws 0 = gatsW)) true (signF (at_ ws 1).data.toList))) W) := by
 obtain ⟨gb, ob, hA, hws⟩ := WordsAt.of hr (by omega)
 subst hA
 have hu := Tryz.underlying22
 have hu26 := Tryz.underlying26
 have HW0 := Aside0.mk hws
 clear hws hr
 have b0 : (0 : Int) < (ws.length : Int) := by omega
 have b1 : (1 : Int) < (ws.length : Int) := by omega
 have b2 : (2 : Int) < (ws.length : Int) := by omega
 have b9 : (2 : Int) ≤ (c : Int) := by omega
 have z3 : (0 < ws.length) = True := eq_true (by omega)
 have z4 : 0 < ws.length := by omega
 have d0 : (c = 2) = False := eq_false (by omega)
 have d1 : (2 = c) = False := eq_false (by omega)
 have d2 : (c - 2 = 0) = False := eq_false (by omega)
 have d3 : (2 ≤ ws.length) = True := eq_true (by omega)
 have d4 : decide ((2 : Int) ≤ (ws.length : Int)) = true := decide_eq_true (by omega)
 have d5 : (2 : Int) ≤ (ws.length : Int) := by omega
 by_cases hb : keysB (ws.drop 2) = true
 ·by_cases hn : (signF (at_ ws 1).data.toList).2 = true
  ·rw [keysB_good hb, if_pos hn]
   go_enter Tryz.func33, Tryz.ntmps33
   go_wp2_with fail
   refine calls_var ?_
   intro W1 hs hv
   have HW1 := Aside0.mk (HW0.out.below hs)
   have HV1 := Aside0.mk hv
   have HB1 := Aside0.mk hs
   clear hs hv
   refine (keys_refN (some ⟨gb, ob + 2, none⟩) (c - 2) (ws.drop 2) (ws.length - 2) (List.length_drop ..) W1 (HW1.out.drop 2) (by omega) (drop_z hz 2) (by rw [List.length_drop]; omega)).mono ?_
   rintro e W2 ⟨rfl, hs⟩
   have HW2 := Aside0.mk (HW1.out.below hs)
   have HV2 := Aside0.mk (blk_below HV1.out hs)
   have HB2 := Aside0.mk (below_step HB1.out hs)
   clear hs HW1 HV1 HB1
   have x1 : W2.cell? ⟨gb, ob + 1, none⟩ = some (.string (at_ ws 1)) := HW2.out.cell 1 (by omega)
   go_wp2_with fail
   refine (sign_ref (at_ ws 1) W2).mono ?_
   rintro e W3 ⟨rfl, hs⟩
   have HW3 := Aside0.mk (HW2.out.below hs)
   have HV3 := Aside0.mk (blk_below HV2.out hs)
   have HB3 := Aside0.mk (below_step HB2.out hs)
   clear hs HW2 HV2 HB2 x1
   have x0 : W3.cell? ⟨gb, ob, none⟩ = some (.string (at_ ws 0)) := HW3.out.cell 0 (by omega)
   obtain ⟨r0, r1, r2, r3, r4, r5, r6, r7, r8, r9, r10, r11⟩ := celL HV3.out
   obtain ⟨f0, f1, f2, f3, f4, f5, f6, f7, f8, f9, f10, f11⟩ := froZ HV3.out
   have hg2 : ¬ gb = W.heap.size := Nat.ne_of_lt HW0.out.1.1
   go_wp2_with fail
   go_region_held3 (fun w' => w'.cell? ⟨gb, ob, none⟩ = some (.string (at_ ws 0))) (((with_reducible repeat (first | refine far_cell hg2 ?_ | refine drew_cell ?_)); with_reducible assumption)) (fail)
   go_wp2_with fail
   refine bodyPost_ret (results_cell_row rfl _ _ W.heap.size 26 #[.string ⟨#[103, 101, 116]⟩, .string ez, .slice (some ⟨gb, ob + 2, none⟩) (ws.length - 2) (c - 2), .string ez, .int .u32 0, .int .i64 (signF (at_ ws 1).data.toList).1, .int .u64 0, .int .u64 0, .bool ((at_ ws 0).toList == [103, 97, 116, 115]), .bool true, .bool false, .bool false] (0, 0) _ rfl (blk_drew (putG HV3.out)) Tryz.underlying26 rfl (by kernel_rfl)) rfl ?_
   have hB := below_drew1 (below12 HB3.out (Nat.le_refl _) (.string ⟨#[103, 101, 116]⟩) (.string ez) (.slice (some ⟨gb, ob + 2, none⟩) (ws.length - 2) (c - 2)) (.string ez) (.int .u32 0) (.int .i64 (signF (at_ ws 1).data.toList).1) (.int .u64 0) (.int .u64 0) (.bool ((at_ ws 0).toList == [103, 97, 116, 115])) (.bool true) (.bool false) (.bool false))
   have hC := (HW0.out.below hB).drop 2
   refine ⟨(some ⟨gb, ob + 2, none⟩), c - 2, ?_, ?_, ?_, hB, fun _ => rfl⟩
   ·unfold cdV
    simp only [toX, Go.Proofs.YtfbhlbchmenloaaGreatDoor.H.getD, List.length_drop]
    rw [beq_tl (at_ ws 0) gatsW _ (tl _)]
   ·show (ws.drop 2).length ≤ c - 2
    rw [List.length_drop]
    omega
   ·show Kd.C Kd.string _ _ (ws.drop 2).length (ws.drop 2)
    rw [List.length_drop]
    exact hC
  ·have hn2 := eq_false_of_ne_true hn
   rw [keysB_good hb, if_neg hn]
   clear hn
   go_enter Tryz.func33, Tryz.ntmps33
   go_wp2_with fail
   refine calls_var ?_
   intro W1 hs hv
   have HW1 := Aside0.mk (HW0.out.below hs)
   have HV1 := Aside0.mk hv
   have HB1 := Aside0.mk hs
   clear hs hv
   refine (keys_refN (some ⟨gb, ob + 2, none⟩) (c - 2) (ws.drop 2) (ws.length - 2) (List.length_drop ..) W1 (HW1.out.drop 2) (by omega) (drop_z hz 2) (by rw [List.length_drop]; omega)).mono ?_
   rintro e W2 ⟨rfl, hs⟩
   have HW2 := Aside0.mk (HW1.out.below hs)
   have HV2 := Aside0.mk (blk_below HV1.out hs)
   have HB2 := Aside0.mk (below_step HB1.out hs)
   clear hs HW1 HV1 HB1
   have x1 : W2.cell? ⟨gb, ob + 1, none⟩ = some (.string (at_ ws 1)) := HW2.out.cell 1 (by omega)
   go_wp2_with fail
   refine (sign_ref (at_ ws 1) W2).mono ?_
   rintro e W3 ⟨rfl, hs⟩
   have HW3 := Aside0.mk (HW2.out.below hs)
   have HV3 := Aside0.mk (blk_below HV2.out hs)
   have HB3 := Aside0.mk (below_step HB2.out hs)
   clear hs HW2 HV2 HB2 x1
   go_wp2_with fail
   refine (bad_ref _ W3).mono ?_
   rintro e W4 ⟨A3, c3, rfl, hl, hC, hs⟩
   have HV4 := Aside0.mk (blk_below HV3.out hs)
   have HB4 := Aside0.mk (below_step HB3.out hs)
   clear hs hl hC
   unfold cdV
   simp only [toX, toD]
   obtain ⟨r0, r1, r2, r3, r4, r5, r6, r7, r8, r9, r10, r11⟩ := celL HV4.out
   obtain ⟨f0, f1, f2, f3, f4, f5, f6, f7, f8, f9, f10, f11⟩ := froZ HV4.out
   go_wp2_with fail
   refine bodyPost_ret (results_cell_row rfl _ _ W.heap.size 26 #[.string ⟨#[98, 97, 100]⟩, .string timeT, .slice A3 0 c3, .string ez, .int .u32 0, .int .i64 0, .int .u64 0, .int .u64 0, .bool false, .bool false, .bool false, .bool false] (0, 0) _ rfl (putG HV4.out) Tryz.underlying26 rfl (by kernel_rfl)) rfl ?_
   exact ⟨A3, c3, rfl, Nat.zero_le _, C_none A3, below12 HB4.out (Nat.le_refl _) _ _ _ _ _ _ _ _ _ _ _ _, fun h => absurd h (Nat.lt_irrefl 0)⟩
 ·have hb2 := eq_false_of_ne_true hb
  rw [keysB_bad hb2]
  clear hb
  go_enter Tryz.func33, Tryz.ntmps33
  go_wp2_with fail
  refine calls_var ?_
  intro W1 hs hv
  have HW1 := Aside0.mk (HW0.out.below hs)
  have HV1 := Aside0.mk hv
  have HB1 := Aside0.mk hs
  clear hs hv
  refine (keys_refN (some ⟨gb, ob + 2, none⟩) (c - 2) (ws.drop 2) (ws.length - 2) (List.length_drop ..) W1 (HW1.out.drop 2) (by omega) (drop_z hz 2) (by rw [List.length_drop]; omega)).mono ?_
  rintro e W2 ⟨rfl, hs⟩
  have HW2 := Aside0.mk (HW1.out.below hs)
  have HV2 := Aside0.mk (blk_below HV1.out hs)
  have HB2 := Aside0.mk (below_step HB1.out hs)
  clear hs HW1 HV1 HB1
  go_wp2_with fail
  refine (bad_ref _ W2).mono ?_
  rintro e W3 ⟨A3, c3, rfl, hl, hC, hs⟩
  have HV3 := Aside0.mk (blk_below HV2.out hs)
  have HB3 := Aside0.mk (below_step HB2.out hs)
  clear hs hl hC
  unfold cdV
  simp only [toX, toD]
  obtain ⟨r0, r1, r2, r3, r4, r5, r6, r7, r8, r9, r10, r11⟩ := celL HV3.out
  obtain ⟨f0, f1, f2, f3, f4, f5, f6, f7, f8, f9, f10, f11⟩ := froZ HV3.out
  go_wp2_with fail
  refine bodyPost_ret (results_cell_row rfl _ _ W.heap.size 26 #[.string ⟨#[98, 97, 100]⟩, .string formT, .slice A3 0 c3, .string ez, .int .u32 0, .int .i64 0, .int .u64 0, .int .u64 0, .bool false, .bool false, .bool false, .bool false] (0, 0) _ rfl (putG HV3.out) Tryz.underlying26 rfl (by kernel_rfl)) rfl ?_
  exact ⟨A3, c3, rfl, Nat.zero_le _, C_none A3, below12 HB3.out (Nat.le_refl _) _ _ _ _ _ _ _ _ _ _ _ _, fun h => absurd h (Nat.lt_irrefl 0)⟩
end Go.Proofs.YtfbhlbchmenloaaGreatDoor.O
end
section
namespace Go.Proofs.YtfbhlbchmenloaaGreatDoor.O
open Go Go.RowKit Go.Proofs.YtfbhlbchmenloaaGreatDoorW.PrintWords Go.Proofs.YtfbhlbchmenloaaGreatDoorW.PrintLast Go.Proofs.YtfbhlbchmenloaaGreatDoorW.PrintMore Go.Proofs.YtfbhlbchmenloaaGreatDoor.H Go.Proofs.YtfbhlbchmenloaaGreatDoor.L Go.Proofs.YtfbhlbchmenloaaGreatDoor.Pure
set_option linter.unusedVariables false
set_option linter.unusedSimpArgs false
theorem calls_var_drew {P : Program} {f : FuncId} {args : Array Value} {K : Ending → World → Prop} {W : World} {cs : Array Value} {t : TypeId} (h : ∀ W' : World, Below W.heap.size W W' → W'.heap[W.heap.size]? = some (.cells cs t (0, 0)) → Calls P f args W' K) : Calls P f args ((W.alloc (.cells cs t)).drew) K :=
 h _ (below_drew1 (below_alloc (Below.refl _ _) _)) (blk_drew (heap_alloc_new W _))
/-- A command and a number are handed back. -/
def TellsN (A0 : Option Addr) (p : Cm × Int) (W : World) (e : Ending) (w' : World) : Prop := ∃ A c, e = .returned (.tuple #[cdV (toD p.1) (.slice A (toD p.1).keys.length c), .int .i64 p.2]) ∧ (toD p.1).keys.length ≤ c ∧ Kd.C Kd.string w' A (toD p.1).keys.length (toD p.1).keys ∧ Below W.heap.size W w' ∧ (0 < (toD p.1).keys.length → A.map (·.block) = A0.map (·.block))
def storeQ (ws : List ByteArray) (six q : Bool) : Cm × Int :=
 let f := numF (at_ ws 2).data.toList
 let e := signF (at_ ws 3).data.toList
 let s := numF (at_ ws 4).data.toList
 let c := if six = true then numF (at_ ws 5).data.toList else (0, true)
 if keyF (at_ ws 1) = false then (.bad formT, -1)
 else if f.2 = true ∧ e.2 = true ∧ s.2 = true ∧ c.2 = true ∧ f.1 ≤ 4294967295 ∧ s.1 ≤ 2147483647 then
  (if s.1 > 1024 then (.bad largeT, s.1) else (.store (at_ ws 0) (at_ ws 1) ⟨#[]⟩ (f.1 % 4294967296) e.1 c.1 q, s.1))
 else (.bad formT, -1)
theorem storeQ_bad {ws : List ByteArray} {six q : Bool} (h : keyF (at_ ws 1) = false ∨ (numF (at_ ws 2).data.toList).2 = false ∨ 4294967295 < (numF (at_ ws 2).data.toList).1 ∨ (signF (at_ ws 3).data.toList).2 = false ∨ (numF (at_ ws 4).data.toList).2 = false ∨ 2147483647 < (numF (at_ ws 4).data.toList).1 ∨ (six = true ∧ (numF (at_ ws 5).data.toList).2 = false)) : storeQ ws six q = (.bad formT, -1) := by
 unfold storeQ
 by_cases hk : keyF (at_ ws 1) = false
 ·simp only [if_pos hk]
 ·simp only [if_neg hk]
  rw [if_neg]
  rintro ⟨h1, h2, h3, h4, h5, h6⟩
  rcases h with h | h | h | h | h | h | ⟨h, h'⟩
  ·exact hk h
  ·rw [h] at h1; cases h1
  ·omega
  ·rw [h] at h2; cases h2
  ·rw [h] at h3; cases h3
  ·omega
  ·rw [if_pos h, h'] at h4; cases h4
def fineQ (ws : List ByteArray) (six : Bool) : Prop := keyF (at_ ws 1) = true ∧ (numF (at_ ws 2).data.toList).2 = true ∧ (signF (at_ ws 3).data.toList).2 = true ∧ (numF (at_ ws 4).data.toList).2 = true ∧ (numF (at_ ws 2).data.toList).1 ≤ 4294967295 ∧ (numF (at_ ws 4).data.toList).1 ≤ 2147483647 ∧ (six = true → (numF (at_ ws 5).data.toList).2 = true)
theorem storeQ_fine {ws : List ByteArray} {six q : Bool} (h : fineQ ws six) : storeQ ws six q = if (numF (at_ ws 4).data.toList).1 > 1024 then (.bad largeT, (numF (at_ ws 4).data.toList).1) else (.store (at_ ws 0) (at_ ws 1) ⟨#[]⟩ ((numF (at_ ws 2).data.toList).1 % 4294967296) (signF (at_ ws 3).data.toList).1 (if six = true then numF (at_ ws 5).data.toList else (0, true)).1 q, (numF (at_ ws 4).data.toList).1) := by
 obtain ⟨h0, h1, h2, h3, h4, h5, h6⟩ := h
 unfold storeQ
 simp only [h0, Bool.true_eq_false, if_false]
 rw [if_pos]
 refine ⟨h1, h2, h3, ?_, h4, h5⟩
 cases six with
 | true => exact h6 rfl
 | false => rfl
theorem storeQ_large {ws : List ByteArray} {six q : Bool} (hm : 1024 < (numF (at_ ws 4).data.toList).1) (h : fineQ ws six) : storeQ ws six q = (.bad largeT, (numF (at_ ws 4).data.toList).1) := by rw [storeQ_fine h, if_pos hm]
theorem storeQ_good {ws : List ByteArray} {six q : Bool} (hm : ¬ 1024 < (numF (at_ ws 4).data.toList).1) (h : fineQ ws six) : storeQ ws six q = (.store (at_ ws 0) (at_ ws 1) ⟨#[]⟩ ((numF (at_ ws 2).data.toList).1 % 4294967296) (signF (at_ ws 3).data.toList).1 (if six = true then numF (at_ ws 5).data.toList else (0, true)).1 q, (numF (at_ ws 4).data.toList).1) := by rw [storeQ_fine h, if_neg hm]
set_option maxHeartbeats 4000000 in
set_option maxRecDepth 100000 in
theorem ref_store5 (A : Option Addr) (c : Nat) (ws : List ByteArray) (q : Bool) (W : World) (hr : Kd.C Kd.string W A ws.length ws) (hc : ws.length ≤ c) (h3 : 5 ≤ ws.length) (hz : ∀ i, (at_ ws i).size < 100000) (h0 : ((at_ ws 0).toList == ([99, 97, 115] : List UInt8)) = false) :
  Calls Tryz.prog 36 #[.slice A ws.length c, .bool q] W (TellsN A (storeQ ws false q) W) := by
 obtain ⟨gb, ob, hA, hws⟩ := WordsAt.of hr (by omega)
 subst hA
 have hu := Tryz.underlying22
 have hu26 := Tryz.underlying26
 have HW0 := Aside0.mk hws
 clear hws hr
 have b0 : (0 : Int) < (ws.length : Int) := by omega
 have b1 : (1 : Int) < (ws.length : Int) := by omega
 have b2 : (2 : Int) < (ws.length : Int) := by omega
 have b3 : (3 : Int) < (ws.length : Int) := by omega
 have b4 : (4 : Int) < (ws.length : Int) := by omega
 have b9 : (2 : Int) ≤ (c : Int) := by omega
 have z3 : (0 < ws.length) = True := eq_true (by omega)
 have z4 : 0 < ws.length := by omega
 have d1 : (c = 1) = False := eq_false (by omega)
 have d2 : (1 = c) = False := eq_false (by omega)
 have d3 : (c - 1 = 0) = False := eq_false (by omega)
 have d4 : (2 ≤ c) = True := eq_true (by omega)
 have d5 : decide ((2 : Int) ≤ (c : Int)) = true := decide_eq_true b9
 go_enter Tryz.func36, Tryz.ntmps36
 go_upto_region 1 with (fail)
 refine wp_var ?_
 intro W1 hs hv
 have HW1 := Aside0.mk (HW0.out.below hs)
 have HV1 := Aside0.mk hv
 have HB1 := Aside0.mk hs
 have HL1 := Aside0.mk (blk_lt hv)
 clear hs hv
 have x0 : W1.cell? ⟨gb, ob, none⟩ = some (.string (at_ ws 0)) := HW1.out.cell 0 (by omega)
 have lg := HW1.out.1.1
 have n0 := World.new_ne W1 _ x0
 have hg2 : ¬ gb = W1.heap.size := Nat.ne_of_lt HW1.out.1.1
 go_region_held3 (fun w' => w'.cell? ⟨gb, ob, none⟩ = some (.string (at_ ws 0))) (first | go_keep | ((with_reducible repeat (first | refine far_cell hg2 ?_ | refine drew_cell ?_)); with_reducible assumption)) (fail)
 all_goals
  clear x0 n0 lg
  have x2 : W1.cell? ⟨gb, ob + 2, none⟩ = some (.string (at_ ws 2)) := HW1.out.cell 2 (by omega)
  have n2 := World.new_ne W1 _ x2
  have lg := HW1.out.1.1
  go_wp2_with fail
  refine calls_var_drew ?_
  intro W2 hs hv2
  have HW2 := Aside0.mk (HW1.out.below hs)
  have HV2 := Aside0.mk (blk_below HV1.out hs)
  have HT2 := Aside0.mk hv2
  have HB2 := Aside0.mk (below_step HB1.out hs)
  clear hs hv2 x2 n2 lg hg2 HW1 HV1 HB1
  refine (num_ref (at_ ws 2) W2).mono ?_
  rintro e W3 ⟨rfl, hs⟩
  have HW3 := Aside0.mk (HW2.out.below hs)
  have HV3 := Aside0.mk (blk_below HV2.out hs)
  have HB3 := Aside0.mk (below_step HB2.out hs)
  have HT3 := Aside0.mk (blk_below HT2.out hs)
  clear hs HW2 HV2 HB2 HT2
  have x3 : W3.cell? ⟨gb, ob + 3, none⟩ = some (.string (at_ ws 3)) := HW3.out.cell 3 (by omega)
  go_wp2_with fail
  refine (sign_ref (at_ ws 3) W3).mono ?_
  rintro e W4 ⟨rfl, hs⟩
  have HW4 := Aside0.mk (HW3.out.below hs)
  have HV4 := Aside0.mk (blk_below HV3.out hs)
  have HB4 := Aside0.mk (below_step HB3.out hs)
  have HT4 := Aside0.mk (blk_below HT3.out hs)
  clear hs HW3 HV3 HB3 HT3
  clear x3
  have x4 : W4.cell? ⟨gb, ob + 4, none⟩ = some (.string (at_ ws 4)) := HW4.out.cell 4 (by omega)
  go_wp2_with fail
  refine (num_ref (at_ ws 4) W4).mono ?_
  rintro e W5 ⟨rfl, hs⟩
  have HW5 := Aside0.mk (HW4.out.below hs)
  have HV5 := Aside0.mk (blk_below HV4.out hs)
  have HB5 := Aside0.mk (below_step HB4.out hs)
  have HT5 := Aside0.mk (blk_below HT4.out hs)
  clear hs HW4 HV4 HB4 HT4
  clear x4
  have x0 : W5.cell? ⟨gb, ob, none⟩ = some (.string (at_ ws 0)) := HW5.out.cell 0 (by omega)
  have x1 : W5.cell? ⟨gb, ob + 1, none⟩ = some (.string (at_ ws 1)) := HW5.out.cell 1 (by omega)
  go_wp2_with fail
  refine (key_ref (at_ ws 1) (hz 1) W5).mono ?_
  rintro e W6 ⟨rfl, hs⟩
  have HW6 := Aside0.mk (HW5.out.below hs)
  have HV6 := Aside0.mk (blk_below HV5.out hs)
  have HB6 := Aside0.mk (below_step HB5.out hs)
  have HT6 := Aside0.mk (blk_below HT5.out hs)
  clear hs HW5 HV5 HB5 HT5
  clear x0 x1
  by_cases hk : keyF (at_ ws 1) = true
  rotate_left
  ·have hk2 := eq_false_of_ne_true hk
   clear hk
   go_wp2_with fail
   refine (bad_ref _ W6).mono ?_
   rintro e W7 ⟨A3, c3, rfl, hl, hC, hs⟩
   have HW7 := Aside0.mk (HW6.out.below hs)
   have HV7 := Aside0.mk (blk_below HV6.out hs)
   have HB7 := Aside0.mk (below_step HB6.out hs)
   clear hs hl hC HT6 HW6 HV6 HB6
   unfold cdV toD
   obtain ⟨r0, r1, r2, r3, r4, r5, r6, r7, r8, r9, r10, r11⟩ := celL HV7.out
   obtain ⟨f0, f1, f2, f3, f4, f5, f6, f7, f8, f9, f10, f11⟩ := froZ HV7.out
   go_wp2_with fail
   refine bodyPost_ret (results_ct rfl _ _ W.heap.size 26 #[.string ⟨#[98, 97, 100]⟩, .string formT, .slice A3 0 c3, .string ez, .int .u32 0, .int .i64 0, .int .u64 0, .int .u64 0, .bool false, .bool false, .bool false, .bool false] (0, 0) _ rfl (putG HV7.out) Tryz.underlying26 rfl (by kernel_rfl)) rfl ?_
   rw [storeQ_bad (.inl hk2)]
   exact ⟨A3, c3, rfl, Nat.zero_le _, C_none A3, below12 HB7.out (Nat.le_refl _) _ _ _ _ _ _ _ _ _ _ _ _, fun h => absurd h (Nat.lt_irrefl 0)⟩
  by_cases ha : (numF (at_ ws 2).data.toList).2 = true
  rotate_left
  ·have hk2 := eq_false_of_ne_true ha
   clear ha
   go_wp2_with fail
   refine (bad_ref _ W6).mono ?_
   rintro e W7 ⟨A3, c3, rfl, hl, hC, hs⟩
   have HW7 := Aside0.mk (HW6.out.below hs)
   have HV7 := Aside0.mk (blk_below HV6.out hs)
   have HB7 := Aside0.mk (below_step HB6.out hs)
   clear hs hl hC HT6 HW6 HV6 HB6
   unfold cdV toD
   obtain ⟨r0, r1, r2, r3, r4, r5, r6, r7, r8, r9, r10, r11⟩ := celL HV7.out
   obtain ⟨f0, f1, f2, f3, f4, f5, f6, f7, f8, f9, f10, f11⟩ := froZ HV7.out
   go_wp2_with fail
   refine bodyPost_ret (results_ct rfl _ _ W.heap.size 26 #[.string ⟨#[98, 97, 100]⟩, .string formT, .slice A3 0 c3, .string ez, .int .u32 0, .int .i64 0, .int .u64 0, .int .u64 0, .bool false, .bool false, .bool false, .bool false] (0, 0) _ rfl (putG HV7.out) Tryz.underlying26 rfl (by kernel_rfl)) rfl ?_
   rw [storeQ_bad (.inr (.inl hk2))]
   exact ⟨A3, c3, rfl, Nat.zero_le _, C_none A3, below12 HB7.out (Nat.le_refl _) _ _ _ _ _ _ _ _ _ _ _ _, fun h => absurd h (Nat.lt_irrefl 0)⟩
  by_cases hf : 4294967295 < (numF (at_ ws 2).data.toList).1
  ·have hk2 := hf
   have hfad : (decide ((4294967296 : Int) ≤ (numF (at_ ws 2).data.toList).1)) = true := decide_eq_true (by omega)
   have hfbd : (decide ((4294967295 : Int) < (numF (at_ ws 2).data.toList).1)) = true := decide_eq_true (by omega)
   have hfae : ((4294967296 : Int) ≤ (numF (at_ ws 2).data.toList).1) = True := eq_true (by omega)
   have hfbe : ((4294967295 : Int) < (numF (at_ ws 2).data.toList).1) = True := eq_true (by omega)
   go_wp2_with fail
   refine (bad_ref _ W6).mono ?_
   rintro e W7 ⟨A3, c3, rfl, hl, hC, hs⟩
   have HW7 := Aside0.mk (HW6.out.below hs)
   have HV7 := Aside0.mk (blk_below HV6.out hs)
   have HB7 := Aside0.mk (below_step HB6.out hs)
   clear hs hl hC HT6 HW6 HV6 HB6
   unfold cdV toD
   obtain ⟨r0, r1, r2, r3, r4, r5, r6, r7, r8, r9, r10, r11⟩ := celL HV7.out
   obtain ⟨f0, f1, f2, f3, f4, f5, f6, f7, f8, f9, f10, f11⟩ := froZ HV7.out
   go_wp2_with fail
   refine bodyPost_ret (results_ct rfl _ _ W.heap.size 26 #[.string ⟨#[98, 97, 100]⟩, .string formT, .slice A3 0 c3, .string ez, .int .u32 0, .int .i64 0, .int .u64 0, .int .u64 0, .bool false, .bool false, .bool false, .bool false] (0, 0) _ rfl (putG HV7.out) Tryz.underlying26 rfl (by kernel_rfl)) rfl ?_
   rw [storeQ_bad (.inr (.inr (.inl hk2)))]
   exact ⟨A3, c3, rfl, Nat.zero_le _, C_none A3, below12 HB7.out (Nat.le_refl _) _ _ _ _ _ _ _ _ _ _ _ _, fun h => absurd h (Nat.lt_irrefl 0)⟩
  have hfad : (decide ((4294967296 : Int) ≤ (numF (at_ ws 2).data.toList).1)) = false := decide_eq_false (by omega)
  have hfbd : (decide ((4294967295 : Int) < (numF (at_ ws 2).data.toList).1)) = false := decide_eq_false (by omega)
  have hfae : ((4294967296 : Int) ≤ (numF (at_ ws 2).data.toList).1) = False := eq_false (by omega)
  have hfbe : ((4294967295 : Int) < (numF (at_ ws 2).data.toList).1) = False := eq_false (by omega)
  by_cases hb : (signF (at_ ws 3).data.toList).2 = true
  rotate_left
  ·have hk2 := eq_false_of_ne_true hb
   clear hb
   go_wp2_with fail
   refine (bad_ref _ W6).mono ?_
   rintro e W7 ⟨A3, c3, rfl, hl, hC, hs⟩
   have HW7 := Aside0.mk (HW6.out.below hs)
   have HV7 := Aside0.mk (blk_below HV6.out hs)
   have HB7 := Aside0.mk (below_step HB6.out hs)
   clear hs hl hC HT6 HW6 HV6 HB6
   unfold cdV toD
   obtain ⟨r0, r1, r2, r3, r4, r5, r6, r7, r8, r9, r10, r11⟩ := celL HV7.out
   obtain ⟨f0, f1, f2, f3, f4, f5, f6, f7, f8, f9, f10, f11⟩ := froZ HV7.out
   go_wp2_with fail
   refine bodyPost_ret (results_ct rfl _ _ W.heap.size 26 #[.string ⟨#[98, 97, 100]⟩, .string formT, .slice A3 0 c3, .string ez, .int .u32 0, .int .i64 0, .int .u64 0, .int .u64 0, .bool false, .bool false, .bool false, .bool false] (0, 0) _ rfl (putG HV7.out) Tryz.underlying26 rfl (by kernel_rfl)) rfl ?_
   rw [storeQ_bad (.inr (.inr (.inr (.inl hk2))))]
   exact ⟨A3, c3, rfl, Nat.zero_le _, C_none A3, below12 HB7.out (Nat.le_refl _) _ _ _ _ _ _ _ _ _ _ _ _, fun h => absurd h (Nat.lt_irrefl 0)⟩
  by_cases hd : (numF (at_ ws 4).data.toList).2 = true
  rotate_left
  ·have hk2 := eq_false_of_ne_true hd
   clear hd
   go_wp2_with fail
   refine (bad_ref _ W6).mono ?_
   rintro e W7 ⟨A3, c3, rfl, hl, hC, hs⟩
   have HW7 := Aside0.mk (HW6.out.below hs)
   have HV7 := Aside0.mk (blk_below HV6.out hs)
   have HB7 := Aside0.mk (below_step HB6.out hs)
   clear hs hl hC HT6 HW6 HV6 HB6
   unfold cdV toD
   obtain ⟨r0, r1, r2, r3, r4, r5, r6, r7, r8, r9, r10, r11⟩ := celL HV7.out
   obtain ⟨f0, f1, f2, f3, f4, f5, f6, f7, f8, f9, f10, f11⟩ := froZ HV7.out
   go_wp2_with fail
   refine bodyPost_ret (results_ct rfl _ _ W.heap.size 26 #[.string ⟨#[98, 97, 100]⟩, .string formT, .slice A3 0 c3, .string ez, .int .u32 0, .int .i64 0, .int .u64 0, .int .u64 0, .bool false, .bool false, .bool false, .bool false] (0, 0) _ rfl (putG HV7.out) Tryz.underlying26 rfl (by kernel_rfl)) rfl ?_
   rw [storeQ_bad (.inr (.inr (.inr (.inr (.inl hk2)))))]
   exact ⟨A3, c3, rfl, Nat.zero_le _, C_none A3, below12 HB7.out (Nat.le_refl _) _ _ _ _ _ _ _ _ _ _ _ _, fun h => absurd h (Nat.lt_irrefl 0)⟩
  by_cases hn : 2147483647 < (numF (at_ ws 4).data.toList).1
  ·have hk2 := hn
   have hnad : (decide ((2147483648 : Int) ≤ (numF (at_ ws 4).data.toList).1)) = true := decide_eq_true (by omega)
   have hnbd : (decide ((2147483647 : Int) < (numF (at_ ws 4).data.toList).1)) = true := decide_eq_true (by omega)
   have hnae : ((2147483648 : Int) ≤ (numF (at_ ws 4).data.toList).1) = True := eq_true (by omega)
   have hnbe : ((2147483647 : Int) < (numF (at_ ws 4).data.toList).1) = True := eq_true (by omega)
   go_wp2_with fail
   refine (bad_ref _ W6).mono ?_
   rintro e W7 ⟨A3, c3, rfl, hl, hC, hs⟩
   have HW7 := Aside0.mk (HW6.out.below hs)
   have HV7 := Aside0.mk (blk_below HV6.out hs)
   have HB7 := Aside0.mk (below_step HB6.out hs)
   clear hs hl hC HT6 HW6 HV6 HB6
   unfold cdV toD
   obtain ⟨r0, r1, r2, r3, r4, r5, r6, r7, r8, r9, r10, r11⟩ := celL HV7.out
   obtain ⟨f0, f1, f2, f3, f4, f5, f6, f7, f8, f9, f10, f11⟩ := froZ HV7.out
   go_wp2_with fail
   refine bodyPost_ret (results_ct rfl _ _ W.heap.size 26 #[.string ⟨#[98, 97, 100]⟩, .string formT, .slice A3 0 c3, .string ez, .int .u32 0, .int .i64 0, .int .u64 0, .int .u64 0, .bool false, .bool false, .bool false, .bool false] (0, 0) _ rfl (putG HV7.out) Tryz.underlying26 rfl (by kernel_rfl)) rfl ?_
   rw [storeQ_bad (.inr (.inr (.inr (.inr (.inr (.inl hk2))))))]
   exact ⟨A3, c3, rfl, Nat.zero_le _, C_none A3, below12 HB7.out (Nat.le_refl _) _ _ _ _ _ _ _ _ _ _ _ _, fun h => absurd h (Nat.lt_irrefl 0)⟩
  have hnad : (decide ((2147483648 : Int) ≤ (numF (at_ ws 4).data.toList).1)) = false := decide_eq_false (by omega)
  have hnbd : (decide ((2147483647 : Int) < (numF (at_ ws 4).data.toList).1)) = false := decide_eq_false (by omega)
  have hnae : ((2147483648 : Int) ≤ (numF (at_ ws 4).data.toList).1) = False := eq_false (by omega)
  have hnbe : ((2147483647 : Int) < (numF (at_ ws 4).data.toList).1) = False := eq_false (by omega)
  obtain ⟨r0, r1, r2, r3, r4, r5, r6, r7, r8, r9, r10, r11⟩ := celL HT6.out
  obtain ⟨f0, f1, f2, f3, f4, f5, f6, f7, f8, f9, f10, f11⟩ := froZ HT6.out
  have hw6 : wrap64 (numF (at_ ws 4).data.toList).1 = (numF (at_ ws 4).data.toList).1 := by have := numF_range (at_ ws 4).data.toList; unfold wrap64; omega
  have hp2 := blk_far (p := ⟨W1.heap.size, 5, none⟩) (blk_far (p := ⟨W1.heap.size, 4, none⟩) HV6.out (Nat.ne_of_lt HL1.out) (.int .u32 ((numF (at_ ws 2).data.toList).1 % 4294967296))) (Nat.ne_of_lt HL1.out) (.int .i64 (signF (at_ ws 3).data.toList).1)
  have hb2 := below_set (j := 5) (v := .int .i64 (signF (at_ ws 3).data.toList).1) (below_set (j := 4) (v := .int .u32 ((numF (at_ ws 2).data.toList).1 % 4294967296)) HB6.out (Nat.le_of_lt HL1.out)) (Nat.le_of_lt HL1.out)
  have HP6 := Aside0.mk hp2
  have HQ6 := Aside0.mk hb2
  clear hp2 hb2
  by_cases hm : 1024 < (numF (at_ ws 4).data.toList).1
  ·have hm1 : ((1024 : Int) < (numF (at_ ws 4).data.toList).1) = True := eq_true hm
   have hm2 : (decide ((1024 : Int) < (numF (at_ ws 4).data.toList).1)) = true := decide_eq_true hm
   go_wp2_with fail
   refine (bad_ref _ _).mono ?_
   rintro e W7 ⟨A3, c3, rfl, hl, hC, hs⟩
   have HV7 := Aside0.mk (blk_below HP6.out hs)
   have HB7 := Aside0.mk (below_step HQ6.out hs)
   clear hs hl hC r0 r1 r2 r3 r4 r5 r6 r7 r8 r9 r10 r11 f0 f1 f2 f3 f4 f5 f6 f7 f8 f9 f10 f11
   unfold cdV toD
   obtain ⟨r0, r1, r2, r3, r4, r5, r6, r7, r8, r9, r10, r11⟩ := celL HV7.out
   obtain ⟨f0, f1, f2, f3, f4, f5, f6, f7, f8, f9, f10, f11⟩ := froZ HV7.out
   go_wp2_with fail
   refine bodyPost_ret (results_ct rfl _ _ W.heap.size 26 #[.string ⟨#[98, 97, 100]⟩, .string largeT, .slice A3 0 c3, .string ez, .int .u32 0, .int .i64 0, .int .u64 0, .int .u64 0, .bool false, .bool false, .bool false, .bool false] (0, 0) _ rfl (putG HV7.out) Tryz.underlying26 rfl (by kernel_rfl)) rfl ?_
   rw [storeQ_large (show 1024 < (numF (at_ ws 4).data.toList).1 by omega) ⟨hk, ha, hb, hd, by omega, by omega, fun z => by cases z⟩]
   exact ⟨A3, c3, rfl, Nat.zero_le _, C_none A3, below12 HB7.out (Nat.le_refl _) _ _ _ _ _ _ _ _ _ _ _ _, fun h => absurd h (Nat.lt_irrefl 0)⟩
  ·have hm1 : ((1024 : Int) < (numF (at_ ws 4).data.toList).1) = False := eq_false hm
   have hm2 : (decide ((1024 : Int) < (numF (at_ ws 4).data.toList).1)) = false := decide_eq_false hm
   obtain ⟨s0, s1, s2, s3, s4, s5, s6, s7, s8, s9, s10, s11⟩ := celL HV6.out
   obtain ⟨u0, u1, u2, u3, u4, u5, u6, u7, u8, u9, u10, u11⟩ := froZ HV6.out
   have hne : ¬ W1.heap.size = W.heap.size := Nat.ne_of_gt HL1.out
   have hne2 : ¬ W.heap.size = W1.heap.size := Nat.ne_of_lt HL1.out
   go_wp2_with fail
   refine bodyPost_ret (results_ct rfl _ _ W.heap.size 26 #[.string ⟨#[115, 116, 111, 114, 101]⟩, .string (at_ ws 0), .slice (some ⟨gb, ob + 1, none⟩) 1 (c - 1), .string ez, .int .u32 ((numF (at_ ws 2).data.toList).1 % 4294967296), .int .i64 (signF (at_ ws 3).data.toList).1, .int .u64 0, .int .u64 0, .bool false, .bool false, .bool false, .bool q] (0, 0) _ rfl (putG HP6.out) Tryz.underlying26 rfl (by kernel_rfl)) rfl ?_
   rw [storeQ_good (show ¬ 1024 < (numF (at_ ws 4).data.toList).1 by omega) ⟨hk, ha, hb, hd, by omega, by omega, fun z => by cases z⟩]
   have hB := below12 HQ6.out (Nat.le_refl _) (.string ⟨#[115, 116, 111, 114, 101]⟩) (.string (at_ ws 0)) (.slice (some ⟨gb, ob + 1, none⟩) 1 (c - 1)) (.string ez) (.int .u32 ((numF (at_ ws 2).data.toList).1 % 4294967296)) (.int .i64 (signF (at_ ws 3).data.toList).1) (.int .u64 0) (.int .u64 0) (.bool false) (.bool false) (.bool false) (.bool q)
   exact ⟨some ⟨gb, ob + 1, none⟩, c - 1, congrArg (fun z => Ending.returned (.tuple #[cdV (toD (.store (at_ ws 0) (at_ ws 1) ⟨#[]⟩ ((numF (at_ ws 2).data.toList).1 % 4294967296) (signF (at_ ws 3).data.toList).1 (0) q)) (.slice (some ⟨gb, ob + 1, none⟩) 1 (c - 1)), .int .i64 z])) hw6, by show 1 ≤ c - 1; omega, (HW0.out.below hB).key (by omega), hB, fun _ => rfl⟩
set_option maxHeartbeats 4000000 in
set_option maxRecDepth 100000 in
theorem ref_store6 (A : Option Addr) (c : Nat) (ws : List ByteArray) (q : Bool) (W : World) (hr : Kd.C Kd.string W A ws.length ws) (hc : ws.length ≤ c) (h3 : 6 ≤ ws.length) (hz : ∀ i, (at_ ws i).size < 100000) (h0 : ((at_ ws 0).toList == ([99, 97, 115] : List UInt8)) = true) :
  Calls Tryz.prog 36 #[.slice A ws.length c, .bool q] W (TellsN A (storeQ ws true q) W) := by
 obtain ⟨gb, ob, hA, hws⟩ := WordsAt.of hr (by omega)
 subst hA
 have hu := Tryz.underlying22
 have hu26 := Tryz.underlying26
 have HW0 := Aside0.mk hws
 clear hws hr
 have b0 : (0 : Int) < (ws.length : Int) := by omega
 have b1 : (1 : Int) < (ws.length : Int) := by omega
 have b2 : (2 : Int) < (ws.length : Int) := by omega
 have b3 : (3 : Int) < (ws.length : Int) := by omega
 have b4 : (4 : Int) < (ws.length : Int) := by omega
 have b5 : (5 : Int) < (ws.length : Int) := by omega
 have b9 : (2 : Int) ≤ (c : Int) := by omega
 have z3 : (0 < ws.length) = True := eq_true (by omega)
 have z4 : 0 < ws.length := by omega
 have d1 : (c = 1) = False := eq_false (by omega)
 have d2 : (1 = c) = False := eq_false (by omega)
 have d3 : (c - 1 = 0) = False := eq_false (by omega)
 have d4 : (2 ≤ c) = True := eq_true (by omega)
 have d5 : decide ((2 : Int) ≤ (c : Int)) = true := decide_eq_true b9
 go_enter Tryz.func36, Tryz.ntmps36
 go_upto_region 1 with (fail)
 refine wp_var ?_
 intro W1 hs hv
 have HW1 := Aside0.mk (HW0.out.below hs)
 have HV1 := Aside0.mk hv
 have HB1 := Aside0.mk hs
 have HL1 := Aside0.mk (blk_lt hv)
 clear hs hv
 have x0 : W1.cell? ⟨gb, ob, none⟩ = some (.string (at_ ws 0)) := HW1.out.cell 0 (by omega)
 have lg := HW1.out.1.1
 have n0 := World.new_ne W1 _ x0
 have hg2 : ¬ gb = W1.heap.size := Nat.ne_of_lt HW1.out.1.1
 go_region_held3 (fun w' => w'.cell? ⟨gb, ob, none⟩ = some (.string (at_ ws 0))) (first | go_keep | ((with_reducible repeat (first | refine far_cell hg2 ?_ | refine drew_cell ?_)); with_reducible assumption)) (fail)
 all_goals
  clear x0 n0 lg
  have x2 : W1.cell? ⟨gb, ob + 2, none⟩ = some (.string (at_ ws 2)) := HW1.out.cell 2 (by omega)
  have n2 := World.new_ne W1 _ x2
  have lg := HW1.out.1.1
  go_wp2_with fail
  refine calls_var_drew ?_
  intro W2 hs hv2
  have HW2 := Aside0.mk (HW1.out.below hs)
  have HV2 := Aside0.mk (blk_below HV1.out hs)
  have HT2 := Aside0.mk hv2
  have HB2 := Aside0.mk (below_step HB1.out hs)
  clear hs hv2 x2 n2 lg hg2 HW1 HV1 HB1
  refine (num_ref (at_ ws 2) W2).mono ?_
  rintro e W3 ⟨rfl, hs⟩
  have HW3 := Aside0.mk (HW2.out.below hs)
  have HV3 := Aside0.mk (blk_below HV2.out hs)
  have HB3 := Aside0.mk (below_step HB2.out hs)
  have HT3 := Aside0.mk (blk_below HT2.out hs)
  clear hs HW2 HV2 HB2 HT2
  have x3 : W3.cell? ⟨gb, ob + 3, none⟩ = some (.string (at_ ws 3)) := HW3.out.cell 3 (by omega)
  go_wp2_with fail
  refine (sign_ref (at_ ws 3) W3).mono ?_
  rintro e W4 ⟨rfl, hs⟩
  have HW4 := Aside0.mk (HW3.out.below hs)
  have HV4 := Aside0.mk (blk_below HV3.out hs)
  have HB4 := Aside0.mk (below_step HB3.out hs)
  have HT4 := Aside0.mk (blk_below HT3.out hs)
  clear hs HW3 HV3 HB3 HT3
  clear x3
  have x4 : W4.cell? ⟨gb, ob + 4, none⟩ = some (.string (at_ ws 4)) := HW4.out.cell 4 (by omega)
  go_wp2_with fail
  refine (num_ref (at_ ws 4) W4).mono ?_
  rintro e W5 ⟨rfl, hs⟩
  have HW5 := Aside0.mk (HW4.out.below hs)
  have HV5 := Aside0.mk (blk_below HV4.out hs)
  have HB5 := Aside0.mk (below_step HB4.out hs)
  have HT5 := Aside0.mk (blk_below HT4.out hs)
  clear hs HW4 HV4 HB4 HT4
  clear x4
  have x0 : W5.cell? ⟨gb, ob, none⟩ = some (.string (at_ ws 0)) := HW5.out.cell 0 (by omega)
  have x5 : W5.cell? ⟨gb, ob + 5, none⟩ = some (.string (at_ ws 5)) := HW5.out.cell 5 (by omega)
  go_wp2_with fail
  refine (num_ref (at_ ws 5) W5).mono ?_
  rintro e W6 ⟨rfl, hs⟩
  have HW6 := Aside0.mk (HW5.out.below hs)
  have HV6 := Aside0.mk (blk_below HV5.out hs)
  have HB6 := Aside0.mk (below_step HB5.out hs)
  have HT6 := Aside0.mk (blk_below HT5.out hs)
  clear hs HW5 HV5 HB5 HT5
  clear x0 x5
  obtain ⟨r0, r1, r2, r3, r4, r5, r6, r7, r8, r9, r10, r11⟩ := celL HT6.out
  obtain ⟨f0, f1, f2, f3, f4, f5, f6, f7, f8, f9, f10, f11⟩ := froZ HT6.out
  have x1 : W6.cell? ⟨gb, ob + 1, none⟩ = some (.string (at_ ws 1)) := HW6.out.cell 1 (by omega)
  have hg1 : ¬ gb = W1.heap.size := Nat.ne_of_lt (Nat.lt_trans HW0.out.1.1 HL1.out)
  have hg2 : ¬ W1.heap.size = gb := fun e => hg1 e.symm
  go_wp2_with fail
  have hv := blk_far (p := ⟨W1.heap.size, 6, none⟩) HV6.out (Nat.ne_of_lt HL1.out) (.int .u64 (numF (at_ ws 5).data.toList).1)
  have hb := below_set (j := 6) (v := .int .u64 (numF (at_ ws 5).data.toList).1) HB6.out (Nat.le_of_lt HL1.out)
  have ht := blk_set HT6.out 6 (.int .u64 (numF (at_ ws 5).data.toList).1)
  clear r0 r1 r2 r3 r4 r5 r6 r7 r8 r9 r10 r11 f0 f1 f2 f3 f4 f5 f6 f7 f8 f9 f10 f11 x1 HW6 HV6 HB6 HT6
  generalize W6.setCell ⟨W1.heap.size, 6, none⟩ (.int .u64 (numF (at_ ws 5).data.toList).1) = W7 at hv hb ht ⊢
  have HW7 := Aside0.mk (HW0.out.below hb)
  have HV7 := Aside0.mk hv
  have HB7 := Aside0.mk hb
  have HT7 := Aside0.mk ht
  clear hv hb ht
  refine (key_ref (at_ ws 1) (hz 1) W7).mono ?_
  rintro e W8 ⟨rfl, hs⟩
  have HW8 := Aside0.mk (HW7.out.below hs)
  have HV8 := Aside0.mk (blk_below HV7.out hs)
  have HB8 := Aside0.mk (below_step HB7.out hs)
  have HT8 := Aside0.mk (blk_below HT7.out hs)
  clear hs HW7 HV7 HB7 HT7
  by_cases hk : keyF (at_ ws 1) = true
  rotate_left
  ·have hk2 := eq_false_of_ne_true hk
   clear hk
   go_wp2_with fail
   refine (bad_ref _ W8).mono ?_
   rintro e W9 ⟨A3, c3, rfl, hl, hC, hs⟩
   have HW9 := Aside0.mk (HW8.out.below hs)
   have HV9 := Aside0.mk (blk_below HV8.out hs)
   have HB9 := Aside0.mk (below_step HB8.out hs)
   clear hs hl hC HT8 HW8 HV8 HB8
   unfold cdV toD
   obtain ⟨r0, r1, r2, r3, r4, r5, r6, r7, r8, r9, r10, r11⟩ := celL HV9.out
   obtain ⟨f0, f1, f2, f3, f4, f5, f6, f7, f8, f9, f10, f11⟩ := froZ HV9.out
   go_wp2_with fail
   refine bodyPost_ret (results_ct rfl _ _ W.heap.size 26 #[.string ⟨#[98, 97, 100]⟩, .string formT, .slice A3 0 c3, .string ez, .int .u32 0, .int .i64 0, .int .u64 0, .int .u64 0, .bool false, .bool false, .bool false, .bool false] (0, 0) _ rfl (putG HV9.out) Tryz.underlying26 rfl (by kernel_rfl)) rfl ?_
   rw [storeQ_bad (.inl hk2)]
   exact ⟨A3, c3, rfl, Nat.zero_le _, C_none A3, below12 HB9.out (Nat.le_refl _) _ _ _ _ _ _ _ _ _ _ _ _, fun h => absurd h (Nat.lt_irrefl 0)⟩
  by_cases ha : (numF (at_ ws 2).data.toList).2 = true
  rotate_left
  ·have hk2 := eq_false_of_ne_true ha
   clear ha
   go_wp2_with fail
   refine (bad_ref _ W8).mono ?_
   rintro e W9 ⟨A3, c3, rfl, hl, hC, hs⟩
   have HW9 := Aside0.mk (HW8.out.below hs)
   have HV9 := Aside0.mk (blk_below HV8.out hs)
   have HB9 := Aside0.mk (below_step HB8.out hs)
   clear hs hl hC HT8 HW8 HV8 HB8
   unfold cdV toD
   obtain ⟨r0, r1, r2, r3, r4, r5, r6, r7, r8, r9, r10, r11⟩ := celL HV9.out
   obtain ⟨f0, f1, f2, f3, f4, f5, f6, f7, f8, f9, f10, f11⟩ := froZ HV9.out
   go_wp2_with fail
   refine bodyPost_ret (results_ct rfl _ _ W.heap.size 26 #[.string ⟨#[98, 97, 100]⟩, .string formT, .slice A3 0 c3, .string ez, .int .u32 0, .int .i64 0, .int .u64 0, .int .u64 0, .bool false, .bool false, .bool false, .bool false] (0, 0) _ rfl (putG HV9.out) Tryz.underlying26 rfl (by kernel_rfl)) rfl ?_
   rw [storeQ_bad (.inr (.inl hk2))]
   exact ⟨A3, c3, rfl, Nat.zero_le _, C_none A3, below12 HB9.out (Nat.le_refl _) _ _ _ _ _ _ _ _ _ _ _ _, fun h => absurd h (Nat.lt_irrefl 0)⟩
  by_cases hf : 4294967295 < (numF (at_ ws 2).data.toList).1
  ·have hk2 := hf
   have hfad : (decide ((4294967296 : Int) ≤ (numF (at_ ws 2).data.toList).1)) = true := decide_eq_true (by omega)
   have hfbd : (decide ((4294967295 : Int) < (numF (at_ ws 2).data.toList).1)) = true := decide_eq_true (by omega)
   have hfae : ((4294967296 : Int) ≤ (numF (at_ ws 2).data.toList).1) = True := eq_true (by omega)
   have hfbe : ((4294967295 : Int) < (numF (at_ ws 2).data.toList).1) = True := eq_true (by omega)
   go_wp2_with fail
   refine (bad_ref _ W8).mono ?_
   rintro e W9 ⟨A3, c3, rfl, hl, hC, hs⟩
   have HW9 := Aside0.mk (HW8.out.below hs)
   have HV9 := Aside0.mk (blk_below HV8.out hs)
   have HB9 := Aside0.mk (below_step HB8.out hs)
   clear hs hl hC HT8 HW8 HV8 HB8
   unfold cdV toD
   obtain ⟨r0, r1, r2, r3, r4, r5, r6, r7, r8, r9, r10, r11⟩ := celL HV9.out
   obtain ⟨f0, f1, f2, f3, f4, f5, f6, f7, f8, f9, f10, f11⟩ := froZ HV9.out
   go_wp2_with fail
   refine bodyPost_ret (results_ct rfl _ _ W.heap.size 26 #[.string ⟨#[98, 97, 100]⟩, .string formT, .slice A3 0 c3, .string ez, .int .u32 0, .int .i64 0, .int .u64 0, .int .u64 0, .bool false, .bool false, .bool false, .bool false] (0, 0) _ rfl (putG HV9.out) Tryz.underlying26 rfl (by kernel_rfl)) rfl ?_
   rw [storeQ_bad (.inr (.inr (.inl hk2)))]
   exact ⟨A3, c3, rfl, Nat.zero_le _, C_none A3, below12 HB9.out (Nat.le_refl _) _ _ _ _ _ _ _ _ _ _ _ _, fun h => absurd h (Nat.lt_irrefl 0)⟩
  have hfad : (decide ((4294967296 : Int) ≤ (numF (at_ ws 2).data.toList).1)) = false := decide_eq_false (by omega)
  have hfbd : (decide ((4294967295 : Int) < (numF (at_ ws 2).data.toList).1)) = false := decide_eq_false (by omega)
  have hfae : ((4294967296 : Int) ≤ (numF (at_ ws 2).data.toList).1) = False := eq_false (by omega)
  have hfbe : ((4294967295 : Int) < (numF (at_ ws 2).data.toList).1) = False := eq_false (by omega)
  by_cases hb : (signF (at_ ws 3).data.toList).2 = true
  rotate_left
  ·have hk2 := eq_false_of_ne_true hb
   clear hb
   go_wp2_with fail
   refine (bad_ref _ W8).mono ?_
   rintro e W9 ⟨A3, c3, rfl, hl, hC, hs⟩
   have HW9 := Aside0.mk (HW8.out.below hs)
   have HV9 := Aside0.mk (blk_below HV8.out hs)
   have HB9 := Aside0.mk (below_step HB8.out hs)
   clear hs hl hC HT8 HW8 HV8 HB8
   unfold cdV toD
   obtain ⟨r0, r1, r2, r3, r4, r5, r6, r7, r8, r9, r10, r11⟩ := celL HV9.out
   obtain ⟨f0, f1, f2, f3, f4, f5, f6, f7, f8, f9, f10, f11⟩ := froZ HV9.out
   go_wp2_with fail
   refine bodyPost_ret (results_ct rfl _ _ W.heap.size 26 #[.string ⟨#[98, 97, 100]⟩, .string formT, .slice A3 0 c3, .string ez, .int .u32 0, .int .i64 0, .int .u64 0, .int .u64 0, .bool false, .bool false, .bool false, .bool false] (0, 0) _ rfl (putG HV9.out) Tryz.underlying26 rfl (by kernel_rfl)) rfl ?_
   rw [storeQ_bad (.inr (.inr (.inr (.inl hk2))))]
   exact ⟨A3, c3, rfl, Nat.zero_le _, C_none A3, below12 HB9.out (Nat.le_refl _) _ _ _ _ _ _ _ _ _ _ _ _, fun h => absurd h (Nat.lt_irrefl 0)⟩
  by_cases hd : (numF (at_ ws 4).data.toList).2 = true
  rotate_left
  ·have hk2 := eq_false_of_ne_true hd
   clear hd
   go_wp2_with fail
   refine (bad_ref _ W8).mono ?_
   rintro e W9 ⟨A3, c3, rfl, hl, hC, hs⟩
   have HW9 := Aside0.mk (HW8.out.below hs)
   have HV9 := Aside0.mk (blk_below HV8.out hs)
   have HB9 := Aside0.mk (below_step HB8.out hs)
   clear hs hl hC HT8 HW8 HV8 HB8
   unfold cdV toD
   obtain ⟨r0, r1, r2, r3, r4, r5, r6, r7, r8, r9, r10, r11⟩ := celL HV9.out
   obtain ⟨f0, f1, f2, f3, f4, f5, f6, f7, f8, f9, f10, f11⟩ := froZ HV9.out
   go_wp2_with fail
   refine bodyPost_ret (results_ct rfl _ _ W.heap.size 26 #[.string ⟨#[98, 97, 100]⟩, .string formT, .slice A3 0 c3, .string ez, .int .u32 0, .int .i64 0, .int .u64 0, .int .u64 0, .bool false, .bool false, .bool false, .bool false] (0, 0) _ rfl (putG HV9.out) Tryz.underlying26 rfl (by kernel_rfl)) rfl ?_
   rw [storeQ_bad (.inr (.inr (.inr (.inr (.inl hk2)))))]
   exact ⟨A3, c3, rfl, Nat.zero_le _, C_none A3, below12 HB9.out (Nat.le_refl _) _ _ _ _ _ _ _ _ _ _ _ _, fun h => absurd h (Nat.lt_irrefl 0)⟩
  by_cases hn : 2147483647 < (numF (at_ ws 4).data.toList).1
  ·have hk2 := hn
   have hnad : (decide ((2147483648 : Int) ≤ (numF (at_ ws 4).data.toList).1)) = true := decide_eq_true (by omega)
   have hnbd : (decide ((2147483647 : Int) < (numF (at_ ws 4).data.toList).1)) = true := decide_eq_true (by omega)
   have hnae : ((2147483648 : Int) ≤ (numF (at_ ws 4).data.toList).1) = True := eq_true (by omega)
   have hnbe : ((2147483647 : Int) < (numF (at_ ws 4).data.toList).1) = True := eq_true (by omega)
   go_wp2_with fail
   refine (bad_ref _ W8).mono ?_
   rintro e W9 ⟨A3, c3, rfl, hl, hC, hs⟩
   have HW9 := Aside0.mk (HW8.out.below hs)
   have HV9 := Aside0.mk (blk_below HV8.out hs)
   have HB9 := Aside0.mk (below_step HB8.out hs)
   clear hs hl hC HT8 HW8 HV8 HB8
   unfold cdV toD
   obtain ⟨r0, r1, r2, r3, r4, r5, r6, r7, r8, r9, r10, r11⟩ := celL HV9.out
   obtain ⟨f0, f1, f2, f3, f4, f5, f6, f7, f8, f9, f10, f11⟩ := froZ HV9.out
   go_wp2_with fail
   refine bodyPost_ret (results_ct rfl _ _ W.heap.size 26 #[.string ⟨#[98, 97, 100]⟩, .string formT, .slice A3 0 c3, .string ez, .int .u32 0, .int .i64 0, .int .u64 0, .int .u64 0, .bool false, .bool false, .bool false, .bool false] (0, 0) _ rfl (putG HV9.out) Tryz.underlying26 rfl (by kernel_rfl)) rfl ?_
   rw [storeQ_bad (.inr (.inr (.inr (.inr (.inr (.inl hk2))))))]
   exact ⟨A3, c3, rfl, Nat.zero_le _, C_none A3, below12 HB9.out (Nat.le_refl _) _ _ _ _ _ _ _ _ _ _ _ _, fun h => absurd h (Nat.lt_irrefl 0)⟩
  have hnad : (decide ((2147483648 : Int) ≤ (numF (at_ ws 4).data.toList).1)) = false := decide_eq_false (by omega)
  have hnbd : (decide ((2147483647 : Int) < (numF (at_ ws 4).data.toList).1)) = false := decide_eq_false (by omega)
  have hnae : ((2147483648 : Int) ≤ (numF (at_ ws 4).data.toList).1) = False := eq_false (by omega)
  have hnbe : ((2147483647 : Int) < (numF (at_ ws 4).data.toList).1) = False := eq_false (by omega)
  by_cases hg : (numF (at_ ws 5).data.toList).2 = true
  rotate_left
  ·have hk2 := eq_false_of_ne_true hg
   clear hg
   go_wp2_with fail
   refine (bad_ref _ W8).mono ?_
   rintro e W9 ⟨A3, c3, rfl, hl, hC, hs⟩
   have HW9 := Aside0.mk (HW8.out.below hs)
   have HV9 := Aside0.mk (blk_below HV8.out hs)
   have HB9 := Aside0.mk (below_step HB8.out hs)
   clear hs hl hC HT8 HW8 HV8 HB8
   unfold cdV toD
   obtain ⟨r0, r1, r2, r3, r4, r5, r6, r7, r8, r9, r10, r11⟩ := celL HV9.out
   obtain ⟨f0, f1, f2, f3, f4, f5, f6, f7, f8, f9, f10, f11⟩ := froZ HV9.out
   go_wp2_with fail
   refine bodyPost_ret (results_ct rfl _ _ W.heap.size 26 #[.string ⟨#[98, 97, 100]⟩, .string formT, .slice A3 0 c3, .string ez, .int .u32 0, .int .i64 0, .int .u64 0, .int .u64 0, .bool false, .bool false, .bool false, .bool false] (0, 0) _ rfl (putG HV9.out) Tryz.underlying26 rfl (by kernel_rfl)) rfl ?_
   rw [storeQ_bad (.inr (.inr (.inr (.inr (.inr (.inr (⟨rfl, hk2⟩)))))))]
   exact ⟨A3, c3, rfl, Nat.zero_le _, C_none A3, below12 HB9.out (Nat.le_refl _) _ _ _ _ _ _ _ _ _ _ _ _, fun h => absurd h (Nat.lt_irrefl 0)⟩
  obtain ⟨r0, r1, r2, r3, r4, r5, r6, r7, r8, r9, r10, r11⟩ := celL HT8.out
  obtain ⟨f0, f1, f2, f3, f4, f5, f6, f7, f8, f9, f10, f11⟩ := froZ HT8.out
  have hw_ : wrap64 (numF (at_ ws 4).data.toList).1 = (numF (at_ ws 4).data.toList).1 := by have := numF_range (at_ ws 4).data.toList; unfold wrap64; omega
  have hp2 := blk_far (p := ⟨W1.heap.size, 5, none⟩) (blk_far (p := ⟨W1.heap.size, 4, none⟩) HV8.out (Nat.ne_of_lt HL1.out) (.int .u32 ((numF (at_ ws 2).data.toList).1 % 4294967296))) (Nat.ne_of_lt HL1.out) (.int .i64 (signF (at_ ws 3).data.toList).1)
  have hb2 := below_set (j := 5) (v := .int .i64 (signF (at_ ws 3).data.toList).1) (below_set (j := 4) (v := .int .u32 ((numF (at_ ws 2).data.toList).1 % 4294967296)) HB8.out (Nat.le_of_lt HL1.out)) (Nat.le_of_lt HL1.out)
  have HP_ := Aside0.mk hp2
  have HQ_ := Aside0.mk hb2
  clear hp2 hb2
  by_cases hm : 1024 < (numF (at_ ws 4).data.toList).1
  ·have hm1 : ((1024 : Int) < (numF (at_ ws 4).data.toList).1) = True := eq_true hm
   have hm2 : (decide ((1024 : Int) < (numF (at_ ws 4).data.toList).1)) = true := decide_eq_true hm
   go_wp2_with fail
   refine (bad_ref _ _).mono ?_
   rintro e W7 ⟨A3, c3, rfl, hl, hC, hs⟩
   have HV7 := Aside0.mk (blk_below HP_.out hs)
   have HB7 := Aside0.mk (below_step HQ_.out hs)
   clear hs hl hC r0 r1 r2 r3 r4 r5 r6 r7 r8 r9 r10 r11 f0 f1 f2 f3 f4 f5 f6 f7 f8 f9 f10 f11
   unfold cdV toD
   obtain ⟨r0, r1, r2, r3, r4, r5, r6, r7, r8, r9, r10, r11⟩ := celL HV7.out
   obtain ⟨f0, f1, f2, f3, f4, f5, f6, f7, f8, f9, f10, f11⟩ := froZ HV7.out
   go_wp2_with fail
   refine bodyPost_ret (results_ct rfl _ _ W.heap.size 26 #[.string ⟨#[98, 97, 100]⟩, .string largeT, .slice A3 0 c3, .string ez, .int .u32 0, .int .i64 0, .int .u64 0, .int .u64 0, .bool false, .bool false, .bool false, .bool false] (0, 0) _ rfl (putG HV7.out) Tryz.underlying26 rfl (by kernel_rfl)) rfl ?_
   rw [storeQ_large (show 1024 < (numF (at_ ws 4).data.toList).1 by omega) ⟨hk, ha, hb, hd, by omega, by omega, fun _ => hg⟩]
   exact ⟨A3, c3, rfl, Nat.zero_le _, C_none A3, below12 HB7.out (Nat.le_refl _) _ _ _ _ _ _ _ _ _ _ _ _, fun h => absurd h (Nat.lt_irrefl 0)⟩
  ·have hm1 : ((1024 : Int) < (numF (at_ ws 4).data.toList).1) = False := eq_false hm
   have hm2 : (decide ((1024 : Int) < (numF (at_ ws 4).data.toList).1)) = false := decide_eq_false hm
   obtain ⟨s0, s1, s2, s3, s4, s5, s6, s7, s8, s9, s10, s11⟩ := celL HV8.out
   obtain ⟨u0, u1, u2, u3, u4, u5, u6, u7, u8, u9, u10, u11⟩ := froZ HV8.out
   have hne : ¬ W1.heap.size = W.heap.size := Nat.ne_of_gt HL1.out
   have hne2 : ¬ W.heap.size = W1.heap.size := Nat.ne_of_lt HL1.out
   go_wp2_with fail
   refine bodyPost_ret (results_ct rfl _ _ W.heap.size 26 #[.string ⟨#[115, 116, 111, 114, 101]⟩, .string (at_ ws 0), .slice (some ⟨gb, ob + 1, none⟩) 1 (c - 1), .string ez, .int .u32 ((numF (at_ ws 2).data.toList).1 % 4294967296), .int .i64 (signF (at_ ws 3).data.toList).1, .int .u64 (numF (at_ ws 5).data.toList).1, .int .u64 0, .bool false, .bool false, .bool false, .bool q] (0, 0) _ rfl (putG HP_.out) Tryz.underlying26 rfl (by kernel_rfl)) rfl ?_
   rw [storeQ_good (show ¬ 1024 < (numF (at_ ws 4).data.toList).1 by omega) ⟨hk, ha, hb, hd, by omega, by omega, fun _ => hg⟩]
   have hB := below12 HQ_.out (Nat.le_refl _) (.string ⟨#[115, 116, 111, 114, 101]⟩) (.string (at_ ws 0)) (.slice (some ⟨gb, ob + 1, none⟩) 1 (c - 1)) (.string ez) (.int .u32 ((numF (at_ ws 2).data.toList).1 % 4294967296)) (.int .i64 (signF (at_ ws 3).data.toList).1) (.int .u64 (numF (at_ ws 5).data.toList).1) (.int .u64 0) (.bool false) (.bool false) (.bool false) (.bool q)
   exact ⟨some ⟨gb, ob + 1, none⟩, c - 1, congrArg (fun z => Ending.returned (.tuple #[cdV (toD (.store (at_ ws 0) (at_ ws 1) ⟨#[]⟩ ((numF (at_ ws 2).data.toList).1 % 4294967296) (signF (at_ ws 3).data.toList).1 ((numF (at_ ws 5).data.toList).1) q)) (.slice (some ⟨gb, ob + 1, none⟩) 1 (c - 1)), .int .i64 z])) hw_, by show 1 ≤ c - 1; omega, (HW0.out.below hB).key (by omega), hB, fun _ => rfl⟩
end Go.Proofs.YtfbhlbchmenloaaGreatDoor.O
end
section
namespace Go.Proofs.YtfbhlbchmenloaaGreatDoor.O
open Go Go.RowKit Go.Proofs.YtfbhlbchmenloaaGreatDoorW.PrintWords Go.Proofs.YtfbhlbchmenloaaGreatDoorW.PrintLast Go.Proofs.YtfbhlbchmenloaaGreatDoorW.PrintMore Go.Proofs.YtfbhlbchmenloaaGreatDoor.H Go.Proofs.YtfbhlbchmenloaaGreatDoor.L Go.Proofs.YtfbhlbchmenloaaGreatDoor.Pure
set_option linter.unusedVariables false
set_option linter.unusedSimpArgs false
def wordsOf (s : ByteArray) : List ByteArray := (wl [] s.data.toList).map ba
theorem wl_sz : ∀ (l acc : List UInt8), ∀ x ∈ wl acc l, x.length ≤ acc.length + l.length
 | [], acc, x, h => by
  unfold wl at h
  split at h
  ·cases h
  ·rw [List.mem_singleton] at h
   rw [h]
   exact Nat.le_refl _
 | c :: r, acc, x, h => by
  unfold wl at h
  have h1 := wl_sz r []
  have h2 := wl_sz r (acc ++ [c])
  rw [List.length_cons]
  rw [List.length_append, List.length_singleton] at h2
  rw [List.length_nil] at h1
  split at h
  ·split at h
   ·have := h1 x h; omega
   ·rcases List.mem_cons.1 h with h | h
    ·rw [h]; omega
    ·have := h1 x h; omega
  ·have := h2 x h; omega
theorem words_z {s : ByteArray} {ws : List ByteArray} (hws : wordsOf s = ws) (hs : s.size < 100000) (i : Nat) : (at_ ws i).size < 100000 := by
 subst hws
 unfold at_
 by_cases h : i < (wordsOf s).length
 ·rw [List.getD_eq_getElem?_getD, List.getElem?_eq_getElem h]
  have hm := List.getElem_mem h
  generalize (wordsOf s)[i] = y at hm
  unfold wordsOf at hm
  obtain ⟨x, hx, rfl⟩ := List.mem_map.1 hm
  have h1 := wl_sz _ _ x hx
  have h2 : (ba x).size = x.length := by simp [ba, ByteArray.size]
  have h3 := len_eq s
  rw [List.length_nil] at h1
  show (ba x).size < 100000
  omega
 ·rw [List.getD_eq_getElem?_getD, List.getElem?_eq_none (by omega)]
  exact (by decide : (0 : Nat) < 100000)
theorem words_n {s : ByteArray} {ws : List ByteArray} (hws : wordsOf s = ws) (hs : s.size < 100000) : ws.length < 100000 := by
 subst hws
 have h := wl_len s.data.toList []
 have h3 := len_eq s
 rw [List.length_nil] at h
 unfold wordsOf
 rw [List.length_map]
 omega
theorem split_ref (s : ByteArray) (ws : List ByteArray) (hws : wordsOf s = ws) (hs : s.size < 100000) (w : World) : Calls Tryz.prog 30 #[.string s] w fun e w' => ∃ A c, e = .returned (.slice A ws.length c) ∧ ws.length ≤ c ∧ Kd.C Kd.string w' A ws.length ws ∧ Below w.heap.size w w' ∧ ∀ ad, A = some ad → w.heap.size ≤ ad.block := by
 subst hws
 obtain ⟨k, h⟩ := (evRefSplit s (by omega)).rounds
 refine (cellaretref1_Split.calls k s _ w h).mono ?_
 rintro e w' ⟨v, rfl, hr, hb⟩
 obtain ⟨A, c, ev⟩ := Kd.R_slice hr
 subst ev
 exact ⟨A, c, rfl, (Kd.R_reads' hr).2.1, (Kd.R_reads' hr).2.2, hb, fun ad h => Kd.R_base hr ad.block (by rw [h]; rfl)⟩
theorem verb_f (s : ByteArray) : cellaretref18_verb.f s = some (decide (isStoreW s)) := by
 unfold cellaretref18_verb.f
 simp only [eq_tl s setW _ (tl _), eq_tl s addW _ (tl _), eq_tl s replaceW _ (tl _), eq_tl s appendW _ (tl _), eq_tl s prependW _ (tl _), beq_tl s casW _ (tl _)]
 by_cases h1 : s = setW
 ·rw [if_pos h1, decide_eq_true (show isStoreW s from .inl h1)]
 ·by_cases h2 : s = addW
  ·rw [if_neg h1, if_pos h2, decide_eq_true (show isStoreW s from .inr (.inl h2))]
  ·by_cases h3 : s = replaceW
   ·rw [if_neg h1, if_neg h2, if_pos h3, decide_eq_true (show isStoreW s from .inr (.inr (.inl h3)))]
   ·by_cases h4 : s = appendW
    ·rw [if_neg h1, if_neg h2, if_neg h3, if_pos h4, decide_eq_true (show isStoreW s from .inr (.inr (.inr (.inl h4))))]
    ·by_cases h5 : s = prependW
     ·rw [if_neg h1, if_neg h2, if_neg h3, if_neg h4, if_pos h5, decide_eq_true (show isStoreW s from .inr (.inr (.inr (.inr (.inl h5)))))]
     ·rw [if_neg h1, if_neg h2, if_neg h3, if_neg h4, if_neg h5]
      by_cases h6 : s = casW
      ·rw [decide_eq_true h6, decide_eq_true (show isStoreW s from .inr (.inr (.inr (.inr (.inr h6)))))]
      ·rw [decide_eq_false h6, decide_eq_false (show ¬ isStoreW s from fun e => e.elim h1 fun e => e.elim h2 fun e => e.elim h3 fun e => e.elim h4 fun e => e.elim h5 h6)]
theorem verb_ref (s : ByteArray) (b : Bool) (hb : decide (isStoreW s) = b) (w : World) : Calls Tryz.prog 27 #[.string s] w fun e w' => e = .returned (.bool b) ∧ Below w.heap.size w w' := by
 subst hb
 exact (cellaretref18_verb.calls s _ w (verb_f s)).mono fun e w' h => ⟨h.1, h.2.below⟩
theorem C_put {W : World} {g n : Nat} {A : Option Addr} {ks : List ByteArray} (h : Kd.C Kd.string W A n ks) (hf : 0 < n → A.map (·.block) ≠ some g) (j : Nat) (v : Value) : Kd.C Kd.string (W.setCell ⟨g, j, none⟩ v) A n ks := by
 refine ⟨h.1, h.2.1, fun hn => ?_⟩
 obtain ⟨ad, hA, hc⟩ := h.2.2 hn
 have hne : ad.block ≠ g := fun e => hf hn (by rw [hA, ← e]; rfl)
 refine ⟨ad, hA, fun j p hj => ?_⟩
 obtain ⟨c, h1, h2, h3⟩ := hc j p hj
 exact ⟨c, h1, h2, fun i u hu => far_cell (by rw [add_block]; exact hne) (h3 i u hu)⟩
theorem C_put12 {W : World} {g n : Nat} {A : Option Addr} {ks : List ByteArray} (h : Kd.C Kd.string W A n ks) (hf : 0 < n → A.map (·.block) ≠ some g) (v0 v1 v2 v3 v4 v5 v6 v7 v8 v9 v10 v11 : Value) : Kd.C Kd.string ((((((((((((W.setCell ⟨g, 0, none⟩ v0).setCell ⟨g, 1, none⟩ v1).setCell ⟨g, 2, none⟩ v2).setCell ⟨g, 3, none⟩ v3).setCell ⟨g, 4, none⟩ v4).setCell ⟨g, 5, none⟩ v5).setCell ⟨g, 6, none⟩ v6).setCell ⟨g, 7, none⟩ v7).setCell ⟨g, 8, none⟩ v8).setCell ⟨g, 9, none⟩ v9).setCell ⟨g, 10, none⟩ v10).setCell ⟨g, 11, none⟩ v11) A n ks :=
 C_put (C_put (C_put (C_put (C_put (C_put (C_put (C_put (C_put (C_put (C_put (C_put h hf 0 v0) hf 1 v1) hf 2 v2) hf 3 v3) hf 4 v4) hf 5 v5) hf 6 v6) hf 7 v7) hf 8 v8) hf 9 v9) hf 10 v10) hf 11 v11
/-- A command, one with keys perhaps, and a number are handed back. -/
def TellsX (p : Cx × Int) (W : World) (e : Ending) (w' : World) : Prop := ∃ A c, e = .returned (.tuple #[cdV (toX p.1) (.slice A (toX p.1).keys.length c), .int .i64 p.2]) ∧ (toX p.1).keys.length ≤ c ∧ Kd.C Kd.string w' A (toX p.1).keys.length (toX p.1).keys ∧ Below W.heap.size W w'
/-- The same, of a command's own letters. -/
def TellsC (d : Cd) (n : Int) (W : World) (e : Ending) (w' : World) : Prop := ∃ A c, e = .returned (.tuple #[cdV d (.slice A d.keys.length c), .int .i64 n]) ∧ d.keys.length ≤ c ∧ Kd.C Kd.string w' A d.keys.length d.keys ∧ Below W.heap.size W w'
def TellsM (A0 : Option Addr) (d : Cd) (n : Int) (W : World) (e : Ending) (w' : World) : Prop := ∃ A c, e = .returned (.tuple #[cdV d (.slice A d.keys.length c), .int .i64 n]) ∧ d.keys.length ≤ c ∧ Kd.C Kd.string w' A d.keys.length d.keys ∧ Below W.heap.size W w' ∧ (0 < d.keys.length → A.map (·.block) = A0.map (·.block))
theorem store_as {P : Program} {f : FuncId} {args : Array Value} {A0 : Option Addr} {p : Cm × Int} {d : Cd} {n : Int} {W : World} (h : Calls P f args W (TellsN A0 p W)) (hd : toD p.1 = d) (hn : p.2 = n) : Calls P f args W (TellsM A0 d n W) := by
 subst hd
 subst hn
 exact h
theorem bad_refA (A0 : Option Addr) (t : ByteArray) (d : Cd) (hd : toD (.bad t) = d) (w : World) : Calls Tryz.prog 31 #[.string t] w (TellsA A0 d w) := by
 subst hd
 refine (bad_ref t w).mono ?_
 rintro e w' ⟨A, c, he, hl, hC, hb⟩
 exact ⟨A, c, he, hl, hC, hb, fun h => absurd h (Nat.lt_irrefl 0)⟩
/-! What the walks of One share. -/
theorem eqT {n : Nat} {k : Int} (h : (n : Int) = k) : (((n : Int) = k) = True) ∧ decide ((n : Int) = k) = true ∧ ((n : Int) == k) = true := ⟨eq_true h, decide_eq_true h, beq_iff_eq.mpr h⟩
theorem eqF {n : Nat} {k : Int} (h : ¬ (n : Int) = k) : (((n : Int) = k) = False) ∧ decide ((n : Int) = k) = false ∧ ((n : Int) == k) = false := ⟨eq_false h, decide_eq_false h, beq_eq_false_iff_ne.mpr h⟩
theorem geT {n : Nat} {k : Int} (h : k ≤ (n : Int)) : ((k ≤ (n : Int)) = True) ∧ decide (k ≤ (n : Int)) = true := ⟨eq_true h, decide_eq_true h⟩
theorem geF {n : Nat} {k : Int} (h : ¬ k ≤ (n : Int)) : ((k ≤ (n : Int)) = False) ∧ decide (k ≤ (n : Int)) = false := ⟨eq_false h, decide_eq_false h⟩
theorem cut1 {c n : Nat} (h : 2 ≤ n) (hc : n ≤ c) : ((c = 1) = False) ∧ ((1 = c) = False) ∧ ((c - 1 = 0) = False) ∧ ((1 ≤ n) = True) ∧ ((2 ≤ n) = True) ∧ ((2 ≤ c) = True) ∧ ((1 : Int) ≤ (n : Int)) ∧ decide ((1 : Int) ≤ (n : Int)) = true ∧ ((2 : Int) ≤ (c : Int)) ∧ decide ((2 : Int) ≤ (c : Int)) = true ∧ ((1 : Int) < (n : Int)) :=
 ⟨eq_false (by omega), eq_false (by omega), eq_false (by omega), eq_true (by omega), eq_true h, eq_true (by omega), by omega, decide_eq_true (by omega), by omega, decide_eq_true (by omega), by omega⟩
theorem base_n {n : Nat} (h : 0 < n) (hn : n < 100000) : (0 : Int) < (n : Int) ∧ ((n : Int) = 0) = False ∧ decide ((n : Int) = 0) = false ∧ ((n : Int) == 0) = false ∧ wrap64 ((n : Int) - 1) = (n : Int) - 1 ∧ (0 : Int) ≤ (n : Int) - 1 ∧ (n : Int) - 1 < (n : Int) ∧ ((n : Int) - 1).toNat = n - 1 ∧ ((0 < n) = True) :=
 ⟨by omega, eq_false (by omega), decide_eq_false (by omega), beq_eq_false_iff_ne.mpr (by omega), by unfold wrap64; omega, by omega, by omega, by omega, eq_true h⟩
abbrev zcs : Array Value := #[.string ⟨#[]⟩, .string ⟨#[]⟩, .slice none 0 0, .string ⟨#[]⟩, .int .u32 0, .int .i64 0, .int .u64 0, .int .u64 0, .bool false, .bool false, .bool false, .bool false]
theorem one_front {s : ByteArray} {ws : List ByteArray} {W : World} {K : Ending → World → Prop} (hws : wordsOf s = ws) (hsz : s.size < 100000) (hn0 : 0 < ws.length)
  (h : ∀ (gb ob c : Nat) (W2 : World), ws.length ≤ c → Aside0 (Kd.C Kd.string W2 (some ⟨gb, ob, none⟩) ws.length ws) → Aside0 (WordsAt W2 gb ob ws) → Aside0 (W2.heap[W.heap.size]? = some (.cells zcs 26 (0, 0))) → Aside0 (Below W.heap.size W W2) → ¬ gb = W.heap.size → W2.cell? ⟨gb, ob, none⟩ = some (.string (at_ ws 0)) → W2.cell? ⟨gb, ob + (ws.length - 1), none⟩ = some (.string (at_ ws (ws.length - 1))) → K (.returned (.slice (some ⟨gb, ob, none⟩) ws.length c)) W2) :
  Calls Tryz.prog 30 #[.string s] (W.alloc (.cells zcs 26)) K := by
 refine calls_var ?_
 intro W1 hs hv
 have hG := blk_lt hv
 refine (split_ref s ws hws hsz W1).mono ?_
 rintro e W2 ⟨A, c, rfl, hc, hC, hb, hbase⟩
 obtain ⟨gb, ob, hA, hWA⟩ := WordsAt.of hC hn0
 subst hA
 exact h gb ob c W2 hc ⟨hC⟩ ⟨hWA⟩ ⟨blk_below hv hb⟩ ⟨below_step hs hb⟩ (Nat.ne_of_gt (Nat.lt_of_lt_of_le hG (hbase _ rfl))) (hWA.cell 0 hn0) (hWA.cell (ws.length - 1) (by omega))
theorem tells_put {d : Cd} {n : Int} {W W3 : World} {A3 : Option Addr} {c3 gb ob : Nat} (hl : d.keys.length ≤ c3) (hC : Kd.C Kd.string W3 A3 d.keys.length d.keys) (hA : 0 < d.keys.length → A3.map (·.block) = (some (⟨gb, ob, none⟩ : Addr)).map (·.block)) (hg : ¬ gb = W.heap.size) (hB : Aside0 (Below W.heap.size W W3)) {v0 v1 v2 v3 v4 v5 v6 v7 v8 v9 v10 v11 : Value} :
  TellsC d n W (.returned (.tuple #[cdV d (.slice A3 d.keys.length c3), .int .i64 n])) ((((((((((((W3.setCell ⟨W.heap.size, 0, none⟩ v0).setCell ⟨W.heap.size, 1, none⟩ v1).setCell ⟨W.heap.size, 2, none⟩ v2).setCell ⟨W.heap.size, 3, none⟩ v3).setCell ⟨W.heap.size, 4, none⟩ v4).setCell ⟨W.heap.size, 5, none⟩ v5).setCell ⟨W.heap.size, 6, none⟩ v6).setCell ⟨W.heap.size, 7, none⟩ v7).setCell ⟨W.heap.size, 8, none⟩ v8).setCell ⟨W.heap.size, 9, none⟩ v9).setCell ⟨W.heap.size, 10, none⟩ v10).setCell ⟨W.heap.size, 11, none⟩ v11) :=
 ⟨A3, c3, rfl, hl, C_put12 hC (fun h => by rw [hA h]; exact fun e => hg (Option.some.inj e)) _ _ _ _ _ _ _ _ _ _ _ _, below12 hB.out (Nat.le_refl _) _ _ _ _ _ _ _ _ _ _ _ _⟩
theorem at_lt {ws : List ByteArray} {w : ByteArray} (h : at_ ws 0 = w) (hw : w ≠ ByteArray.empty) : 0 < ws.length := by
 match ws with
 | [] => exact absurd h.symm hw
 | a :: r => exact Nat.succ_pos _
theorem ref_getN (A : Option Addr) (c n : Nat) (ks : List ByteArray) (hn : ks.length = n) (ca : Bool) (W : World) (hr : Kd.C Kd.string W A n ks) (hc : n ≤ c) (h3 : 1 ≤ n) (hz : ∀ x ∈ ks, x.size < 100000) (hk : n < 1000000) :
  Calls Tryz.prog 32 #[.slice A n c, .bool ca] W (TellsA A (toX (getX ks ca false (0, true))) W) := by
 subst hn
 exact ref_get A c ks ca W hr hc h3 hz hk
end Go.Proofs.YtfbhlbchmenloaaGreatDoor.O
end
section
namespace Go.Proofs.YtfbhlbchmenloaaGreatDoor.O
open Go Go.RowKit Go.Proofs.YtfbhlbchmenloaaGreatDoorW.PrintWords Go.Proofs.YtfbhlbchmenloaaGreatDoorW.PrintLast Go.Proofs.YtfbhlbchmenloaaGreatDoorW.PrintMore Go.Proofs.YtfbhlbchmenloaaGreatDoor.H Go.Proofs.YtfbhlbchmenloaaGreatDoor.L Go.Proofs.YtfbhlbchmenloaaGreatDoor.Pure
set_option linter.unusedVariables false
set_option linter.unusedSimpArgs false
set_option maxHeartbeats 2000000 in
set_option maxRecDepth 100000 in
theorem one_get (s : ByteArray) (ws : List ByteArray) (W : World) (hws : wordsOf s = ws) (hsz : s.size < 100000) (h0 : at_ ws 0 = getW) (h2 : 2 ≤ ws.length) (d : Cd) (hd : toX (getX (ws.drop 1) false false (0, true)) = d) :
  Calls Tryz.prog 19 #[.string s] W (TellsC d (-1) W) := by
 obtain ⟨q0a, q0b⟩ := geT (n := ws.length) (k := 2) (by omega)
 have hn0 := at_lt h0 (by decide)
 have hz := words_z hws hsz
 have hk := words_n hws hsz
 have hu := Tryz.underlying22
 have hu26 := Tryz.underlying26
 obtain ⟨b0, b1, b2, b2c, b3, b4, b5, b6, z3⟩ := base_n hn0 hk
 go_enter Tryz.func19, Tryz.ntmps19
 go_wp2_with fail
 refine one_front hws hsz hn0 ?_
 intro gb ob c W2 hc HC2 HW2 HV2 HB2 hg2 x0 xl
 rw [h0] at x0
 obtain ⟨d1, d2, d3, d4, d5, d6, d7, d8, d9, d10, d11⟩ := cut1 (n := ws.length) (c := c) (by omega) hc
 go_wp2_with fail
 go_region_held3 (fun w' => w'.cell? ⟨gb, ob, none⟩ = some (.string ⟨#[103, 101, 116]⟩)) (((with_reducible repeat (first | refine far_cell hg2 ?_ | refine drew_cell ?_)); with_reducible assumption)) ((go_at_call 32; have ct := ref_getN (some ⟨gb, ob + 1, none⟩) (c - 1) (ws.length - 1) (ws.drop 1) (List.length_drop ..) false W2.drew ((HW2.out.below (below_drew1 (Below.refl _ _))).drop 1) (by omega) (by omega) (drop_z hz 1) (by omega); rw [hd] at ct; refine ct.mono ?_; rintro e W3 ⟨A3, c3, rfl, hl, hC, hs, hA3⟩; have HV3 := Aside0.mk (blk_below (blk_drew HV2.out) hs); have HB3 := Aside0.mk (below_step (below_drew1 HB2.out) hs); have y0 : W3.cell? ⟨gb, ob, none⟩ = some (.string ⟨#[103, 101, 116]⟩) := (by have y := ((HW2.out.below (below_drew1 (Below.refl _ _))).below hs).cell 0 hn0; rw [h0] at y; exact y); have rr := celL HV3.out; have ff := froZ HV3.out; unfold cdV))
 go_wp2_with fail
 refine bodyPost_ret (results_ct rfl _ _ W.heap.size 26 _ (0, 0) _ rfl (putG HV3.out) Tryz.underlying26 rfl (by kernel_rfl)) rfl ?_
 exact tells_put hl hC hA3 hg2 HB3
set_option maxHeartbeats 2000000 in
set_option maxRecDepth 100000 in
theorem one_gats (s : ByteArray) (ws : List ByteArray) (W : World) (hws : wordsOf s = ws) (hsz : s.size < 100000) (h0 : at_ ws 0 = gatsW) (h2 : 3 ≤ ws.length) (d : Cd) (hd : toX (getX (ws.drop 2) (decide (at_ ws 0 = gatsW)) true (signF (at_ ws 1).data.toList)) = d) :
  Calls Tryz.prog 19 #[.string s] W (TellsC d (-1) W) := by
 obtain ⟨q0a, q0b⟩ := geT (n := ws.length) (k := 3) (by omega)
 have hn0 := at_lt h0 (by decide)
 have hz := words_z hws hsz
 have hk := words_n hws hsz
 have hu := Tryz.underlying22
 have hu26 := Tryz.underlying26
 obtain ⟨b0, b1, b2, b2c, b3, b4, b5, b6, z3⟩ := base_n hn0 hk
 go_enter Tryz.func19, Tryz.ntmps19
 go_wp2_with fail
 refine one_front hws hsz hn0 ?_
 intro gb ob c W2 hc HC2 HW2 HV2 HB2 hg2 x0 xl
 rw [h0] at x0
 obtain ⟨d1, d2, d3, d4, d5, d6, d7, d8, d9, d10, d11⟩ := cut1 (n := ws.length) (c := c) (by omega) hc
 go_wp2_with fail
 have ct := ref_gat (some ⟨gb, ob, none⟩) c ws W2 HC2.out hc (by omega) hz (by omega)
 rw [hd] at ct
 refine ct.mono ?_
 rintro e W3 ⟨A3, c3, rfl, hl, hC, hs, hA3⟩
 have HV3 := Aside0.mk (blk_below HV2.out hs)
 have HB3 := Aside0.mk (below_step HB2.out hs)
 have rr := celL HV3.out
 have ff := froZ HV3.out
 unfold cdV
 go_wp2_with fail
 refine bodyPost_ret (results_ct rfl _ _ W.heap.size 26 _ (0, 0) _ rfl (putG HV3.out) Tryz.underlying26 rfl (by kernel_rfl)) rfl ?_
 exact tells_put hl hC hA3 hg2 HB3
set_option maxHeartbeats 2000000 in
set_option maxRecDepth 100000 in
theorem one_decr_false (s : ByteArray) (ws : List ByteArray) (W : World) (hws : wordsOf s = ws) (hsz : s.size < 100000) (h0 : at_ ws 0 = decrW) (h2 : ws.length = 3) (d : Cd) (hd : toD (arithC ws false) = d) :
  Calls Tryz.prog 19 #[.string s] W (TellsC d (-1) W) := by
 obtain ⟨q0a, q0b, q0c⟩ := eqT (n := ws.length) (k := 3) (by omega)
 obtain ⟨q1a, q1b, q1c⟩ := eqF (n := ws.length) (k := 4) (by omega)
 have h3 : 3 ≤ ws.length := by omega
 clear h2
 have hn0 := at_lt h0 (by decide)
 have hz := words_z hws hsz
 have hk := words_n hws hsz
 have hu := Tryz.underlying22
 have hu26 := Tryz.underlying26
 obtain ⟨b0, b1, b2, b2c, b3, b4, b5, b6, z3⟩ := base_n hn0 hk
 go_enter Tryz.func19, Tryz.ntmps19
 go_wp2_with fail
 refine one_front hws hsz hn0 ?_
 intro gb ob c W2 hc HC2 HW2 HV2 HB2 hg2 x0 xl
 rw [h0] at x0
 go_wp2_with fail
 have ct := ref_arith (some ⟨gb, ob, none⟩) c ws false W2 HC2.out hc (by omega) hz
 rw [hd] at ct
 refine ct.mono ?_
 rintro e W3 ⟨A3, c3, rfl, hl, hC, hs, hA3⟩
 have HV3 := Aside0.mk (blk_below HV2.out hs)
 have HB3 := Aside0.mk (below_step HB2.out hs)
 have rr := celL HV3.out
 have ff := froZ HV3.out
 unfold cdV
 go_wp2_with fail
 refine bodyPost_ret (results_ct rfl _ _ W.heap.size 26 _ (0, 0) _ rfl (putG HV3.out) Tryz.underlying26 rfl (by kernel_rfl)) rfl ?_
 exact tells_put hl hC hA3 hg2 HB3
set_option maxHeartbeats 2000000 in
set_option maxRecDepth 100000 in
theorem one_touch_true (s : ByteArray) (ws : List ByteArray) (W : World) (hws : wordsOf s = ws) (hsz : s.size < 100000) (h0 : at_ ws 0 = touchW) (h2 : ws.length = 4) (hl0 : at_ ws (ws.length - 1) = noreplyW) (d : Cd) (hd : toD (touchC ws true) = d) :
  Calls Tryz.prog 19 #[.string s] W (TellsC d (-1) W) := by
 obtain ⟨q0a, q0b, q0c⟩ := eqF (n := ws.length) (k := 3) (by omega)
 obtain ⟨q1a, q1b, q1c⟩ := eqT (n := ws.length) (k := 4) (by omega)
 have h3 : 3 ≤ ws.length := by omega
 clear h2
 have hn0 := at_lt h0 (by decide)
 have hz := words_z hws hsz
 have hk := words_n hws hsz
 have hu := Tryz.underlying22
 have hu26 := Tryz.underlying26
 obtain ⟨b0, b1, b2, b2c, b3, b4, b5, b6, z3⟩ := base_n hn0 hk
 go_enter Tryz.func19, Tryz.ntmps19
 go_wp2_with fail
 refine one_front hws hsz hn0 ?_
 intro gb ob c W2 hc HC2 HW2 HV2 HB2 hg2 x0 xl
 rw [h0] at x0
 rw [hl0] at xl
 go_wp2_with fail
 have ct := ref_touch (some ⟨gb, ob, none⟩) c ws true W2 HC2.out hc (by omega) hz
 rw [hd] at ct
 refine ct.mono ?_
 rintro e W3 ⟨A3, c3, rfl, hl, hC, hs, hA3⟩
 have HV3 := Aside0.mk (blk_below HV2.out hs)
 have HB3 := Aside0.mk (below_step HB2.out hs)
 have rr := celL HV3.out
 have ff := froZ HV3.out
 unfold cdV
 go_wp2_with fail
 refine bodyPost_ret (results_ct rfl _ _ W.heap.size 26 _ (0, 0) _ rfl (putG HV3.out) Tryz.underlying26 rfl (by kernel_rfl)) rfl ?_
 exact tells_put hl hC hA3 hg2 HB3
set_option maxHeartbeats 2000000 in
set_option maxRecDepth 100000 in
theorem one_gat_bad (s : ByteArray) (ws : List ByteArray) (W : World) (hws : wordsOf s = ws) (hsz : s.size < 100000) (h0 : at_ ws 0 = gatW) (h2 : ¬ 3 ≤ ws.length) (d : Cd) (hd : toD (.bad errT) = d) :
  Calls Tryz.prog 19 #[.string s] W (TellsC d (-1) W) := by
 obtain ⟨q0a, q0b⟩ := geF (n := ws.length) (k := 3) (by omega)
 have hn0 := at_lt h0 (by decide)
 have hz := words_z hws hsz
 have hk := words_n hws hsz
 have hu := Tryz.underlying22
 have hu26 := Tryz.underlying26
 obtain ⟨b0, b1, b2, b2c, b3, b4, b5, b6, z3⟩ := base_n hn0 hk
 go_enter Tryz.func19, Tryz.ntmps19
 go_wp2_with fail
 refine one_front hws hsz hn0 ?_
 intro gb ob c W2 hc HC2 HW2 HV2 HB2 hg2 x0 xl
 rw [h0] at x0
 go_wp2_with fail
 refine (verb_ref _ false (by decide) W2).mono ?_
 rintro e W4 ⟨rfl, hs⟩
 have HV4 := Aside0.mk (blk_below HV2.out hs)
 have HB4 := Aside0.mk (below_step HB2.out hs)
 clear hs
 go_wp2_with fail
 refine (bad_refA (some ⟨gb, ob, none⟩) errT d hd W4).mono ?_
 rintro e W3 ⟨A3, c3, rfl, hl, hC, hs, hA3⟩
 have HV3 := Aside0.mk (blk_below HV4.out hs)
 have HB3 := Aside0.mk (below_step HB4.out hs)
 have rr := celL HV3.out
 have ff := froZ HV3.out
 unfold cdV
 go_wp2_with fail
 refine bodyPost_ret (results_ct rfl _ _ W.heap.size 26 _ (0, 0) _ rfl (putG HV3.out) Tryz.underlying26 rfl (by kernel_rfl)) rfl ?_
 exact tells_put hl hC hA3 hg2 HB3
set_option maxHeartbeats 2000000 in
set_option maxRecDepth 100000 in
theorem one_incr_bad2 (s : ByteArray) (ws : List ByteArray) (W : World) (hws : wordsOf s = ws) (hsz : s.size < 100000) (h0 : at_ ws 0 = incrW) (h4 : ws.length = 4) (hl0 : (at_ ws (ws.length - 1)).toList ≠ [110, 111, 114, 101, 112, 108, 121]) (d : Cd) (hd : toD (.bad errT) = d) :
  Calls Tryz.prog 19 #[.string s] W (TellsC d (-1) W) := by
 obtain ⟨q0a, q0b, q0c⟩ := eqF (n := ws.length) (k := 3) (by omega)
 obtain ⟨q1a, q1b, q1c⟩ := eqT (n := ws.length) (k := 4) (by omega)
 clear h4
 have hn0 := at_lt h0 (by decide)
 have hz := words_z hws hsz
 have hk := words_n hws hsz
 have hu := Tryz.underlying22
 have hu26 := Tryz.underlying26
 obtain ⟨b0, b1, b2, b2c, b3, b4, b5, b6, z3⟩ := base_n hn0 hk
 go_enter Tryz.func19, Tryz.ntmps19
 go_wp2_with fail
 refine one_front hws hsz hn0 ?_
 intro gb ob c W2 hc HC2 HW2 HV2 HB2 hg2 x0 xl
 rw [h0] at x0
 have hn0 : ((at_ ws (ws.length - 1)).toList == [110, 111, 114, 101, 112, 108, 121]) = false := beq_eq_false_iff_ne.mpr hl0
 go_wp2_with fail
 refine (verb_ref _ false (by decide) W2).mono ?_
 rintro e W4 ⟨rfl, hs⟩
 have HV4 := Aside0.mk (blk_below HV2.out hs)
 have HB4 := Aside0.mk (below_step HB2.out hs)
 clear hs
 go_wp2_with fail
 refine (bad_refA (some ⟨gb, ob, none⟩) errT d hd W4).mono ?_
 rintro e W3 ⟨A3, c3, rfl, hl, hC, hs, hA3⟩
 have HV3 := Aside0.mk (blk_below HV4.out hs)
 have HB3 := Aside0.mk (below_step HB4.out hs)
 have rr := celL HV3.out
 have ff := froZ HV3.out
 unfold cdV
 go_wp2_with fail
 refine bodyPost_ret (results_ct rfl _ _ W.heap.size 26 _ (0, 0) _ rfl (putG HV3.out) Tryz.underlying26 rfl (by kernel_rfl)) rfl ?_
 exact tells_put hl hC hA3 hg2 HB3
set_option maxHeartbeats 2000000 in
set_option maxRecDepth 100000 in
theorem one_touch_bad (s : ByteArray) (ws : List ByteArray) (W : World) (hws : wordsOf s = ws) (hsz : s.size < 100000) (h0 : at_ ws 0 = touchW) (h2 : ws.length ≠ 3) (h4 : ws.length ≠ 4) (d : Cd) (hd : toD (.bad errT) = d) :
  Calls Tryz.prog 19 #[.string s] W (TellsC d (-1) W) := by
 obtain ⟨q0a, q0b, q0c⟩ := eqF (n := ws.length) (k := 3) (by omega)
 obtain ⟨q1a, q1b, q1c⟩ := eqF (n := ws.length) (k := 4) (by omega)
 clear h2 h4
 have hn0 := at_lt h0 (by decide)
 have hz := words_z hws hsz
 have hk := words_n hws hsz
 have hu := Tryz.underlying22
 have hu26 := Tryz.underlying26
 obtain ⟨b0, b1, b2, b2c, b3, b4, b5, b6, z3⟩ := base_n hn0 hk
 go_enter Tryz.func19, Tryz.ntmps19
 go_wp2_with fail
 refine one_front hws hsz hn0 ?_
 intro gb ob c W2 hc HC2 HW2 HV2 HB2 hg2 x0 xl
 rw [h0] at x0
 go_wp2_with fail
 refine (verb_ref _ false (by decide) W2).mono ?_
 rintro e W4 ⟨rfl, hs⟩
 have HV4 := Aside0.mk (blk_below HV2.out hs)
 have HB4 := Aside0.mk (below_step HB2.out hs)
 clear hs
 go_wp2_with fail
 refine (bad_refA (some ⟨gb, ob, none⟩) errT d hd W4).mono ?_
 rintro e W3 ⟨A3, c3, rfl, hl, hC, hs, hA3⟩
 have HV3 := Aside0.mk (blk_below HV4.out hs)
 have HB3 := Aside0.mk (below_step HB4.out hs)
 have rr := celL HV3.out
 have ff := froZ HV3.out
 unfold cdV
 go_wp2_with fail
 refine bodyPost_ret (results_ct rfl _ _ W.heap.size 26 _ (0, 0) _ rfl (putG HV3.out) Tryz.underlying26 rfl (by kernel_rfl)) rfl ?_
 exact tells_put hl hC hA3 hg2 HB3
set_option maxHeartbeats 2000000 in
set_option maxRecDepth 100000 in
theorem one_delete_bad2 (s : ByteArray) (ws : List ByteArray) (W : World) (hws : wordsOf s = ws) (hsz : s.size < 100000) (h0 : at_ ws 0 = deleteW) (h4 : ws.length = 3) (hl0 : (at_ ws (ws.length - 1)).toList ≠ [110, 111, 114, 101, 112, 108, 121]) (hl1 : (at_ ws (ws.length - 1)).toList ≠ [48]) (d : Cd) (hd : toD (.bad errT) = d) :
  Calls Tryz.prog 19 #[.string s] W (TellsC d (-1) W) := by
 obtain ⟨q0a, q0b, q0c⟩ := eqF (n := ws.length) (k := 2) (by omega)
 obtain ⟨q1a, q1b, q1c⟩ := eqT (n := ws.length) (k := 3) (by omega)
 clear h4
 have hn0 := at_lt h0 (by decide)
 have hz := words_z hws hsz
 have hk := words_n hws hsz
 have hu := Tryz.underlying22
 have hu26 := Tryz.underlying26
 obtain ⟨b0, b1, b2, b2c, b3, b4, b5, b6, z3⟩ := base_n hn0 hk
 go_enter Tryz.func19, Tryz.ntmps19
 go_wp2_with fail
 refine one_front hws hsz hn0 ?_
 intro gb ob c W2 hc HC2 HW2 HV2 HB2 hg2 x0 xl
 rw [h0] at x0
 have hn0 : ((at_ ws (ws.length - 1)).toList == [110, 111, 114, 101, 112, 108, 121]) = false := beq_eq_false_iff_ne.mpr hl0
 have hn1 : ((at_ ws (ws.length - 1)).toList == [48]) = false := beq_eq_false_iff_ne.mpr hl1
 go_wp2_with fail
 refine (verb_ref _ false (by decide) W2).mono ?_
 rintro e W4 ⟨rfl, hs⟩
 have HV4 := Aside0.mk (blk_below HV2.out hs)
 have HB4 := Aside0.mk (below_step HB2.out hs)
 clear hs
 go_wp2_with fail
 refine (bad_refA (some ⟨gb, ob, none⟩) errT d hd W4).mono ?_
 rintro e W3 ⟨A3, c3, rfl, hl, hC, hs, hA3⟩
 have HV3 := Aside0.mk (blk_below HV4.out hs)
 have HB3 := Aside0.mk (below_step HB4.out hs)
 have rr := celL HV3.out
 have ff := froZ HV3.out
 unfold cdV
 go_wp2_with fail
 refine bodyPost_ret (results_ct rfl _ _ W.heap.size 26 _ (0, 0) _ rfl (putG HV3.out) Tryz.underlying26 rfl (by kernel_rfl)) rfl ?_
 exact tells_put hl hC hA3 hg2 HB3
set_option maxHeartbeats 2000000 in
set_option maxRecDepth 100000 in
theorem one_cas_bad (s : ByteArray) (ws : List ByteArray) (W : World) (hws : wordsOf s = ws) (hsz : s.size < 100000) (h0 : at_ ws 0 = casW) (h2 : ws.length ≠ 6) (h4 : ws.length ≠ 7) (d : Cd) (hd : toD (.bad errT) = d) :
  Calls Tryz.prog 19 #[.string s] W (TellsC d (-1) W) := by
 obtain ⟨q0a, q0b, q0c⟩ := eqF (n := ws.length) (k := 6) (by omega)
 obtain ⟨q1a, q1b, q1c⟩ := eqF (n := ws.length) (k := 7) (by omega)
 clear h2 h4
 have hn0 := at_lt h0 (by decide)
 have hz := words_z hws hsz
 have hk := words_n hws hsz
 have hu := Tryz.underlying22
 have hu26 := Tryz.underlying26
 obtain ⟨b0, b1, b2, b2c, b3, b4, b5, b6, z3⟩ := base_n hn0 hk
 go_enter Tryz.func19, Tryz.ntmps19
 go_wp2_with fail
 refine one_front hws hsz hn0 ?_
 intro gb ob c W2 hc HC2 HW2 HV2 HB2 hg2 x0 xl
 rw [h0] at x0
 go_wp2_with fail
 refine (bad_refA (some ⟨gb, ob, none⟩) errT d hd W2).mono ?_
 rintro e W3 ⟨A3, c3, rfl, hl, hC, hs, hA3⟩
 have HV3 := Aside0.mk (blk_below HV2.out hs)
 have HB3 := Aside0.mk (below_step HB2.out hs)
 have rr := celL HV3.out
 have ff := froZ HV3.out
 unfold cdV
 go_wp2_with fail
 refine bodyPost_ret (results_ct rfl _ _ W.heap.size 26 _ (0, 0) _ rfl (putG HV3.out) Tryz.underlying26 rfl (by kernel_rfl)) rfl ?_
 exact tells_put hl hC hA3 hg2 HB3
set_option maxHeartbeats 2000000 in
set_option maxRecDepth 100000 in
theorem one_verb_bad2 (s : ByteArray) (ws : List ByteArray) (W : World) (hws : wordsOf s = ws) (hsz : s.size < 100000) (hn : 0 < ws.length) (hst : isStoreW (at_ ws 0)) (e0 : ((at_ ws 0).toList == [103, 101, 116]) = false) (e1 : ((at_ ws 0).toList == [103, 101, 116, 115]) = false) (e2 : ((at_ ws 0).toList == [103, 97, 116]) = false) (e3 : ((at_ ws 0).toList == [103, 97, 116, 115]) = false) (e4 : ((at_ ws 0).toList == [105, 110, 99, 114]) = false) (e5 : ((at_ ws 0).toList == [100, 101, 99, 114]) = false) (e6 : ((at_ ws 0).toList == [116, 111, 117, 99, 104]) = false) (e7 : ((at_ ws 0).toList == [100, 101, 108, 101, 116, 101]) = false) (e8 : ((at_ ws 0).toList == [102, 108, 117, 115, 104, 95, 97, 108, 108]) = false) (e9 : ((at_ ws 0).toList == [118, 101, 114, 115, 105, 111, 110]) = false) (e10 : ((at_ ws 0).toList == [113, 117, 105, 116]) = false) (e11 : ((at_ ws 0).toList == [99, 97, 115]) = false) (h4 : ws.length = 6) (hl0 : (at_ ws (ws.length - 1)).toList ≠ [110, 111, 114, 101, 112, 108, 121]) (d : Cd) (hd : toD (.bad errT) = d) :
  Calls Tryz.prog 19 #[.string s] W (TellsC d (-1) W) := by
 obtain ⟨q0a, q0b, q0c⟩ := eqF (n := ws.length) (k := 5) (by omega)
 obtain ⟨q1a, q1b, q1c⟩ := eqT (n := ws.length) (k := 6) (by omega)
 clear h4
 have hn0 : 0 < ws.length := by omega
 have hz := words_z hws hsz
 have hk := words_n hws hsz
 have hu := Tryz.underlying22
 have hu26 := Tryz.underlying26
 obtain ⟨b0, b1, b2, b2c, b3, b4, b5, b6, z3⟩ := base_n hn0 hk
 go_enter Tryz.func19, Tryz.ntmps19
 go_wp2_with fail
 refine one_front hws hsz hn0 ?_
 intro gb ob c W2 hc HC2 HW2 HV2 HB2 hg2 x0 xl
 have hn0 : ((at_ ws (ws.length - 1)).toList == [110, 111, 114, 101, 112, 108, 121]) = false := beq_eq_false_iff_ne.mpr hl0
 go_wp2_with fail
 refine (verb_ref _ true (decide_eq_true hst) W2).mono ?_
 rintro e W4 ⟨rfl, hs⟩
 have HV4 := Aside0.mk (blk_below HV2.out hs)
 have HB4 := Aside0.mk (below_step HB2.out hs)
 clear hs
 go_wp2_with fail
 refine (bad_refA (some ⟨gb, ob, none⟩) errT d hd W4).mono ?_
 rintro e W3 ⟨A3, c3, rfl, hl, hC, hs, hA3⟩
 have HV3 := Aside0.mk (blk_below HV4.out hs)
 have HB3 := Aside0.mk (below_step HB4.out hs)
 have rr := celL HV3.out
 have ff := froZ HV3.out
 unfold cdV
 go_wp2_with fail
 refine bodyPost_ret (results_ct rfl _ _ W.heap.size 26 _ (0, 0) _ rfl (putG HV3.out) Tryz.underlying26 rfl (by kernel_rfl)) rfl ?_
 exact tells_put hl hC hA3 hg2 HB3
set_option maxHeartbeats 2000000 in
set_option maxRecDepth 100000 in
theorem one_delete_form2 (s : ByteArray) (ws : List ByteArray) (W : World) (hws : wordsOf s = ws) (hsz : s.size < 100000) (h0 : at_ ws 0 = deleteW) (h2 : ws.length = 2) (hkey : keyF (at_ ws 1) = false) (d : Cd) (hd : toD (.bad formT) = d) :
  Calls Tryz.prog 19 #[.string s] W (TellsC d (-1) W) := by
 obtain ⟨q0a, q0b, q0c⟩ := eqT (n := ws.length) (k := 2) (by omega)
 obtain ⟨q1a, q1b, q1c⟩ := eqF (n := ws.length) (k := 3) (by omega)
 have h3 : 2 ≤ ws.length := by omega
 have g1 : (1 : Int) < (ws.length : Int) := by omega
 clear h2
 have hn0 := at_lt h0 (by decide)
 have hz := words_z hws hsz
 have hk := words_n hws hsz
 have hu := Tryz.underlying22
 have hu26 := Tryz.underlying26
 obtain ⟨b0, b1, b2, b2c, b3, b4, b5, b6, z3⟩ := base_n hn0 hk
 go_enter Tryz.func19, Tryz.ntmps19
 go_wp2_with fail
 refine one_front hws hsz hn0 ?_
 intro gb ob c W2 hc HC2 HW2 HV2 HB2 hg2 x0 xl
 rw [h0] at x0
 have x1 : W2.cell? ⟨gb, ob + 1, none⟩ = some (.string (at_ ws 1)) := HW2.out.cell 1 (by omega)
 go_wp2_with fail
 refine (key_ref (at_ ws 1) (hz 1) W2).mono ?_
 rw [hkey]
 rintro e W4 ⟨rfl, hs⟩
 have HV4 := Aside0.mk (blk_below HV2.out hs)
 have HB4 := Aside0.mk (below_step HB2.out hs)
 have HW4 := Aside0.mk (HW2.out.below hs)
 clear hs x1
 go_wp2_with fail
 refine (bad_refA (some ⟨gb, ob, none⟩) formT d hd W4).mono ?_
 rintro e W3 ⟨A3, c3, rfl, hl, hC, hs, hA3⟩
 have HV3 := Aside0.mk (blk_below HV4.out hs)
 have HB3 := Aside0.mk (below_step HB4.out hs)
 have rr := celL HV3.out
 have ff := froZ HV3.out
 unfold cdV
 go_wp2_with fail
 refine bodyPost_ret (results_ct rfl _ _ W.heap.size 26 _ (0, 0) _ rfl (putG HV3.out) Tryz.underlying26 rfl (by kernel_rfl)) rfl ?_
 exact tells_put hl hC hA3 hg2 HB3
set_option maxHeartbeats 2000000 in
set_option maxRecDepth 100000 in
theorem one_delete_2 (s : ByteArray) (ws : List ByteArray) (W : World) (hws : wordsOf s = ws) (hsz : s.size < 100000) (h0 : at_ ws 0 = deleteW) (h2 : ws.length = 2) (hl0 : (at_ ws (ws.length - 1)).toList ≠ [110, 111, 114, 101, 112, 108, 121]) (hkey : keyF (at_ ws 1) = true) (d : Cd) (hd : toD (.delete (at_ ws 1) false) = d) :
  Calls Tryz.prog 19 #[.string s] W (TellsC d (-1) W) := by
 obtain ⟨q0a, q0b, q0c⟩ := eqT (n := ws.length) (k := 2) (by omega)
 obtain ⟨q1a, q1b, q1c⟩ := eqF (n := ws.length) (k := 3) (by omega)
 have h3 : 2 ≤ ws.length := by omega
 have g1 : (1 : Int) < (ws.length : Int) := by omega
 clear h2
 have hn0 := at_lt h0 (by decide)
 have hz := words_z hws hsz
 have hk := words_n hws hsz
 have hu := Tryz.underlying22
 have hu26 := Tryz.underlying26
 obtain ⟨b0, b1, b2, b2c, b3, b4, b5, b6, z3⟩ := base_n hn0 hk
 go_enter Tryz.func19, Tryz.ntmps19
 go_wp2_with fail
 refine one_front hws hsz hn0 ?_
 intro gb ob c W2 hc HC2 HW2 HV2 HB2 hg2 x0 xl
 rw [h0] at x0
 have hn0' : ((at_ ws (ws.length - 1)).toList == [110, 111, 114, 101, 112, 108, 121]) = false := beq_eq_false_iff_ne.mpr hl0
 obtain ⟨d1, d2, d3, d4, d5, d6, d7, d8, d9, d10, d11⟩ := cut1 (n := ws.length) (c := c) (by omega) hc
 have x1 : W2.cell? ⟨gb, ob + 1, none⟩ = some (.string (at_ ws 1)) := HW2.out.cell 1 (by omega)
 go_wp2_with fail
 refine (key_ref (at_ ws 1) (hz 1) W2).mono ?_
 rw [hkey]
 rintro e W4 ⟨rfl, hs⟩
 have HV4 := Aside0.mk (blk_below HV2.out hs)
 have HB4 := Aside0.mk (below_step HB2.out hs)
 have HW4 := Aside0.mk (HW2.out.below hs)
 clear hs x1
 have rr := celL HV4.out
 have ff := froZ HV4.out
 go_wp2_with fail
 refine bodyPost_ret (results_ct rfl _ _ W.heap.size 26 _ (0, 0) _ rfl (putG HV4.out) Tryz.underlying26 rfl (by kernel_rfl)) rfl ?_
 subst hd
 exact tells_put (d := toD (.delete (at_ ws 1) false)) (A3 := some ⟨gb, ob + 1, none⟩) (c3 := c - 1) (ob := ob) (by show 1 ≤ c - 1; omega) (HW4.out.key (by omega)) (fun _ => rfl) hg2 HB4
set_option maxHeartbeats 2000000 in
set_option maxRecDepth 100000 in
theorem one_delete_3z (s : ByteArray) (ws : List ByteArray) (W : World) (hws : wordsOf s = ws) (hsz : s.size < 100000) (h0 : at_ ws 0 = deleteW) (h2 : ws.length = 3) (hl0 : at_ ws (ws.length - 1) = noughtW) (hkey : keyF (at_ ws 1) = true) (d : Cd) (hd : toD (.delete (at_ ws 1) false) = d) :
  Calls Tryz.prog 19 #[.string s] W (TellsC d (-1) W) := by
 obtain ⟨q0a, q0b, q0c⟩ := eqF (n := ws.length) (k := 2) (by omega)
 obtain ⟨q1a, q1b, q1c⟩ := eqT (n := ws.length) (k := 3) (by omega)
 have h3 : 2 ≤ ws.length := by omega
 have g1 : (1 : Int) < (ws.length : Int) := by omega
 clear h2
 have hn0 := at_lt h0 (by decide)
 have hz := words_z hws hsz
 have hk := words_n hws hsz
 have hu := Tryz.underlying22
 have hu26 := Tryz.underlying26
 obtain ⟨b0, b1, b2, b2c, b3, b4, b5, b6, z3⟩ := base_n hn0 hk
 go_enter Tryz.func19, Tryz.ntmps19
 go_wp2_with fail
 refine one_front hws hsz hn0 ?_
 intro gb ob c W2 hc HC2 HW2 HV2 HB2 hg2 x0 xl
 rw [h0] at x0
 rw [hl0] at xl
 obtain ⟨d1, d2, d3, d4, d5, d6, d7, d8, d9, d10, d11⟩ := cut1 (n := ws.length) (c := c) (by omega) hc
 have x1 : W2.cell? ⟨gb, ob + 1, none⟩ = some (.string (at_ ws 1)) := HW2.out.cell 1 (by omega)
 go_wp2_with fail
 refine (key_ref (at_ ws 1) (hz 1) W2).mono ?_
 rw [hkey]
 rintro e W4 ⟨rfl, hs⟩
 have HV4 := Aside0.mk (blk_below HV2.out hs)
 have HB4 := Aside0.mk (below_step HB2.out hs)
 have HW4 := Aside0.mk (HW2.out.below hs)
 clear hs x1
 have rr := celL HV4.out
 have ff := froZ HV4.out
 go_wp2_with fail
 refine bodyPost_ret (results_ct rfl _ _ W.heap.size 26 _ (0, 0) _ rfl (putG HV4.out) Tryz.underlying26 rfl (by kernel_rfl)) rfl ?_
 subst hd
 exact tells_put (d := toD (.delete (at_ ws 1) false)) (A3 := some ⟨gb, ob + 1, none⟩) (c3 := c - 1) (ob := ob) (by show 1 ≤ c - 1; omega) (HW4.out.key (by omega)) (fun _ => rfl) hg2 HB4
set_option maxHeartbeats 2000000 in
set_option maxRecDepth 100000 in
theorem one_flush_1 (s : ByteArray) (ws : List ByteArray) (W : World) (hws : wordsOf s = ws) (hsz : s.size < 100000) (h0 : at_ ws 0 = flushW) (h2 : ws.length = 1) (d : Cd) (hd : toD (.flush false) = d) :
  Calls Tryz.prog 19 #[.string s] W (TellsC d (-1) W) := by
 obtain ⟨q0a, q0b, q0c⟩ := eqT (n := ws.length) (k := 1) (by omega)
 obtain ⟨q1a, q1b, q1c⟩ := eqF (n := ws.length) (k := 2) (by omega)
 clear h2
 have hn0 := at_lt h0 (by decide)
 have hz := words_z hws hsz
 have hk := words_n hws hsz
 have hu := Tryz.underlying22
 have hu26 := Tryz.underlying26
 obtain ⟨b0, b1, b2, b2c, b3, b4, b5, b6, z3⟩ := base_n hn0 hk
 go_enter Tryz.func19, Tryz.ntmps19
 go_wp2_with fail
 refine one_front hws hsz hn0 ?_
 intro gb ob c W2 hc HC2 HW2 HV2 HB2 hg2 x0 xl
 rw [h0] at x0
 have rr := celL HV2.out
 have ff := froZ HV2.out
 go_wp2_with fail
 refine bodyPost_ret (results_ct rfl _ _ W.heap.size 26 _ (0, 0) _ rfl (putG HV2.out) Tryz.underlying26 rfl (by kernel_rfl)) rfl ?_
 subst hd
 exact tells_put (d := toD (.flush false)) (A3 := none) (c3 := 0) (ob := ob) (Nat.zero_le _) (C_none none) (fun h => absurd h (Nat.lt_irrefl 0)) hg2 HB2
set_option maxHeartbeats 2000000 in
set_option maxRecDepth 100000 in
theorem one_cas_false (s : ByteArray) (ws : List ByteArray) (W : World) (hws : wordsOf s = ws) (hsz : s.size < 100000) (h0 : at_ ws 0 = casW) (h2 : ws.length = 6) (d : Cd) (n : Int) (hd : toD (storeQ ws true false).1 = d) (hn : (storeQ ws true false).2 = n) :
  Calls Tryz.prog 19 #[.string s] W (TellsC d n W) := by
 obtain ⟨q0a, q0b, q0c⟩ := eqT (n := ws.length) (k := 6) (by omega)
 obtain ⟨q1a, q1b, q1c⟩ := eqF (n := ws.length) (k := 7) (by omega)
 have h3 : 6 ≤ ws.length := by omega
 clear h2
 have hn0 := at_lt h0 (by decide)
 have hz := words_z hws hsz
 have hk := words_n hws hsz
 have hu := Tryz.underlying22
 have hu26 := Tryz.underlying26
 obtain ⟨b0, b1, b2, b2c, b3, b4, b5, b6, z3⟩ := base_n hn0 hk
 go_enter Tryz.func19, Tryz.ntmps19
 go_wp2_with fail
 refine one_front hws hsz hn0 ?_
 intro gb ob c W2 hc HC2 HW2 HV2 HB2 hg2 x0 xl
 rw [h0] at x0
 have hw0 : ((at_ ws 0).toList == ([99, 97, 115] : List UInt8)) = true := by rw [h0, tl]; decide
 go_wp2_with fail
 refine (store_as (ref_store6 (some ⟨gb, ob, none⟩) c ws false W2 HC2.out hc (by omega) hz hw0) hd hn).mono ?_
 rintro e W3 ⟨A3, c3, rfl, hl, hC, hs, hA3⟩
 have HV3 := Aside0.mk (blk_below HV2.out hs)
 have HB3 := Aside0.mk (below_step HB2.out hs)
 have rr := celL HV3.out
 have ff := froZ HV3.out
 unfold cdV
 go_wp2_with fail
 refine bodyPost_ret (results_ct rfl _ _ W.heap.size 26 _ (0, 0) _ rfl (putG HV3.out) Tryz.underlying26 rfl (by kernel_rfl)) rfl ?_
 exact tells_put hl hC hA3 hg2 HB3
set_option maxHeartbeats 2000000 in
set_option maxRecDepth 100000 in
theorem one_verb_true (s : ByteArray) (ws : List ByteArray) (W : World) (hws : wordsOf s = ws) (hsz : s.size < 100000) (hst : isStoreW (at_ ws 0)) (e0 : ((at_ ws 0).toList == [103, 101, 116]) = false) (e1 : ((at_ ws 0).toList == [103, 101, 116, 115]) = false) (e2 : ((at_ ws 0).toList == [103, 97, 116]) = false) (e3 : ((at_ ws 0).toList == [103, 97, 116, 115]) = false) (e4 : ((at_ ws 0).toList == [105, 110, 99, 114]) = false) (e5 : ((at_ ws 0).toList == [100, 101, 99, 114]) = false) (e6 : ((at_ ws 0).toList == [116, 111, 117, 99, 104]) = false) (e7 : ((at_ ws 0).toList == [100, 101, 108, 101, 116, 101]) = false) (e8 : ((at_ ws 0).toList == [102, 108, 117, 115, 104, 95, 97, 108, 108]) = false) (e9 : ((at_ ws 0).toList == [118, 101, 114, 115, 105, 111, 110]) = false) (e10 : ((at_ ws 0).toList == [113, 117, 105, 116]) = false) (e11 : ((at_ ws 0).toList == [99, 97, 115]) = false) (h2 : ws.length = 6) (hl0 : at_ ws (ws.length - 1) = noreplyW) (d : Cd) (n : Int) (hd : toD (storeQ ws false true).1 = d) (hn : (storeQ ws false true).2 = n) :
  Calls Tryz.prog 19 #[.string s] W (TellsC d n W) := by
 obtain ⟨q0a, q0b, q0c⟩ := eqF (n := ws.length) (k := 5) (by omega)
 obtain ⟨q1a, q1b, q1c⟩ := eqT (n := ws.length) (k := 6) (by omega)
 have h3 : 5 ≤ ws.length := by omega
 clear h2
 have hn0 : 0 < ws.length := by omega
 have hz := words_z hws hsz
 have hk := words_n hws hsz
 have hu := Tryz.underlying22
 have hu26 := Tryz.underlying26
 obtain ⟨b0, b1, b2, b2c, b3, b4, b5, b6, z3⟩ := base_n hn0 hk
 go_enter Tryz.func19, Tryz.ntmps19
 go_wp2_with fail
 refine one_front hws hsz hn0 ?_
 intro gb ob c W2 hc HC2 HW2 HV2 HB2 hg2 x0 xl
 rw [hl0] at xl
 have hw0 : ((at_ ws 0).toList == ([99, 97, 115] : List UInt8)) = false := e11
 go_wp2_with fail
 refine (verb_ref _ true (decide_eq_true hst) W2).mono ?_
 rintro e W4 ⟨rfl, hs⟩
 have HV4 := Aside0.mk (blk_below HV2.out hs)
 have HB4 := Aside0.mk (below_step HB2.out hs)
 have HC4 := Aside0.mk (Kd.C_below HC2.out hs)
 clear hs
 go_wp2_with fail
 refine (store_as (ref_store5 (some ⟨gb, ob, none⟩) c ws true W4 HC4.out hc (by omega) hz hw0) hd hn).mono ?_
 rintro e W3 ⟨A3, c3, rfl, hl, hC, hs, hA3⟩
 have HV3 := Aside0.mk (blk_below HV4.out hs)
 have HB3 := Aside0.mk (below_step HB4.out hs)
 have rr := celL HV3.out
 have ff := froZ HV3.out
 unfold cdV
 go_wp2_with fail
 refine bodyPost_ret (results_ct rfl _ _ W.heap.size 26 _ (0, 0) _ rfl (putG HV3.out) Tryz.underlying26 rfl (by kernel_rfl)) rfl ?_
 exact tells_put hl hC hA3 hg2 HB3
end Go.Proofs.YtfbhlbchmenloaaGreatDoor.O
end
