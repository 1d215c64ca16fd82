/-
  Printed by this session's hybrid.py (it runs the kit's print over contracts of our own for library functions): plain functions with the answers of Go functions, and that the calls come to them. Their conditions stand in each head.
-/
import Derived.Test.YtolbbhpcajepnaaDoorHX0
import Derived.Test.YtolbbhpcajepnaaDoorHX16
import Derived.Test.YtolbbhpcajepnaaDoorHX19
namespace Go.Proofs.YtolbbhpcajepnaaDoor.H
open Go.RowKit Go.Proofs.YtolbbhpcajepnaaDoorW.PrintWords Go.Proofs.YtolbbhpcajepnaaDoorW.PrintLast Go.Proofs.YtolbbhpcajepnaaDoorW.PrintMore
attribute [local go_sem] max2_int min2_int max_two min_two max_three min_three max_four min_four   -- for this text's walks alone
set_option linter.unusedVariables false
set_option linter.unusedSimpArgs false

/-! ### cellaretref1_Shown: function 22 -/
mutual
def cellaretref1_Shown.l0 : Nat → ByteArray → ByteArray → Option (ByteArray)
  | 0, _, _ => none
  | k + 1, x0, x3 => if (x0.size : Int) > 0 then ((cellaretref1_rune1.f k x0).bind fun bt154 => (if bt154.1 > 32 then (if bt154.1 = 127 then (cellaretref1_Shown.j1 k x0 x3 bt154.2 false) else (if bt154.1 = 34 then (cellaretref1_Shown.j1 k x0 x3 bt154.2 false) else (cellaretref1_Shown.j1 k x0 x3 bt154.2 (bt154.1 != 92)))) else (cellaretref1_Shown.j1 k x0 x3 bt154.2 false))) else (some x3)
def cellaretref1_Shown.j1 : Nat → ByteArray → ByteArray → Int → Bool → Option (ByteArray)
  | 0, _, _, _, _ => none
  | k + 1, x0, x3, x5, x28 => if x28 = true then (if 0 ≤ x5 then (if x5 ≤ (x0.size : Int) then (if x3.size + (x0.extract 0 (x5 : Int).toNat).size ≤ 9223372036854775807 then (cellaretref1_Shown.l0 k (x0.extract (x5 : Int).toNat x0.size) (x3 ++ (x0.extract 0 (x5 : Int).toNat))) else (none)) else (none)) else (none)) else (cellaretref1_Shown.l1 k x0 x3 x5 0)
def cellaretref1_Shown.l1 : Nat → ByteArray → ByteArray → Int → Int → Option (ByteArray)
  | 0, _, _, _, _ => none
  | k + 1, x0, x3, x5, x6 => if x6 < x5 then (if x3.size + 1 ≤ 9223372036854775807 then (if 0 ≤ x6 then (if x6 < (x0.size : Int) then ((cellaretref1_Text.f k (IntKind.u64.wrap ((bt x0 x6) / 64))).bind fun t156 => (if (x3 ++ (⟨#[92]⟩ : ByteArray)).size + t156.size ≤ 9223372036854775807 then ((cellaretref1_Text.f k (IntKind.u64.wrap (Go.bits .and .u8 ((bt x0 x6) / 8) 7))).bind fun t157 => (if ((x3 ++ (⟨#[92]⟩ : ByteArray)) ++ t156).size + t157.size ≤ 9223372036854775807 then ((cellaretref1_Text.f k (IntKind.u64.wrap (Go.bits .and .u8 (bt x0 x6) 7))).bind fun t158 => (if (((x3 ++ (⟨#[92]⟩ : ByteArray)) ++ t156) ++ t157).size + t158.size ≤ 9223372036854775807 then (cellaretref1_Shown.l1 k x0 ((((x3 ++ (⟨#[92]⟩ : ByteArray)) ++ t156) ++ t157) ++ t158) x5 (wrap64 (x6 + 1))) else (none))) else (none))) else (none))) else (none)) else (none)) else (none)) else (if 0 ≤ x5 then (if x5 ≤ (x0.size : Int) then (cellaretref1_Shown.l0 k (x0.extract (x5 : Int).toNat x0.size) x3) else (none)) else (none))
end
def cellaretref1_Shown.f (k : Nat) (a0 : ByteArray) : Option (ByteArray) := cellaretref1_Shown.l0 k a0 (⟨#[]⟩ : ByteArray)
theorem cellaretref1_Shown.mono_l : ∀ k, (∀ y0 y1, LeO (cellaretref1_Shown.l0 k y0 y1) (cellaretref1_Shown.l0 (k + 1) y0 y1)) ∧ (∀ y0 y1 y2 y3, LeO (cellaretref1_Shown.j1 k y0 y1 y2 y3) (cellaretref1_Shown.j1 (k + 1) y0 y1 y2 y3)) ∧ (∀ y0 y1 y2 y3, LeO (cellaretref1_Shown.l1 k y0 y1 y2 y3) (cellaretref1_Shown.l1 (k + 1) y0 y1 y2 y3))
  | 0 => ⟨fun _ _ r h => by simp [cellaretref1_Shown.l0] at h, fun _ _ _ _ r h => by simp [cellaretref1_Shown.j1] at h, fun _ _ _ _ r h => by simp [cellaretref1_Shown.l1] at h⟩
  | k + 1 => by
    obtain ⟨ih0, ih1, ih2⟩ := cellaretref1_Shown.mono_l k
    refine ⟨?_, ?_, ?_⟩
    · intro y0 y1
      unfold cellaretref1_Shown.l0
      repeat' first
      | (with_reducible exact ih0 _ _)
      | (with_reducible exact ih1 _ _ _ _)
      | (with_reducible exact ih2 _ _ _ _)
      | (with_reducible exact cellaretref1_Text.mono _ _)
      | (with_reducible exact cellaretref1_rune1.mono _ _)
      | (with_reducible exact LeO.refl _)
      | (with_reducible exact LeO.none _)
      | (with_reducible refine LeO.ite ?_ ?_)
      | (with_reducible refine LeO.bind ?_ (fun _ => ?_))
      | exact ih0 _ _
      | exact ih1 _ _ _ _
      | exact ih2 _ _ _ _
      | exact cellaretref1_Text.mono _ _
      | exact cellaretref1_rune1.mono _ _
      | exact LeO.none _
      | refine LeO.ite ?_ ?_
      | refine LeO.bind ?_ (fun _ => ?_)
    · intro y0 y1 y2 y3
      unfold cellaretref1_Shown.j1
      repeat' first
      | (with_reducible exact ih0 _ _)
      | (with_reducible exact ih1 _ _ _ _)
      | (with_reducible exact ih2 _ _ _ _)
      | (with_reducible exact cellaretref1_Text.mono _ _)
      | (with_reducible exact cellaretref1_rune1.mono _ _)
      | (with_reducible exact LeO.refl _)
      | (with_reducible exact LeO.none _)
      | (with_reducible refine LeO.ite ?_ ?_)
      | (with_reducible refine LeO.bind ?_ (fun _ => ?_))
      | exact ih0 _ _
      | exact ih1 _ _ _ _
      | exact ih2 _ _ _ _
      | exact cellaretref1_Text.mono _ _
      | exact cellaretref1_rune1.mono _ _
      | exact LeO.none _
      | refine LeO.ite ?_ ?_
      | refine LeO.bind ?_ (fun _ => ?_)
    · intro y0 y1 y2 y3
      unfold cellaretref1_Shown.l1
      repeat' first
      | (with_reducible exact ih0 _ _)
      | (with_reducible exact ih1 _ _ _ _)
      | (with_reducible exact ih2 _ _ _ _)
      | (with_reducible exact cellaretref1_Text.mono _ _)
      | (with_reducible exact cellaretref1_rune1.mono _ _)
      | (with_reducible exact LeO.refl _)
      | (with_reducible exact LeO.none _)
      | (with_reducible refine LeO.ite ?_ ?_)
      | (with_reducible refine LeO.bind ?_ (fun _ => ?_))
      | exact ih0 _ _
      | exact ih1 _ _ _ _
      | exact ih2 _ _ _ _
      | exact cellaretref1_Text.mono _ _
      | exact cellaretref1_rune1.mono _ _
      | exact LeO.none _
      | refine LeO.ite ?_ ?_
      | refine LeO.bind ?_ (fun _ => ?_)
theorem cellaretref1_Shown.mono : ∀ a0 k, LeO (cellaretref1_Shown.f k a0) (cellaretref1_Shown.f (k + 1) a0) := by
  intro a0 k
  obtain ⟨ih0, ih1, ih2⟩ := cellaretref1_Shown.mono_l k
  unfold cellaretref1_Shown.f
  repeat' first
      | (with_reducible exact ih0 _ _)
      | (with_reducible exact ih1 _ _ _ _)
      | (with_reducible exact ih2 _ _ _ _)
      | (with_reducible exact cellaretref1_Text.mono _ _)
      | (with_reducible exact cellaretref1_rune1.mono _ _)
      | (with_reducible exact LeO.refl _)
      | (with_reducible exact LeO.none _)
      | (with_reducible refine LeO.ite ?_ ?_)
      | (with_reducible refine LeO.bind ?_ (fun _ => ?_))
      | exact ih0 _ _
      | exact ih1 _ _ _ _
      | exact ih2 _ _ _ _
      | exact cellaretref1_Text.mono _ _
      | exact cellaretref1_rune1.mono _ _
      | exact LeO.none _
      | refine LeO.ite ?_ ?_
      | refine LeO.bind ?_ (fun _ => ?_)
def cellaretref1_Shown.T9 : Bool × List (List Nat × List Nat) := (true, [([], []), ([0], [0]), ([], []), ([], []), ([2, 3], [2, 3]), ([4], [4]), ([5], [5]), ([6], [6]), ([1, 7], [1, 7]), ([], []), ([], []), ([9, 10], [9, 10]), ([11], [11]), ([12], [12]), ([13], [13]), ([14, 7], [14]), ([8, 15], [8, 15]), ([], []), ([], []), ([17, 18], [17, 18]), ([19], [19]), ([20], [20]), ([21, 15], [21]), ([16, 22], [16, 22]), ([23, 22, 0, 1, 2, 3, 4, 5, 6, 7, 8, 9, 10, 11, 12, 13, 14, 15, 16, 17, 18, 19, 20, 21, 22, 23], [0, 23])])
def cellaretref1_Shown.B9 : List Nat := [0, 1, 0, 0, 12, 28, 60, 124, 255, 0, 0, 1536, 3584, 7680, 15872, 32508, 65535, 0, 0, 393216, 917504, 1966080, 4128508, 8388607, 16777215]
theorem cellaretref1_Shown.tab9 : rtab .any (opsOf Tryd.f22 9) = cellaretref1_Shown.T9 := by kernel_rfl
theorem cellaretref1_Shown.bits9 : waitsOk cellaretref1_Shown.T9.2 cellaretref1_Shown.B9 = true := by kernel_rfl
set_option maxHeartbeats 8000000 in
set_option maxRecDepth 100000 in
theorem cellaretref1_Shown.calls (k : Nat) (a0 : ByteArray) (r : ByteArray) (w : World) (h : cellaretref1_Shown.f k a0 = some r) :
    Calls Tryd.prog 22 #[.string a0] w fun e w' => e = .returned (.string r) ∧ Below w.heap.size w w' := by
  have HB := Aside0.mk (Below.refl w.heap.size w)
  have H : (cellaretref1_Shown.l0 k a0 (⟨#[]⟩ : ByteArray)) = some r := h
  clear h
  have H' := Aside0.mk H
  clear H
  go_enter Tryd.func22, Tryd.ntmps22
  go_wp2
  go_loopg [0, 3] k (fun kq v0 v3 w' => ∃ (x0_1 : ByteArray) (x3_1 : ByteArray), v0 = .string x0_1 ∧ v3 = .string x3_1 ∧ Aside0 (cellaretref1_Shown.l0 kq x0_1 x3_1 = some r) ∧ Aside0 (kq ≤ k) ∧ Aside0 (Below w.heap.size w w'))
  case atStart => exact ⟨(a0), ((⟨#[]⟩ : ByteArray)), (by first | rfl | (simp; done) | (simp [*]; done)), (by first | rfl | (simp; done) | (simp [*]; done)), H', ⟨Nat.le_refl _⟩, ⟨by repeat (first | (with_reducible first | exact HB.out | apply below_alloc | apply pw_below_drewN | apply below_drew1) | exact HB.out)⟩⟩
  case round =>
    clear H'
    obtain ⟨x0_1, x3_1, rfl, rfl, HA, HK1, HB⟩ := hrel
    cases gk with
    | zero => exact absurd HA.out (by simp [cellaretref1_Shown.l0])
    | succ k1 =>
      have H := HA.out
      clear HA
      simp only [cellaretref1_Shown.l0] at H
      by_cases c2 : (x0_1.size : Int) > 0
      · rw [if_pos c2] at H
        have c2b0 : decide (0 < (x0_1.size : Int)) = true := decide_eq_true c2
        have c2b1 : decide (0 < x0_1.size) = true := decide_eq_true (by omega)
        clear c2
        replace H := Option.bind_eq_some_iff.mp H
        obtain ⟨⟨t154, t155⟩, A30, H⟩ := H
        replace H : (if t154 > 32 then (if t154 = 127 then (cellaretref1_Shown.j1 k1 x0_1 x3_1 t155 false) else (if t154 = 34 then (cellaretref1_Shown.j1 k1 x0_1 x3_1 t155 false) else (cellaretref1_Shown.j1 k1 x0_1 x3_1 t155 (t154 != 92)))) else (cellaretref1_Shown.j1 k1 x0_1 x3_1 t155 false)) = some r := H
        have A3 := Aside0.mk A30
        clear A30
        have HC4 := Aside0.mk H
        clear H
        go_upto_region 4 with (first | ((with_reducible refine gate_callee (f := 37) rfl ?_); refine goesL_ (some 12) rfl rfl Tryd.func37 (by kernel_rfl) rfl #[.string x0_1] rfl (by (try simp only [List.map_toArray, List.map_cons, List.map_nil]); first | done | rfl | (simp only [List.length_drop, List.length_take]; rfl)) ?_; (with_reducible refine (cellaretref1_rune1.calls k1 x0_1 t154 t155 _ A3.out).mono ?_); rintro e w' ⟨rfl, ⟨nd, rfl⟩⟩; refine ⟨_, rfl, ?_⟩))
        (try simp only [Act.put, List.setIfInBounds_toArray, List.set_cons_zero, List.set_cons_succ])
        go_cut [28] (fun v28 wc => ∃ (kq : Nat) (x28_3 : Bool), v28 = .bool x28_3 ∧ Aside0 (cellaretref1_Shown.j1 kq x0_1 x3_1 t155 x28_3 = some r) ∧ Aside0 (kq ≤ k1) ∧ Aside0 (Below w.heap.size w wc))
        case first =>
          have H := HC4.out
          clear HC4
          by_cases c5 : t154 > 32
          · rw [if_pos c5] at H
            have c5b0 : decide (32 < t154) = true := decide_eq_true c5
            clear c5
            (first | rw [c5b0] | (simp only [i64_w, i32_w]; rw [c5b0]) | skip)
            by_cases c6 : t154 = 127
            · rw [if_pos c6] at H
              have c6b0 : (t154 == 127) = true := beq_iff_eq.mpr c6
              have c6b1 : (t154 != 127) = false := bne_eq_false_iff_eq.mpr c6
              clear c6
              have H' := Aside0.mk H
              clear H
              go_wp2
              go_meet
              case rel => exact ⟨_, (false), (by first | rfl | (simp; done) | (simp [*]; done)), H', ⟨by have := HK1.out; first | omega | exact Nat.le_refl _⟩, ⟨by repeat (first | (with_reducible first | exact HB.out | apply below_alloc | apply pw_below_drewN | apply below_drew1) | exact HB.out)⟩⟩
            · rw [if_neg c6] at H
              have c6b0 : (t154 == 127) = false := beq_eq_false_iff_ne.mpr c6
              have c6b1 : (t154 != 127) = true := bne_iff_ne.mpr c6
              by_cases c7 : t154 = 34
              · rw [if_pos c7] at H
                have c7b0 : (t154 == 34) = true := beq_iff_eq.mpr c7
                have c7b1 : (t154 != 34) = false := bne_eq_false_iff_eq.mpr c7
                clear c7
                have H' := Aside0.mk H
                clear H
                go_wp2
                go_meet
                case rel => exact ⟨_, (false), (by first | rfl | (simp; done) | (simp [*]; done)), H', ⟨by have := HK1.out; first | omega | exact Nat.le_refl _⟩, ⟨by repeat (first | (with_reducible first | exact HB.out | apply below_alloc | apply pw_below_drewN | apply below_drew1) | exact HB.out)⟩⟩
              · rw [if_neg c7] at H
                have c7b0 : (t154 == 34) = false := beq_eq_false_iff_ne.mpr c7
                have c7b1 : (t154 != 34) = true := bne_iff_ne.mpr c7
                have H' := Aside0.mk H
                clear H
                go_wp2
                go_meet
                case rel => exact ⟨_, ((t154 != 92)), (by first | rfl | (simp; done) | (simp [*]; done)), H', ⟨by have := HK1.out; first | omega | exact Nat.le_refl _⟩, ⟨by repeat (first | (with_reducible first | exact HB.out | apply below_alloc | apply pw_below_drewN | apply below_drew1) | exact HB.out)⟩⟩
          · rw [if_neg c5] at H
            have c5b0 : decide (32 < t154) = false := decide_eq_false c5
            clear c5
            (first | rw [c5b0] | (simp only [i64_w, i32_w]; rw [c5b0]) | skip)
            have H' := Aside0.mk H
            clear H
            go_wp2
            go_meet
            case rel => exact ⟨_, (false), (by first | rfl | (simp; done) | (simp [*]; done)), H', ⟨by have := HK1.out; first | omega | exact Nat.le_refl _⟩, ⟨by repeat (first | (with_reducible first | exact HB.out | apply below_alloc | apply pw_below_drewN | apply below_drew1) | exact HB.out)⟩⟩
        case rest =>
          clear HC4
          try clear c2
          try clear c2b0
          try clear c2b1
          try clear p2
          try clear c3
          try clear c5
          try clear c5b0
          try clear c6
          try clear c6b0
          try clear c6b1
          try clear c7
          try clear c7b0
          try clear c7b1
          obtain ⟨kq, x28_3, rfl, HA, HJ3, HB⟩ := hcut
          cases kq with
          | zero => exact absurd HA.out (by simp [cellaretref1_Shown.j1])
          | succ kj3 =>
            have H := HA.out
            clear HA
            simp only [cellaretref1_Shown.j1] at H
            by_cases c8 : x28_3 = true
            · subst c8
              have H1 : (if 0 ≤ t155 then (if t155 ≤ (x0_1.size : Int) then (if x3_1.size + (x0_1.extract 0 (t155 : Int).toNat).size ≤ 9223372036854775807 then (cellaretref1_Shown.l0 kj3 (x0_1.extract (t155 : Int).toNat x0_1.size) (x3_1 ++ (x0_1.extract 0 (t155 : Int).toNat))) else (none)) else (none)) else (none)) = some r := by rw [if_pos rfl] at H; exact H
              clear H
              have H := H1
              clear H1
              by_cases c9 : 0 ≤ t155
              · rw [if_pos c9] at H
                have c9b0 := eq_true c9
                have c9b1 : decide (0 ≤ t155) = true := decide_eq_true c9
                clear c9
                by_cases c10 : t155 ≤ (x0_1.size : Int)
                · rw [if_pos c10] at H
                  have c10b0 := eq_true c10
                  have c10b1 : decide (t155 ≤ (x0_1.size : Int)) = true := decide_eq_true c10
                  clear c10
                  by_cases c11 : x3_1.size + (x0_1.extract 0 (t155 : Int).toNat).size ≤ 9223372036854775807
                  · rw [if_pos c11] at H
                    have c11b0 := eq_true c11
                    have c11b1 : decide (x3_1.size + (x0_1.extract 0 (t155 : Int).toNat).size ≤ 9223372036854775807) = true := decide_eq_true c11
                    try have c11b2 : (9223372036854775807 < x3_1.size + (x0_1.extract 0 (t155 : Int).toNat).size) = False := eq_false (Nat.not_lt.2 c11)
                    have c12b0 := eq_true (of_decide_eq_true (by first | (with_reducible assumption) | assumption) : 0 ≤ t155)
                    have c13b0 := eq_true (of_decide_eq_true (by first | (with_reducible assumption) | assumption) : t155 ≤ (x0_1.size : Int))
                    have H' := Aside0.mk H
                    clear H
                    go_wp2
                    go_roundg kj3
                    case measure => have := HK1.out; have := HJ3.out; omega
                    case rel => exact ⟨(x0_1.extract (t155 : Int).toNat x0_1.size), (x3_1 ++ (x0_1.extract 0 (t155 : Int).toNat)), (by first | rfl | (simp; done) | (simp [*]; done)), (by first | rfl | (simp; done) | (simp [*]; done)), H', ⟨by have := HK1.out; have := HJ3.out; omega⟩, ⟨by repeat (first | (with_reducible first | exact HB.out | apply below_alloc | apply pw_below_drewN | apply below_drew1) | exact HB.out)⟩⟩
                  · rw [if_neg c11] at H
                    exact absurd H (by simp)
                · rw [if_neg c10] at H
                  exact absurd H (by simp)
              · rw [if_neg c9] at H
                exact absurd H (by simp)
            · replace c8 := Bool.eq_false_iff.mpr c8
              subst c8
              have H1 : (cellaretref1_Shown.l1 kj3 x0_1 x3_1 t155 0) = some r := by rw [if_neg (show ¬ (false = true) by decide)] at H; exact H
              clear H
              have H := H1
              clear H1
              have H' := Aside0.mk H
              clear H
              go_wp2
              go_loopg [3, 6] kj3 (fun kq v3 v6 w' => ∃ (x3_3 : ByteArray) (x6_3 : Int), v3 = .string x3_3 ∧ v6 = .int .i64 x6_3 ∧ Aside0 (cellaretref1_Shown.l1 kq x0_1 x3_3 t155 x6_3 = some r) ∧ Aside0 (kq ≤ kj3) ∧ Aside0 (Below w.heap.size w w'))
              case atStart => exact ⟨(x3_1), (0), (by first | rfl | (simp; done) | (simp [*]; done)), (by first | rfl | (simp; done) | (simp [*]; done)), H', ⟨Nat.le_refl _⟩, ⟨by repeat (first | (with_reducible first | exact HB.out | apply below_alloc | apply pw_below_drewN | apply below_drew1) | exact HB.out)⟩⟩
              case round =>
                clear H'
                try clear c1
                try clear c2
                try clear c2b0
                try clear c2b1
                try clear p2
                try clear c3
                try clear c5
                try clear c5b0
                try clear c6
                try clear c6b0
                try clear c6b1
                try clear c7
                try clear c7b0
                try clear c7b1
                try clear c8
                try clear c9
                try clear c9b0
                try clear c9b1
                try clear c10
                try clear c10b0
                try clear c10b1
                try clear c11
                try clear c11b0
                try clear c11b1
                try clear c11b2
                try clear c12
                try clear c12b0
                try clear c13
                try clear c13b0
                try clear p2
                obtain ⟨x3_3, x6_3, rfl, rfl, HA, HK3, HB⟩ := hrel
                cases gk with
                | zero => exact absurd HA.out (by simp [cellaretref1_Shown.l1])
                | succ k3 =>
                  have H := HA.out
                  clear HA
                  simp only [cellaretref1_Shown.l1] at H
                  by_cases c14 : x6_3 < t155
                  · rw [if_pos c14] at H
                    have c14b0 : decide (x6_3 < t155) = true := decide_eq_true c14
                    clear c14
                    by_cases c15 : x3_3.size + 1 ≤ 9223372036854775807
                    · rw [if_pos c15] at H
                      have c15b0 := eq_true c15
                      have c15b1 : decide (x3_3.size + 1 ≤ 9223372036854775807) = true := decide_eq_true c15
                      try have c15b2 : (9223372036854775807 < x3_3.size + 1) = False := eq_false (Nat.not_lt.2 c15)
                      by_cases c16 : 0 ≤ x6_3
                      · rw [if_pos c16] at H
                        have c16b0 : decide (0 ≤ x6_3) = true := decide_eq_true c16
                        clear c16
                        by_cases c17 : x6_3 < (x0_1.size : Int)
                        · rw [if_pos c17] at H
                          have c17b0 : decide (x6_3 < (x0_1.size : Int)) = true := decide_eq_true c17
                          clear c17
                          replace H := Option.bind_eq_some_iff.mp H
                          obtain ⟨t156, A190, H⟩ := H
                          replace H : (if (x3_3 ++ (⟨#[92]⟩ : ByteArray)).size + t156.size ≤ 9223372036854775807 then ((cellaretref1_Text.f k3 (IntKind.u64.wrap (Go.bits .and .u8 ((bt x0_1 x6_3) / 8) 7))).bind fun t157 => (if ((x3_3 ++ (⟨#[92]⟩ : ByteArray)) ++ t156).size + t157.size ≤ 9223372036854775807 then ((cellaretref1_Text.f k3 (IntKind.u64.wrap (Go.bits .and .u8 (bt x0_1 x6_3) 7))).bind fun t158 => (if (((x3_3 ++ (⟨#[92]⟩ : ByteArray)) ++ t156) ++ t157).size + t158.size ≤ 9223372036854775807 then (cellaretref1_Shown.l1 k3 x0_1 ((((x3_3 ++ (⟨#[92]⟩ : ByteArray)) ++ t156) ++ t157) ++ t158) t155 (wrap64 (x6_3 + 1))) else (none))) else (none))) else (none)) = some r := H
                          have A19 := Aside0.mk A190
                          clear A190
                          by_cases c20 : (x3_3 ++ (⟨#[92]⟩ : ByteArray)).size + t156.size ≤ 9223372036854775807
                          · rw [if_pos c20] at H
                            have c20b0 := eq_true c20
                            have c20b1 : decide ((x3_3 ++ (⟨#[92]⟩ : ByteArray)).size + t156.size ≤ 9223372036854775807) = true := decide_eq_true c20
                            try have c20b2 : (9223372036854775807 < (x3_3 ++ (⟨#[92]⟩ : ByteArray)).size + t156.size) = False := eq_false (Nat.not_lt.2 c20)
                            have c20z := c20
                            simp only [ByteArray.size_append, show (⟨#[92]⟩ : ByteArray).size = 1 from rfl] at c20z
                            replace c20z := eq_false (Nat.not_lt.2 c20z)
                            replace H := Option.bind_eq_some_iff.mp H
                            obtain ⟨t157, A220, H⟩ := H
                            replace H : (if ((x3_3 ++ (⟨#[92]⟩ : ByteArray)) ++ t156).size + t157.size ≤ 9223372036854775807 then ((cellaretref1_Text.f k3 (IntKind.u64.wrap (Go.bits .and .u8 (bt x0_1 x6_3) 7))).bind fun t158 => (if (((x3_3 ++ (⟨#[92]⟩ : ByteArray)) ++ t156) ++ t157).size + t158.size ≤ 9223372036854775807 then (cellaretref1_Shown.l1 k3 x0_1 ((((x3_3 ++ (⟨#[92]⟩ : ByteArray)) ++ t156) ++ t157) ++ t158) t155 (wrap64 (x6_3 + 1))) else (none))) else (none)) = some r := H
                            have A22 := Aside0.mk A220
                            clear A220
                            by_cases c23 : ((x3_3 ++ (⟨#[92]⟩ : ByteArray)) ++ t156).size + t157.size ≤ 9223372036854775807
                            · rw [if_pos c23] at H
                              have c23b0 := eq_true c23
                              have c23b1 : decide (((x3_3 ++ (⟨#[92]⟩ : ByteArray)) ++ t156).size + t157.size ≤ 9223372036854775807) = true := decide_eq_true c23
                              try have c23b2 : (9223372036854775807 < ((x3_3 ++ (⟨#[92]⟩ : ByteArray)) ++ t156).size + t157.size) = False := eq_false (Nat.not_lt.2 c23)
                              have c23z := c23
                              simp only [ByteArray.size_append, show (⟨#[92]⟩ : ByteArray).size = 1 from rfl] at c23z
                              replace c23z := eq_false (Nat.not_lt.2 c23z)
                              replace H := Option.bind_eq_some_iff.mp H
                              obtain ⟨t158, A250, H⟩ := H
                              replace H : (if (((x3_3 ++ (⟨#[92]⟩ : ByteArray)) ++ t156) ++ t157).size + t158.size ≤ 9223372036854775807 then (cellaretref1_Shown.l1 k3 x0_1 ((((x3_3 ++ (⟨#[92]⟩ : ByteArray)) ++ t156) ++ t157) ++ t158) t155 (wrap64 (x6_3 + 1))) else (none)) = some r := H
                              have A25 := Aside0.mk A250
                              clear A250
                              by_cases c26 : (((x3_3 ++ (⟨#[92]⟩ : ByteArray)) ++ t156) ++ t157).size + t158.size ≤ 9223372036854775807
                              · rw [if_pos c26] at H
                                have c26b0 := eq_true c26
                                have c26b1 : decide ((((x3_3 ++ (⟨#[92]⟩ : ByteArray)) ++ t156) ++ t157).size + t158.size ≤ 9223372036854775807) = true := decide_eq_true c26
                                try have c26b2 : (9223372036854775807 < (((x3_3 ++ (⟨#[92]⟩ : ByteArray)) ++ t156) ++ t157).size + t158.size) = False := eq_false (Nat.not_lt.2 c26)
                                have c26z := c26
                                simp only [ByteArray.size_append, show (⟨#[92]⟩ : ByteArray).size = 1 from rfl] at c26z
                                replace c26z := eq_false (Nat.not_lt.2 c26z)
                                have H' := Aside0.mk H
                                clear H
                                try go_wp2
                                have n0_ := Aside0.mk (below_drew1 HB.out)
                                clear HB
                                have HB := n0_
                                clear n0_
                                have p18 : 0 ≤ (x6_3 : Int) := of_decide_eq_true (by first | (with_reducible assumption) | assumption)
                                have q18 : x6_3 < (x0_1.size : Int) := of_decide_eq_true (by first | (with_reducible assumption) | assumption)
                                have hx18 := bt_at x0_1 x6_3
                                replace p18 := eq_true p18
                                replace q18 := eq_true q18
                                have p21 : 0 ≤ (x6_3 : Int) := of_decide_eq_true (by first | (with_reducible assumption) | assumption)
                                have q21 : x6_3 < (x0_1.size : Int) := of_decide_eq_true (by first | (with_reducible assumption) | assumption)
                                have hx21 := bt_at x0_1 x6_3
                                replace p21 := eq_true p21
                                replace q21 := eq_true q21
                                have p24 : 0 ≤ (x6_3 : Int) := of_decide_eq_true (by first | (with_reducible assumption) | assumption)
                                have q24 : x6_3 < (x0_1.size : Int) := of_decide_eq_true (by first | (with_reducible assumption) | assumption)
                                have hx24 := bt_at x0_1 x6_3
                                replace p24 := eq_true p24
                                replace q24 := eq_true q24
                                refine start_ (n := 25) (S := fun w' => True) (ds := []) #[false, false, false, false, false, false, false, false, false, false, false, false, false, false, false, false, false, false, false, false, false, false, false, false, false] (by kernel_rfl) rfl rfl trivial (fun hHeld => ?_); refine with_tabW cellaretref1_Shown.tab9 cellaretref1_Shown.bits9 (fun HT_ HW_ => ?_)
                                generalize wr.drew = w27 at HB hHeld ⊢
                                refine pure_ (i := 0) (N := some 39) (v := ?_) (a' := ?_) #[true, false, false, false, false, false, false, false, false, false, false, false, false, false, false, false, false, false, false, false, false, false, false, false, false] rfl rfl (any_of HT_.out (by kernel_rfl)) (fun _ _ _ h => h) (Or.inl ⟨by rfl, ?_⟩) ?_ ?_
                                rotate_left
                                · intro w'
                                  go_simp
                                  with_reducible rfl
                                rotate_left
                                · simp only [Act.put, List.setIfInBounds_toArray, List.set_cons_zero, List.set_cons_succ, i64_w, i32_w]
                                  rfl
                                refine pure_ (i := 1) (N := some 40) (v := ?_) (a' := ?_) #[true, true, false, false, false, false, false, false, false, false, false, false, false, false, false, false, false, false, false, false, false, false, false, false, false] rfl rfl (any_of HT_.out (by kernel_rfl)) (fun _ _ _ h => h) (Or.inl ⟨by rfl, ?_⟩) ?_ ?_
                                rotate_left
                                · intro w'
                                  go_simp
                                  with_reducible rfl
                                rotate_left
                                · simp only [Act.put, List.setIfInBounds_toArray, List.set_cons_zero, List.set_cons_succ, i64_w, i32_w]
                                  rfl
                                refine pure_ (i := 2) (N := some 41) (v := ?_) (a' := ?_) #[true, true, true, false, false, false, false, false, false, false, false, false, false, false, false, false, false, false, false, false, false, false, false, false, false] rfl rfl (any_of HT_.out (by kernel_rfl)) (fun _ _ _ h => h) (Or.inl ⟨by rfl, ?_⟩) ?_ ?_
                                rotate_left
                                · intro w'
                                  go_simp
                                  with_reducible rfl
                                rotate_left
                                · simp only [Act.put, List.setIfInBounds_toArray, List.set_cons_zero, List.set_cons_succ, i64_w, i32_w]
                                  rfl
                                refine pure_ (i := 3) (N := some 42) (v := ?_) (a' := ?_) #[true, true, true, true, false, false, false, false, false, false, false, false, false, false, false, false, false, false, false, false, false, false, false, false, false] rfl rfl (any_of HT_.out (by kernel_rfl)) (fun _ _ _ h => h) (Or.inl ⟨by rfl, ?_⟩) ?_ ?_
                                rotate_left
                                · intro w'
                                  go_simp
                                  with_reducible rfl
                                rotate_left
                                · simp only [Act.put, List.setIfInBounds_toArray, List.set_cons_zero, List.set_cons_succ, i64_w, i32_w]
                                  rfl
                                refine pure_ (i := 9) (N := some 48) (v := ?_) (a' := ?_) #[true, true, true, true, false, false, false, false, false, true, false, false, false, false, false, false, false, false, false, false, false, false, false, false, false] rfl rfl (any_of HT_.out (by kernel_rfl)) (fun _ _ _ h => h) (Or.inl ⟨by rfl, ?_⟩) ?_ ?_
                                rotate_left
                                · intro w'
                                  go_simp
                                  with_reducible rfl
                                rotate_left
                                · simp only [Act.put, List.setIfInBounds_toArray, List.set_cons_zero, List.set_cons_succ, i64_w, i32_w]
                                  rfl
                                refine pure_ (i := 10) (N := some 49) (v := ?_) (a' := ?_) #[true, true, true, true, false, false, false, false, false, true, true, false, false, false, false, false, false, false, false, false, false, false, false, false, false] rfl rfl (any_of HT_.out (by kernel_rfl)) (fun _ _ _ h => h) (Or.inl ⟨by rfl, ?_⟩) ?_ ?_
                                rotate_left
                                · intro w'
                                  go_simp
                                  with_reducible rfl
                                rotate_left
                                · simp only [Act.put, List.setIfInBounds_toArray, List.set_cons_zero, List.set_cons_succ, i64_w, i32_w]
                                  rfl
                                refine pure_ (i := 17) (N := some 56) (v := ?_) (a' := ?_) #[true, true, true, true, false, false, false, false, false, true, true, false, false, false, false, false, false, true, false, false, false, false, false, false, false] rfl rfl (any_of HT_.out (by kernel_rfl)) (fun _ _ _ h => h) (Or.inl ⟨by rfl, ?_⟩) ?_ ?_
                                rotate_left
                                · intro w'
                                  go_simp
                                  with_reducible rfl
                                rotate_left
                                · simp only [Act.put, List.setIfInBounds_toArray, List.set_cons_zero, List.set_cons_succ, i64_w, i32_w]
                                  rfl
                                refine pure_ (i := 18) (N := some 57) (v := ?_) (a' := ?_) #[true, true, true, true, false, false, false, false, false, true, true, false, false, false, false, false, false, true, true, false, false, false, false, false, false] rfl rfl (any_of HT_.out (by kernel_rfl)) (fun _ _ _ h => h) (Or.inl ⟨by rfl, ?_⟩) ?_ ?_
                                rotate_left
                                · intro w'
                                  go_simp
                                  with_reducible rfl
                                rotate_left
                                · simp only [Act.put, List.setIfInBounds_toArray, List.set_cons_zero, List.set_cons_succ, i64_w, i32_w]
                                  rfl
                                refine take_ (i := 4) (N := some 43) (v := ?_) (a' := ?_) #[true, true, true, true, true, false, false, false, false, true, true, false, false, false, false, false, false, true, true, false, false, false, false, false, false] rfl rfl (take_ofW HT_.out HW_.out (by kernel_rfl)) (fun _ _ _ h => h) (Or.inl ⟨by rfl, ?_⟩) hHeld ?_ ?_
                                rotate_left
                                · intro w' _
                                  go_simp
                                  with_reducible rfl
                                rotate_left
                                · simp only [Act.put, List.setIfInBounds_toArray, List.set_cons_zero, List.set_cons_succ, i64_w, i32_w]
                                  rfl
                                refine pure_ (i := 5) (N := some 44) (v := ?_) (a' := ?_) #[true, true, true, true, true, true, false, false, false, true, true, false, false, false, false, false, false, true, true, false, false, false, false, false, false] rfl rfl (any_of HT_.out (by kernel_rfl)) (fun _ _ _ h => h) (Or.inl ⟨by rfl, ?_⟩) ?_ ?_
                                rotate_left
                                · intro w'
                                  go_simp
                                  with_reducible rfl
                                rotate_left
                                · simp only [Act.put, List.setIfInBounds_toArray, List.set_cons_zero, List.set_cons_succ, i64_w, i32_w]
                                  rfl
                                refine pure_ (i := 6) (N := some 45) (v := ?_) (a' := ?_) #[true, true, true, true, true, true, true, false, false, true, true, false, false, false, false, false, false, true, true, false, false, false, false, false, false] rfl rfl (any_of HT_.out (by kernel_rfl)) (fun _ _ _ h => h) (Or.inl ⟨by rfl, ?_⟩) ?_ ?_
                                rotate_left
                                · intro w'
                                  go_simp
                                  with_reducible rfl
                                rotate_left
                                · simp only [Act.put, List.setIfInBounds_toArray, List.set_cons_zero, List.set_cons_succ, i64_w, i32_w]
                                  rfl
                                refine take_ (i := 11) (N := some 50) (v := ?_) (a' := ?_) #[true, true, true, true, true, true, true, false, false, true, true, true, false, false, false, false, false, true, true, false, false, false, false, false, false] rfl rfl (take_ofW HT_.out HW_.out (by kernel_rfl)) (fun _ _ _ h => h) (Or.inl ⟨by rfl, ?_⟩) hHeld ?_ ?_
                                rotate_left
                                · intro w' _
                                  go_simp
                                  with_reducible rfl
                                rotate_left
                                · simp only [Act.put, List.setIfInBounds_toArray, List.set_cons_zero, List.set_cons_succ, i64_w, i32_w]
                                  rfl
                                refine pure_ (i := 12) (N := some 51) (v := ?_) (a' := ?_) #[true, true, true, true, true, true, true, false, false, true, true, true, true, false, false, false, false, true, true, false, false, false, false, false, false] rfl rfl (any_of HT_.out (by kernel_rfl)) (fun _ _ _ h => h) (Or.inl ⟨by rfl, ?_⟩) ?_ ?_
                                rotate_left
                                · intro w'
                                  go_simp
                                  with_reducible rfl
                                rotate_left
                                · simp only [Act.put, List.setIfInBounds_toArray, List.set_cons_zero, List.set_cons_succ, i64_w, i32_w]
                                  rfl
                                refine pure_ (i := 13) (N := some 52) (v := ?_) (a' := ?_) #[true, true, true, true, true, true, true, false, false, true, true, true, true, true, false, false, false, true, true, false, false, false, false, false, false] rfl rfl (any_of HT_.out (by kernel_rfl)) (fun _ _ _ h => h) (Or.inl ⟨by rfl, ?_⟩) ?_ ?_
                                rotate_left
                                · intro w'
                                  go_simp
                                  with_reducible rfl
                                rotate_left
                                · simp only [Act.put, List.setIfInBounds_toArray, List.set_cons_zero, List.set_cons_succ, i64_w, i32_w]
                                  rfl
                                refine pure_ (i := 14) (N := some 53) (v := ?_) (a' := ?_) #[true, true, true, true, true, true, true, false, false, true, true, true, true, true, true, false, false, true, true, false, false, false, false, false, false] rfl rfl (any_of HT_.out (by kernel_rfl)) (fun _ _ _ h => h) (Or.inl ⟨by rfl, ?_⟩) ?_ ?_
                                rotate_left
                                · intro w'
                                  go_simp
                                  with_reducible rfl
                                rotate_left
                                · simp only [Act.put, List.setIfInBounds_toArray, List.set_cons_zero, List.set_cons_succ, i64_w, i32_w]
                                  rfl
                                refine take_ (i := 19) (N := some 58) (v := ?_) (a' := ?_) #[true, true, true, true, true, true, true, false, false, true, true, true, true, true, true, false, false, true, true, true, false, false, false, false, false] rfl rfl (take_ofW HT_.out HW_.out (by kernel_rfl)) (fun _ _ _ h => h) (Or.inl ⟨by rfl, ?_⟩) hHeld ?_ ?_
                                rotate_left
                                · intro w' _
                                  go_simp
                                  with_reducible rfl
                                rotate_left
                                · simp only [Act.put, List.setIfInBounds_toArray, List.set_cons_zero, List.set_cons_succ, i64_w, i32_w]
                                  rfl
                                refine pure_ (i := 20) (N := some 59) (v := ?_) (a' := ?_) #[true, true, true, true, true, true, true, false, false, true, true, true, true, true, true, false, false, true, true, true, true, false, false, false, false] rfl rfl (any_of HT_.out (by kernel_rfl)) (fun _ _ _ h => h) (Or.inl ⟨by rfl, ?_⟩) ?_ ?_
                                rotate_left
                                · intro w'
                                  go_simp
                                  with_reducible rfl
                                rotate_left
                                · simp only [Act.put, List.setIfInBounds_toArray, List.set_cons_zero, List.set_cons_succ, i64_w, i32_w]
                                  rfl
                                refine pure_ (i := 21) (N := some 60) (v := ?_) (a' := ?_) #[true, true, true, true, true, true, true, false, false, true, true, true, true, true, true, false, false, true, true, true, true, true, false, false, false] rfl rfl (any_of HT_.out (by kernel_rfl)) (fun _ _ _ h => h) (Or.inl ⟨by rfl, ?_⟩) ?_ ?_
                                rotate_left
                                · intro w'
                                  go_simp
                                  with_reducible rfl
                                rotate_left
                                · simp only [Act.put, List.setIfInBounds_toArray, List.set_cons_zero, List.set_cons_succ, i64_w, i32_w]
                                  rfl
                                refine one_ (i := 7) (N := some 46) #[true, true, true, true, true, true, true, true, false, true, true, true, true, true, true, false, false, true, true, true, true, true, false, false, false] rfl rfl (one_of HT_.out (by kernel_rfl)) (by decide) (fun K hK => ?_)
                                refine goes_ Tryd.func27 (by kernel_rfl) rfl #[.int .u64 (IntKind.u64.wrap ((bt x0_1 x6_3) / 64))] (by rfl) rfl rfl (by (try simp only [List.map_toArray, List.map_cons, List.map_nil]); first | done | rfl | (simp only [List.length_drop, List.length_take]; rfl)) ?_
                                with_reducible refine (cellaretref1_Text.calls k3 (IntKind.u64.wrap ((bt x0_1 x6_3) / 64)) t156 _ A19.out).mono ?_
                                rintro e w28 ⟨rfl, hb⟩
                                refine ⟨_, rfl, ?_⟩
                                have n0_ := Aside0.mk (below_step (by repeat (first | (with_reducible first | exact HB.out | apply below_alloc | apply pw_below_drewN | apply below_drew1) | exact HB.out)) hb)
                                clear HB
                                have HB := n0_
                                clear n0_
                                (try clear hb)
                                (try clear hb2)
                                (try clear hk)
                                (try clear hi)
                                refine hK.out _ _ trivial (fun hHeld => ?_)
                                clear hK K
                                refine norm_ (a' := ?_) ?_ ?_
                                rotate_left
                                · show Act.put _ (some 46) _ = _
                                  simp only [Act.put, List.setIfInBounds_toArray, List.set_cons_zero, List.set_cons_succ, i64_w, i32_w]
                                  rfl
                                refine pure_ (i := 8) (N := some 47) (v := ?_) (a' := ?_) #[true, true, true, true, true, true, true, true, true, true, true, true, true, true, true, false, false, true, true, true, true, true, false, false, false] rfl rfl (any_of HT_.out (by kernel_rfl)) (fun _ _ _ h => h) (Or.inl ⟨by rfl, ?_⟩) ?_ ?_
                                rotate_left
                                · intro w'
                                  go_simp
                                  with_reducible rfl
                                rotate_left
                                · simp only [Act.put, List.setIfInBounds_toArray, List.set_cons_zero, List.set_cons_succ, i64_w, i32_w]
                                  rfl
                                refine one_ (i := 15) (N := some 54) #[true, true, true, true, true, true, true, true, true, true, true, true, true, true, true, true, false, true, true, true, true, true, false, false, false] rfl rfl (one_of HT_.out (by kernel_rfl)) (by decide) (fun K hK => ?_)
                                refine goes_ Tryd.func27 (by kernel_rfl) rfl #[.int .u64 (IntKind.u64.wrap (Go.bits .and .u8 ((bt x0_1 x6_3) / 8) 7))] (by rfl) rfl rfl (by (try simp only [List.map_toArray, List.map_cons, List.map_nil]); first | done | rfl | (simp only [List.length_drop, List.length_take]; rfl)) ?_
                                with_reducible refine (cellaretref1_Text.calls k3 (IntKind.u64.wrap (Go.bits .and .u8 ((bt x0_1 x6_3) / 8) 7)) t157 _ A22.out).mono ?_
                                rintro e w29 ⟨rfl, hb⟩
                                refine ⟨_, rfl, ?_⟩
                                have n0_ := Aside0.mk (below_step (by repeat (first | (with_reducible first | exact HB.out | apply below_alloc | apply pw_below_drewN | apply below_drew1) | exact HB.out)) hb)
                                clear HB
                                have HB := n0_
                                clear n0_
                                (try clear hb)
                                (try clear hb2)
                                (try clear hk)
                                (try clear hi)
                                refine hK.out _ _ trivial (fun hHeld => ?_)
                                clear hK K
                                refine norm_ (a' := ?_) ?_ ?_
                                rotate_left
                                · show Act.put _ (some 54) _ = _
                                  simp only [Act.put, List.setIfInBounds_toArray, List.set_cons_zero, List.set_cons_succ, i64_w, i32_w]
                                  rfl
                                refine pure_ (i := 16) (N := some 55) (v := ?_) (a' := ?_) #[true, true, true, true, true, true, true, true, true, true, true, true, true, true, true, true, true, true, true, true, true, true, false, false, false] rfl rfl (any_of HT_.out (by kernel_rfl)) (fun _ _ _ h => h) (Or.inl ⟨by rfl, ?_⟩) ?_ ?_
                                rotate_left
                                · intro w'
                                  go_simp
                                  with_reducible rfl
                                rotate_left
                                · simp only [Act.put, List.setIfInBounds_toArray, List.set_cons_zero, List.set_cons_succ, i64_w, i32_w]
                                  rfl
                                refine one_ (i := 22) (N := some 61) #[true, true, true, true, true, true, true, true, true, true, true, true, true, true, true, true, true, true, true, true, true, true, true, false, false] rfl rfl (one_of HT_.out (by kernel_rfl)) (by decide) (fun K hK => ?_)
                                refine goes_ Tryd.func27 (by kernel_rfl) rfl #[.int .u64 (IntKind.u64.wrap (Go.bits .and .u8 (bt x0_1 x6_3) 7))] (by rfl) rfl rfl (by (try simp only [List.map_toArray, List.map_cons, List.map_nil]); first | done | rfl | (simp only [List.length_drop, List.length_take]; rfl)) ?_
                                with_reducible refine (cellaretref1_Text.calls k3 (IntKind.u64.wrap (Go.bits .and .u8 (bt x0_1 x6_3) 7)) t158 _ A25.out).mono ?_
                                rintro e w30 ⟨rfl, hb⟩
                                refine ⟨_, rfl, ?_⟩
                                have n0_ := Aside0.mk (below_step (by repeat (first | (with_reducible first | exact HB.out | apply below_alloc | apply pw_below_drewN | apply below_drew1) | exact HB.out)) hb)
                                clear HB
                                have HB := n0_
                                clear n0_
                                (try clear hb)
                                (try clear hb2)
                                (try clear hk)
                                (try clear hi)
                                refine hK.out _ _ trivial (fun hHeld => ?_)
                                clear hK K
                                refine norm_ (a' := ?_) ?_ ?_
                                rotate_left
                                · show Act.put _ (some 61) _ = _
                                  simp only [Act.put, List.setIfInBounds_toArray, List.set_cons_zero, List.set_cons_succ, i64_w, i32_w]
                                  rfl
                                refine pure_ (i := 23) (N := some 62) (v := ?_) (a' := ?_) #[true, true, true, true, true, true, true, true, true, true, true, true, true, true, true, true, true, true, true, true, true, true, true, true, false] rfl rfl (any_of HT_.out (by kernel_rfl)) (fun _ _ _ h => h) (Or.inl ⟨by rfl, ?_⟩) ?_ ?_
                                rotate_left
                                · intro w'
                                  go_simp
                                  with_reducible rfl
                                rotate_left
                                · simp only [Act.put, List.setIfInBounds_toArray, List.set_cons_zero, List.set_cons_succ, i64_w, i32_w]
                                  rfl
                                refine pure_ (i := 24) (N := some 3) (v := ?_) (a' := ?_) #[true, true, true, true, true, true, true, true, true, true, true, true, true, true, true, true, true, true, true, true, true, true, true, true, true] rfl rfl (any_of HT_.out (by kernel_rfl)) (fun _ _ _ h => h) (Or.inl ⟨by rfl, ?_⟩) ?_ ?_
                                rotate_left
                                · intro w'
                                  go_simp
                                  with_reducible rfl
                                rotate_left
                                · simp only [Act.put, List.setIfInBounds_toArray, List.set_cons_zero, List.set_cons_succ, i64_w, i32_w]
                                  rfl
                                refine done_ (done_of HT_.out (by kernel_rfl)) ?_
                                try go_wp2
                                go_roundg k3
                                case measure => have := HK1.out; have := HJ3.out; have := HK3.out; omega
                                case rel => exact ⟨((((x3_3 ++ (⟨#[92]⟩ : ByteArray)) ++ t156) ++ t157) ++ t158), (wrap64 (x6_3 + 1)), (by first | rfl | (simp; done) | (simp [*]; done)), (by first | rfl | (simp; done) | (simp [*]; done)), H', ⟨by have := HK1.out; have := HJ3.out; have := HK3.out; omega⟩, ⟨by repeat (first | (with_reducible first | exact HB.out | apply below_alloc | apply pw_below_drewN | apply below_drew1) | exact HB.out)⟩⟩
                              · rw [if_neg c26] at H
                                exact absurd H (by simp)
                            · rw [if_neg c23] at H
                              exact absurd H (by simp)
                          · rw [if_neg c20] at H
                            exact absurd H (by simp)
                        · rw [if_neg c17] at H
                          exact absurd H (by simp)
                      · rw [if_neg c16] at H
                        exact absurd H (by simp)
                    · rw [if_neg c15] at H
                      exact absurd H (by simp)
                  · rw [if_neg c14] at H
                    have c14b0 : decide (x6_3 < t155) = false := decide_eq_false c14
                    clear c14
                    by_cases c31 : 0 ≤ t155
                    · rw [if_pos c31] at H
                      have c31b0 := eq_true c31
                      have c31b1 : decide (0 ≤ t155) = true := decide_eq_true c31
                      clear c31
                      by_cases c32 : t155 ≤ (x0_1.size : Int)
                      · rw [if_pos c32] at H
                        have c32b0 := eq_true c32
                        have c32b1 : decide (t155 ≤ (x0_1.size : Int)) = true := decide_eq_true c32
                        clear c32
                        have H' := Aside0.mk H
                        clear H
                        go_wp2
                        go_roundg k3
                        case measure => have := HK1.out; have := HJ3.out; have := HK3.out; omega
                        case rel => exact ⟨(x0_1.extract (t155 : Int).toNat x0_1.size), (x3_3), (by first | rfl | (simp; done) | (simp [*]; done)), (by first | rfl | (simp; done) | (simp [*]; done)), H', ⟨by have := HK1.out; have := HJ3.out; have := HK3.out; omega⟩, ⟨by repeat (first | (with_reducible first | exact HB.out | apply below_alloc | apply pw_below_drewN | apply below_drew1) | exact HB.out)⟩⟩
                      · rw [if_neg c32] at H
                        exact absurd H (by simp)
                    · rw [if_neg c31] at H
                      exact absurd H (by simp)
      · rw [if_neg c2] at H
        have c2b0 : decide (0 < (x0_1.size : Int)) = false := decide_eq_false c2
        have c2b1 : decide (0 < x0_1.size) = false := decide_eq_false (by omega)
        clear c2
        obtain rfl := Option.some.inj H
        go_wp2
        go_ret
        exact ⟨by first | rfl | (simp [errW_none, errW_some] <;> rfl) | (simp [*, errW_none, errW_some] <;> rfl), by repeat (first | (with_reducible first | exact HB.out | apply below_alloc | apply pw_below_drewN | apply below_drew1) | exact HB.out)⟩

end Go.Proofs.YtolbbhpcajepnaaDoor.H
