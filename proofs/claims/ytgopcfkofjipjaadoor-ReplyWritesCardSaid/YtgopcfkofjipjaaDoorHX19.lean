/-
  Printed by this session's hybrid.py (it runs the kit's print over contracts of our own for library functions): plain functions with the answers of Go functions, and that the calls come to them. Their conditions stand in each head.
-/
import Derived.Test.YtgopcfkofjipjaaDoorHX0
import Derived.Test.YtgopcfkofjipjaaDoorHX18
namespace Go.Proofs.YtgopcfkofjipjaaDoor.H
open Go.RowKit Go.Proofs.YtgopcfkofjipjaaDoorW.PrintWords Go.Proofs.YtgopcfkofjipjaaDoorW.PrintLast Go.Proofs.YtgopcfkofjipjaaDoorW.PrintMore
attribute [local go_sem] max2_int min2_int max_two min_two max_three min_three max_four min_four   -- for this text's walks alone
set_option linter.unusedVariables false
set_option linter.unusedSimpArgs false

/-! ### cellaretref18_Bytes: function 9 -/
def cellaretref18_Bytes.f (k : Nat) (a0_0 : Bool) (a0_1 : ByteArray) (a0_2 : ByteArray) (a0_3 : ByteArray) (a0_4 : Int) (a0_5 : Int) (a0_6 : Bool) : Option (ByteArray) := if a0_0 = true then (if 6 + a0_2.size ≤ 9223372036854775807 then (if ((⟨#[86, 65, 76, 85, 69, 32]⟩ : ByteArray) ++ a0_2).size + 1 ≤ 9223372036854775807 then ((cellaretref1_Text.f k (IntKind.u64.wrap (a0_4))).bind fun t223 => (if (((⟨#[86, 65, 76, 85, 69, 32]⟩ : ByteArray) ++ a0_2) ++ (⟨#[32]⟩ : ByteArray)).size + t223.size ≤ 9223372036854775807 then (if ((((⟨#[86, 65, 76, 85, 69, 32]⟩ : ByteArray) ++ a0_2) ++ (⟨#[32]⟩ : ByteArray)) ++ t223).size + 1 ≤ 9223372036854775807 then ((cellaretref1_Text.f k (IntKind.u64.wrap ((a0_3.size : Int)))).bind fun t224 => (if (((((⟨#[86, 65, 76, 85, 69, 32]⟩ : ByteArray) ++ a0_2) ++ (⟨#[32]⟩ : ByteArray)) ++ t223) ++ (⟨#[32]⟩ : ByteArray)).size + t224.size ≤ 9223372036854775807 then (if a0_6 = true then (if ((((((⟨#[86, 65, 76, 85, 69, 32]⟩ : ByteArray) ++ a0_2) ++ (⟨#[32]⟩ : ByteArray)) ++ t223) ++ (⟨#[32]⟩ : ByteArray)) ++ t224).size + 1 ≤ 9223372036854775807 then ((cellaretref1_Text.f k a0_5).bind fun t225 => (if (((((((⟨#[86, 65, 76, 85, 69, 32]⟩ : ByteArray) ++ a0_2) ++ (⟨#[32]⟩ : ByteArray)) ++ t223) ++ (⟨#[32]⟩ : ByteArray)) ++ t224) ++ (⟨#[32]⟩ : ByteArray)).size + t225.size ≤ 9223372036854775807 then (if ((((((((⟨#[86, 65, 76, 85, 69, 32]⟩ : ByteArray) ++ a0_2) ++ (⟨#[32]⟩ : ByteArray)) ++ t223) ++ (⟨#[32]⟩ : ByteArray)) ++ t224) ++ (⟨#[32]⟩ : ByteArray)) ++ t225).size + 2 ≤ 9223372036854775807 then (if (((((((((⟨#[86, 65, 76, 85, 69, 32]⟩ : ByteArray) ++ a0_2) ++ (⟨#[32]⟩ : ByteArray)) ++ t223) ++ (⟨#[32]⟩ : ByteArray)) ++ t224) ++ (⟨#[32]⟩ : ByteArray)) ++ t225) ++ (⟨#[13, 10]⟩ : ByteArray)).size + a0_3.size ≤ 9223372036854775807 then (if ((((((((((⟨#[86, 65, 76, 85, 69, 32]⟩ : ByteArray) ++ a0_2) ++ (⟨#[32]⟩ : ByteArray)) ++ t223) ++ (⟨#[32]⟩ : ByteArray)) ++ t224) ++ (⟨#[32]⟩ : ByteArray)) ++ t225) ++ (⟨#[13, 10]⟩ : ByteArray)) ++ a0_3).size + 2 ≤ 9223372036854775807 then (some (((((((((((⟨#[86, 65, 76, 85, 69, 32]⟩ : ByteArray) ++ a0_2) ++ (⟨#[32]⟩ : ByteArray)) ++ t223) ++ (⟨#[32]⟩ : ByteArray)) ++ t224) ++ (⟨#[32]⟩ : ByteArray)) ++ t225) ++ (⟨#[13, 10]⟩ : ByteArray)) ++ a0_3) ++ (⟨#[13, 10]⟩ : ByteArray))) else (none)) else (none)) else (none)) else (none))) else (none)) else (if ((((((⟨#[86, 65, 76, 85, 69, 32]⟩ : ByteArray) ++ a0_2) ++ (⟨#[32]⟩ : ByteArray)) ++ t223) ++ (⟨#[32]⟩ : ByteArray)) ++ t224).size + 2 ≤ 9223372036854775807 then (if (((((((⟨#[86, 65, 76, 85, 69, 32]⟩ : ByteArray) ++ a0_2) ++ (⟨#[32]⟩ : ByteArray)) ++ t223) ++ (⟨#[32]⟩ : ByteArray)) ++ t224) ++ (⟨#[13, 10]⟩ : ByteArray)).size + a0_3.size ≤ 9223372036854775807 then (if ((((((((⟨#[86, 65, 76, 85, 69, 32]⟩ : ByteArray) ++ a0_2) ++ (⟨#[32]⟩ : ByteArray)) ++ t223) ++ (⟨#[32]⟩ : ByteArray)) ++ t224) ++ (⟨#[13, 10]⟩ : ByteArray)) ++ a0_3).size + 2 ≤ 9223372036854775807 then (some (((((((((⟨#[86, 65, 76, 85, 69, 32]⟩ : ByteArray) ++ a0_2) ++ (⟨#[32]⟩ : ByteArray)) ++ t223) ++ (⟨#[32]⟩ : ByteArray)) ++ t224) ++ (⟨#[13, 10]⟩ : ByteArray)) ++ a0_3) ++ (⟨#[13, 10]⟩ : ByteArray))) else (none)) else (none)) else (none))) else (none))) else (none)) else (none))) else (none)) else (none)) else (if a0_1.size + 2 ≤ 9223372036854775807 then (some (a0_1 ++ (⟨#[13, 10]⟩ : ByteArray))) else (none))
theorem cellaretref18_Bytes.mono : ∀ a0 a1 a2 a3 a4 a5 a6 k, LeO (cellaretref18_Bytes.f k a0 a1 a2 a3 a4 a5 a6) (cellaretref18_Bytes.f (k + 1) a0 a1 a2 a3 a4 a5 a6) := by
  intro a0 a1 a2 a3 a4 a5 a6 k
  unfold cellaretref18_Bytes.f
  repeat' first
      | (with_reducible exact cellaretref1_Text.mono _ _)
      | (with_reducible exact LeO.refl _)
      | (with_reducible exact LeO.none _)
      | (with_reducible refine LeO.ite ?_ ?_)
      | (with_reducible refine LeO.bind ?_ (fun _ => ?_))
      | exact cellaretref1_Text.mono _ _
      | exact LeO.none _
      | refine LeO.ite ?_ ?_
      | refine LeO.bind ?_ (fun _ => ?_)
def cellaretref18_Bytes.T3 : Bool × List (List Nat × List Nat) := (true, [([], []), ([0], [0]), ([1], [1]), ([2], [2]), ([], []), ([4], [4]), ([5], [5]), ([6], [6]), ([3, 7], [3, 7]), ([8], [8]), ([], []), ([10], [10]), ([11], [11]), ([12], [12]), ([13, 7], [13]), ([9, 14], [9, 14]), ([15, 14, 0, 1, 2, 3, 4, 5, 6, 7, 8, 9, 10, 11, 12, 13, 14, 15], [15])])
def cellaretref18_Bytes.B3 : List Nat := [0, 1, 3, 7, 0, 16, 48, 112, 255, 511, 0, 1024, 3072, 7168, 15600, 32767, 65535]
theorem cellaretref18_Bytes.tab3 : rtab .any (opsOf Tryd.f9 3) = cellaretref18_Bytes.T3 := by kernel_rfl
theorem cellaretref18_Bytes.bits3 : waitsOk cellaretref18_Bytes.T3.2 cellaretref18_Bytes.B3 = true := by kernel_rfl
set_option maxHeartbeats 8000000 in
set_option maxRecDepth 100000 in
theorem cellaretref18_Bytes.calls (k : Nat) (a0_0 : Bool) (a0_1 : ByteArray) (a0_2 : ByteArray) (a0_3 : ByteArray) (a0_4 : Int) (a0_5 : Int) (a0_6 : Bool) (r : ByteArray) (w : World) (h : cellaretref18_Bytes.f k a0_0 a0_1 a0_2 a0_3 a0_4 a0_5 a0_6 = some r) :
    Calls Tryd.prog 9 #[.agg #[.bool a0_0, .string a0_1, .string a0_2, .string a0_3, .int .u32 a0_4, .int .u64 a0_5, .bool a0_6]] w fun e w' => e = .returned (.string r) ∧ Below w.heap.size w w' := by
  have hu29 := Tryd.underlying29
  have HB := Aside0.mk (Below.refl w.heap.size w)
  have H : (if a0_0 = true then (if 6 + a0_2.size ≤ 9223372036854775807 then (if ((⟨#[86, 65, 76, 85, 69, 32]⟩ : ByteArray) ++ a0_2).size + 1 ≤ 9223372036854775807 then ((cellaretref1_Text.f k (IntKind.u64.wrap (a0_4))).bind fun t223 => (if (((⟨#[86, 65, 76, 85, 69, 32]⟩ : ByteArray) ++ a0_2) ++ (⟨#[32]⟩ : ByteArray)).size + t223.size ≤ 9223372036854775807 then (if ((((⟨#[86, 65, 76, 85, 69, 32]⟩ : ByteArray) ++ a0_2) ++ (⟨#[32]⟩ : ByteArray)) ++ t223).size + 1 ≤ 9223372036854775807 then ((cellaretref1_Text.f k (IntKind.u64.wrap ((a0_3.size : Int)))).bind fun t224 => (if (((((⟨#[86, 65, 76, 85, 69, 32]⟩ : ByteArray) ++ a0_2) ++ (⟨#[32]⟩ : ByteArray)) ++ t223) ++ (⟨#[32]⟩ : ByteArray)).size + t224.size ≤ 9223372036854775807 then (if a0_6 = true then (if ((((((⟨#[86, 65, 76, 85, 69, 32]⟩ : ByteArray) ++ a0_2) ++ (⟨#[32]⟩ : ByteArray)) ++ t223) ++ (⟨#[32]⟩ : ByteArray)) ++ t224).size + 1 ≤ 9223372036854775807 then ((cellaretref1_Text.f k a0_5).bind fun t225 => (if (((((((⟨#[86, 65, 76, 85, 69, 32]⟩ : ByteArray) ++ a0_2) ++ (⟨#[32]⟩ : ByteArray)) ++ t223) ++ (⟨#[32]⟩ : ByteArray)) ++ t224) ++ (⟨#[32]⟩ : ByteArray)).size + t225.size ≤ 9223372036854775807 then (if ((((((((⟨#[86, 65, 76, 85, 69, 32]⟩ : ByteArray) ++ a0_2) ++ (⟨#[32]⟩ : ByteArray)) ++ t223) ++ (⟨#[32]⟩ : ByteArray)) ++ t224) ++ (⟨#[32]⟩ : ByteArray)) ++ t225).size + 2 ≤ 9223372036854775807 then (if (((((((((⟨#[86, 65, 76, 85, 69, 32]⟩ : ByteArray) ++ a0_2) ++ (⟨#[32]⟩ : ByteArray)) ++ t223) ++ (⟨#[32]⟩ : ByteArray)) ++ t224) ++ (⟨#[32]⟩ : ByteArray)) ++ t225) ++ (⟨#[13, 10]⟩ : ByteArray)).size + a0_3.size ≤ 9223372036854775807 then (if ((((((((((⟨#[86, 65, 76, 85, 69, 32]⟩ : ByteArray) ++ a0_2) ++ (⟨#[32]⟩ : ByteArray)) ++ t223) ++ (⟨#[32]⟩ : ByteArray)) ++ t224) ++ (⟨#[32]⟩ : ByteArray)) ++ t225) ++ (⟨#[13, 10]⟩ : ByteArray)) ++ a0_3).size + 2 ≤ 9223372036854775807 then (some (((((((((((⟨#[86, 65, 76, 85, 69, 32]⟩ : ByteArray) ++ a0_2) ++ (⟨#[32]⟩ : ByteArray)) ++ t223) ++ (⟨#[32]⟩ : ByteArray)) ++ t224) ++ (⟨#[32]⟩ : ByteArray)) ++ t225) ++ (⟨#[13, 10]⟩ : ByteArray)) ++ a0_3) ++ (⟨#[13, 10]⟩ : ByteArray))) else (none)) else (none)) else (none)) else (none))) else (none)) else (if ((((((⟨#[86, 65, 76, 85, 69, 32]⟩ : ByteArray) ++ a0_2) ++ (⟨#[32]⟩ : ByteArray)) ++ t223) ++ (⟨#[32]⟩ : ByteArray)) ++ t224).size + 2 ≤ 9223372036854775807 then (if (((((((⟨#[86, 65, 76, 85, 69, 32]⟩ : ByteArray) ++ a0_2) ++ (⟨#[32]⟩ : ByteArray)) ++ t223) ++ (⟨#[32]⟩ : ByteArray)) ++ t224) ++ (⟨#[13, 10]⟩ : ByteArray)).size + a0_3.size ≤ 9223372036854775807 then (if ((((((((⟨#[86, 65, 76, 85, 69, 32]⟩ : ByteArray) ++ a0_2) ++ (⟨#[32]⟩ : ByteArray)) ++ t223) ++ (⟨#[32]⟩ : ByteArray)) ++ t224) ++ (⟨#[13, 10]⟩ : ByteArray)) ++ a0_3).size + 2 ≤ 9223372036854775807 then (some (((((((((⟨#[86, 65, 76, 85, 69, 32]⟩ : ByteArray) ++ a0_2) ++ (⟨#[32]⟩ : ByteArray)) ++ t223) ++ (⟨#[32]⟩ : ByteArray)) ++ t224) ++ (⟨#[13, 10]⟩ : ByteArray)) ++ a0_3) ++ (⟨#[13, 10]⟩ : ByteArray))) else (none)) else (none)) else (none))) else (none))) else (none)) else (none))) else (none)) else (none)) else (if a0_1.size + 2 ≤ 9223372036854775807 then (some (a0_1 ++ (⟨#[13, 10]⟩ : ByteArray))) else (none))) = some r := h
  clear h
  by_cases c2 : a0_0 = true
  · subst c2
    have H1 : (if 6 + a0_2.size ≤ 9223372036854775807 then (if ((⟨#[86, 65, 76, 85, 69, 32]⟩ : ByteArray) ++ a0_2).size + 1 ≤ 9223372036854775807 then ((cellaretref1_Text.f k (IntKind.u64.wrap (a0_4))).bind fun t223 => (if (((⟨#[86, 65, 76, 85, 69, 32]⟩ : ByteArray) ++ a0_2) ++ (⟨#[32]⟩ : ByteArray)).size + t223.size ≤ 9223372036854775807 then (if ((((⟨#[86, 65, 76, 85, 69, 32]⟩ : ByteArray) ++ a0_2) ++ (⟨#[32]⟩ : ByteArray)) ++ t223).size + 1 ≤ 9223372036854775807 then ((cellaretref1_Text.f k (IntKind.u64.wrap ((a0_3.size : Int)))).bind fun t224 => (if (((((⟨#[86, 65, 76, 85, 69, 32]⟩ : ByteArray) ++ a0_2) ++ (⟨#[32]⟩ : ByteArray)) ++ t223) ++ (⟨#[32]⟩ : ByteArray)).size + t224.size ≤ 9223372036854775807 then (if a0_6 = true then (if ((((((⟨#[86, 65, 76, 85, 69, 32]⟩ : ByteArray) ++ a0_2) ++ (⟨#[32]⟩ : ByteArray)) ++ t223) ++ (⟨#[32]⟩ : ByteArray)) ++ t224).size + 1 ≤ 9223372036854775807 then ((cellaretref1_Text.f k a0_5).bind fun t225 => (if (((((((⟨#[86, 65, 76, 85, 69, 32]⟩ : ByteArray) ++ a0_2) ++ (⟨#[32]⟩ : ByteArray)) ++ t223) ++ (⟨#[32]⟩ : ByteArray)) ++ t224) ++ (⟨#[32]⟩ : ByteArray)).size + t225.size ≤ 9223372036854775807 then (if ((((((((⟨#[86, 65, 76, 85, 69, 32]⟩ : ByteArray) ++ a0_2) ++ (⟨#[32]⟩ : ByteArray)) ++ t223) ++ (⟨#[32]⟩ : ByteArray)) ++ t224) ++ (⟨#[32]⟩ : ByteArray)) ++ t225).size + 2 ≤ 9223372036854775807 then (if (((((((((⟨#[86, 65, 76, 85, 69, 32]⟩ : ByteArray) ++ a0_2) ++ (⟨#[32]⟩ : ByteArray)) ++ t223) ++ (⟨#[32]⟩ : ByteArray)) ++ t224) ++ (⟨#[32]⟩ : ByteArray)) ++ t225) ++ (⟨#[13, 10]⟩ : ByteArray)).size + a0_3.size ≤ 9223372036854775807 then (if ((((((((((⟨#[86, 65, 76, 85, 69, 32]⟩ : ByteArray) ++ a0_2) ++ (⟨#[32]⟩ : ByteArray)) ++ t223) ++ (⟨#[32]⟩ : ByteArray)) ++ t224) ++ (⟨#[32]⟩ : ByteArray)) ++ t225) ++ (⟨#[13, 10]⟩ : ByteArray)) ++ a0_3).size + 2 ≤ 9223372036854775807 then (some (((((((((((⟨#[86, 65, 76, 85, 69, 32]⟩ : ByteArray) ++ a0_2) ++ (⟨#[32]⟩ : ByteArray)) ++ t223) ++ (⟨#[32]⟩ : ByteArray)) ++ t224) ++ (⟨#[32]⟩ : ByteArray)) ++ t225) ++ (⟨#[13, 10]⟩ : ByteArray)) ++ a0_3) ++ (⟨#[13, 10]⟩ : ByteArray))) else (none)) else (none)) else (none)) else (none))) else (none)) else (if ((((((⟨#[86, 65, 76, 85, 69, 32]⟩ : ByteArray) ++ a0_2) ++ (⟨#[32]⟩ : ByteArray)) ++ t223) ++ (⟨#[32]⟩ : ByteArray)) ++ t224).size + 2 ≤ 9223372036854775807 then (if (((((((⟨#[86, 65, 76, 85, 69, 32]⟩ : ByteArray) ++ a0_2) ++ (⟨#[32]⟩ : ByteArray)) ++ t223) ++ (⟨#[32]⟩ : ByteArray)) ++ t224) ++ (⟨#[13, 10]⟩ : ByteArray)).size + a0_3.size ≤ 9223372036854775807 then (if ((((((((⟨#[86, 65, 76, 85, 69, 32]⟩ : ByteArray) ++ a0_2) ++ (⟨#[32]⟩ : ByteArray)) ++ t223) ++ (⟨#[32]⟩ : ByteArray)) ++ t224) ++ (⟨#[13, 10]⟩ : ByteArray)) ++ a0_3).size + 2 ≤ 9223372036854775807 then (some (((((((((⟨#[86, 65, 76, 85, 69, 32]⟩ : ByteArray) ++ a0_2) ++ (⟨#[32]⟩ : ByteArray)) ++ t223) ++ (⟨#[32]⟩ : ByteArray)) ++ t224) ++ (⟨#[13, 10]⟩ : ByteArray)) ++ a0_3) ++ (⟨#[13, 10]⟩ : ByteArray))) else (none)) else (none)) else (none))) else (none))) else (none)) else (none))) else (none)) else (none)) = some r := by rw [if_pos rfl] at H; exact H
    clear H
    have H := H1
    clear H1
    by_cases c3 : 6 + a0_2.size ≤ 9223372036854775807
    · rw [if_pos c3] at H
      have c3b0 := eq_true c3
      have c3b1 : decide (6 + a0_2.size ≤ 9223372036854775807) = true := decide_eq_true c3
      try have c3b2 : (9223372036854775807 < 6 + a0_2.size) = False := eq_false (Nat.not_lt.2 c3)
      by_cases c4 : ((⟨#[86, 65, 76, 85, 69, 32]⟩ : ByteArray) ++ a0_2).size + 1 ≤ 9223372036854775807
      · rw [if_pos c4] at H
        have c4b0 := eq_true c4
        have c4b1 : decide (((⟨#[86, 65, 76, 85, 69, 32]⟩ : ByteArray) ++ a0_2).size + 1 ≤ 9223372036854775807) = true := decide_eq_true c4
        try have c4b2 : (9223372036854775807 < ((⟨#[86, 65, 76, 85, 69, 32]⟩ : ByteArray) ++ a0_2).size + 1) = False := eq_false (Nat.not_lt.2 c4)
        have c4z := c4
        simp only [ByteArray.size_append, show (⟨#[86, 65, 76, 85, 69, 32]⟩ : ByteArray).size = 6 from rfl, show (⟨#[32]⟩ : ByteArray).size = 1 from rfl, show (⟨#[13, 10]⟩ : ByteArray).size = 2 from rfl] at c4z
        replace c4z := eq_false (Nat.not_lt.2 c4z)
        replace H := Option.bind_eq_some_iff.mp H
        obtain ⟨t223, A50, H⟩ := H
        replace H : (if (((⟨#[86, 65, 76, 85, 69, 32]⟩ : ByteArray) ++ a0_2) ++ (⟨#[32]⟩ : ByteArray)).size + t223.size ≤ 9223372036854775807 then (if ((((⟨#[86, 65, 76, 85, 69, 32]⟩ : ByteArray) ++ a0_2) ++ (⟨#[32]⟩ : ByteArray)) ++ t223).size + 1 ≤ 9223372036854775807 then ((cellaretref1_Text.f k (IntKind.u64.wrap ((a0_3.size : Int)))).bind fun t224 => (if (((((⟨#[86, 65, 76, 85, 69, 32]⟩ : ByteArray) ++ a0_2) ++ (⟨#[32]⟩ : ByteArray)) ++ t223) ++ (⟨#[32]⟩ : ByteArray)).size + t224.size ≤ 9223372036854775807 then (if a0_6 = true then (if ((((((⟨#[86, 65, 76, 85, 69, 32]⟩ : ByteArray) ++ a0_2) ++ (⟨#[32]⟩ : ByteArray)) ++ t223) ++ (⟨#[32]⟩ : ByteArray)) ++ t224).size + 1 ≤ 9223372036854775807 then ((cellaretref1_Text.f k a0_5).bind fun t225 => (if (((((((⟨#[86, 65, 76, 85, 69, 32]⟩ : ByteArray) ++ a0_2) ++ (⟨#[32]⟩ : ByteArray)) ++ t223) ++ (⟨#[32]⟩ : ByteArray)) ++ t224) ++ (⟨#[32]⟩ : ByteArray)).size + t225.size ≤ 9223372036854775807 then (if ((((((((⟨#[86, 65, 76, 85, 69, 32]⟩ : ByteArray) ++ a0_2) ++ (⟨#[32]⟩ : ByteArray)) ++ t223) ++ (⟨#[32]⟩ : ByteArray)) ++ t224) ++ (⟨#[32]⟩ : ByteArray)) ++ t225).size + 2 ≤ 9223372036854775807 then (if (((((((((⟨#[86, 65, 76, 85, 69, 32]⟩ : ByteArray) ++ a0_2) ++ (⟨#[32]⟩ : ByteArray)) ++ t223) ++ (⟨#[32]⟩ : ByteArray)) ++ t224) ++ (⟨#[32]⟩ : ByteArray)) ++ t225) ++ (⟨#[13, 10]⟩ : ByteArray)).size + a0_3.size ≤ 9223372036854775807 then (if ((((((((((⟨#[86, 65, 76, 85, 69, 32]⟩ : ByteArray) ++ a0_2) ++ (⟨#[32]⟩ : ByteArray)) ++ t223) ++ (⟨#[32]⟩ : ByteArray)) ++ t224) ++ (⟨#[32]⟩ : ByteArray)) ++ t225) ++ (⟨#[13, 10]⟩ : ByteArray)) ++ a0_3).size + 2 ≤ 9223372036854775807 then (some (((((((((((⟨#[86, 65, 76, 85, 69, 32]⟩ : ByteArray) ++ a0_2) ++ (⟨#[32]⟩ : ByteArray)) ++ t223) ++ (⟨#[32]⟩ : ByteArray)) ++ t224) ++ (⟨#[32]⟩ : ByteArray)) ++ t225) ++ (⟨#[13, 10]⟩ : ByteArray)) ++ a0_3) ++ (⟨#[13, 10]⟩ : ByteArray))) else (none)) else (none)) else (none)) else (none))) else (none)) else (if ((((((⟨#[86, 65, 76, 85, 69, 32]⟩ : ByteArray) ++ a0_2) ++ (⟨#[32]⟩ : ByteArray)) ++ t223) ++ (⟨#[32]⟩ : ByteArray)) ++ t224).size + 2 ≤ 9223372036854775807 then (if (((((((⟨#[86, 65, 76, 85, 69, 32]⟩ : ByteArray) ++ a0_2) ++ (⟨#[32]⟩ : ByteArray)) ++ t223) ++ (⟨#[32]⟩ : ByteArray)) ++ t224) ++ (⟨#[13, 10]⟩ : ByteArray)).size + a0_3.size ≤ 9223372036854775807 then (if ((((((((⟨#[86, 65, 76, 85, 69, 32]⟩ : ByteArray) ++ a0_2) ++ (⟨#[32]⟩ : ByteArray)) ++ t223) ++ (⟨#[32]⟩ : ByteArray)) ++ t224) ++ (⟨#[13, 10]⟩ : ByteArray)) ++ a0_3).size + 2 ≤ 9223372036854775807 then (some (((((((((⟨#[86, 65, 76, 85, 69, 32]⟩ : ByteArray) ++ a0_2) ++ (⟨#[32]⟩ : ByteArray)) ++ t223) ++ (⟨#[32]⟩ : ByteArray)) ++ t224) ++ (⟨#[13, 10]⟩ : ByteArray)) ++ a0_3) ++ (⟨#[13, 10]⟩ : ByteArray))) else (none)) else (none)) else (none))) else (none))) else (none)) else (none)) = some r := H
        have A5 := Aside0.mk A50
        clear A50
        by_cases c6 : (((⟨#[86, 65, 76, 85, 69, 32]⟩ : ByteArray) ++ a0_2) ++ (⟨#[32]⟩ : ByteArray)).size + t223.size ≤ 9223372036854775807
        · rw [if_pos c6] at H
          have c6b0 := eq_true c6
          have c6b1 : decide ((((⟨#[86, 65, 76, 85, 69, 32]⟩ : ByteArray) ++ a0_2) ++ (⟨#[32]⟩ : ByteArray)).size + t223.size ≤ 9223372036854775807) = true := decide_eq_true c6
          try have c6b2 : (9223372036854775807 < (((⟨#[86, 65, 76, 85, 69, 32]⟩ : ByteArray) ++ a0_2) ++ (⟨#[32]⟩ : ByteArray)).size + t223.size) = False := eq_false (Nat.not_lt.2 c6)
          have c6z := c6
          simp only [ByteArray.size_append, show (⟨#[86, 65, 76, 85, 69, 32]⟩ : ByteArray).size = 6 from rfl, show (⟨#[32]⟩ : ByteArray).size = 1 from rfl, show (⟨#[13, 10]⟩ : ByteArray).size = 2 from rfl] at c6z
          replace c6z := eq_false (Nat.not_lt.2 c6z)
          by_cases c7 : ((((⟨#[86, 65, 76, 85, 69, 32]⟩ : ByteArray) ++ a0_2) ++ (⟨#[32]⟩ : ByteArray)) ++ t223).size + 1 ≤ 9223372036854775807
          · rw [if_pos c7] at H
            have c7b0 := eq_true c7
            have c7b1 : decide (((((⟨#[86, 65, 76, 85, 69, 32]⟩ : ByteArray) ++ a0_2) ++ (⟨#[32]⟩ : ByteArray)) ++ t223).size + 1 ≤ 9223372036854775807) = true := decide_eq_true c7
            try have c7b2 : (9223372036854775807 < ((((⟨#[86, 65, 76, 85, 69, 32]⟩ : ByteArray) ++ a0_2) ++ (⟨#[32]⟩ : ByteArray)) ++ t223).size + 1) = False := eq_false (Nat.not_lt.2 c7)
            have c7z := c7
            simp only [ByteArray.size_append, show (⟨#[86, 65, 76, 85, 69, 32]⟩ : ByteArray).size = 6 from rfl, show (⟨#[32]⟩ : ByteArray).size = 1 from rfl, show (⟨#[13, 10]⟩ : ByteArray).size = 2 from rfl] at c7z
            replace c7z := eq_false (Nat.not_lt.2 c7z)
            replace H := Option.bind_eq_some_iff.mp H
            obtain ⟨t224, A80, H⟩ := H
            replace H : (if (((((⟨#[86, 65, 76, 85, 69, 32]⟩ : ByteArray) ++ a0_2) ++ (⟨#[32]⟩ : ByteArray)) ++ t223) ++ (⟨#[32]⟩ : ByteArray)).size + t224.size ≤ 9223372036854775807 then (if a0_6 = true then (if ((((((⟨#[86, 65, 76, 85, 69, 32]⟩ : ByteArray) ++ a0_2) ++ (⟨#[32]⟩ : ByteArray)) ++ t223) ++ (⟨#[32]⟩ : ByteArray)) ++ t224).size + 1 ≤ 9223372036854775807 then ((cellaretref1_Text.f k a0_5).bind fun t225 => (if (((((((⟨#[86, 65, 76, 85, 69, 32]⟩ : ByteArray) ++ a0_2) ++ (⟨#[32]⟩ : ByteArray)) ++ t223) ++ (⟨#[32]⟩ : ByteArray)) ++ t224) ++ (⟨#[32]⟩ : ByteArray)).size + t225.size ≤ 9223372036854775807 then (if ((((((((⟨#[86, 65, 76, 85, 69, 32]⟩ : ByteArray) ++ a0_2) ++ (⟨#[32]⟩ : ByteArray)) ++ t223) ++ (⟨#[32]⟩ : ByteArray)) ++ t224) ++ (⟨#[32]⟩ : ByteArray)) ++ t225).size + 2 ≤ 9223372036854775807 then (if (((((((((⟨#[86, 65, 76, 85, 69, 32]⟩ : ByteArray) ++ a0_2) ++ (⟨#[32]⟩ : ByteArray)) ++ t223) ++ (⟨#[32]⟩ : ByteArray)) ++ t224) ++ (⟨#[32]⟩ : ByteArray)) ++ t225) ++ (⟨#[13, 10]⟩ : ByteArray)).size + a0_3.size ≤ 9223372036854775807 then (if ((((((((((⟨#[86, 65, 76, 85, 69, 32]⟩ : ByteArray) ++ a0_2) ++ (⟨#[32]⟩ : ByteArray)) ++ t223) ++ (⟨#[32]⟩ : ByteArray)) ++ t224) ++ (⟨#[32]⟩ : ByteArray)) ++ t225) ++ (⟨#[13, 10]⟩ : ByteArray)) ++ a0_3).size + 2 ≤ 9223372036854775807 then (some (((((((((((⟨#[86, 65, 76, 85, 69, 32]⟩ : ByteArray) ++ a0_2) ++ (⟨#[32]⟩ : ByteArray)) ++ t223) ++ (⟨#[32]⟩ : ByteArray)) ++ t224) ++ (⟨#[32]⟩ : ByteArray)) ++ t225) ++ (⟨#[13, 10]⟩ : ByteArray)) ++ a0_3) ++ (⟨#[13, 10]⟩ : ByteArray))) else (none)) else (none)) else (none)) else (none))) else (none)) else (if ((((((⟨#[86, 65, 76, 85, 69, 32]⟩ : ByteArray) ++ a0_2) ++ (⟨#[32]⟩ : ByteArray)) ++ t223) ++ (⟨#[32]⟩ : ByteArray)) ++ t224).size + 2 ≤ 9223372036854775807 then (if (((((((⟨#[86, 65, 76, 85, 69, 32]⟩ : ByteArray) ++ a0_2) ++ (⟨#[32]⟩ : ByteArray)) ++ t223) ++ (⟨#[32]⟩ : ByteArray)) ++ t224) ++ (⟨#[13, 10]⟩ : ByteArray)).size + a0_3.size ≤ 9223372036854775807 then (if ((((((((⟨#[86, 65, 76, 85, 69, 32]⟩ : ByteArray) ++ a0_2) ++ (⟨#[32]⟩ : ByteArray)) ++ t223) ++ (⟨#[32]⟩ : ByteArray)) ++ t224) ++ (⟨#[13, 10]⟩ : ByteArray)) ++ a0_3).size + 2 ≤ 9223372036854775807 then (some (((((((((⟨#[86, 65, 76, 85, 69, 32]⟩ : ByteArray) ++ a0_2) ++ (⟨#[32]⟩ : ByteArray)) ++ t223) ++ (⟨#[32]⟩ : ByteArray)) ++ t224) ++ (⟨#[13, 10]⟩ : ByteArray)) ++ a0_3) ++ (⟨#[13, 10]⟩ : ByteArray))) else (none)) else (none)) else (none))) else (none)) = some r := H
            have A8 := Aside0.mk A80
            clear A80
            by_cases c9 : (((((⟨#[86, 65, 76, 85, 69, 32]⟩ : ByteArray) ++ a0_2) ++ (⟨#[32]⟩ : ByteArray)) ++ t223) ++ (⟨#[32]⟩ : ByteArray)).size + t224.size ≤ 9223372036854775807
            · rw [if_pos c9] at H
              have c9b0 := eq_true c9
              have c9b1 : decide ((((((⟨#[86, 65, 76, 85, 69, 32]⟩ : ByteArray) ++ a0_2) ++ (⟨#[32]⟩ : ByteArray)) ++ t223) ++ (⟨#[32]⟩ : ByteArray)).size + t224.size ≤ 9223372036854775807) = true := decide_eq_true c9
              try have c9b2 : (9223372036854775807 < (((((⟨#[86, 65, 76, 85, 69, 32]⟩ : ByteArray) ++ a0_2) ++ (⟨#[32]⟩ : ByteArray)) ++ t223) ++ (⟨#[32]⟩ : ByteArray)).size + t224.size) = False := eq_false (Nat.not_lt.2 c9)
              have c9z := c9
              simp only [ByteArray.size_append, show (⟨#[86, 65, 76, 85, 69, 32]⟩ : ByteArray).size = 6 from rfl, show (⟨#[32]⟩ : ByteArray).size = 1 from rfl, show (⟨#[13, 10]⟩ : ByteArray).size = 2 from rfl] at c9z
              replace c9z := eq_false (Nat.not_lt.2 c9z)
              by_cases c10 : a0_6 = true
              · subst c10
                have H1 : (if ((((((⟨#[86, 65, 76, 85, 69, 32]⟩ : ByteArray) ++ a0_2) ++ (⟨#[32]⟩ : ByteArray)) ++ t223) ++ (⟨#[32]⟩ : ByteArray)) ++ t224).size + 1 ≤ 9223372036854775807 then ((cellaretref1_Text.f k a0_5).bind fun t225 => (if (((((((⟨#[86, 65, 76, 85, 69, 32]⟩ : ByteArray) ++ a0_2) ++ (⟨#[32]⟩ : ByteArray)) ++ t223) ++ (⟨#[32]⟩ : ByteArray)) ++ t224) ++ (⟨#[32]⟩ : ByteArray)).size + t225.size ≤ 9223372036854775807 then (if ((((((((⟨#[86, 65, 76, 85, 69, 32]⟩ : ByteArray) ++ a0_2) ++ (⟨#[32]⟩ : ByteArray)) ++ t223) ++ (⟨#[32]⟩ : ByteArray)) ++ t224) ++ (⟨#[32]⟩ : ByteArray)) ++ t225).size + 2 ≤ 9223372036854775807 then (if (((((((((⟨#[86, 65, 76, 85, 69, 32]⟩ : ByteArray) ++ a0_2) ++ (⟨#[32]⟩ : ByteArray)) ++ t223) ++ (⟨#[32]⟩ : ByteArray)) ++ t224) ++ (⟨#[32]⟩ : ByteArray)) ++ t225) ++ (⟨#[13, 10]⟩ : ByteArray)).size + a0_3.size ≤ 9223372036854775807 then (if ((((((((((⟨#[86, 65, 76, 85, 69, 32]⟩ : ByteArray) ++ a0_2) ++ (⟨#[32]⟩ : ByteArray)) ++ t223) ++ (⟨#[32]⟩ : ByteArray)) ++ t224) ++ (⟨#[32]⟩ : ByteArray)) ++ t225) ++ (⟨#[13, 10]⟩ : ByteArray)) ++ a0_3).size + 2 ≤ 9223372036854775807 then (some (((((((((((⟨#[86, 65, 76, 85, 69, 32]⟩ : ByteArray) ++ a0_2) ++ (⟨#[32]⟩ : ByteArray)) ++ t223) ++ (⟨#[32]⟩ : ByteArray)) ++ t224) ++ (⟨#[32]⟩ : ByteArray)) ++ t225) ++ (⟨#[13, 10]⟩ : ByteArray)) ++ a0_3) ++ (⟨#[13, 10]⟩ : ByteArray))) else (none)) else (none)) else (none)) else (none))) else (none)) = some r := by rw [if_pos rfl] at H; exact H
                clear H
                have H := H1
                clear H1
                by_cases c11 : ((((((⟨#[86, 65, 76, 85, 69, 32]⟩ : ByteArray) ++ a0_2) ++ (⟨#[32]⟩ : ByteArray)) ++ t223) ++ (⟨#[32]⟩ : ByteArray)) ++ t224).size + 1 ≤ 9223372036854775807
                · rw [if_pos c11] at H
                  have c11b0 := eq_true c11
                  have c11b1 : decide (((((((⟨#[86, 65, 76, 85, 69, 32]⟩ : ByteArray) ++ a0_2) ++ (⟨#[32]⟩ : ByteArray)) ++ t223) ++ (⟨#[32]⟩ : ByteArray)) ++ t224).size + 1 ≤ 9223372036854775807) = true := decide_eq_true c11
                  try have c11b2 : (9223372036854775807 < ((((((⟨#[86, 65, 76, 85, 69, 32]⟩ : ByteArray) ++ a0_2) ++ (⟨#[32]⟩ : ByteArray)) ++ t223) ++ (⟨#[32]⟩ : ByteArray)) ++ t224).size + 1) = False := eq_false (Nat.not_lt.2 c11)
                  have c11z := c11
                  simp only [ByteArray.size_append, show (⟨#[86, 65, 76, 85, 69, 32]⟩ : ByteArray).size = 6 from rfl, show (⟨#[32]⟩ : ByteArray).size = 1 from rfl, show (⟨#[13, 10]⟩ : ByteArray).size = 2 from rfl] at c11z
                  replace c11z := eq_false (Nat.not_lt.2 c11z)
                  replace H := Option.bind_eq_some_iff.mp H
                  obtain ⟨t225, A120, H⟩ := H
                  replace H : (if (((((((⟨#[86, 65, 76, 85, 69, 32]⟩ : ByteArray) ++ a0_2) ++ (⟨#[32]⟩ : ByteArray)) ++ t223) ++ (⟨#[32]⟩ : ByteArray)) ++ t224) ++ (⟨#[32]⟩ : ByteArray)).size + t225.size ≤ 9223372036854775807 then (if ((((((((⟨#[86, 65, 76, 85, 69, 32]⟩ : ByteArray) ++ a0_2) ++ (⟨#[32]⟩ : ByteArray)) ++ t223) ++ (⟨#[32]⟩ : ByteArray)) ++ t224) ++ (⟨#[32]⟩ : ByteArray)) ++ t225).size + 2 ≤ 9223372036854775807 then (if (((((((((⟨#[86, 65, 76, 85, 69, 32]⟩ : ByteArray) ++ a0_2) ++ (⟨#[32]⟩ : ByteArray)) ++ t223) ++ (⟨#[32]⟩ : ByteArray)) ++ t224) ++ (⟨#[32]⟩ : ByteArray)) ++ t225) ++ (⟨#[13, 10]⟩ : ByteArray)).size + a0_3.size ≤ 9223372036854775807 then (if ((((((((((⟨#[86, 65, 76, 85, 69, 32]⟩ : ByteArray) ++ a0_2) ++ (⟨#[32]⟩ : ByteArray)) ++ t223) ++ (⟨#[32]⟩ : ByteArray)) ++ t224) ++ (⟨#[32]⟩ : ByteArray)) ++ t225) ++ (⟨#[13, 10]⟩ : ByteArray)) ++ a0_3).size + 2 ≤ 9223372036854775807 then (some (((((((((((⟨#[86, 65, 76, 85, 69, 32]⟩ : ByteArray) ++ a0_2) ++ (⟨#[32]⟩ : ByteArray)) ++ t223) ++ (⟨#[32]⟩ : ByteArray)) ++ t224) ++ (⟨#[32]⟩ : ByteArray)) ++ t225) ++ (⟨#[13, 10]⟩ : ByteArray)) ++ a0_3) ++ (⟨#[13, 10]⟩ : ByteArray))) else (none)) else (none)) else (none)) else (none)) = some r := H
                  have A12 := Aside0.mk A120
                  clear A120
                  by_cases c13 : (((((((⟨#[86, 65, 76, 85, 69, 32]⟩ : ByteArray) ++ a0_2) ++ (⟨#[32]⟩ : ByteArray)) ++ t223) ++ (⟨#[32]⟩ : ByteArray)) ++ t224) ++ (⟨#[32]⟩ : ByteArray)).size + t225.size ≤ 9223372036854775807
                  · rw [if_pos c13] at H
                    have c13b0 := eq_true c13
                    have c13b1 : decide ((((((((⟨#[86, 65, 76, 85, 69, 32]⟩ : ByteArray) ++ a0_2) ++ (⟨#[32]⟩ : ByteArray)) ++ t223) ++ (⟨#[32]⟩ : ByteArray)) ++ t224) ++ (⟨#[32]⟩ : ByteArray)).size + t225.size ≤ 9223372036854775807) = true := decide_eq_true c13
                    try have c13b2 : (9223372036854775807 < (((((((⟨#[86, 65, 76, 85, 69, 32]⟩ : ByteArray) ++ a0_2) ++ (⟨#[32]⟩ : ByteArray)) ++ t223) ++ (⟨#[32]⟩ : ByteArray)) ++ t224) ++ (⟨#[32]⟩ : ByteArray)).size + t225.size) = False := eq_false (Nat.not_lt.2 c13)
                    have c13z := c13
                    simp only [ByteArray.size_append, show (⟨#[86, 65, 76, 85, 69, 32]⟩ : ByteArray).size = 6 from rfl, show (⟨#[32]⟩ : ByteArray).size = 1 from rfl, show (⟨#[13, 10]⟩ : ByteArray).size = 2 from rfl] at c13z
                    replace c13z := eq_false (Nat.not_lt.2 c13z)
                    by_cases c14 : ((((((((⟨#[86, 65, 76, 85, 69, 32]⟩ : ByteArray) ++ a0_2) ++ (⟨#[32]⟩ : ByteArray)) ++ t223) ++ (⟨#[32]⟩ : ByteArray)) ++ t224) ++ (⟨#[32]⟩ : ByteArray)) ++ t225).size + 2 ≤ 9223372036854775807
                    · rw [if_pos c14] at H
                      have c14b0 := eq_true c14
                      have c14b1 : decide (((((((((⟨#[86, 65, 76, 85, 69, 32]⟩ : ByteArray) ++ a0_2) ++ (⟨#[32]⟩ : ByteArray)) ++ t223) ++ (⟨#[32]⟩ : ByteArray)) ++ t224) ++ (⟨#[32]⟩ : ByteArray)) ++ t225).size + 2 ≤ 9223372036854775807) = true := decide_eq_true c14
                      try have c14b2 : (9223372036854775807 < ((((((((⟨#[86, 65, 76, 85, 69, 32]⟩ : ByteArray) ++ a0_2) ++ (⟨#[32]⟩ : ByteArray)) ++ t223) ++ (⟨#[32]⟩ : ByteArray)) ++ t224) ++ (⟨#[32]⟩ : ByteArray)) ++ t225).size + 2) = False := eq_false (Nat.not_lt.2 c14)
                      have c14z := c14
                      simp only [ByteArray.size_append, show (⟨#[86, 65, 76, 85, 69, 32]⟩ : ByteArray).size = 6 from rfl, show (⟨#[32]⟩ : ByteArray).size = 1 from rfl, show (⟨#[13, 10]⟩ : ByteArray).size = 2 from rfl] at c14z
                      replace c14z := eq_false (Nat.not_lt.2 c14z)
                      by_cases c15 : (((((((((⟨#[86, 65, 76, 85, 69, 32]⟩ : ByteArray) ++ a0_2) ++ (⟨#[32]⟩ : ByteArray)) ++ t223) ++ (⟨#[32]⟩ : ByteArray)) ++ t224) ++ (⟨#[32]⟩ : ByteArray)) ++ t225) ++ (⟨#[13, 10]⟩ : ByteArray)).size + a0_3.size ≤ 9223372036854775807
                      · rw [if_pos c15] at H
                        have c15b0 := eq_true c15
                        have c15b1 : decide ((((((((((⟨#[86, 65, 76, 85, 69, 32]⟩ : ByteArray) ++ a0_2) ++ (⟨#[32]⟩ : ByteArray)) ++ t223) ++ (⟨#[32]⟩ : ByteArray)) ++ t224) ++ (⟨#[32]⟩ : ByteArray)) ++ t225) ++ (⟨#[13, 10]⟩ : ByteArray)).size + a0_3.size ≤ 9223372036854775807) = true := decide_eq_true c15
                        try have c15b2 : (9223372036854775807 < (((((((((⟨#[86, 65, 76, 85, 69, 32]⟩ : ByteArray) ++ a0_2) ++ (⟨#[32]⟩ : ByteArray)) ++ t223) ++ (⟨#[32]⟩ : ByteArray)) ++ t224) ++ (⟨#[32]⟩ : ByteArray)) ++ t225) ++ (⟨#[13, 10]⟩ : ByteArray)).size + a0_3.size) = False := eq_false (Nat.not_lt.2 c15)
                        have c15z := c15
                        simp only [ByteArray.size_append, show (⟨#[86, 65, 76, 85, 69, 32]⟩ : ByteArray).size = 6 from rfl, show (⟨#[32]⟩ : ByteArray).size = 1 from rfl, show (⟨#[13, 10]⟩ : ByteArray).size = 2 from rfl] at c15z
                        replace c15z := eq_false (Nat.not_lt.2 c15z)
                        by_cases c16 : ((((((((((⟨#[86, 65, 76, 85, 69, 32]⟩ : ByteArray) ++ a0_2) ++ (⟨#[32]⟩ : ByteArray)) ++ t223) ++ (⟨#[32]⟩ : ByteArray)) ++ t224) ++ (⟨#[32]⟩ : ByteArray)) ++ t225) ++ (⟨#[13, 10]⟩ : ByteArray)) ++ a0_3).size + 2 ≤ 9223372036854775807
                        · rw [if_pos c16] at H
                          have c16b0 := eq_true c16
                          have c16b1 : decide (((((((((((⟨#[86, 65, 76, 85, 69, 32]⟩ : ByteArray) ++ a0_2) ++ (⟨#[32]⟩ : ByteArray)) ++ t223) ++ (⟨#[32]⟩ : ByteArray)) ++ t224) ++ (⟨#[32]⟩ : ByteArray)) ++ t225) ++ (⟨#[13, 10]⟩ : ByteArray)) ++ a0_3).size + 2 ≤ 9223372036854775807) = true := decide_eq_true c16
                          try have c16b2 : (9223372036854775807 < ((((((((((⟨#[86, 65, 76, 85, 69, 32]⟩ : ByteArray) ++ a0_2) ++ (⟨#[32]⟩ : ByteArray)) ++ t223) ++ (⟨#[32]⟩ : ByteArray)) ++ t224) ++ (⟨#[32]⟩ : ByteArray)) ++ t225) ++ (⟨#[13, 10]⟩ : ByteArray)) ++ a0_3).size + 2) = False := eq_false (Nat.not_lt.2 c16)
                          have c16z := c16
                          simp only [ByteArray.size_append, show (⟨#[86, 65, 76, 85, 69, 32]⟩ : ByteArray).size = 6 from rfl, show (⟨#[32]⟩ : ByteArray).size = 1 from rfl, show (⟨#[13, 10]⟩ : ByteArray).size = 2 from rfl] at c16z
                          replace c16z := eq_false (Nat.not_lt.2 c16z)
                          obtain rfl := Option.some.inj H
                          go_enter Tryd.func9, Tryd.ntmps9
                          try go_wp2_with (first | ((with_reducible refine gate_dst (N := 1) rfl ?_); refine box_event ?hg (N := 1) ?hd (cs := #[.bool true, .string a0_1, .string a0_2, .string a0_3, .int .u32 a0_4, .int .u64 a0_5, .bool true]) (t := 29) ?hr ?_; (case hd => rfl); (case hg => rfl); (case hr => first | (go_simp; done) | (go_simp; rfl)); intro gb222 hg w17 hbox hb; have n0_ := Aside0.mk (below_step (by repeat (first | (with_reducible first | exact HB.out | apply below_alloc | apply pw_below_drewN | apply below_drew1) | exact HB.out)) hb); have n1_ := Aside0.mk (hbox); have n2_ := Aside0.mk ((by rw [hg]; exact (below_size (by repeat (first | (with_reducible first | exact HB.out | apply below_alloc | apply pw_below_drewN | apply below_drew1) | exact HB.out))) : w.heap.size ≤ gb222)); have n3_ := Aside0.mk ((by rw [hg]; exact (below_size (by repeat (first | (with_reducible first | exact HB.out | apply below_alloc | apply pw_below_drewN | apply below_drew1) | exact HB.out))) : w.heap.size ≤ gb222)); clear HB; have HB := n0_; have BK222 := n1_; have GW222 := n2_; have GE222 := n3_; clear n0_ n1_ n2_ n3_; clear hb hbox hg; have hcz18_0 : w17.cell? ⟨gb222, 0, none⟩ = some (.bool true) := (blk_cell BK222.out 0).trans rfl; have hcz18_1 : w17.cell? ⟨gb222, 1, none⟩ = some (.string a0_1) := (blk_cell BK222.out 1).trans rfl; have hcz18_2 : w17.cell? ⟨gb222, 2, none⟩ = some (.string a0_2) := (blk_cell BK222.out 2).trans rfl; have hcz18_3 : w17.cell? ⟨gb222, 3, none⟩ = some (.string a0_3) := (blk_cell BK222.out 3).trans rfl; have hcz18_4 : w17.cell? ⟨gb222, 4, none⟩ = some (.int .u32 a0_4) := (blk_cell BK222.out 4).trans rfl; have hcz18_5 : w17.cell? ⟨gb222, 5, none⟩ = some (.int .u64 a0_5) := (blk_cell BK222.out 5).trans rfl; have hcz18_6 : w17.cell? ⟨gb222, 6, none⟩ = some (.bool true) := (blk_cell BK222.out 6).trans rfl; have hfz18_0 := blk_frozen BK222.out 0; have hfz18_1 := blk_frozen BK222.out 1; have hfz18_2 := blk_frozen BK222.out 2; have hfz18_3 := blk_frozen BK222.out 3; have hfz18_4 := blk_frozen BK222.out 4; have hfz18_5 := blk_frozen BK222.out 5; have hfz18_6 := blk_frozen BK222.out 6))
                          have n0_ := Aside0.mk (blk_drew BK222.out)
                          have n1_ := Aside0.mk (below_drew1 HB.out)
                          clear BK222
                          clear HB
                          have BK222 := n0_
                          have HB := n1_
                          clear n0_ n1_
                          refine start_ (n := 17) (S := fun w' => w'.cell? ⟨gb222, 0, none⟩ = some (.bool true) ∧ w'.cell? ⟨gb222, 1, none⟩ = some (.string a0_1) ∧ w'.cell? ⟨gb222, 2, none⟩ = some (.string a0_2) ∧ w'.cell? ⟨gb222, 3, none⟩ = some (.string a0_3) ∧ w'.cell? ⟨gb222, 4, none⟩ = some (.int .u32 a0_4) ∧ w'.cell? ⟨gb222, 5, none⟩ = some (.int .u64 a0_5) ∧ w'.cell? ⟨gb222, 6, none⟩ = some (.bool true)) (ds := []) #[false, false, false, false, false, false, false, false, false, false, false, false, false, false, false, false, false] (by kernel_rfl) rfl rfl ⟨(blk_cell BK222.out 0).trans rfl, (blk_cell BK222.out 1).trans rfl, (blk_cell BK222.out 2).trans rfl, (blk_cell BK222.out 3).trans rfl, (blk_cell BK222.out 4).trans rfl, (blk_cell BK222.out 5).trans rfl, (blk_cell BK222.out 6).trans rfl⟩ (fun hHeld => ?_); refine with_tabW cellaretref18_Bytes.tab3 cellaretref18_Bytes.bits3 (fun HT_ HW_ => ?_)
                          generalize w17.drew = w19 at BK222 HB hHeld ⊢
                          refine pure_ (i := 0) (N := some 10) (v := ?_) (a' := ?_) #[true, false, false, false, false, false, false, false, false, false, false, false, false, false, false, false, false] rfl rfl (any_of HT_.out (by kernel_rfl)) (fun _ _ _ h => h) (Or.inl ⟨by rfl, ?_⟩) ?_ ?_
                          rotate_left
                          · intro w'
                            go_simp
                            with_reducible rfl
                          rotate_left
                          · simp only [Act.put, List.setIfInBounds_toArray, List.set_cons_zero, List.set_cons_succ, i64_w, i32_w]
                            rfl
                          refine pure_ (i := 4) (N := some 14) (v := ?_) (a' := ?_) #[true, false, false, false, true, false, false, false, false, false, false, false, false, false, false, false, false] rfl rfl (any_of HT_.out (by kernel_rfl)) (fun _ _ _ h => h) (Or.inl ⟨by rfl, ?_⟩) ?_ ?_
                          rotate_left
                          · intro w'
                            go_simp
                            with_reducible rfl
                          rotate_left
                          · simp only [Act.put, List.setIfInBounds_toArray, List.set_cons_zero, List.set_cons_succ, i64_w, i32_w]
                            rfl
                          refine pure_ (i := 10) (N := some 20) (v := ?_) (a' := ?_) #[true, false, false, false, true, false, false, false, false, false, true, false, false, false, false, false, false] rfl rfl (any_of HT_.out (by kernel_rfl)) (fun _ _ _ h => h) (Or.inl ⟨by rfl, ?_⟩) ?_ ?_
                          rotate_left
                          · intro w'
                            go_simp
                            with_reducible rfl
                          rotate_left
                          · simp only [Act.put, List.setIfInBounds_toArray, List.set_cons_zero, List.set_cons_succ, i64_w, i32_w]
                            rfl
                          refine take_ (i := 1) (N := some 11) (v := ?_) (a' := ?_) #[true, true, false, false, true, false, false, false, false, false, true, false, false, false, false, false, false] rfl rfl (take_ofW HT_.out HW_.out (by kernel_rfl)) (fun _ _ _ h => h) (Or.inl ⟨by rfl, ?_⟩) hHeld ?_ ?_
                          rotate_left
                          · rintro w' ⟨s0, s1, s2, s3, s4, s5, s6⟩
                            go_simp
                            with_reducible rfl
                          rotate_left
                          · simp only [Act.put, List.setIfInBounds_toArray, List.set_cons_zero, List.set_cons_succ, i64_w, i32_w]
                            rfl
                          refine pure_ (i := 2) (N := some 12) (v := ?_) (a' := ?_) #[true, true, true, false, true, false, false, false, false, false, true, false, false, false, false, false, false] rfl rfl (any_of HT_.out (by kernel_rfl)) (fun _ _ _ h => h) (Or.inl ⟨by rfl, ?_⟩) ?_ ?_
                          rotate_left
                          · intro w'
                            go_simp
                            with_reducible rfl
                          rotate_left
                          · simp only [Act.put, List.setIfInBounds_toArray, List.set_cons_zero, List.set_cons_succ, i64_w, i32_w]
                            rfl
                          refine pure_ (i := 3) (N := some 13) (v := ?_) (a' := ?_) #[true, true, true, true, true, false, false, false, false, false, true, false, false, false, false, false, false] rfl rfl (any_of HT_.out (by kernel_rfl)) (fun _ _ _ h => h) (Or.inl ⟨by rfl, ?_⟩) ?_ ?_
                          rotate_left
                          · intro w'
                            go_simp
                            with_reducible rfl
                          rotate_left
                          · simp only [Act.put, List.setIfInBounds_toArray, List.set_cons_zero, List.set_cons_succ, i64_w, i32_w]
                            rfl
                          refine take_ (i := 5) (N := some 15) (v := ?_) (a' := ?_) #[true, true, true, true, true, true, false, false, false, false, true, false, false, false, false, false, false] rfl rfl (take_ofW HT_.out HW_.out (by kernel_rfl)) (fun _ _ _ h => h) (Or.inl ⟨by rfl, ?_⟩) hHeld ?_ ?_
                          rotate_left
                          · rintro w' ⟨s0, s1, s2, s3, s4, s5, s6⟩
                            go_simp
                            with_reducible rfl
                          rotate_left
                          · simp only [Act.put, List.setIfInBounds_toArray, List.set_cons_zero, List.set_cons_succ, i64_w, i32_w]
                            rfl
                          refine pure_ (i := 6) (N := some 16) (v := ?_) (a' := ?_) #[true, true, true, true, true, true, true, false, false, false, true, false, false, false, false, false, false] rfl rfl (any_of HT_.out (by kernel_rfl)) (fun _ _ _ h => h) (Or.inl ⟨by rfl, ?_⟩) ?_ ?_
                          rotate_left
                          · intro w'
                            go_simp
                            with_reducible rfl
                          rotate_left
                          · simp only [Act.put, List.setIfInBounds_toArray, List.set_cons_zero, List.set_cons_succ, i64_w, i32_w]
                            rfl
                          refine take_ (i := 11) (N := some 21) (v := ?_) (a' := ?_) #[true, true, true, true, true, true, true, false, false, false, true, true, false, false, false, false, false] rfl rfl (take_ofW HT_.out HW_.out (by kernel_rfl)) (fun _ _ _ h => h) (Or.inl ⟨by rfl, ?_⟩) hHeld ?_ ?_
                          rotate_left
                          · rintro w' ⟨s0, s1, s2, s3, s4, s5, s6⟩
                            go_simp
                            with_reducible rfl
                          rotate_left
                          · simp only [Act.put, List.setIfInBounds_toArray, List.set_cons_zero, List.set_cons_succ, i64_w, i32_w]
                            rfl
                          refine pure_ (i := 12) (N := some 22) (v := ?_) (a' := ?_) #[true, true, true, true, true, true, true, false, false, false, true, true, true, false, false, false, false] rfl rfl (any_of HT_.out (by kernel_rfl)) (fun _ _ _ h => h) (Or.inl ⟨by rfl, ?_⟩) ?_ ?_
                          rotate_left
                          · intro w'
                            go_simp
                            with_reducible rfl
                          rotate_left
                          · simp only [Act.put, List.setIfInBounds_toArray, List.set_cons_zero, List.set_cons_succ, i64_w, i32_w]
                            rfl
                          refine pure_ (i := 13) (N := some 23) (v := ?_) (a' := ?_) #[true, true, true, true, true, true, true, false, false, false, true, true, true, true, false, false, false] rfl rfl (any_of HT_.out (by kernel_rfl)) (fun _ _ _ h => h) (Or.inl ⟨by rfl, ?_⟩) ?_ ?_
                          rotate_left
                          · intro w'
                            go_simp
                            with_reducible rfl
                          rotate_left
                          · simp only [Act.put, List.setIfInBounds_toArray, List.set_cons_zero, List.set_cons_succ, i64_w, i32_w]
                            rfl
                          refine one_ (i := 7) (N := some 17) #[true, true, true, true, true, true, true, true, false, false, true, true, true, true, false, false, false] rfl rfl (one_of HT_.out (by kernel_rfl)) (by decide) (fun K hK => ?_)
                          refine goes_ Tryd.func16 (by kernel_rfl) rfl #[.int .u64 (IntKind.u64.wrap (a0_4))] (by rfl) rfl rfl (by (try simp only [List.map_toArray, List.map_cons, List.map_nil]); first | done | rfl | (simp only [List.length_drop, List.length_take]; rfl)) ?_
                          with_reducible refine (cellaretref1_Text.calls k (IntKind.u64.wrap (a0_4)) t223 _ A5.out).mono ?_
                          rintro e w20 ⟨rfl, hb⟩
                          refine ⟨_, rfl, ?_⟩
                          have n0_ := Aside0.mk (blk_below (g := gb222) (o := .cells #[.bool true, .string a0_1, .string a0_2, .string a0_3, .int .u32 a0_4, .int .u64 a0_5, .bool true] 29 (0, 0)) (by (with_reducible repeat (first | refine blk_drewN ?_ _ | refine blk_drew ?_ | refine blk_alloc ?_ _)); exact BK222.out) hb)
                          have n1_ := Aside0.mk (below_step (by repeat (first | (with_reducible first | exact HB.out | apply below_alloc | apply pw_below_drewN | apply below_drew1 | refine below_set ?_ GE222.out) | exact HB.out)) hb)
                          clear BK222
                          clear HB
                          have BK222 := n0_
                          have HB := n1_
                          clear n0_ n1_
                          (try clear hb)
                          (try clear hb2)
                          (try clear hk)
                          (try clear hi)
                          refine hK.out _ _ ⟨(blk_cell BK222.out 0).trans rfl, (blk_cell BK222.out 1).trans rfl, (blk_cell BK222.out 2).trans rfl, (blk_cell BK222.out 3).trans rfl, (blk_cell BK222.out 4).trans rfl, (blk_cell BK222.out 5).trans rfl, (blk_cell BK222.out 6).trans rfl⟩ (fun hHeld => ?_)
                          clear hK K
                          refine norm_ (a' := ?_) ?_ ?_
                          rotate_left
                          · show Act.put _ (some 17) _ = _
                            simp only [Act.put, List.setIfInBounds_toArray, List.set_cons_zero, List.set_cons_succ, i64_w, i32_w]
                            rfl
                          refine pure_ (i := 8) (N := some 18) (v := ?_) (a' := ?_) #[true, true, true, true, true, true, true, true, true, false, true, true, true, true, false, false, false] rfl rfl (any_of HT_.out (by kernel_rfl)) (fun _ _ _ h => h) (Or.inl ⟨by rfl, ?_⟩) ?_ ?_
                          rotate_left
                          · intro w'
                            go_simp
                            with_reducible rfl
                          rotate_left
                          · simp only [Act.put, List.setIfInBounds_toArray, List.set_cons_zero, List.set_cons_succ, i64_w, i32_w]
                            rfl
                          refine pure_ (i := 9) (N := some 19) (v := ?_) (a' := ?_) #[true, true, true, true, true, true, true, true, true, true, true, true, true, true, false, false, false] rfl rfl (any_of HT_.out (by kernel_rfl)) (fun _ _ _ h => h) (Or.inl ⟨by rfl, ?_⟩) ?_ ?_
                          rotate_left
                          · intro w'
                            go_simp
                            with_reducible rfl
                          rotate_left
                          · simp only [Act.put, List.setIfInBounds_toArray, List.set_cons_zero, List.set_cons_succ, i64_w, i32_w]
                            rfl
                          refine one_ (i := 14) (N := some 24) #[true, true, true, true, true, true, true, true, true, true, true, true, true, true, true, false, false] rfl rfl (one_of HT_.out (by kernel_rfl)) (by decide) (fun K hK => ?_)
                          refine goes_ Tryd.func16 (by kernel_rfl) rfl #[.int .u64 (IntKind.u64.wrap ((a0_3.size : Int)))] (by rfl) rfl rfl (by (try simp only [List.map_toArray, List.map_cons, List.map_nil]); first | done | rfl | (simp only [List.length_drop, List.length_take]; rfl)) ?_
                          with_reducible refine (cellaretref1_Text.calls k (IntKind.u64.wrap ((a0_3.size : Int))) t224 _ A8.out).mono ?_
                          rintro e w21 ⟨rfl, hb⟩
                          refine ⟨_, rfl, ?_⟩
                          have n0_ := Aside0.mk (blk_below (g := gb222) (o := .cells #[.bool true, .string a0_1, .string a0_2, .string a0_3, .int .u32 a0_4, .int .u64 a0_5, .bool true] 29 (0, 0)) (by (with_reducible repeat (first | refine blk_drewN ?_ _ | refine blk_drew ?_ | refine blk_alloc ?_ _)); exact BK222.out) hb)
                          have n1_ := Aside0.mk (below_step (by repeat (first | (with_reducible first | exact HB.out | apply below_alloc | apply pw_below_drewN | apply below_drew1 | refine below_set ?_ GE222.out) | exact HB.out)) hb)
                          clear BK222
                          clear HB
                          have BK222 := n0_
                          have HB := n1_
                          clear n0_ n1_
                          (try clear hb)
                          (try clear hb2)
                          (try clear hk)
                          (try clear hi)
                          refine hK.out _ _ ⟨(blk_cell BK222.out 0).trans rfl, (blk_cell BK222.out 1).trans rfl, (blk_cell BK222.out 2).trans rfl, (blk_cell BK222.out 3).trans rfl, (blk_cell BK222.out 4).trans rfl, (blk_cell BK222.out 5).trans rfl, (blk_cell BK222.out 6).trans rfl⟩ (fun hHeld => ?_)
                          clear hK K
                          refine norm_ (a' := ?_) ?_ ?_
                          rotate_left
                          · show Act.put _ (some 24) _ = _
                            simp only [Act.put, List.setIfInBounds_toArray, List.set_cons_zero, List.set_cons_succ, i64_w, i32_w]
                            rfl
                          refine pure_ (i := 15) (N := some 25) (v := ?_) (a' := ?_) #[true, true, true, true, true, true, true, true, true, true, true, true, true, true, true, true, false] rfl rfl (any_of HT_.out (by kernel_rfl)) (fun _ _ _ h => h) (Or.inl ⟨by rfl, ?_⟩) ?_ ?_
                          rotate_left
                          · intro w'
                            go_simp
                            with_reducible rfl
                          rotate_left
                          · simp only [Act.put, List.setIfInBounds_toArray, List.set_cons_zero, List.set_cons_succ, i64_w, i32_w]
                            rfl
                          refine pure_ (i := 16) (N := some 3) (v := ?_) (a' := ?_) #[true, true, true, true, true, true, true, true, true, true, true, true, true, true, true, true, true] rfl rfl (any_of HT_.out (by kernel_rfl)) (fun _ _ _ h => h) (Or.inl ⟨by rfl, ?_⟩) ?_ ?_
                          rotate_left
                          · intro w'
                            go_simp
                            with_reducible rfl
                          rotate_left
                          · simp only [Act.put, List.setIfInBounds_toArray, List.set_cons_zero, List.set_cons_succ, i64_w, i32_w]
                            rfl
                          refine done_ (done_of HT_.out (by kernel_rfl)) ?_
                          have hcz22_0 : w21.cell? ⟨gb222, 0, none⟩ = some (.bool true) := (blk_cell BK222.out 0).trans rfl
                          have hcz22_1 : w21.cell? ⟨gb222, 1, none⟩ = some (.string a0_1) := (blk_cell BK222.out 1).trans rfl
                          have hcz22_2 : w21.cell? ⟨gb222, 2, none⟩ = some (.string a0_2) := (blk_cell BK222.out 2).trans rfl
                          have hcz22_3 : w21.cell? ⟨gb222, 3, none⟩ = some (.string a0_3) := (blk_cell BK222.out 3).trans rfl
                          have hcz22_4 : w21.cell? ⟨gb222, 4, none⟩ = some (.int .u32 a0_4) := (blk_cell BK222.out 4).trans rfl
                          have hcz22_5 : w21.cell? ⟨gb222, 5, none⟩ = some (.int .u64 a0_5) := (blk_cell BK222.out 5).trans rfl
                          have hcz22_6 : w21.cell? ⟨gb222, 6, none⟩ = some (.bool true) := (blk_cell BK222.out 6).trans rfl
                          have hfz22_0 := blk_frozen BK222.out 0
                          have hfz22_1 := blk_frozen BK222.out 1
                          have hfz22_2 := blk_frozen BK222.out 2
                          have hfz22_3 := blk_frozen BK222.out 3
                          have hfz22_4 := blk_frozen BK222.out 4
                          have hfz22_5 := blk_frozen BK222.out 5
                          have hfz22_6 := blk_frozen BK222.out 6
                          try go_wp2_with (first | ((with_reducible refine gate_callee (f := 16) rfl ?_); refine goesL_ (some 32) rfl rfl Tryd.func16 (by kernel_rfl) rfl #[.int .u64 a0_5] rfl (by (try simp only [List.map_toArray, List.map_cons, List.map_nil]); first | done | rfl | (simp only [List.length_drop, List.length_take]; rfl)) ?_; (with_reducible refine (cellaretref1_Text.calls k a0_5 t225 _ A12.out).mono ?_); rintro e w23 ⟨rfl, hb⟩; refine ⟨_, rfl, ?_⟩; have n0_ := Aside0.mk (blk_below (g := gb222) (o := .cells #[.bool true, .string a0_1, .string a0_2, .string a0_3, .int .u32 a0_4, .int .u64 a0_5, .bool true] 29 (0, 0)) (by (with_reducible repeat (first | refine blk_drewN ?_ _ | refine blk_drew ?_ | refine blk_alloc ?_ _)); exact BK222.out) hb); have n1_ := Aside0.mk (below_step (by repeat (first | (with_reducible first | exact HB.out | apply below_alloc | apply pw_below_drewN | apply below_drew1 | refine below_set ?_ GE222.out) | exact HB.out)) hb); clear BK222; clear HB; have BK222 := n0_; have HB := n1_; clear n0_ n1_; (try clear hb); (try clear hb2); (try clear hk); (try clear hi); have hcz24_0 : w23.cell? ⟨gb222, 0, none⟩ = some (.bool true) := (blk_cell BK222.out 0).trans rfl; have hcz24_1 : w23.cell? ⟨gb222, 1, none⟩ = some (.string a0_1) := (blk_cell BK222.out 1).trans rfl; have hcz24_2 : w23.cell? ⟨gb222, 2, none⟩ = some (.string a0_2) := (blk_cell BK222.out 2).trans rfl; have hcz24_3 : w23.cell? ⟨gb222, 3, none⟩ = some (.string a0_3) := (blk_cell BK222.out 3).trans rfl; have hcz24_4 : w23.cell? ⟨gb222, 4, none⟩ = some (.int .u32 a0_4) := (blk_cell BK222.out 4).trans rfl; have hcz24_5 : w23.cell? ⟨gb222, 5, none⟩ = some (.int .u64 a0_5) := (blk_cell BK222.out 5).trans rfl; have hcz24_6 : w23.cell? ⟨gb222, 6, none⟩ = some (.bool true) := (blk_cell BK222.out 6).trans rfl; have hfz24_0 := blk_frozen BK222.out 0; have hfz24_1 := blk_frozen BK222.out 1; have hfz24_2 := blk_frozen BK222.out 2; have hfz24_3 := blk_frozen BK222.out 3; have hfz24_4 := blk_frozen BK222.out 4; have hfz24_5 := blk_frozen BK222.out 5; have hfz24_6 := blk_frozen BK222.out 6))
                          go_ret
                          exact ⟨by first | rfl | (simp [errW_none, errW_some] <;> rfl) | (simp [*, errW_none, errW_some] <;> rfl), by repeat (first | (with_reducible first | exact HB.out | apply below_alloc | apply pw_below_drewN | apply below_drew1 | refine below_set ?_ GE222.out) | exact HB.out)⟩
                        · rw [if_neg c16] at H
                          exact absurd H (by simp)
                      · rw [if_neg c15] at H
                        exact absurd H (by simp)
                    · rw [if_neg c14] at H
                      exact absurd H (by simp)
                  · rw [if_neg c13] at H
                    exact absurd H (by simp)
                · rw [if_neg c11] at H
                  exact absurd H (by simp)
              · replace c10 := Bool.eq_false_iff.mpr c10
                subst c10
                have H1 : (if ((((((⟨#[86, 65, 76, 85, 69, 32]⟩ : ByteArray) ++ a0_2) ++ (⟨#[32]⟩ : ByteArray)) ++ t223) ++ (⟨#[32]⟩ : ByteArray)) ++ t224).size + 2 ≤ 9223372036854775807 then (if (((((((⟨#[86, 65, 76, 85, 69, 32]⟩ : ByteArray) ++ a0_2) ++ (⟨#[32]⟩ : ByteArray)) ++ t223) ++ (⟨#[32]⟩ : ByteArray)) ++ t224) ++ (⟨#[13, 10]⟩ : ByteArray)).size + a0_3.size ≤ 9223372036854775807 then (if ((((((((⟨#[86, 65, 76, 85, 69, 32]⟩ : ByteArray) ++ a0_2) ++ (⟨#[32]⟩ : ByteArray)) ++ t223) ++ (⟨#[32]⟩ : ByteArray)) ++ t224) ++ (⟨#[13, 10]⟩ : ByteArray)) ++ a0_3).size + 2 ≤ 9223372036854775807 then (some (((((((((⟨#[86, 65, 76, 85, 69, 32]⟩ : ByteArray) ++ a0_2) ++ (⟨#[32]⟩ : ByteArray)) ++ t223) ++ (⟨#[32]⟩ : ByteArray)) ++ t224) ++ (⟨#[13, 10]⟩ : ByteArray)) ++ a0_3) ++ (⟨#[13, 10]⟩ : ByteArray))) else (none)) else (none)) else (none)) = some r := by rw [if_neg (show ¬ (false = true) by decide)] at H; exact H
                clear H
                have H := H1
                clear H1
                by_cases c25 : ((((((⟨#[86, 65, 76, 85, 69, 32]⟩ : ByteArray) ++ a0_2) ++ (⟨#[32]⟩ : ByteArray)) ++ t223) ++ (⟨#[32]⟩ : ByteArray)) ++ t224).size + 2 ≤ 9223372036854775807
                · rw [if_pos c25] at H
                  have c25b0 := eq_true c25
                  have c25b1 : decide (((((((⟨#[86, 65, 76, 85, 69, 32]⟩ : ByteArray) ++ a0_2) ++ (⟨#[32]⟩ : ByteArray)) ++ t223) ++ (⟨#[32]⟩ : ByteArray)) ++ t224).size + 2 ≤ 9223372036854775807) = true := decide_eq_true c25
                  try have c25b2 : (9223372036854775807 < ((((((⟨#[86, 65, 76, 85, 69, 32]⟩ : ByteArray) ++ a0_2) ++ (⟨#[32]⟩ : ByteArray)) ++ t223) ++ (⟨#[32]⟩ : ByteArray)) ++ t224).size + 2) = False := eq_false (Nat.not_lt.2 c25)
                  have c25z := c25
                  simp only [ByteArray.size_append, show (⟨#[86, 65, 76, 85, 69, 32]⟩ : ByteArray).size = 6 from rfl, show (⟨#[32]⟩ : ByteArray).size = 1 from rfl, show (⟨#[13, 10]⟩ : ByteArray).size = 2 from rfl] at c25z
                  replace c25z := eq_false (Nat.not_lt.2 c25z)
                  by_cases c26 : (((((((⟨#[86, 65, 76, 85, 69, 32]⟩ : ByteArray) ++ a0_2) ++ (⟨#[32]⟩ : ByteArray)) ++ t223) ++ (⟨#[32]⟩ : ByteArray)) ++ t224) ++ (⟨#[13, 10]⟩ : ByteArray)).size + a0_3.size ≤ 9223372036854775807
                  · rw [if_pos c26] at H
                    have c26b0 := eq_true c26
                    have c26b1 : decide ((((((((⟨#[86, 65, 76, 85, 69, 32]⟩ : ByteArray) ++ a0_2) ++ (⟨#[32]⟩ : ByteArray)) ++ t223) ++ (⟨#[32]⟩ : ByteArray)) ++ t224) ++ (⟨#[13, 10]⟩ : ByteArray)).size + a0_3.size ≤ 9223372036854775807) = true := decide_eq_true c26
                    try have c26b2 : (9223372036854775807 < (((((((⟨#[86, 65, 76, 85, 69, 32]⟩ : ByteArray) ++ a0_2) ++ (⟨#[32]⟩ : ByteArray)) ++ t223) ++ (⟨#[32]⟩ : ByteArray)) ++ t224) ++ (⟨#[13, 10]⟩ : ByteArray)).size + a0_3.size) = False := eq_false (Nat.not_lt.2 c26)
                    have c26z := c26
                    simp only [ByteArray.size_append, show (⟨#[86, 65, 76, 85, 69, 32]⟩ : ByteArray).size = 6 from rfl, show (⟨#[32]⟩ : ByteArray).size = 1 from rfl, show (⟨#[13, 10]⟩ : ByteArray).size = 2 from rfl] at c26z
                    replace c26z := eq_false (Nat.not_lt.2 c26z)
                    by_cases c27 : ((((((((⟨#[86, 65, 76, 85, 69, 32]⟩ : ByteArray) ++ a0_2) ++ (⟨#[32]⟩ : ByteArray)) ++ t223) ++ (⟨#[32]⟩ : ByteArray)) ++ t224) ++ (⟨#[13, 10]⟩ : ByteArray)) ++ a0_3).size + 2 ≤ 9223372036854775807
                    · rw [if_pos c27] at H
                      have c27b0 := eq_true c27
                      have c27b1 : decide (((((((((⟨#[86, 65, 76, 85, 69, 32]⟩ : ByteArray) ++ a0_2) ++ (⟨#[32]⟩ : ByteArray)) ++ t223) ++ (⟨#[32]⟩ : ByteArray)) ++ t224) ++ (⟨#[13, 10]⟩ : ByteArray)) ++ a0_3).size + 2 ≤ 9223372036854775807) = true := decide_eq_true c27
                      try have c27b2 : (9223372036854775807 < ((((((((⟨#[86, 65, 76, 85, 69, 32]⟩ : ByteArray) ++ a0_2) ++ (⟨#[32]⟩ : ByteArray)) ++ t223) ++ (⟨#[32]⟩ : ByteArray)) ++ t224) ++ (⟨#[13, 10]⟩ : ByteArray)) ++ a0_3).size + 2) = False := eq_false (Nat.not_lt.2 c27)
                      have c27z := c27
                      simp only [ByteArray.size_append, show (⟨#[86, 65, 76, 85, 69, 32]⟩ : ByteArray).size = 6 from rfl, show (⟨#[32]⟩ : ByteArray).size = 1 from rfl, show (⟨#[13, 10]⟩ : ByteArray).size = 2 from rfl] at c27z
                      replace c27z := eq_false (Nat.not_lt.2 c27z)
                      obtain rfl := Option.some.inj H
                      go_enter Tryd.func9, Tryd.ntmps9
                      try go_wp2_with (first | ((with_reducible refine gate_dst (N := 1) rfl ?_); refine box_event ?hg (N := 1) ?hd (cs := #[.bool true, .string a0_1, .string a0_2, .string a0_3, .int .u32 a0_4, .int .u64 a0_5, .bool false]) (t := 29) ?hr ?_; (case hd => rfl); (case hg => rfl); (case hr => first | (go_simp; done) | (go_simp; rfl)); intro gb222 hg w28 hbox hb; have n0_ := Aside0.mk (below_step (by repeat (first | (with_reducible first | exact HB.out | apply below_alloc | apply pw_below_drewN | apply below_drew1) | exact HB.out)) hb); have n1_ := Aside0.mk (hbox); have n2_ := Aside0.mk ((by rw [hg]; exact (below_size (by repeat (first | (with_reducible first | exact HB.out | apply below_alloc | apply pw_below_drewN | apply below_drew1) | exact HB.out))) : w.heap.size ≤ gb222)); have n3_ := Aside0.mk ((by rw [hg]; exact (below_size (by repeat (first | (with_reducible first | exact HB.out | apply below_alloc | apply pw_below_drewN | apply below_drew1) | exact HB.out))) : w.heap.size ≤ gb222)); clear HB; have HB := n0_; have BK222 := n1_; have GW222 := n2_; have GE222 := n3_; clear n0_ n1_ n2_ n3_; clear hb hbox hg; have hcz29_0 : w28.cell? ⟨gb222, 0, none⟩ = some (.bool true) := (blk_cell BK222.out 0).trans rfl; have hcz29_1 : w28.cell? ⟨gb222, 1, none⟩ = some (.string a0_1) := (blk_cell BK222.out 1).trans rfl; have hcz29_2 : w28.cell? ⟨gb222, 2, none⟩ = some (.string a0_2) := (blk_cell BK222.out 2).trans rfl; have hcz29_3 : w28.cell? ⟨gb222, 3, none⟩ = some (.string a0_3) := (blk_cell BK222.out 3).trans rfl; have hcz29_4 : w28.cell? ⟨gb222, 4, none⟩ = some (.int .u32 a0_4) := (blk_cell BK222.out 4).trans rfl; have hcz29_5 : w28.cell? ⟨gb222, 5, none⟩ = some (.int .u64 a0_5) := (blk_cell BK222.out 5).trans rfl; have hcz29_6 : w28.cell? ⟨gb222, 6, none⟩ = some (.bool false) := (blk_cell BK222.out 6).trans rfl; have hfz29_0 := blk_frozen BK222.out 0; have hfz29_1 := blk_frozen BK222.out 1; have hfz29_2 := blk_frozen BK222.out 2; have hfz29_3 := blk_frozen BK222.out 3; have hfz29_4 := blk_frozen BK222.out 4; have hfz29_5 := blk_frozen BK222.out 5; have hfz29_6 := blk_frozen BK222.out 6))
                      have n0_ := Aside0.mk (blk_drew BK222.out)
                      have n1_ := Aside0.mk (below_drew1 HB.out)
                      clear BK222
                      clear HB
                      have BK222 := n0_
                      have HB := n1_
                      clear n0_ n1_
                      refine start_ (n := 17) (S := fun w' => w'.cell? ⟨gb222, 0, none⟩ = some (.bool true) ∧ w'.cell? ⟨gb222, 1, none⟩ = some (.string a0_1) ∧ w'.cell? ⟨gb222, 2, none⟩ = some (.string a0_2) ∧ w'.cell? ⟨gb222, 3, none⟩ = some (.string a0_3) ∧ w'.cell? ⟨gb222, 4, none⟩ = some (.int .u32 a0_4) ∧ w'.cell? ⟨gb222, 5, none⟩ = some (.int .u64 a0_5) ∧ w'.cell? ⟨gb222, 6, none⟩ = some (.bool false)) (ds := []) #[false, false, false, false, false, false, false, false, false, false, false, false, false, false, false, false, false] (by kernel_rfl) rfl rfl ⟨(blk_cell BK222.out 0).trans rfl, (blk_cell BK222.out 1).trans rfl, (blk_cell BK222.out 2).trans rfl, (blk_cell BK222.out 3).trans rfl, (blk_cell BK222.out 4).trans rfl, (blk_cell BK222.out 5).trans rfl, (blk_cell BK222.out 6).trans rfl⟩ (fun hHeld => ?_); refine with_tabW cellaretref18_Bytes.tab3 cellaretref18_Bytes.bits3 (fun HT_ HW_ => ?_)
                      generalize w28.drew = w30 at BK222 HB hHeld ⊢
                      refine pure_ (i := 0) (N := some 10) (v := ?_) (a' := ?_) #[true, false, false, false, false, false, false, false, false, false, false, false, false, false, false, false, false] rfl rfl (any_of HT_.out (by kernel_rfl)) (fun _ _ _ h => h) (Or.inl ⟨by rfl, ?_⟩) ?_ ?_
                      rotate_left
                      · intro w'
                        go_simp
                        with_reducible rfl
                      rotate_left
                      · simp only [Act.put, List.setIfInBounds_toArray, List.set_cons_zero, List.set_cons_succ, i64_w, i32_w]
                        rfl
                      refine pure_ (i := 4) (N := some 14) (v := ?_) (a' := ?_) #[true, false, false, false, true, false, false, false, false, false, false, false, false, false, false, false, false] rfl rfl (any_of HT_.out (by kernel_rfl)) (fun _ _ _ h => h) (Or.inl ⟨by rfl, ?_⟩) ?_ ?_
                      rotate_left
                      · intro w'
                        go_simp
                        with_reducible rfl
                      rotate_left
                      · simp only [Act.put, List.setIfInBounds_toArray, List.set_cons_zero, List.set_cons_succ, i64_w, i32_w]
                        rfl
                      refine pure_ (i := 10) (N := some 20) (v := ?_) (a' := ?_) #[true, false, false, false, true, false, false, false, false, false, true, false, false, false, false, false, false] rfl rfl (any_of HT_.out (by kernel_rfl)) (fun _ _ _ h => h) (Or.inl ⟨by rfl, ?_⟩) ?_ ?_
                      rotate_left
                      · intro w'
                        go_simp
                        with_reducible rfl
                      rotate_left
                      · simp only [Act.put, List.setIfInBounds_toArray, List.set_cons_zero, List.set_cons_succ, i64_w, i32_w]
                        rfl
                      refine take_ (i := 1) (N := some 11) (v := ?_) (a' := ?_) #[true, true, false, false, true, false, false, false, false, false, true, false, false, false, false, false, false] rfl rfl (take_ofW HT_.out HW_.out (by kernel_rfl)) (fun _ _ _ h => h) (Or.inl ⟨by rfl, ?_⟩) hHeld ?_ ?_
                      rotate_left
                      · rintro w' ⟨s0, s1, s2, s3, s4, s5, s6⟩
                        go_simp
                        with_reducible rfl
                      rotate_left
                      · simp only [Act.put, List.setIfInBounds_toArray, List.set_cons_zero, List.set_cons_succ, i64_w, i32_w]
                        rfl
                      refine pure_ (i := 2) (N := some 12) (v := ?_) (a' := ?_) #[true, true, true, false, true, false, false, false, false, false, true, false, false, false, false, false, false] rfl rfl (any_of HT_.out (by kernel_rfl)) (fun _ _ _ h => h) (Or.inl ⟨by rfl, ?_⟩) ?_ ?_
                      rotate_left
                      · intro w'
                        go_simp
                        with_reducible rfl
                      rotate_left
                      · simp only [Act.put, List.setIfInBounds_toArray, List.set_cons_zero, List.set_cons_succ, i64_w, i32_w]
                        rfl
                      refine pure_ (i := 3) (N := some 13) (v := ?_) (a' := ?_) #[true, true, true, true, true, false, false, false, false, false, true, false, false, false, false, false, false] rfl rfl (any_of HT_.out (by kernel_rfl)) (fun _ _ _ h => h) (Or.inl ⟨by rfl, ?_⟩) ?_ ?_
                      rotate_left
                      · intro w'
                        go_simp
                        with_reducible rfl
                      rotate_left
                      · simp only [Act.put, List.setIfInBounds_toArray, List.set_cons_zero, List.set_cons_succ, i64_w, i32_w]
                        rfl
                      refine take_ (i := 5) (N := some 15) (v := ?_) (a' := ?_) #[true, true, true, true, true, true, false, false, false, false, true, false, false, false, false, false, false] rfl rfl (take_ofW HT_.out HW_.out (by kernel_rfl)) (fun _ _ _ h => h) (Or.inl ⟨by rfl, ?_⟩) hHeld ?_ ?_
                      rotate_left
                      · rintro w' ⟨s0, s1, s2, s3, s4, s5, s6⟩
                        go_simp
                        with_reducible rfl
                      rotate_left
                      · simp only [Act.put, List.setIfInBounds_toArray, List.set_cons_zero, List.set_cons_succ, i64_w, i32_w]
                        rfl
                      refine pure_ (i := 6) (N := some 16) (v := ?_) (a' := ?_) #[true, true, true, true, true, true, true, false, false, false, true, false, false, false, false, false, false] rfl rfl (any_of HT_.out (by kernel_rfl)) (fun _ _ _ h => h) (Or.inl ⟨by rfl, ?_⟩) ?_ ?_
                      rotate_left
                      · intro w'
                        go_simp
                        with_reducible rfl
                      rotate_left
                      · simp only [Act.put, List.setIfInBounds_toArray, List.set_cons_zero, List.set_cons_succ, i64_w, i32_w]
                        rfl
                      refine take_ (i := 11) (N := some 21) (v := ?_) (a' := ?_) #[true, true, true, true, true, true, true, false, false, false, true, true, false, false, false, false, false] rfl rfl (take_ofW HT_.out HW_.out (by kernel_rfl)) (fun _ _ _ h => h) (Or.inl ⟨by rfl, ?_⟩) hHeld ?_ ?_
                      rotate_left
                      · rintro w' ⟨s0, s1, s2, s3, s4, s5, s6⟩
                        go_simp
                        with_reducible rfl
                      rotate_left
                      · simp only [Act.put, List.setIfInBounds_toArray, List.set_cons_zero, List.set_cons_succ, i64_w, i32_w]
                        rfl
                      refine pure_ (i := 12) (N := some 22) (v := ?_) (a' := ?_) #[true, true, true, true, true, true, true, false, false, false, true, true, true, false, false, false, false] rfl rfl (any_of HT_.out (by kernel_rfl)) (fun _ _ _ h => h) (Or.inl ⟨by rfl, ?_⟩) ?_ ?_
                      rotate_left
                      · intro w'
                        go_simp
                        with_reducible rfl
                      rotate_left
                      · simp only [Act.put, List.setIfInBounds_toArray, List.set_cons_zero, List.set_cons_succ, i64_w, i32_w]
                        rfl
                      refine pure_ (i := 13) (N := some 23) (v := ?_) (a' := ?_) #[true, true, true, true, true, true, true, false, false, false, true, true, true, true, false, false, false] rfl rfl (any_of HT_.out (by kernel_rfl)) (fun _ _ _ h => h) (Or.inl ⟨by rfl, ?_⟩) ?_ ?_
                      rotate_left
                      · intro w'
                        go_simp
                        with_reducible rfl
                      rotate_left
                      · simp only [Act.put, List.setIfInBounds_toArray, List.set_cons_zero, List.set_cons_succ, i64_w, i32_w]
                        rfl
                      refine one_ (i := 7) (N := some 17) #[true, true, true, true, true, true, true, true, false, false, true, true, true, true, false, false, false] rfl rfl (one_of HT_.out (by kernel_rfl)) (by decide) (fun K hK => ?_)
                      refine goes_ Tryd.func16 (by kernel_rfl) rfl #[.int .u64 (IntKind.u64.wrap (a0_4))] (by rfl) rfl rfl (by (try simp only [List.map_toArray, List.map_cons, List.map_nil]); first | done | rfl | (simp only [List.length_drop, List.length_take]; rfl)) ?_
                      with_reducible refine (cellaretref1_Text.calls k (IntKind.u64.wrap (a0_4)) t223 _ A5.out).mono ?_
                      rintro e w31 ⟨rfl, hb⟩
                      refine ⟨_, rfl, ?_⟩
                      have n0_ := Aside0.mk (blk_below (g := gb222) (o := .cells #[.bool true, .string a0_1, .string a0_2, .string a0_3, .int .u32 a0_4, .int .u64 a0_5, .bool false] 29 (0, 0)) (by (with_reducible repeat (first | refine blk_drewN ?_ _ | refine blk_drew ?_ | refine blk_alloc ?_ _)); exact BK222.out) hb)
                      have n1_ := Aside0.mk (below_step (by repeat (first | (with_reducible first | exact HB.out | apply below_alloc | apply pw_below_drewN | apply below_drew1 | refine below_set ?_ GE222.out) | exact HB.out)) hb)
                      clear BK222
                      clear HB
                      have BK222 := n0_
                      have HB := n1_
                      clear n0_ n1_
                      (try clear hb)
                      (try clear hb2)
                      (try clear hk)
                      (try clear hi)
                      refine hK.out _ _ ⟨(blk_cell BK222.out 0).trans rfl, (blk_cell BK222.out 1).trans rfl, (blk_cell BK222.out 2).trans rfl, (blk_cell BK222.out 3).trans rfl, (blk_cell BK222.out 4).trans rfl, (blk_cell BK222.out 5).trans rfl, (blk_cell BK222.out 6).trans rfl⟩ (fun hHeld => ?_)
                      clear hK K
                      refine norm_ (a' := ?_) ?_ ?_
                      rotate_left
                      · show Act.put _ (some 17) _ = _
                        simp only [Act.put, List.setIfInBounds_toArray, List.set_cons_zero, List.set_cons_succ, i64_w, i32_w]
                        rfl
                      refine pure_ (i := 8) (N := some 18) (v := ?_) (a' := ?_) #[true, true, true, true, true, true, true, true, true, false, true, true, true, true, false, false, false] rfl rfl (any_of HT_.out (by kernel_rfl)) (fun _ _ _ h => h) (Or.inl ⟨by rfl, ?_⟩) ?_ ?_
                      rotate_left
                      · intro w'
                        go_simp
                        with_reducible rfl
                      rotate_left
                      · simp only [Act.put, List.setIfInBounds_toArray, List.set_cons_zero, List.set_cons_succ, i64_w, i32_w]
                        rfl
                      refine pure_ (i := 9) (N := some 19) (v := ?_) (a' := ?_) #[true, true, true, true, true, true, true, true, true, true, true, true, true, true, false, false, false] rfl rfl (any_of HT_.out (by kernel_rfl)) (fun _ _ _ h => h) (Or.inl ⟨by rfl, ?_⟩) ?_ ?_
                      rotate_left
                      · intro w'
                        go_simp
                        with_reducible rfl
                      rotate_left
                      · simp only [Act.put, List.setIfInBounds_toArray, List.set_cons_zero, List.set_cons_succ, i64_w, i32_w]
                        rfl
                      refine one_ (i := 14) (N := some 24) #[true, true, true, true, true, true, true, true, true, true, true, true, true, true, true, false, false] rfl rfl (one_of HT_.out (by kernel_rfl)) (by decide) (fun K hK => ?_)
                      refine goes_ Tryd.func16 (by kernel_rfl) rfl #[.int .u64 (IntKind.u64.wrap ((a0_3.size : Int)))] (by rfl) rfl rfl (by (try simp only [List.map_toArray, List.map_cons, List.map_nil]); first | done | rfl | (simp only [List.length_drop, List.length_take]; rfl)) ?_
                      with_reducible refine (cellaretref1_Text.calls k (IntKind.u64.wrap ((a0_3.size : Int))) t224 _ A8.out).mono ?_
                      rintro e w32 ⟨rfl, hb⟩
                      refine ⟨_, rfl, ?_⟩
                      have n0_ := Aside0.mk (blk_below (g := gb222) (o := .cells #[.bool true, .string a0_1, .string a0_2, .string a0_3, .int .u32 a0_4, .int .u64 a0_5, .bool false] 29 (0, 0)) (by (with_reducible repeat (first | refine blk_drewN ?_ _ | refine blk_drew ?_ | refine blk_alloc ?_ _)); exact BK222.out) hb)
                      have n1_ := Aside0.mk (below_step (by repeat (first | (with_reducible first | exact HB.out | apply below_alloc | apply pw_below_drewN | apply below_drew1 | refine below_set ?_ GE222.out) | exact HB.out)) hb)
                      clear BK222
                      clear HB
                      have BK222 := n0_
                      have HB := n1_
                      clear n0_ n1_
                      (try clear hb)
                      (try clear hb2)
                      (try clear hk)
                      (try clear hi)
                      refine hK.out _ _ ⟨(blk_cell BK222.out 0).trans rfl, (blk_cell BK222.out 1).trans rfl, (blk_cell BK222.out 2).trans rfl, (blk_cell BK222.out 3).trans rfl, (blk_cell BK222.out 4).trans rfl, (blk_cell BK222.out 5).trans rfl, (blk_cell BK222.out 6).trans rfl⟩ (fun hHeld => ?_)
                      clear hK K
                      refine norm_ (a' := ?_) ?_ ?_
                      rotate_left
                      · show Act.put _ (some 24) _ = _
                        simp only [Act.put, List.setIfInBounds_toArray, List.set_cons_zero, List.set_cons_succ, i64_w, i32_w]
                        rfl
                      refine pure_ (i := 15) (N := some 25) (v := ?_) (a' := ?_) #[true, true, true, true, true, true, true, true, true, true, true, true, true, true, true, true, false] rfl rfl (any_of HT_.out (by kernel_rfl)) (fun _ _ _ h => h) (Or.inl ⟨by rfl, ?_⟩) ?_ ?_
                      rotate_left
                      · intro w'
                        go_simp
                        with_reducible rfl
                      rotate_left
                      · simp only [Act.put, List.setIfInBounds_toArray, List.set_cons_zero, List.set_cons_succ, i64_w, i32_w]
                        rfl
                      refine pure_ (i := 16) (N := some 3) (v := ?_) (a' := ?_) #[true, true, true, true, true, true, true, true, true, true, true, true, true, true, true, true, true] rfl rfl (any_of HT_.out (by kernel_rfl)) (fun _ _ _ h => h) (Or.inl ⟨by rfl, ?_⟩) ?_ ?_
                      rotate_left
                      · intro w'
                        go_simp
                        with_reducible rfl
                      rotate_left
                      · simp only [Act.put, List.setIfInBounds_toArray, List.set_cons_zero, List.set_cons_succ, i64_w, i32_w]
                        rfl
                      refine done_ (done_of HT_.out (by kernel_rfl)) ?_
                      have hcz33_0 : w32.cell? ⟨gb222, 0, none⟩ = some (.bool true) := (blk_cell BK222.out 0).trans rfl
                      have hcz33_1 : w32.cell? ⟨gb222, 1, none⟩ = some (.string a0_1) := (blk_cell BK222.out 1).trans rfl
                      have hcz33_2 : w32.cell? ⟨gb222, 2, none⟩ = some (.string a0_2) := (blk_cell BK222.out 2).trans rfl
                      have hcz33_3 : w32.cell? ⟨gb222, 3, none⟩ = some (.string a0_3) := (blk_cell BK222.out 3).trans rfl
                      have hcz33_4 : w32.cell? ⟨gb222, 4, none⟩ = some (.int .u32 a0_4) := (blk_cell BK222.out 4).trans rfl
                      have hcz33_5 : w32.cell? ⟨gb222, 5, none⟩ = some (.int .u64 a0_5) := (blk_cell BK222.out 5).trans rfl
                      have hcz33_6 : w32.cell? ⟨gb222, 6, none⟩ = some (.bool false) := (blk_cell BK222.out 6).trans rfl
                      have hfz33_0 := blk_frozen BK222.out 0
                      have hfz33_1 := blk_frozen BK222.out 1
                      have hfz33_2 := blk_frozen BK222.out 2
                      have hfz33_3 := blk_frozen BK222.out 3
                      have hfz33_4 := blk_frozen BK222.out 4
                      have hfz33_5 := blk_frozen BK222.out 5
                      have hfz33_6 := blk_frozen BK222.out 6
                      try go_wp2
                      go_ret
                      exact ⟨by first | rfl | (simp [errW_none, errW_some] <;> rfl) | (simp [*, errW_none, errW_some] <;> rfl), by repeat (first | (with_reducible first | exact HB.out | apply below_alloc | apply pw_below_drewN | apply below_drew1 | refine below_set ?_ GE222.out) | exact HB.out)⟩
                    · rw [if_neg c27] at H
                      exact absurd H (by simp)
                  · rw [if_neg c26] at H
                    exact absurd H (by simp)
                · rw [if_neg c25] at H
                  exact absurd H (by simp)
            · rw [if_neg c9] at H
              exact absurd H (by simp)
          · rw [if_neg c7] at H
            exact absurd H (by simp)
        · rw [if_neg c6] at H
          exact absurd H (by simp)
      · rw [if_neg c4] at H
        exact absurd H (by simp)
    · rw [if_neg c3] at H
      exact absurd H (by simp)
  · replace c2 := Bool.eq_false_iff.mpr c2
    subst c2
    have H1 : (if a0_1.size + 2 ≤ 9223372036854775807 then (some (a0_1 ++ (⟨#[13, 10]⟩ : ByteArray))) else (none)) = some r := by rw [if_neg (show ¬ (false = true) by decide)] at H; exact H
    clear H
    have H := H1
    clear H1
    by_cases c34 : a0_1.size + 2 ≤ 9223372036854775807
    · rw [if_pos c34] at H
      have c34b0 := eq_true c34
      have c34b1 : decide (a0_1.size + 2 ≤ 9223372036854775807) = true := decide_eq_true c34
      try have c34b2 : (9223372036854775807 < a0_1.size + 2) = False := eq_false (Nat.not_lt.2 c34)
      obtain rfl := Option.some.inj H
      go_enter Tryd.func9, Tryd.ntmps9
      go_wp2_with (first | ((with_reducible refine gate_dst (N := 1) rfl ?_); refine box_event ?hg (N := 1) ?hd (cs := #[.bool false, .string a0_1, .string a0_2, .string a0_3, .int .u32 a0_4, .int .u64 a0_5, .bool a0_6]) (t := 29) ?hr ?_; (case hd => rfl); (case hg => rfl); (case hr => first | (go_simp; done) | (go_simp; rfl)); intro gb222 hg w35 hbox hb; have n0_ := Aside0.mk (below_step (by repeat (first | (with_reducible first | exact HB.out | apply below_alloc | apply pw_below_drewN | apply below_drew1) | exact HB.out)) hb); have n1_ := Aside0.mk (hbox); have n2_ := Aside0.mk ((by rw [hg]; exact (below_size (by repeat (first | (with_reducible first | exact HB.out | apply below_alloc | apply pw_below_drewN | apply below_drew1) | exact HB.out))) : w.heap.size ≤ gb222)); have n3_ := Aside0.mk ((by rw [hg]; exact (below_size (by repeat (first | (with_reducible first | exact HB.out | apply below_alloc | apply pw_below_drewN | apply below_drew1) | exact HB.out))) : w.heap.size ≤ gb222)); clear HB; have HB := n0_; have BK222 := n1_; have GW222 := n2_; have GE222 := n3_; clear n0_ n1_ n2_ n3_; clear hb hbox hg; have hcz36_0 : w35.cell? ⟨gb222, 0, none⟩ = some (.bool false) := (blk_cell BK222.out 0).trans rfl; have hcz36_1 : w35.cell? ⟨gb222, 1, none⟩ = some (.string a0_1) := (blk_cell BK222.out 1).trans rfl; have hcz36_2 : w35.cell? ⟨gb222, 2, none⟩ = some (.string a0_2) := (blk_cell BK222.out 2).trans rfl; have hcz36_3 : w35.cell? ⟨gb222, 3, none⟩ = some (.string a0_3) := (blk_cell BK222.out 3).trans rfl; have hcz36_4 : w35.cell? ⟨gb222, 4, none⟩ = some (.int .u32 a0_4) := (blk_cell BK222.out 4).trans rfl; have hcz36_5 : w35.cell? ⟨gb222, 5, none⟩ = some (.int .u64 a0_5) := (blk_cell BK222.out 5).trans rfl; have hcz36_6 : w35.cell? ⟨gb222, 6, none⟩ = some (.bool a0_6) := (blk_cell BK222.out 6).trans rfl; have hfz36_0 := blk_frozen BK222.out 0; have hfz36_1 := blk_frozen BK222.out 1; have hfz36_2 := blk_frozen BK222.out 2; have hfz36_3 := blk_frozen BK222.out 3; have hfz36_4 := blk_frozen BK222.out 4; have hfz36_5 := blk_frozen BK222.out 5; have hfz36_6 := blk_frozen BK222.out 6))
      go_ret
      exact ⟨by first | rfl | (simp [errW_none, errW_some] <;> rfl) | (simp [*, errW_none, errW_some] <;> rfl), by repeat (first | (with_reducible first | exact HB.out | apply below_alloc | apply pw_below_drewN | apply below_drew1 | refine below_set ?_ GE222.out) | exact HB.out)⟩
    · rw [if_neg c34] at H
      exact absurd H (by simp)

end Go.Proofs.YtgopcfkofjipjaaDoor.H
