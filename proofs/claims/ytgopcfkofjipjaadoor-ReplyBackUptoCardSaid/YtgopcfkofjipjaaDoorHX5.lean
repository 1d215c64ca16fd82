/-
  Printed by this session's hybrid.py (it runs the kit's print over contracts of our own for library functions): plain functions with the answers of Go functions, and that the calls come to them. Their conditions stand in each head.
-/
import Derived.Test.YtgopcfkofjipjaaDoorHX0
namespace Go.Proofs.YtgopcfkofjipjaaDoor.H
open Go.RowKit Go.Proofs.YtgopcfkofjipjaaDoorW.PrintWords Go.Proofs.YtgopcfkofjipjaaDoorW.PrintLast Go.Proofs.YtgopcfkofjipjaaDoorW.PrintMore
attribute [local go_sem] max2_int min2_int max_two min_two max_three min_three max_four min_four   -- for this text's walks alone
set_option linter.unusedVariables false
set_option linter.unusedSimpArgs false

/-! ### reply_Bytes: function 10 -/
def reply_Bytes.f (a0_0 : Bool) (a0_1 : ByteArray) (a0_2 : ByteArray) (a0_3 : ByteArray) (a0_4 : Int) (a0_5 : Int) (a0_6 : Bool) : Option (List Int) := if a0_0 = true then (if 6 + a0_1.size ≤ 9223372036854775807 then (if ((⟨#[86, 65, 76, 85, 69, 32]⟩ : ByteArray) ++ a0_1).size + 1 ≤ 9223372036854775807 then ((strconv_FormatUint.f (IntKind.u64.wrap (a0_4)) 10).bind fun t105 => (if (((⟨#[86, 65, 76, 85, 69, 32]⟩ : ByteArray) ++ a0_1) ++ (⟨#[32]⟩ : ByteArray)).size + t105.size ≤ 9223372036854775807 then (if ((((⟨#[86, 65, 76, 85, 69, 32]⟩ : ByteArray) ++ a0_1) ++ (⟨#[32]⟩ : ByteArray)) ++ t105).size + 1 ≤ 9223372036854775807 then ((strconv_Itoa.f (a0_2.size : Int)).bind fun t106 => (if (((((⟨#[86, 65, 76, 85, 69, 32]⟩ : ByteArray) ++ a0_1) ++ (⟨#[32]⟩ : ByteArray)) ++ t105) ++ (⟨#[32]⟩ : ByteArray)).size + t106.size ≤ 9223372036854775807 then (if a0_6 = true then ((strconv_FormatUint.f a0_5 10).bind fun t107 => (if 1 + t107.size ≤ 9223372036854775807 then (if ((((((⟨#[86, 65, 76, 85, 69, 32]⟩ : ByteArray) ++ a0_1) ++ (⟨#[32]⟩ : ByteArray)) ++ t105) ++ (⟨#[32]⟩ : ByteArray)) ++ t106).size + ((⟨#[32]⟩ : ByteArray) ++ t107).size ≤ 9223372036854775807 then (if (((((((⟨#[86, 65, 76, 85, 69, 32]⟩ : ByteArray) ++ a0_1) ++ (⟨#[32]⟩ : ByteArray)) ++ t105) ++ (⟨#[32]⟩ : ByteArray)) ++ t106) ++ ((⟨#[32]⟩ : ByteArray) ++ t107)).size + 2 ≤ 9223372036854775807 then (if ((((((((⟨#[86, 65, 76, 85, 69, 32]⟩ : ByteArray) ++ a0_1) ++ (⟨#[32]⟩ : ByteArray)) ++ t105) ++ (⟨#[32]⟩ : ByteArray)) ++ t106) ++ ((⟨#[32]⟩ : ByteArray) ++ t107)) ++ (⟨#[13, 10]⟩ : ByteArray)).size + a0_2.size ≤ 9223372036854775807 then (if (((((((((⟨#[86, 65, 76, 85, 69, 32]⟩ : ByteArray) ++ a0_1) ++ (⟨#[32]⟩ : ByteArray)) ++ t105) ++ (⟨#[32]⟩ : ByteArray)) ++ t106) ++ ((⟨#[32]⟩ : ByteArray) ++ t107)) ++ (⟨#[13, 10]⟩ : ByteArray)) ++ a0_2).size + 2 ≤ 9223372036854775807 then ((convB.f ((((((((((⟨#[86, 65, 76, 85, 69, 32]⟩ : ByteArray) ++ a0_1) ++ (⟨#[32]⟩ : ByteArray)) ++ t105) ++ (⟨#[32]⟩ : ByteArray)) ++ t106) ++ ((⟨#[32]⟩ : ByteArray) ++ t107)) ++ (⟨#[13, 10]⟩ : ByteArray)) ++ a0_2) ++ (⟨#[13, 10]⟩ : ByteArray))).bind fun t108 => (some t108)) else (none)) else (none)) else (none)) else (none)) else (none))) else (if ((((((⟨#[86, 65, 76, 85, 69, 32]⟩ : ByteArray) ++ a0_1) ++ (⟨#[32]⟩ : ByteArray)) ++ t105) ++ (⟨#[32]⟩ : ByteArray)) ++ t106).size + 2 ≤ 9223372036854775807 then (if (((((((⟨#[86, 65, 76, 85, 69, 32]⟩ : ByteArray) ++ a0_1) ++ (⟨#[32]⟩ : ByteArray)) ++ t105) ++ (⟨#[32]⟩ : ByteArray)) ++ t106) ++ (⟨#[13, 10]⟩ : ByteArray)).size + a0_2.size ≤ 9223372036854775807 then (if ((((((((⟨#[86, 65, 76, 85, 69, 32]⟩ : ByteArray) ++ a0_1) ++ (⟨#[32]⟩ : ByteArray)) ++ t105) ++ (⟨#[32]⟩ : ByteArray)) ++ t106) ++ (⟨#[13, 10]⟩ : ByteArray)) ++ a0_2).size + 2 ≤ 9223372036854775807 then ((convB.f (((((((((⟨#[86, 65, 76, 85, 69, 32]⟩ : ByteArray) ++ a0_1) ++ (⟨#[32]⟩ : ByteArray)) ++ t105) ++ (⟨#[32]⟩ : ByteArray)) ++ t106) ++ (⟨#[13, 10]⟩ : ByteArray)) ++ a0_2) ++ (⟨#[13, 10]⟩ : ByteArray))).bind fun t111 => (some t111)) else (none)) else (none)) else (none))) else (none))) else (none)) else (none))) else (none)) else (none)) else (if a0_3.size + 2 ≤ 9223372036854775807 then ((convB.f (a0_3 ++ (⟨#[13, 10]⟩ : ByteArray))).bind fun t102 => (some t102)) else (none))
def reply_Bytes.T3 : Bool × List (List Nat × List Nat) := (true, [([], []), ([0], [0]), ([1], [1]), ([2], [2]), ([], []), ([4], [4]), ([5], [5]), ([6], [6]), ([3, 7], [3, 7]), ([8], [8]), ([], []), ([10], [10]), ([11], [11]), ([12, 7], [12]), ([9, 13], [9, 13]), ([14, 13, 0, 1, 2, 3, 4, 5, 6, 7, 8, 9, 10, 11, 12, 13, 14], [14])])
def reply_Bytes.B3 : List Nat := [0, 1, 3, 7, 0, 16, 48, 112, 255, 511, 0, 1024, 3072, 7408, 16383, 32767]
theorem reply_Bytes.tab3 : rtab .any (opsOf Tryd.f10 3) = reply_Bytes.T3 := by kernel_rfl
theorem reply_Bytes.bits3 : waitsOk reply_Bytes.T3.2 reply_Bytes.B3 = true := by kernel_rfl
set_option maxHeartbeats 8000000 in
set_option maxRecDepth 100000 in
theorem reply_Bytes.calls (a0_0 : Bool) (a0_1 : ByteArray) (a0_2 : ByteArray) (a0_3 : ByteArray) (a0_4 : Int) (a0_5 : Int) (a0_6 : Bool) (r : List Int) (w : World) (HLD : LaidA w) (h : reply_Bytes.f a0_0 a0_1 a0_2 a0_3 a0_4 a0_5 a0_6 = some r) :
  Calls Tryd.prog 10 #[.agg #[.bool a0_0, .string a0_1, .string a0_2, .string a0_3, .int .u32 a0_4, .int .u64 a0_5, .bool a0_6]] w fun e w' => ∃ v0_ : Value, e = .returned (v0_) ∧ Kd.V (Kd.int .u8) 5 w' w.heap.size (fun k_ => (w.heap.size ≤ k_)) v0_ r ∧ Below w.heap.size w w' := by
 have hu34 := Tryd.underlying34
 have HB := Aside0.mk (Below.refl w.heap.size w)
 have H : (if a0_0 = true then (if 6 + a0_1.size ≤ 9223372036854775807 then (if ((⟨#[86, 65, 76, 85, 69, 32]⟩ : ByteArray) ++ a0_1).size + 1 ≤ 9223372036854775807 then ((strconv_FormatUint.f (IntKind.u64.wrap (a0_4)) 10).bind fun t105 => (if (((⟨#[86, 65, 76, 85, 69, 32]⟩ : ByteArray) ++ a0_1) ++ (⟨#[32]⟩ : ByteArray)).size + t105.size ≤ 9223372036854775807 then (if ((((⟨#[86, 65, 76, 85, 69, 32]⟩ : ByteArray) ++ a0_1) ++ (⟨#[32]⟩ : ByteArray)) ++ t105).size + 1 ≤ 9223372036854775807 then ((strconv_Itoa.f (a0_2.size : Int)).bind fun t106 => (if (((((⟨#[86, 65, 76, 85, 69, 32]⟩ : ByteArray) ++ a0_1) ++ (⟨#[32]⟩ : ByteArray)) ++ t105) ++ (⟨#[32]⟩ : ByteArray)).size + t106.size ≤ 9223372036854775807 then (if a0_6 = true then ((strconv_FormatUint.f a0_5 10).bind fun t107 => (if 1 + t107.size ≤ 9223372036854775807 then (if ((((((⟨#[86, 65, 76, 85, 69, 32]⟩ : ByteArray) ++ a0_1) ++ (⟨#[32]⟩ : ByteArray)) ++ t105) ++ (⟨#[32]⟩ : ByteArray)) ++ t106).size + ((⟨#[32]⟩ : ByteArray) ++ t107).size ≤ 9223372036854775807 then (if (((((((⟨#[86, 65, 76, 85, 69, 32]⟩ : ByteArray) ++ a0_1) ++ (⟨#[32]⟩ : ByteArray)) ++ t105) ++ (⟨#[32]⟩ : ByteArray)) ++ t106) ++ ((⟨#[32]⟩ : ByteArray) ++ t107)).size + 2 ≤ 9223372036854775807 then (if ((((((((⟨#[86, 65, 76, 85, 69, 32]⟩ : ByteArray) ++ a0_1) ++ (⟨#[32]⟩ : ByteArray)) ++ t105) ++ (⟨#[32]⟩ : ByteArray)) ++ t106) ++ ((⟨#[32]⟩ : ByteArray) ++ t107)) ++ (⟨#[13, 10]⟩ : ByteArray)).size + a0_2.size ≤ 9223372036854775807 then (if (((((((((⟨#[86, 65, 76, 85, 69, 32]⟩ : ByteArray) ++ a0_1) ++ (⟨#[32]⟩ : ByteArray)) ++ t105) ++ (⟨#[32]⟩ : ByteArray)) ++ t106) ++ ((⟨#[32]⟩ : ByteArray) ++ t107)) ++ (⟨#[13, 10]⟩ : ByteArray)) ++ a0_2).size + 2 ≤ 9223372036854775807 then ((convB.f ((((((((((⟨#[86, 65, 76, 85, 69, 32]⟩ : ByteArray) ++ a0_1) ++ (⟨#[32]⟩ : ByteArray)) ++ t105) ++ (⟨#[32]⟩ : ByteArray)) ++ t106) ++ ((⟨#[32]⟩ : ByteArray) ++ t107)) ++ (⟨#[13, 10]⟩ : ByteArray)) ++ a0_2) ++ (⟨#[13, 10]⟩ : ByteArray))).bind fun t108 => (some t108)) else (none)) else (none)) else (none)) else (none)) else (none))) else (if ((((((⟨#[86, 65, 76, 85, 69, 32]⟩ : ByteArray) ++ a0_1) ++ (⟨#[32]⟩ : ByteArray)) ++ t105) ++ (⟨#[32]⟩ : ByteArray)) ++ t106).size + 2 ≤ 9223372036854775807 then (if (((((((⟨#[86, 65, 76, 85, 69, 32]⟩ : ByteArray) ++ a0_1) ++ (⟨#[32]⟩ : ByteArray)) ++ t105) ++ (⟨#[32]⟩ : ByteArray)) ++ t106) ++ (⟨#[13, 10]⟩ : ByteArray)).size + a0_2.size ≤ 9223372036854775807 then (if ((((((((⟨#[86, 65, 76, 85, 69, 32]⟩ : ByteArray) ++ a0_1) ++ (⟨#[32]⟩ : ByteArray)) ++ t105) ++ (⟨#[32]⟩ : ByteArray)) ++ t106) ++ (⟨#[13, 10]⟩ : ByteArray)) ++ a0_2).size + 2 ≤ 9223372036854775807 then ((convB.f (((((((((⟨#[86, 65, 76, 85, 69, 32]⟩ : ByteArray) ++ a0_1) ++ (⟨#[32]⟩ : ByteArray)) ++ t105) ++ (⟨#[32]⟩ : ByteArray)) ++ t106) ++ (⟨#[13, 10]⟩ : ByteArray)) ++ a0_2) ++ (⟨#[13, 10]⟩ : ByteArray))).bind fun t111 => (some t111)) else (none)) else (none)) else (none))) else (none))) else (none)) else (none))) else (none)) else (none)) else (if a0_3.size + 2 ≤ 9223372036854775807 then ((convB.f (a0_3 ++ (⟨#[13, 10]⟩ : ByteArray))).bind fun t102 => (some t102)) else (none))) = some r := h
 clear h
 by_cases c2 : a0_0 = true
 ·subst c2
  have H1 : (if 6 + a0_1.size ≤ 9223372036854775807 then (if ((⟨#[86, 65, 76, 85, 69, 32]⟩ : ByteArray) ++ a0_1).size + 1 ≤ 9223372036854775807 then ((strconv_FormatUint.f (IntKind.u64.wrap (a0_4)) 10).bind fun t105 => (if (((⟨#[86, 65, 76, 85, 69, 32]⟩ : ByteArray) ++ a0_1) ++ (⟨#[32]⟩ : ByteArray)).size + t105.size ≤ 9223372036854775807 then (if ((((⟨#[86, 65, 76, 85, 69, 32]⟩ : ByteArray) ++ a0_1) ++ (⟨#[32]⟩ : ByteArray)) ++ t105).size + 1 ≤ 9223372036854775807 then ((strconv_Itoa.f (a0_2.size : Int)).bind fun t106 => (if (((((⟨#[86, 65, 76, 85, 69, 32]⟩ : ByteArray) ++ a0_1) ++ (⟨#[32]⟩ : ByteArray)) ++ t105) ++ (⟨#[32]⟩ : ByteArray)).size + t106.size ≤ 9223372036854775807 then (if a0_6 = true then ((strconv_FormatUint.f a0_5 10).bind fun t107 => (if 1 + t107.size ≤ 9223372036854775807 then (if ((((((⟨#[86, 65, 76, 85, 69, 32]⟩ : ByteArray) ++ a0_1) ++ (⟨#[32]⟩ : ByteArray)) ++ t105) ++ (⟨#[32]⟩ : ByteArray)) ++ t106).size + ((⟨#[32]⟩ : ByteArray) ++ t107).size ≤ 9223372036854775807 then (if (((((((⟨#[86, 65, 76, 85, 69, 32]⟩ : ByteArray) ++ a0_1) ++ (⟨#[32]⟩ : ByteArray)) ++ t105) ++ (⟨#[32]⟩ : ByteArray)) ++ t106) ++ ((⟨#[32]⟩ : ByteArray) ++ t107)).size + 2 ≤ 9223372036854775807 then (if ((((((((⟨#[86, 65, 76, 85, 69, 32]⟩ : ByteArray) ++ a0_1) ++ (⟨#[32]⟩ : ByteArray)) ++ t105) ++ (⟨#[32]⟩ : ByteArray)) ++ t106) ++ ((⟨#[32]⟩ : ByteArray) ++ t107)) ++ (⟨#[13, 10]⟩ : ByteArray)).size + a0_2.size ≤ 9223372036854775807 then (if (((((((((⟨#[86, 65, 76, 85, 69, 32]⟩ : ByteArray) ++ a0_1) ++ (⟨#[32]⟩ : ByteArray)) ++ t105) ++ (⟨#[32]⟩ : ByteArray)) ++ t106) ++ ((⟨#[32]⟩ : ByteArray) ++ t107)) ++ (⟨#[13, 10]⟩ : ByteArray)) ++ a0_2).size + 2 ≤ 9223372036854775807 then ((convB.f ((((((((((⟨#[86, 65, 76, 85, 69, 32]⟩ : ByteArray) ++ a0_1) ++ (⟨#[32]⟩ : ByteArray)) ++ t105) ++ (⟨#[32]⟩ : ByteArray)) ++ t106) ++ ((⟨#[32]⟩ : ByteArray) ++ t107)) ++ (⟨#[13, 10]⟩ : ByteArray)) ++ a0_2) ++ (⟨#[13, 10]⟩ : ByteArray))).bind fun t108 => (some t108)) else (none)) else (none)) else (none)) else (none)) else (none))) else (if ((((((⟨#[86, 65, 76, 85, 69, 32]⟩ : ByteArray) ++ a0_1) ++ (⟨#[32]⟩ : ByteArray)) ++ t105) ++ (⟨#[32]⟩ : ByteArray)) ++ t106).size + 2 ≤ 9223372036854775807 then (if (((((((⟨#[86, 65, 76, 85, 69, 32]⟩ : ByteArray) ++ a0_1) ++ (⟨#[32]⟩ : ByteArray)) ++ t105) ++ (⟨#[32]⟩ : ByteArray)) ++ t106) ++ (⟨#[13, 10]⟩ : ByteArray)).size + a0_2.size ≤ 9223372036854775807 then (if ((((((((⟨#[86, 65, 76, 85, 69, 32]⟩ : ByteArray) ++ a0_1) ++ (⟨#[32]⟩ : ByteArray)) ++ t105) ++ (⟨#[32]⟩ : ByteArray)) ++ t106) ++ (⟨#[13, 10]⟩ : ByteArray)) ++ a0_2).size + 2 ≤ 9223372036854775807 then ((convB.f (((((((((⟨#[86, 65, 76, 85, 69, 32]⟩ : ByteArray) ++ a0_1) ++ (⟨#[32]⟩ : ByteArray)) ++ t105) ++ (⟨#[32]⟩ : ByteArray)) ++ t106) ++ (⟨#[13, 10]⟩ : ByteArray)) ++ a0_2) ++ (⟨#[13, 10]⟩ : ByteArray))).bind fun t111 => (some t111)) else (none)) else (none)) else (none))) else (none))) else (none)) else (none))) else (none)) else (none)) = some r := by rw [if_pos rfl] at H; exact H
  clear H
  have H := H1
  clear H1
  by_cases c3 : 6 + a0_1.size ≤ 9223372036854775807
  ·rw [if_pos c3] at H
   have c3b0 := eq_true c3
   have c3b1 : decide (6 + a0_1.size ≤ 9223372036854775807) = true := decide_eq_true c3
   try have c3b2 : (9223372036854775807 < 6 + a0_1.size) = False := eq_false (Nat.not_lt.2 c3)
   by_cases c4 : ((⟨#[86, 65, 76, 85, 69, 32]⟩ : ByteArray) ++ a0_1).size + 1 ≤ 9223372036854775807
   ·rw [if_pos c4] at H
    have c4b0 := eq_true c4
    have c4b1 : decide (((⟨#[86, 65, 76, 85, 69, 32]⟩ : ByteArray) ++ a0_1).size + 1 ≤ 9223372036854775807) = true := decide_eq_true c4
    try have c4b2 : (9223372036854775807 < ((⟨#[86, 65, 76, 85, 69, 32]⟩ : ByteArray) ++ a0_1).size + 1) = False := eq_false (Nat.not_lt.2 c4)
    have c4z := c4
    simp only [ByteArray.size_append, show (⟨#[86, 65, 76, 85, 69, 32]⟩ : ByteArray).size = 6 from rfl, show (⟨#[32]⟩ : ByteArray).size = 1 from rfl, show (⟨#[13, 10]⟩ : ByteArray).size = 2 from rfl] at c4z
    replace c4z := eq_false (Nat.not_lt.2 c4z)
    replace H := Option.bind_eq_some_iff.mp H
    obtain ⟨t105, A50, H⟩ := H
    replace H : (if (((⟨#[86, 65, 76, 85, 69, 32]⟩ : ByteArray) ++ a0_1) ++ (⟨#[32]⟩ : ByteArray)).size + t105.size ≤ 9223372036854775807 then (if ((((⟨#[86, 65, 76, 85, 69, 32]⟩ : ByteArray) ++ a0_1) ++ (⟨#[32]⟩ : ByteArray)) ++ t105).size + 1 ≤ 9223372036854775807 then ((strconv_Itoa.f (a0_2.size : Int)).bind fun t106 => (if (((((⟨#[86, 65, 76, 85, 69, 32]⟩ : ByteArray) ++ a0_1) ++ (⟨#[32]⟩ : ByteArray)) ++ t105) ++ (⟨#[32]⟩ : ByteArray)).size + t106.size ≤ 9223372036854775807 then (if a0_6 = true then ((strconv_FormatUint.f a0_5 10).bind fun t107 => (if 1 + t107.size ≤ 9223372036854775807 then (if ((((((⟨#[86, 65, 76, 85, 69, 32]⟩ : ByteArray) ++ a0_1) ++ (⟨#[32]⟩ : ByteArray)) ++ t105) ++ (⟨#[32]⟩ : ByteArray)) ++ t106).size + ((⟨#[32]⟩ : ByteArray) ++ t107).size ≤ 9223372036854775807 then (if (((((((⟨#[86, 65, 76, 85, 69, 32]⟩ : ByteArray) ++ a0_1) ++ (⟨#[32]⟩ : ByteArray)) ++ t105) ++ (⟨#[32]⟩ : ByteArray)) ++ t106) ++ ((⟨#[32]⟩ : ByteArray) ++ t107)).size + 2 ≤ 9223372036854775807 then (if ((((((((⟨#[86, 65, 76, 85, 69, 32]⟩ : ByteArray) ++ a0_1) ++ (⟨#[32]⟩ : ByteArray)) ++ t105) ++ (⟨#[32]⟩ : ByteArray)) ++ t106) ++ ((⟨#[32]⟩ : ByteArray) ++ t107)) ++ (⟨#[13, 10]⟩ : ByteArray)).size + a0_2.size ≤ 9223372036854775807 then (if (((((((((⟨#[86, 65, 76, 85, 69, 32]⟩ : ByteArray) ++ a0_1) ++ (⟨#[32]⟩ : ByteArray)) ++ t105) ++ (⟨#[32]⟩ : ByteArray)) ++ t106) ++ ((⟨#[32]⟩ : ByteArray) ++ t107)) ++ (⟨#[13, 10]⟩ : ByteArray)) ++ a0_2).size + 2 ≤ 9223372036854775807 then ((convB.f ((((((((((⟨#[86, 65, 76, 85, 69, 32]⟩ : ByteArray) ++ a0_1) ++ (⟨#[32]⟩ : ByteArray)) ++ t105) ++ (⟨#[32]⟩ : ByteArray)) ++ t106) ++ ((⟨#[32]⟩ : ByteArray) ++ t107)) ++ (⟨#[13, 10]⟩ : ByteArray)) ++ a0_2) ++ (⟨#[13, 10]⟩ : ByteArray))).bind fun t108 => (some t108)) else (none)) else (none)) else (none)) else (none)) else (none))) else (if ((((((⟨#[86, 65, 76, 85, 69, 32]⟩ : ByteArray) ++ a0_1) ++ (⟨#[32]⟩ : ByteArray)) ++ t105) ++ (⟨#[32]⟩ : ByteArray)) ++ t106).size + 2 ≤ 9223372036854775807 then (if (((((((⟨#[86, 65, 76, 85, 69, 32]⟩ : ByteArray) ++ a0_1) ++ (⟨#[32]⟩ : ByteArray)) ++ t105) ++ (⟨#[32]⟩ : ByteArray)) ++ t106) ++ (⟨#[13, 10]⟩ : ByteArray)).size + a0_2.size ≤ 9223372036854775807 then (if ((((((((⟨#[86, 65, 76, 85, 69, 32]⟩ : ByteArray) ++ a0_1) ++ (⟨#[32]⟩ : ByteArray)) ++ t105) ++ (⟨#[32]⟩ : ByteArray)) ++ t106) ++ (⟨#[13, 10]⟩ : ByteArray)) ++ a0_2).size + 2 ≤ 9223372036854775807 then ((convB.f (((((((((⟨#[86, 65, 76, 85, 69, 32]⟩ : ByteArray) ++ a0_1) ++ (⟨#[32]⟩ : ByteArray)) ++ t105) ++ (⟨#[32]⟩ : ByteArray)) ++ t106) ++ (⟨#[13, 10]⟩ : ByteArray)) ++ a0_2) ++ (⟨#[13, 10]⟩ : ByteArray))).bind fun t111 => (some t111)) else (none)) else (none)) else (none))) else (none))) else (none)) else (none)) = some r := H
    have A5 := Aside0.mk A50
    clear A50
    by_cases c6 : (((⟨#[86, 65, 76, 85, 69, 32]⟩ : ByteArray) ++ a0_1) ++ (⟨#[32]⟩ : ByteArray)).size + t105.size ≤ 9223372036854775807
    ·rw [if_pos c6] at H
     have c6b0 := eq_true c6
     have c6b1 : decide ((((⟨#[86, 65, 76, 85, 69, 32]⟩ : ByteArray) ++ a0_1) ++ (⟨#[32]⟩ : ByteArray)).size + t105.size ≤ 9223372036854775807) = true := decide_eq_true c6
     try have c6b2 : (9223372036854775807 < (((⟨#[86, 65, 76, 85, 69, 32]⟩ : ByteArray) ++ a0_1) ++ (⟨#[32]⟩ : ByteArray)).size + t105.size) = False := eq_false (Nat.not_lt.2 c6)
     have c6z := c6
     simp only [ByteArray.size_append, show (⟨#[86, 65, 76, 85, 69, 32]⟩ : ByteArray).size = 6 from rfl, show (⟨#[32]⟩ : ByteArray).size = 1 from rfl, show (⟨#[13, 10]⟩ : ByteArray).size = 2 from rfl] at c6z
     replace c6z := eq_false (Nat.not_lt.2 c6z)
     by_cases c7 : ((((⟨#[86, 65, 76, 85, 69, 32]⟩ : ByteArray) ++ a0_1) ++ (⟨#[32]⟩ : ByteArray)) ++ t105).size + 1 ≤ 9223372036854775807
     ·rw [if_pos c7] at H
      have c7b0 := eq_true c7
      have c7b1 : decide (((((⟨#[86, 65, 76, 85, 69, 32]⟩ : ByteArray) ++ a0_1) ++ (⟨#[32]⟩ : ByteArray)) ++ t105).size + 1 ≤ 9223372036854775807) = true := decide_eq_true c7
      try have c7b2 : (9223372036854775807 < ((((⟨#[86, 65, 76, 85, 69, 32]⟩ : ByteArray) ++ a0_1) ++ (⟨#[32]⟩ : ByteArray)) ++ t105).size + 1) = False := eq_false (Nat.not_lt.2 c7)
      have c7z := c7
      simp only [ByteArray.size_append, show (⟨#[86, 65, 76, 85, 69, 32]⟩ : ByteArray).size = 6 from rfl, show (⟨#[32]⟩ : ByteArray).size = 1 from rfl, show (⟨#[13, 10]⟩ : ByteArray).size = 2 from rfl] at c7z
      replace c7z := eq_false (Nat.not_lt.2 c7z)
      replace H := Option.bind_eq_some_iff.mp H
      obtain ⟨t106, A80, H⟩ := H
      replace H : (if (((((⟨#[86, 65, 76, 85, 69, 32]⟩ : ByteArray) ++ a0_1) ++ (⟨#[32]⟩ : ByteArray)) ++ t105) ++ (⟨#[32]⟩ : ByteArray)).size + t106.size ≤ 9223372036854775807 then (if a0_6 = true then ((strconv_FormatUint.f a0_5 10).bind fun t107 => (if 1 + t107.size ≤ 9223372036854775807 then (if ((((((⟨#[86, 65, 76, 85, 69, 32]⟩ : ByteArray) ++ a0_1) ++ (⟨#[32]⟩ : ByteArray)) ++ t105) ++ (⟨#[32]⟩ : ByteArray)) ++ t106).size + ((⟨#[32]⟩ : ByteArray) ++ t107).size ≤ 9223372036854775807 then (if (((((((⟨#[86, 65, 76, 85, 69, 32]⟩ : ByteArray) ++ a0_1) ++ (⟨#[32]⟩ : ByteArray)) ++ t105) ++ (⟨#[32]⟩ : ByteArray)) ++ t106) ++ ((⟨#[32]⟩ : ByteArray) ++ t107)).size + 2 ≤ 9223372036854775807 then (if ((((((((⟨#[86, 65, 76, 85, 69, 32]⟩ : ByteArray) ++ a0_1) ++ (⟨#[32]⟩ : ByteArray)) ++ t105) ++ (⟨#[32]⟩ : ByteArray)) ++ t106) ++ ((⟨#[32]⟩ : ByteArray) ++ t107)) ++ (⟨#[13, 10]⟩ : ByteArray)).size + a0_2.size ≤ 9223372036854775807 then (if (((((((((⟨#[86, 65, 76, 85, 69, 32]⟩ : ByteArray) ++ a0_1) ++ (⟨#[32]⟩ : ByteArray)) ++ t105) ++ (⟨#[32]⟩ : ByteArray)) ++ t106) ++ ((⟨#[32]⟩ : ByteArray) ++ t107)) ++ (⟨#[13, 10]⟩ : ByteArray)) ++ a0_2).size + 2 ≤ 9223372036854775807 then ((convB.f ((((((((((⟨#[86, 65, 76, 85, 69, 32]⟩ : ByteArray) ++ a0_1) ++ (⟨#[32]⟩ : ByteArray)) ++ t105) ++ (⟨#[32]⟩ : ByteArray)) ++ t106) ++ ((⟨#[32]⟩ : ByteArray) ++ t107)) ++ (⟨#[13, 10]⟩ : ByteArray)) ++ a0_2) ++ (⟨#[13, 10]⟩ : ByteArray))).bind fun t108 => (some t108)) else (none)) else (none)) else (none)) else (none)) else (none))) else (if ((((((⟨#[86, 65, 76, 85, 69, 32]⟩ : ByteArray) ++ a0_1) ++ (⟨#[32]⟩ : ByteArray)) ++ t105) ++ (⟨#[32]⟩ : ByteArray)) ++ t106).size + 2 ≤ 9223372036854775807 then (if (((((((⟨#[86, 65, 76, 85, 69, 32]⟩ : ByteArray) ++ a0_1) ++ (⟨#[32]⟩ : ByteArray)) ++ t105) ++ (⟨#[32]⟩ : ByteArray)) ++ t106) ++ (⟨#[13, 10]⟩ : ByteArray)).size + a0_2.size ≤ 9223372036854775807 then (if ((((((((⟨#[86, 65, 76, 85, 69, 32]⟩ : ByteArray) ++ a0_1) ++ (⟨#[32]⟩ : ByteArray)) ++ t105) ++ (⟨#[32]⟩ : ByteArray)) ++ t106) ++ (⟨#[13, 10]⟩ : ByteArray)) ++ a0_2).size + 2 ≤ 9223372036854775807 then ((convB.f (((((((((⟨#[86, 65, 76, 85, 69, 32]⟩ : ByteArray) ++ a0_1) ++ (⟨#[32]⟩ : ByteArray)) ++ t105) ++ (⟨#[32]⟩ : ByteArray)) ++ t106) ++ (⟨#[13, 10]⟩ : ByteArray)) ++ a0_2) ++ (⟨#[13, 10]⟩ : ByteArray))).bind fun t111 => (some t111)) else (none)) else (none)) else (none))) else (none)) = some r := H
      have A8 := Aside0.mk A80
      clear A80
      by_cases c9 : (((((⟨#[86, 65, 76, 85, 69, 32]⟩ : ByteArray) ++ a0_1) ++ (⟨#[32]⟩ : ByteArray)) ++ t105) ++ (⟨#[32]⟩ : ByteArray)).size + t106.size ≤ 9223372036854775807
      ·rw [if_pos c9] at H
       have c9b0 := eq_true c9
       have c9b1 : decide ((((((⟨#[86, 65, 76, 85, 69, 32]⟩ : ByteArray) ++ a0_1) ++ (⟨#[32]⟩ : ByteArray)) ++ t105) ++ (⟨#[32]⟩ : ByteArray)).size + t106.size ≤ 9223372036854775807) = true := decide_eq_true c9
       try have c9b2 : (9223372036854775807 < (((((⟨#[86, 65, 76, 85, 69, 32]⟩ : ByteArray) ++ a0_1) ++ (⟨#[32]⟩ : ByteArray)) ++ t105) ++ (⟨#[32]⟩ : ByteArray)).size + t106.size) = False := eq_false (Nat.not_lt.2 c9)
       have c9z := c9
       simp only [ByteArray.size_append, show (⟨#[86, 65, 76, 85, 69, 32]⟩ : ByteArray).size = 6 from rfl, show (⟨#[32]⟩ : ByteArray).size = 1 from rfl, show (⟨#[13, 10]⟩ : ByteArray).size = 2 from rfl] at c9z
       replace c9z := eq_false (Nat.not_lt.2 c9z)
       by_cases c10 : a0_6 = true
       ·subst c10
        have H1 : ((strconv_FormatUint.f a0_5 10).bind fun t107 => (if 1 + t107.size ≤ 9223372036854775807 then (if ((((((⟨#[86, 65, 76, 85, 69, 32]⟩ : ByteArray) ++ a0_1) ++ (⟨#[32]⟩ : ByteArray)) ++ t105) ++ (⟨#[32]⟩ : ByteArray)) ++ t106).size + ((⟨#[32]⟩ : ByteArray) ++ t107).size ≤ 9223372036854775807 then (if (((((((⟨#[86, 65, 76, 85, 69, 32]⟩ : ByteArray) ++ a0_1) ++ (⟨#[32]⟩ : ByteArray)) ++ t105) ++ (⟨#[32]⟩ : ByteArray)) ++ t106) ++ ((⟨#[32]⟩ : ByteArray) ++ t107)).size + 2 ≤ 9223372036854775807 then (if ((((((((⟨#[86, 65, 76, 85, 69, 32]⟩ : ByteArray) ++ a0_1) ++ (⟨#[32]⟩ : ByteArray)) ++ t105) ++ (⟨#[32]⟩ : ByteArray)) ++ t106) ++ ((⟨#[32]⟩ : ByteArray) ++ t107)) ++ (⟨#[13, 10]⟩ : ByteArray)).size + a0_2.size ≤ 9223372036854775807 then (if (((((((((⟨#[86, 65, 76, 85, 69, 32]⟩ : ByteArray) ++ a0_1) ++ (⟨#[32]⟩ : ByteArray)) ++ t105) ++ (⟨#[32]⟩ : ByteArray)) ++ t106) ++ ((⟨#[32]⟩ : ByteArray) ++ t107)) ++ (⟨#[13, 10]⟩ : ByteArray)) ++ a0_2).size + 2 ≤ 9223372036854775807 then ((convB.f ((((((((((⟨#[86, 65, 76, 85, 69, 32]⟩ : ByteArray) ++ a0_1) ++ (⟨#[32]⟩ : ByteArray)) ++ t105) ++ (⟨#[32]⟩ : ByteArray)) ++ t106) ++ ((⟨#[32]⟩ : ByteArray) ++ t107)) ++ (⟨#[13, 10]⟩ : ByteArray)) ++ a0_2) ++ (⟨#[13, 10]⟩ : ByteArray))).bind fun t108 => (some t108)) else (none)) else (none)) else (none)) else (none)) else (none))) = some r := by rw [if_pos rfl] at H; exact H
        clear H
        have H := H1
        clear H1
        replace H := Option.bind_eq_some_iff.mp H
        obtain ⟨t107, A110, H⟩ := H
        replace H : (if 1 + t107.size ≤ 9223372036854775807 then (if ((((((⟨#[86, 65, 76, 85, 69, 32]⟩ : ByteArray) ++ a0_1) ++ (⟨#[32]⟩ : ByteArray)) ++ t105) ++ (⟨#[32]⟩ : ByteArray)) ++ t106).size + ((⟨#[32]⟩ : ByteArray) ++ t107).size ≤ 9223372036854775807 then (if (((((((⟨#[86, 65, 76, 85, 69, 32]⟩ : ByteArray) ++ a0_1) ++ (⟨#[32]⟩ : ByteArray)) ++ t105) ++ (⟨#[32]⟩ : ByteArray)) ++ t106) ++ ((⟨#[32]⟩ : ByteArray) ++ t107)).size + 2 ≤ 9223372036854775807 then (if ((((((((⟨#[86, 65, 76, 85, 69, 32]⟩ : ByteArray) ++ a0_1) ++ (⟨#[32]⟩ : ByteArray)) ++ t105) ++ (⟨#[32]⟩ : ByteArray)) ++ t106) ++ ((⟨#[32]⟩ : ByteArray) ++ t107)) ++ (⟨#[13, 10]⟩ : ByteArray)).size + a0_2.size ≤ 9223372036854775807 then (if (((((((((⟨#[86, 65, 76, 85, 69, 32]⟩ : ByteArray) ++ a0_1) ++ (⟨#[32]⟩ : ByteArray)) ++ t105) ++ (⟨#[32]⟩ : ByteArray)) ++ t106) ++ ((⟨#[32]⟩ : ByteArray) ++ t107)) ++ (⟨#[13, 10]⟩ : ByteArray)) ++ a0_2).size + 2 ≤ 9223372036854775807 then ((convB.f ((((((((((⟨#[86, 65, 76, 85, 69, 32]⟩ : ByteArray) ++ a0_1) ++ (⟨#[32]⟩ : ByteArray)) ++ t105) ++ (⟨#[32]⟩ : ByteArray)) ++ t106) ++ ((⟨#[32]⟩ : ByteArray) ++ t107)) ++ (⟨#[13, 10]⟩ : ByteArray)) ++ a0_2) ++ (⟨#[13, 10]⟩ : ByteArray))).bind fun t108 => (some t108)) else (none)) else (none)) else (none)) else (none)) else (none)) = some r := H
        have A11 := Aside0.mk A110
        clear A110
        by_cases c12 : 1 + t107.size ≤ 9223372036854775807
        ·rw [if_pos c12] at H
         have c12b0 := eq_true c12
         have c12b1 : decide (1 + t107.size ≤ 9223372036854775807) = true := decide_eq_true c12
         try have c12b2 : (9223372036854775807 < 1 + t107.size) = False := eq_false (Nat.not_lt.2 c12)
         by_cases c13 : ((((((⟨#[86, 65, 76, 85, 69, 32]⟩ : ByteArray) ++ a0_1) ++ (⟨#[32]⟩ : ByteArray)) ++ t105) ++ (⟨#[32]⟩ : ByteArray)) ++ t106).size + ((⟨#[32]⟩ : ByteArray) ++ t107).size ≤ 9223372036854775807
         ·rw [if_pos c13] at H
          have c13b0 := eq_true c13
          have c13b1 : decide (((((((⟨#[86, 65, 76, 85, 69, 32]⟩ : ByteArray) ++ a0_1) ++ (⟨#[32]⟩ : ByteArray)) ++ t105) ++ (⟨#[32]⟩ : ByteArray)) ++ t106).size + ((⟨#[32]⟩ : ByteArray) ++ t107).size ≤ 9223372036854775807) = true := decide_eq_true c13
          try have c13b2 : (9223372036854775807 < ((((((⟨#[86, 65, 76, 85, 69, 32]⟩ : ByteArray) ++ a0_1) ++ (⟨#[32]⟩ : ByteArray)) ++ t105) ++ (⟨#[32]⟩ : ByteArray)) ++ t106).size + ((⟨#[32]⟩ : ByteArray) ++ t107).size) = False := eq_false (Nat.not_lt.2 c13)
          have c13z := c13
          simp only [ByteArray.size_append, show (⟨#[86, 65, 76, 85, 69, 32]⟩ : ByteArray).size = 6 from rfl, show (⟨#[32]⟩ : ByteArray).size = 1 from rfl, show (⟨#[13, 10]⟩ : ByteArray).size = 2 from rfl] at c13z
          replace c13z := eq_false (Nat.not_lt.2 c13z)
          by_cases c14 : (((((((⟨#[86, 65, 76, 85, 69, 32]⟩ : ByteArray) ++ a0_1) ++ (⟨#[32]⟩ : ByteArray)) ++ t105) ++ (⟨#[32]⟩ : ByteArray)) ++ t106) ++ ((⟨#[32]⟩ : ByteArray) ++ t107)).size + 2 ≤ 9223372036854775807
          ·rw [if_pos c14] at H
           have c14b0 := eq_true c14
           have c14b1 : decide ((((((((⟨#[86, 65, 76, 85, 69, 32]⟩ : ByteArray) ++ a0_1) ++ (⟨#[32]⟩ : ByteArray)) ++ t105) ++ (⟨#[32]⟩ : ByteArray)) ++ t106) ++ ((⟨#[32]⟩ : ByteArray) ++ t107)).size + 2 ≤ 9223372036854775807) = true := decide_eq_true c14
           try have c14b2 : (9223372036854775807 < (((((((⟨#[86, 65, 76, 85, 69, 32]⟩ : ByteArray) ++ a0_1) ++ (⟨#[32]⟩ : ByteArray)) ++ t105) ++ (⟨#[32]⟩ : ByteArray)) ++ t106) ++ ((⟨#[32]⟩ : ByteArray) ++ t107)).size + 2) = False := eq_false (Nat.not_lt.2 c14)
           have c14z := c14
           simp only [ByteArray.size_append, show (⟨#[86, 65, 76, 85, 69, 32]⟩ : ByteArray).size = 6 from rfl, show (⟨#[32]⟩ : ByteArray).size = 1 from rfl, show (⟨#[13, 10]⟩ : ByteArray).size = 2 from rfl] at c14z
           replace c14z := eq_false (Nat.not_lt.2 c14z)
           by_cases c15 : ((((((((⟨#[86, 65, 76, 85, 69, 32]⟩ : ByteArray) ++ a0_1) ++ (⟨#[32]⟩ : ByteArray)) ++ t105) ++ (⟨#[32]⟩ : ByteArray)) ++ t106) ++ ((⟨#[32]⟩ : ByteArray) ++ t107)) ++ (⟨#[13, 10]⟩ : ByteArray)).size + a0_2.size ≤ 9223372036854775807
           ·rw [if_pos c15] at H
            have c15b0 := eq_true c15
            have c15b1 : decide (((((((((⟨#[86, 65, 76, 85, 69, 32]⟩ : ByteArray) ++ a0_1) ++ (⟨#[32]⟩ : ByteArray)) ++ t105) ++ (⟨#[32]⟩ : ByteArray)) ++ t106) ++ ((⟨#[32]⟩ : ByteArray) ++ t107)) ++ (⟨#[13, 10]⟩ : ByteArray)).size + a0_2.size ≤ 9223372036854775807) = true := decide_eq_true c15
            try have c15b2 : (9223372036854775807 < ((((((((⟨#[86, 65, 76, 85, 69, 32]⟩ : ByteArray) ++ a0_1) ++ (⟨#[32]⟩ : ByteArray)) ++ t105) ++ (⟨#[32]⟩ : ByteArray)) ++ t106) ++ ((⟨#[32]⟩ : ByteArray) ++ t107)) ++ (⟨#[13, 10]⟩ : ByteArray)).size + a0_2.size) = False := eq_false (Nat.not_lt.2 c15)
            have c15z := c15
            simp only [ByteArray.size_append, show (⟨#[86, 65, 76, 85, 69, 32]⟩ : ByteArray).size = 6 from rfl, show (⟨#[32]⟩ : ByteArray).size = 1 from rfl, show (⟨#[13, 10]⟩ : ByteArray).size = 2 from rfl] at c15z
            replace c15z := eq_false (Nat.not_lt.2 c15z)
            by_cases c16 : (((((((((⟨#[86, 65, 76, 85, 69, 32]⟩ : ByteArray) ++ a0_1) ++ (⟨#[32]⟩ : ByteArray)) ++ t105) ++ (⟨#[32]⟩ : ByteArray)) ++ t106) ++ ((⟨#[32]⟩ : ByteArray) ++ t107)) ++ (⟨#[13, 10]⟩ : ByteArray)) ++ a0_2).size + 2 ≤ 9223372036854775807
            ·rw [if_pos c16] at H
             have c16b0 := eq_true c16
             have c16b1 : decide ((((((((((⟨#[86, 65, 76, 85, 69, 32]⟩ : ByteArray) ++ a0_1) ++ (⟨#[32]⟩ : ByteArray)) ++ t105) ++ (⟨#[32]⟩ : ByteArray)) ++ t106) ++ ((⟨#[32]⟩ : ByteArray) ++ t107)) ++ (⟨#[13, 10]⟩ : ByteArray)) ++ a0_2).size + 2 ≤ 9223372036854775807) = true := decide_eq_true c16
             try have c16b2 : (9223372036854775807 < (((((((((⟨#[86, 65, 76, 85, 69, 32]⟩ : ByteArray) ++ a0_1) ++ (⟨#[32]⟩ : ByteArray)) ++ t105) ++ (⟨#[32]⟩ : ByteArray)) ++ t106) ++ ((⟨#[32]⟩ : ByteArray) ++ t107)) ++ (⟨#[13, 10]⟩ : ByteArray)) ++ a0_2).size + 2) = False := eq_false (Nat.not_lt.2 c16)
             have c16z := c16
             simp only [ByteArray.size_append, show (⟨#[86, 65, 76, 85, 69, 32]⟩ : ByteArray).size = 6 from rfl, show (⟨#[32]⟩ : ByteArray).size = 1 from rfl, show (⟨#[13, 10]⟩ : ByteArray).size = 2 from rfl] at c16z
             replace c16z := eq_false (Nat.not_lt.2 c16z)
             replace H := Option.bind_eq_some_iff.mp H
             obtain ⟨t108, A170, H⟩ := H
             replace H : (some t108) = some r := H
             have A17 := Aside0.mk A170
             clear A170
             obtain rfl := Option.some.inj H
             go_enter Tryd.func10, Tryd.ntmps10
             try go_wp2_with (first | ((with_reducible refine gate_dst (N := 1) rfl ?_); refine box_event ?hg (N := 1) ?hd (cs := #[.bool true, .string a0_1, .string a0_2, .string a0_3, .int .u32 a0_4, .int .u64 a0_5, .bool true]) (t := 34) ?hr ?_; (case hd => rfl); (case hg => rfl); (case hr => first | (go_simp; done) | (go_simp; rfl)); intro gb101 hg w18 hbox hb; have n0_ := Aside0.mk (below_step (by repeat (first | (with_reducible first | exact HB.out | apply below_alloc | apply pw_below_drewN | apply below_drew1) | exact HB.out)) hb); have n1_ := Aside0.mk (hbox); have n2_ := Aside0.mk ((by rw [hg]; exact (below_size (by repeat (first | (with_reducible first | exact HB.out | apply below_alloc | apply pw_below_drewN | apply below_drew1) | exact HB.out))) : w.heap.size ≤ gb101)); have n3_ := Aside0.mk ((by rw [hg]; exact (below_size (by repeat (first | (with_reducible first | exact HB.out | apply below_alloc | apply pw_below_drewN | apply below_drew1) | exact HB.out))) : w.heap.size ≤ gb101)); clear HB; have HB := n0_; have BK101 := n1_; have GW101 := n2_; have GE101 := n3_; clear n0_ n1_ n2_ n3_; clear hb hbox hg; have hcz19_0 : w18.cell? ⟨gb101, 0, none⟩ = some (.bool true) := (blk_cell BK101.out 0).trans rfl; have hcz19_1 : w18.cell? ⟨gb101, 1, none⟩ = some (.string a0_1) := (blk_cell BK101.out 1).trans rfl; have hcz19_2 : w18.cell? ⟨gb101, 2, none⟩ = some (.string a0_2) := (blk_cell BK101.out 2).trans rfl; have hcz19_3 : w18.cell? ⟨gb101, 3, none⟩ = some (.string a0_3) := (blk_cell BK101.out 3).trans rfl; have hcz19_4 : w18.cell? ⟨gb101, 4, none⟩ = some (.int .u32 a0_4) := (blk_cell BK101.out 4).trans rfl; have hcz19_5 : w18.cell? ⟨gb101, 5, none⟩ = some (.int .u64 a0_5) := (blk_cell BK101.out 5).trans rfl; have hcz19_6 : w18.cell? ⟨gb101, 6, none⟩ = some (.bool true) := (blk_cell BK101.out 6).trans rfl; have hfz19_0 := blk_frozen BK101.out 0; have hfz19_1 := blk_frozen BK101.out 1; have hfz19_2 := blk_frozen BK101.out 2; have hfz19_3 := blk_frozen BK101.out 3; have hfz19_4 := blk_frozen BK101.out 4; have hfz19_5 := blk_frozen BK101.out 5; have hfz19_6 := blk_frozen BK101.out 6))
             have n0_ := Aside0.mk (blk_drew BK101.out)
             have n1_ := Aside0.mk (below_drew1 HB.out)
             clear BK101
             clear HB
             have BK101 := n0_
             have HB := n1_
             clear n0_ n1_
             refine start_ (n := 16) (S := fun w' => w'.cell? ⟨gb101, 0, none⟩ = some (.bool true) ∧ w'.cell? ⟨gb101, 1, none⟩ = some (.string a0_1) ∧ w'.cell? ⟨gb101, 2, none⟩ = some (.string a0_2) ∧ w'.cell? ⟨gb101, 3, none⟩ = some (.string a0_3) ∧ w'.cell? ⟨gb101, 4, none⟩ = some (.int .u32 a0_4) ∧ w'.cell? ⟨gb101, 5, none⟩ = some (.int .u64 a0_5) ∧ w'.cell? ⟨gb101, 6, none⟩ = some (.bool true)) (ds := []) #[false, false, false, false, false, false, false, false, false, false, false, false, false, false, false, false] (by kernel_rfl) rfl rfl ⟨(blk_cell BK101.out 0).trans rfl, (blk_cell BK101.out 1).trans rfl, (blk_cell BK101.out 2).trans rfl, (blk_cell BK101.out 3).trans rfl, (blk_cell BK101.out 4).trans rfl, (blk_cell BK101.out 5).trans rfl, (blk_cell BK101.out 6).trans rfl⟩ (fun hHeld => ?_); refine with_tabW reply_Bytes.tab3 reply_Bytes.bits3 (fun HT_ HW_ => ?_)
             generalize w18.drew = w20 at BK101 HB hHeld ⊢
             refine pure_ (i := 0) (N := some 11) (v := ?_) (a' := ?_) #[true, false, false, false, false, false, false, false, false, false, false, false, false, false, false, false] rfl rfl (any_of HT_.out (by kernel_rfl)) (fun _ _ _ h => h) (Or.inl ⟨by rfl, ?_⟩) ?_ ?_
             rotate_left
             ·intro w'
              go_simp
              with_reducible rfl
             rotate_left
             ·simp only [Act.put, List.setIfInBounds_toArray, List.set_cons_zero, List.set_cons_succ, i64_w, i32_w]
              rfl
             refine pure_ (i := 4) (N := some 15) (v := ?_) (a' := ?_) #[true, false, false, false, true, false, false, false, false, false, false, false, false, false, false, false] rfl rfl (any_of HT_.out (by kernel_rfl)) (fun _ _ _ h => h) (Or.inl ⟨by rfl, ?_⟩) ?_ ?_
             rotate_left
             ·intro w'
              go_simp
              with_reducible rfl
             rotate_left
             ·simp only [Act.put, List.setIfInBounds_toArray, List.set_cons_zero, List.set_cons_succ, i64_w, i32_w]
              rfl
             refine pure_ (i := 10) (N := some 21) (v := ?_) (a' := ?_) #[true, false, false, false, true, false, false, false, false, false, true, false, false, false, false, false] rfl rfl (any_of HT_.out (by kernel_rfl)) (fun _ _ _ h => h) (Or.inl ⟨by rfl, ?_⟩) ?_ ?_
             rotate_left
             ·intro w'
              go_simp
              with_reducible rfl
             rotate_left
             ·simp only [Act.put, List.setIfInBounds_toArray, List.set_cons_zero, List.set_cons_succ, i64_w, i32_w]
              rfl
             refine take_ (i := 1) (N := some 12) (v := ?_) (a' := ?_) #[true, true, false, false, true, false, false, false, false, false, true, false, false, false, false, false] rfl rfl (take_ofW HT_.out HW_.out (by kernel_rfl)) (fun _ _ _ h => h) (Or.inl ⟨by rfl, ?_⟩) hHeld ?_ ?_
             rotate_left
             ·rintro w' ⟨s0, s1, s2, s3, s4, s5, s6⟩
              go_simp
              with_reducible rfl
             rotate_left
             ·simp only [Act.put, List.setIfInBounds_toArray, List.set_cons_zero, List.set_cons_succ, i64_w, i32_w]
              rfl
             refine pure_ (i := 2) (N := some 13) (v := ?_) (a' := ?_) #[true, true, true, false, true, false, false, false, false, false, true, false, false, false, false, false] rfl rfl (any_of HT_.out (by kernel_rfl)) (fun _ _ _ h => h) (Or.inl ⟨by rfl, ?_⟩) ?_ ?_
             rotate_left
             ·intro w'
              go_simp
              with_reducible rfl
             rotate_left
             ·simp only [Act.put, List.setIfInBounds_toArray, List.set_cons_zero, List.set_cons_succ, i64_w, i32_w]
              rfl
             refine pure_ (i := 3) (N := some 14) (v := ?_) (a' := ?_) #[true, true, true, true, true, false, false, false, false, false, true, false, false, false, false, false] rfl rfl (any_of HT_.out (by kernel_rfl)) (fun _ _ _ h => h) (Or.inl ⟨by rfl, ?_⟩) ?_ ?_
             rotate_left
             ·intro w'
              go_simp
              with_reducible rfl
             rotate_left
             ·simp only [Act.put, List.setIfInBounds_toArray, List.set_cons_zero, List.set_cons_succ, i64_w, i32_w]
              rfl
             refine take_ (i := 5) (N := some 16) (v := ?_) (a' := ?_) #[true, true, true, true, true, true, false, false, false, false, true, false, false, false, false, false] rfl rfl (take_ofW HT_.out HW_.out (by kernel_rfl)) (fun _ _ _ h => h) (Or.inl ⟨by rfl, ?_⟩) hHeld ?_ ?_
             rotate_left
             ·rintro w' ⟨s0, s1, s2, s3, s4, s5, s6⟩
              go_simp
              with_reducible rfl
             rotate_left
             ·simp only [Act.put, List.setIfInBounds_toArray, List.set_cons_zero, List.set_cons_succ, i64_w, i32_w]
              rfl
             refine pure_ (i := 6) (N := some 17) (v := ?_) (a' := ?_) #[true, true, true, true, true, true, true, false, false, false, true, false, false, false, false, false] rfl rfl (any_of HT_.out (by kernel_rfl)) (fun _ _ _ h => h) (Or.inl ⟨by rfl, ?_⟩) ?_ ?_
             rotate_left
             ·intro w'
              go_simp
              with_reducible rfl
             rotate_left
             ·simp only [Act.put, List.setIfInBounds_toArray, List.set_cons_zero, List.set_cons_succ, i64_w, i32_w]
              rfl
             refine take_ (i := 11) (N := some 22) (v := ?_) (a' := ?_) #[true, true, true, true, true, true, true, false, false, false, true, true, false, false, false, false] rfl rfl (take_ofW HT_.out HW_.out (by kernel_rfl)) (fun _ _ _ h => h) (Or.inl ⟨by rfl, ?_⟩) hHeld ?_ ?_
             rotate_left
             ·rintro w' ⟨s0, s1, s2, s3, s4, s5, s6⟩
              go_simp
              with_reducible rfl
             rotate_left
             ·simp only [Act.put, List.setIfInBounds_toArray, List.set_cons_zero, List.set_cons_succ, i64_w, i32_w]
              rfl
             refine pure_ (i := 12) (N := some 23) (v := ?_) (a' := ?_) #[true, true, true, true, true, true, true, false, false, false, true, true, true, false, false, false] rfl rfl (any_of HT_.out (by kernel_rfl)) (fun _ _ _ h => h) (Or.inl ⟨by rfl, ?_⟩) ?_ ?_
             rotate_left
             ·intro w'
              go_simp
              with_reducible rfl
             rotate_left
             ·simp only [Act.put, List.setIfInBounds_toArray, List.set_cons_zero, List.set_cons_succ, i64_w, i32_w]
              rfl
             refine one_ (i := 7) (N := some 18) #[true, true, true, true, true, true, true, true, false, false, true, true, true, false, false, false] rfl rfl (one_of HT_.out (by kernel_rfl)) (by decide) (fun K hK => ?_)
             refine goes_ Tryd.func17 (by kernel_rfl) rfl #[.int .u64 (IntKind.u64.wrap (a0_4)), .int .i64 10] (by rfl) rfl rfl (by (try simp only [List.map_toArray, List.map_cons, List.map_nil]); first | done | rfl | (simp only [List.length_drop, List.length_take]; rfl)) ?_
             with_reducible refine (strconv_FormatUint.calls (IntKind.u64.wrap (a0_4)) 10 t105 _ ?side1 A5.out).mono ?_
             (case side1 => exact HLD.below (by repeat (first | (with_reducible first | exact HB.out | apply below_alloc | apply pw_below_drewN | apply below_drew1 | refine below_set ?_ GE101.out) | exact HB.out)))
             rintro e w21 ⟨rfl, hb⟩
             refine ⟨_, rfl, ?_⟩
             have n0_ := Aside0.mk (blk_below (g := gb101) (o := .cells #[.bool true, .string a0_1, .string a0_2, .string a0_3, .int .u32 a0_4, .int .u64 a0_5, .bool true] 34 (0, 0)) (by (with_reducible repeat (first | refine blk_drewN ?_ _ | refine blk_drew ?_ | refine blk_alloc ?_ _)); exact BK101.out) hb)
             have n1_ := Aside0.mk (below_step (by repeat (first | (with_reducible first | exact HB.out | apply below_alloc | apply pw_below_drewN | apply below_drew1 | refine below_set ?_ GE101.out) | exact HB.out)) hb)
             clear BK101
             clear HB
             have BK101 := n0_
             have HB := n1_
             clear n0_ n1_
             (try clear hb)
             (try clear hb2)
             (try clear hk)
             (try clear hi)
             refine hK.out _ _ ⟨(blk_cell BK101.out 0).trans rfl, (blk_cell BK101.out 1).trans rfl, (blk_cell BK101.out 2).trans rfl, (blk_cell BK101.out 3).trans rfl, (blk_cell BK101.out 4).trans rfl, (blk_cell BK101.out 5).trans rfl, (blk_cell BK101.out 6).trans rfl⟩ (fun hHeld => ?_)
             clear hK K
             refine norm_ (a' := ?_) ?_ ?_
             rotate_left
             ·show Act.put _ (some 18) _ = _
              simp only [Act.put, List.setIfInBounds_toArray, List.set_cons_zero, List.set_cons_succ, i64_w, i32_w]
              rfl
             refine pure_ (i := 8) (N := some 19) (v := ?_) (a' := ?_) #[true, true, true, true, true, true, true, true, true, false, true, true, true, false, false, false] rfl rfl (any_of HT_.out (by kernel_rfl)) (fun _ _ _ h => h) (Or.inl ⟨by rfl, ?_⟩) ?_ ?_
             rotate_left
             ·intro w'
              go_simp
              with_reducible rfl
             rotate_left
             ·simp only [Act.put, List.setIfInBounds_toArray, List.set_cons_zero, List.set_cons_succ, i64_w, i32_w]
              rfl
             refine pure_ (i := 9) (N := some 20) (v := ?_) (a' := ?_) #[true, true, true, true, true, true, true, true, true, true, true, true, true, false, false, false] rfl rfl (any_of HT_.out (by kernel_rfl)) (fun _ _ _ h => h) (Or.inl ⟨by rfl, ?_⟩) ?_ ?_
             rotate_left
             ·intro w'
              go_simp
              with_reducible rfl
             rotate_left
             ·simp only [Act.put, List.setIfInBounds_toArray, List.set_cons_zero, List.set_cons_succ, i64_w, i32_w]
              rfl
             refine one_ (i := 13) (N := some 24) #[true, true, true, true, true, true, true, true, true, true, true, true, true, true, false, false] rfl rfl (one_of HT_.out (by kernel_rfl)) (by decide) (fun K hK => ?_)
             refine goes_ Tryd.func18 (by kernel_rfl) rfl #[.int .i64 (a0_2.size : Int)] (by rfl) rfl rfl (by (try simp only [List.map_toArray, List.map_cons, List.map_nil]); first | done | rfl | (simp only [List.length_drop, List.length_take]; rfl)) ?_
             with_reducible refine (strconv_Itoa.calls (a0_2.size : Int) t106 _ ?side1 A8.out).mono ?_
             (case side1 => exact HLD.below (by repeat (first | (with_reducible first | exact HB.out | apply below_alloc | apply pw_below_drewN | apply below_drew1 | refine below_set ?_ GE101.out) | exact HB.out)))
             rintro e w22 ⟨rfl, hb⟩
             refine ⟨_, rfl, ?_⟩
             have n0_ := Aside0.mk (blk_below (g := gb101) (o := .cells #[.bool true, .string a0_1, .string a0_2, .string a0_3, .int .u32 a0_4, .int .u64 a0_5, .bool true] 34 (0, 0)) (by (with_reducible repeat (first | refine blk_drewN ?_ _ | refine blk_drew ?_ | refine blk_alloc ?_ _)); exact BK101.out) hb)
             have n1_ := Aside0.mk (below_step (by repeat (first | (with_reducible first | exact HB.out | apply below_alloc | apply pw_below_drewN | apply below_drew1 | refine below_set ?_ GE101.out) | exact HB.out)) hb)
             clear BK101
             clear HB
             have BK101 := n0_
             have HB := n1_
             clear n0_ n1_
             (try clear hb)
             (try clear hb2)
             (try clear hk)
             (try clear hi)
             refine hK.out _ _ ⟨(blk_cell BK101.out 0).trans rfl, (blk_cell BK101.out 1).trans rfl, (blk_cell BK101.out 2).trans rfl, (blk_cell BK101.out 3).trans rfl, (blk_cell BK101.out 4).trans rfl, (blk_cell BK101.out 5).trans rfl, (blk_cell BK101.out 6).trans rfl⟩ (fun hHeld => ?_)
             clear hK K
             refine norm_ (a' := ?_) ?_ ?_
             rotate_left
             ·show Act.put _ (some 24) _ = _
              simp only [Act.put, List.setIfInBounds_toArray, List.set_cons_zero, List.set_cons_succ, i64_w, i32_w]
              rfl
             refine pure_ (i := 14) (N := some 25) (v := ?_) (a' := ?_) #[true, true, true, true, true, true, true, true, true, true, true, true, true, true, true, false] rfl rfl (any_of HT_.out (by kernel_rfl)) (fun _ _ _ h => h) (Or.inl ⟨by rfl, ?_⟩) ?_ ?_
             rotate_left
             ·intro w'
              go_simp
              with_reducible rfl
             rotate_left
             ·simp only [Act.put, List.setIfInBounds_toArray, List.set_cons_zero, List.set_cons_succ, i64_w, i32_w]
              rfl
             refine pure_ (i := 15) (N := some 3) (v := ?_) (a' := ?_) #[true, true, true, true, true, true, true, true, true, true, true, true, true, true, true, true] rfl rfl (any_of HT_.out (by kernel_rfl)) (fun _ _ _ h => h) (Or.inl ⟨by rfl, ?_⟩) ?_ ?_
             rotate_left
             ·intro w'
              go_simp
              with_reducible rfl
             rotate_left
             ·simp only [Act.put, List.setIfInBounds_toArray, List.set_cons_zero, List.set_cons_succ, i64_w, i32_w]
              rfl
             refine done_ (done_of HT_.out (by kernel_rfl)) ?_
             have hcz23_0 : w22.cell? ⟨gb101, 0, none⟩ = some (.bool true) := (blk_cell BK101.out 0).trans rfl
             have hcz23_1 : w22.cell? ⟨gb101, 1, none⟩ = some (.string a0_1) := (blk_cell BK101.out 1).trans rfl
             have hcz23_2 : w22.cell? ⟨gb101, 2, none⟩ = some (.string a0_2) := (blk_cell BK101.out 2).trans rfl
             have hcz23_3 : w22.cell? ⟨gb101, 3, none⟩ = some (.string a0_3) := (blk_cell BK101.out 3).trans rfl
             have hcz23_4 : w22.cell? ⟨gb101, 4, none⟩ = some (.int .u32 a0_4) := (blk_cell BK101.out 4).trans rfl
             have hcz23_5 : w22.cell? ⟨gb101, 5, none⟩ = some (.int .u64 a0_5) := (blk_cell BK101.out 5).trans rfl
             have hcz23_6 : w22.cell? ⟨gb101, 6, none⟩ = some (.bool true) := (blk_cell BK101.out 6).trans rfl
             have hfz23_0 := blk_frozen BK101.out 0
             have hfz23_1 := blk_frozen BK101.out 1
             have hfz23_2 := blk_frozen BK101.out 2
             have hfz23_3 := blk_frozen BK101.out 3
             have hfz23_4 := blk_frozen BK101.out 4
             have hfz23_5 := blk_frozen BK101.out 5
             have hfz23_6 := blk_frozen BK101.out 6
             try go_wp2_with (first | ((with_reducible refine gate_callee (f := 17) rfl ?_); refine goesL_ (some 31) rfl rfl Tryd.func17 (by kernel_rfl) rfl #[.int .u64 a0_5, .int .i64 10] rfl (by (try simp only [List.map_toArray, List.map_cons, List.map_nil]); first | done | rfl | (simp only [List.length_drop, List.length_take]; rfl)) ?_; (with_reducible refine (strconv_FormatUint.calls a0_5 10 t107 _ ?side1 A11.out).mono ?_); (case side1 => exact HLD.below (by repeat (first | (with_reducible first | exact HB.out | apply below_alloc | apply pw_below_drewN | apply below_drew1 | refine below_set ?_ GE101.out) | exact HB.out))); rintro e w24 ⟨rfl, hb⟩; refine ⟨_, rfl, ?_⟩; have n0_ := Aside0.mk (blk_below (g := gb101) (o := .cells #[.bool true, .string a0_1, .string a0_2, .string a0_3, .int .u32 a0_4, .int .u64 a0_5, .bool true] 34 (0, 0)) (by (with_reducible repeat (first | refine blk_drewN ?_ _ | refine blk_drew ?_ | refine blk_alloc ?_ _)); exact BK101.out) hb); have n1_ := Aside0.mk (below_step (by repeat (first | (with_reducible first | exact HB.out | apply below_alloc | apply pw_below_drewN | apply below_drew1 | refine below_set ?_ GE101.out) | exact HB.out)) hb); clear BK101; clear HB; have BK101 := n0_; have HB := n1_; clear n0_ n1_; (try clear hb); (try clear hb2); (try clear hk); (try clear hi); have hcz25_0 : w24.cell? ⟨gb101, 0, none⟩ = some (.bool true) := (blk_cell BK101.out 0).trans rfl; have hcz25_1 : w24.cell? ⟨gb101, 1, none⟩ = some (.string a0_1) := (blk_cell BK101.out 1).trans rfl; have hcz25_2 : w24.cell? ⟨gb101, 2, none⟩ = some (.string a0_2) := (blk_cell BK101.out 2).trans rfl; have hcz25_3 : w24.cell? ⟨gb101, 3, none⟩ = some (.string a0_3) := (blk_cell BK101.out 3).trans rfl; have hcz25_4 : w24.cell? ⟨gb101, 4, none⟩ = some (.int .u32 a0_4) := (blk_cell BK101.out 4).trans rfl; have hcz25_5 : w24.cell? ⟨gb101, 5, none⟩ = some (.int .u64 a0_5) := (blk_cell BK101.out 5).trans rfl; have hcz25_6 : w24.cell? ⟨gb101, 6, none⟩ = some (.bool true) := (blk_cell BK101.out 6).trans rfl; have hfz25_0 := blk_frozen BK101.out 0; have hfz25_1 := blk_frozen BK101.out 1; have hfz25_2 := blk_frozen BK101.out 2; have hfz25_3 := blk_frozen BK101.out 3; have hfz25_4 := blk_frozen BK101.out 4; have hfz25_5 := blk_frozen BK101.out 5; have hfz25_6 := blk_frozen BK101.out 6) | ((with_reducible refine gate_dst (N := 40) rfl ?_); (refine conv_event rfl (N := 40) rfl 9 31 5 rfl Tryd.underlying9 Tryd.underlying31 Tryd.underlying5 ((((((((((⟨#[86, 65, 76, 85, 69, 32]⟩ : ByteArray) ++ a0_1) ++ (⟨#[32]⟩ : ByteArray)) ++ t105) ++ (⟨#[32]⟩ : ByteArray)) ++ t106) ++ ((⟨#[32]⟩ : ByteArray) ++ t107)) ++ (⟨#[13, 10]⟩ : ByteArray)) ++ a0_2) ++ (⟨#[13, 10]⟩ : ByteArray)) t108 rfl A17.out ?_); intro v109 w26 ho0 hb; have n0_ := Aside0.mk (Kd.V_lower (Kd.V_mono (ok' := fun k_ => (w.heap.size ≤ k_) ∧ k_ ≠ gb101) ho0 (fun k_ hk_ => ⟨(Nat.le_trans (below_size (by repeat (first | (with_reducible first | exact HB.out | apply below_alloc | apply pw_below_drewN | apply below_drew1 | refine below_set ?_ GE101.out) | exact HB.out))) hk_), (Kd.freshB (g := gb101) (o := .cells #[.bool true, .string a0_1, .string a0_2, .string a0_3, .int .u32 a0_4, .int .u64 a0_5, .bool true] 34 (0, 0)) (by (with_reducible repeat (first | refine blk_drewN ?_ _ | refine blk_drew ?_ | refine blk_alloc ?_ _)); exact BK101.out) k_ hk_)⟩)) (below_size (by repeat (first | (with_reducible first | exact HB.out | apply below_alloc | apply pw_below_drewN | apply below_drew1 | refine below_set ?_ GE101.out) | exact HB.out)))); have n1_ := Aside0.mk (blk_below (g := gb101) (o := .cells #[.bool true, .string a0_1, .string a0_2, .string a0_3, .int .u32 a0_4, .int .u64 a0_5, .bool true] 34 (0, 0)) (by (with_reducible repeat (first | refine blk_drewN ?_ _ | refine blk_drew ?_ | refine blk_alloc ?_ _)); exact BK101.out) hb); have n2_ := Aside0.mk (below_step (by repeat (first | (with_reducible first | exact HB.out | apply below_alloc | apply pw_below_drewN | apply below_drew1 | refine below_set ?_ GE101.out) | exact HB.out)) hb); clear BK101; clear HB; have HO110 := n0_; have BK101 := n1_; have HB := n2_; clear n0_ n1_ n2_; (try clear hb); (try clear hb2); (try clear hk); (try clear hi); (try clear ho0)))
             go_ret
             exact ⟨_, by first | rfl | (simp [errW_none, errW_some] <;> rfl) | (simp [*, errW_none, errW_some] <;> rfl), by (with_reducible repeat (first | apply Kd.V_alloc | apply Kd.V_drewN | apply Kd.V_drew)); exact Kd.V_mono HO110.out (fun _ hk => hk.1), by repeat (first | (with_reducible first | exact HB.out | apply below_alloc | apply pw_below_drewN | apply below_drew1 | refine below_set ?_ GE101.out) | exact HB.out)⟩
            ·rw [if_neg c16] at H
             exact absurd H (by simp)
           ·rw [if_neg c15] at H
            exact absurd H (by simp)
          ·rw [if_neg c14] at H
           exact absurd H (by simp)
         ·rw [if_neg c13] at H
          exact absurd H (by simp)
        ·rw [if_neg c12] at H
         exact absurd H (by simp)
       ·replace c10 := Bool.eq_false_iff.mpr c10
        subst c10
        have H1 : (if ((((((⟨#[86, 65, 76, 85, 69, 32]⟩ : ByteArray) ++ a0_1) ++ (⟨#[32]⟩ : ByteArray)) ++ t105) ++ (⟨#[32]⟩ : ByteArray)) ++ t106).size + 2 ≤ 9223372036854775807 then (if (((((((⟨#[86, 65, 76, 85, 69, 32]⟩ : ByteArray) ++ a0_1) ++ (⟨#[32]⟩ : ByteArray)) ++ t105) ++ (⟨#[32]⟩ : ByteArray)) ++ t106) ++ (⟨#[13, 10]⟩ : ByteArray)).size + a0_2.size ≤ 9223372036854775807 then (if ((((((((⟨#[86, 65, 76, 85, 69, 32]⟩ : ByteArray) ++ a0_1) ++ (⟨#[32]⟩ : ByteArray)) ++ t105) ++ (⟨#[32]⟩ : ByteArray)) ++ t106) ++ (⟨#[13, 10]⟩ : ByteArray)) ++ a0_2).size + 2 ≤ 9223372036854775807 then ((convB.f (((((((((⟨#[86, 65, 76, 85, 69, 32]⟩ : ByteArray) ++ a0_1) ++ (⟨#[32]⟩ : ByteArray)) ++ t105) ++ (⟨#[32]⟩ : ByteArray)) ++ t106) ++ (⟨#[13, 10]⟩ : ByteArray)) ++ a0_2) ++ (⟨#[13, 10]⟩ : ByteArray))).bind fun t111 => (some t111)) else (none)) else (none)) else (none)) = some r := by rw [if_neg (show ¬ (false = true) by decide)] at H; exact H
        clear H
        have H := H1
        clear H1
        by_cases c27 : ((((((⟨#[86, 65, 76, 85, 69, 32]⟩ : ByteArray) ++ a0_1) ++ (⟨#[32]⟩ : ByteArray)) ++ t105) ++ (⟨#[32]⟩ : ByteArray)) ++ t106).size + 2 ≤ 9223372036854775807
        ·rw [if_pos c27] at H
         have c27b0 := eq_true c27
         have c27b1 : decide (((((((⟨#[86, 65, 76, 85, 69, 32]⟩ : ByteArray) ++ a0_1) ++ (⟨#[32]⟩ : ByteArray)) ++ t105) ++ (⟨#[32]⟩ : ByteArray)) ++ t106).size + 2 ≤ 9223372036854775807) = true := decide_eq_true c27
         try have c27b2 : (9223372036854775807 < ((((((⟨#[86, 65, 76, 85, 69, 32]⟩ : ByteArray) ++ a0_1) ++ (⟨#[32]⟩ : ByteArray)) ++ t105) ++ (⟨#[32]⟩ : ByteArray)) ++ t106).size + 2) = False := eq_false (Nat.not_lt.2 c27)
         have c27z := c27
         simp only [ByteArray.size_append, show (⟨#[86, 65, 76, 85, 69, 32]⟩ : ByteArray).size = 6 from rfl, show (⟨#[32]⟩ : ByteArray).size = 1 from rfl, show (⟨#[13, 10]⟩ : ByteArray).size = 2 from rfl] at c27z
         replace c27z := eq_false (Nat.not_lt.2 c27z)
         by_cases c28 : (((((((⟨#[86, 65, 76, 85, 69, 32]⟩ : ByteArray) ++ a0_1) ++ (⟨#[32]⟩ : ByteArray)) ++ t105) ++ (⟨#[32]⟩ : ByteArray)) ++ t106) ++ (⟨#[13, 10]⟩ : ByteArray)).size + a0_2.size ≤ 9223372036854775807
         ·rw [if_pos c28] at H
          have c28b0 := eq_true c28
          have c28b1 : decide ((((((((⟨#[86, 65, 76, 85, 69, 32]⟩ : ByteArray) ++ a0_1) ++ (⟨#[32]⟩ : ByteArray)) ++ t105) ++ (⟨#[32]⟩ : ByteArray)) ++ t106) ++ (⟨#[13, 10]⟩ : ByteArray)).size + a0_2.size ≤ 9223372036854775807) = true := decide_eq_true c28
          try have c28b2 : (9223372036854775807 < (((((((⟨#[86, 65, 76, 85, 69, 32]⟩ : ByteArray) ++ a0_1) ++ (⟨#[32]⟩ : ByteArray)) ++ t105) ++ (⟨#[32]⟩ : ByteArray)) ++ t106) ++ (⟨#[13, 10]⟩ : ByteArray)).size + a0_2.size) = False := eq_false (Nat.not_lt.2 c28)
          have c28z := c28
          simp only [ByteArray.size_append, show (⟨#[86, 65, 76, 85, 69, 32]⟩ : ByteArray).size = 6 from rfl, show (⟨#[32]⟩ : ByteArray).size = 1 from rfl, show (⟨#[13, 10]⟩ : ByteArray).size = 2 from rfl] at c28z
          replace c28z := eq_false (Nat.not_lt.2 c28z)
          by_cases c29 : ((((((((⟨#[86, 65, 76, 85, 69, 32]⟩ : ByteArray) ++ a0_1) ++ (⟨#[32]⟩ : ByteArray)) ++ t105) ++ (⟨#[32]⟩ : ByteArray)) ++ t106) ++ (⟨#[13, 10]⟩ : ByteArray)) ++ a0_2).size + 2 ≤ 9223372036854775807
          ·rw [if_pos c29] at H
           have c29b0 := eq_true c29
           have c29b1 : decide (((((((((⟨#[86, 65, 76, 85, 69, 32]⟩ : ByteArray) ++ a0_1) ++ (⟨#[32]⟩ : ByteArray)) ++ t105) ++ (⟨#[32]⟩ : ByteArray)) ++ t106) ++ (⟨#[13, 10]⟩ : ByteArray)) ++ a0_2).size + 2 ≤ 9223372036854775807) = true := decide_eq_true c29
           try have c29b2 : (9223372036854775807 < ((((((((⟨#[86, 65, 76, 85, 69, 32]⟩ : ByteArray) ++ a0_1) ++ (⟨#[32]⟩ : ByteArray)) ++ t105) ++ (⟨#[32]⟩ : ByteArray)) ++ t106) ++ (⟨#[13, 10]⟩ : ByteArray)) ++ a0_2).size + 2) = False := eq_false (Nat.not_lt.2 c29)
           have c29z := c29
           simp only [ByteArray.size_append, show (⟨#[86, 65, 76, 85, 69, 32]⟩ : ByteArray).size = 6 from rfl, show (⟨#[32]⟩ : ByteArray).size = 1 from rfl, show (⟨#[13, 10]⟩ : ByteArray).size = 2 from rfl] at c29z
           replace c29z := eq_false (Nat.not_lt.2 c29z)
           replace H := Option.bind_eq_some_iff.mp H
           obtain ⟨t111, A300, H⟩ := H
           replace H : (some t111) = some r := H
           have A30 := Aside0.mk A300
           clear A300
           obtain rfl := Option.some.inj H
           go_enter Tryd.func10, Tryd.ntmps10
           try go_wp2_with (first | ((with_reducible refine gate_dst (N := 1) rfl ?_); refine box_event ?hg (N := 1) ?hd (cs := #[.bool true, .string a0_1, .string a0_2, .string a0_3, .int .u32 a0_4, .int .u64 a0_5, .bool false]) (t := 34) ?hr ?_; (case hd => rfl); (case hg => rfl); (case hr => first | (go_simp; done) | (go_simp; rfl)); intro gb101 hg w31 hbox hb; have n0_ := Aside0.mk (below_step (by repeat (first | (with_reducible first | exact HB.out | apply below_alloc | apply pw_below_drewN | apply below_drew1) | exact HB.out)) hb); have n1_ := Aside0.mk (hbox); have n2_ := Aside0.mk ((by rw [hg]; exact (below_size (by repeat (first | (with_reducible first | exact HB.out | apply below_alloc | apply pw_below_drewN | apply below_drew1) | exact HB.out))) : w.heap.size ≤ gb101)); have n3_ := Aside0.mk ((by rw [hg]; exact (below_size (by repeat (first | (with_reducible first | exact HB.out | apply below_alloc | apply pw_below_drewN | apply below_drew1) | exact HB.out))) : w.heap.size ≤ gb101)); clear HB; have HB := n0_; have BK101 := n1_; have GW101 := n2_; have GE101 := n3_; clear n0_ n1_ n2_ n3_; clear hb hbox hg; have hcz32_0 : w31.cell? ⟨gb101, 0, none⟩ = some (.bool true) := (blk_cell BK101.out 0).trans rfl; have hcz32_1 : w31.cell? ⟨gb101, 1, none⟩ = some (.string a0_1) := (blk_cell BK101.out 1).trans rfl; have hcz32_2 : w31.cell? ⟨gb101, 2, none⟩ = some (.string a0_2) := (blk_cell BK101.out 2).trans rfl; have hcz32_3 : w31.cell? ⟨gb101, 3, none⟩ = some (.string a0_3) := (blk_cell BK101.out 3).trans rfl; have hcz32_4 : w31.cell? ⟨gb101, 4, none⟩ = some (.int .u32 a0_4) := (blk_cell BK101.out 4).trans rfl; have hcz32_5 : w31.cell? ⟨gb101, 5, none⟩ = some (.int .u64 a0_5) := (blk_cell BK101.out 5).trans rfl; have hcz32_6 : w31.cell? ⟨gb101, 6, none⟩ = some (.bool false) := (blk_cell BK101.out 6).trans rfl; have hfz32_0 := blk_frozen BK101.out 0; have hfz32_1 := blk_frozen BK101.out 1; have hfz32_2 := blk_frozen BK101.out 2; have hfz32_3 := blk_frozen BK101.out 3; have hfz32_4 := blk_frozen BK101.out 4; have hfz32_5 := blk_frozen BK101.out 5; have hfz32_6 := blk_frozen BK101.out 6))
           have n0_ := Aside0.mk (blk_drew BK101.out)
           have n1_ := Aside0.mk (below_drew1 HB.out)
           clear BK101
           clear HB
           have BK101 := n0_
           have HB := n1_
           clear n0_ n1_
           refine start_ (n := 16) (S := fun w' => w'.cell? ⟨gb101, 0, none⟩ = some (.bool true) ∧ w'.cell? ⟨gb101, 1, none⟩ = some (.string a0_1) ∧ w'.cell? ⟨gb101, 2, none⟩ = some (.string a0_2) ∧ w'.cell? ⟨gb101, 3, none⟩ = some (.string a0_3) ∧ w'.cell? ⟨gb101, 4, none⟩ = some (.int .u32 a0_4) ∧ w'.cell? ⟨gb101, 5, none⟩ = some (.int .u64 a0_5) ∧ w'.cell? ⟨gb101, 6, none⟩ = some (.bool false)) (ds := []) #[false, false, false, false, false, false, false, false, false, false, false, false, false, false, false, false] (by kernel_rfl) rfl rfl ⟨(blk_cell BK101.out 0).trans rfl, (blk_cell BK101.out 1).trans rfl, (blk_cell BK101.out 2).trans rfl, (blk_cell BK101.out 3).trans rfl, (blk_cell BK101.out 4).trans rfl, (blk_cell BK101.out 5).trans rfl, (blk_cell BK101.out 6).trans rfl⟩ (fun hHeld => ?_); refine with_tabW reply_Bytes.tab3 reply_Bytes.bits3 (fun HT_ HW_ => ?_)
           generalize w31.drew = w33 at BK101 HB hHeld ⊢
           refine pure_ (i := 0) (N := some 11) (v := ?_) (a' := ?_) #[true, false, false, false, false, false, false, false, false, false, false, false, false, false, false, false] rfl rfl (any_of HT_.out (by kernel_rfl)) (fun _ _ _ h => h) (Or.inl ⟨by rfl, ?_⟩) ?_ ?_
           rotate_left
           ·intro w'
            go_simp
            with_reducible rfl
           rotate_left
           ·simp only [Act.put, List.setIfInBounds_toArray, List.set_cons_zero, List.set_cons_succ, i64_w, i32_w]
            rfl
           refine pure_ (i := 4) (N := some 15) (v := ?_) (a' := ?_) #[true, false, false, false, true, false, false, false, false, false, false, false, false, false, false, false] rfl rfl (any_of HT_.out (by kernel_rfl)) (fun _ _ _ h => h) (Or.inl ⟨by rfl, ?_⟩) ?_ ?_
           rotate_left
           ·intro w'
            go_simp
            with_reducible rfl
           rotate_left
           ·simp only [Act.put, List.setIfInBounds_toArray, List.set_cons_zero, List.set_cons_succ, i64_w, i32_w]
            rfl
           refine pure_ (i := 10) (N := some 21) (v := ?_) (a' := ?_) #[true, false, false, false, true, false, false, false, false, false, true, false, false, false, false, false] rfl rfl (any_of HT_.out (by kernel_rfl)) (fun _ _ _ h => h) (Or.inl ⟨by rfl, ?_⟩) ?_ ?_
           rotate_left
           ·intro w'
            go_simp
            with_reducible rfl
           rotate_left
           ·simp only [Act.put, List.setIfInBounds_toArray, List.set_cons_zero, List.set_cons_succ, i64_w, i32_w]
            rfl
           refine take_ (i := 1) (N := some 12) (v := ?_) (a' := ?_) #[true, true, false, false, true, false, false, false, false, false, true, false, false, false, false, false] rfl rfl (take_ofW HT_.out HW_.out (by kernel_rfl)) (fun _ _ _ h => h) (Or.inl ⟨by rfl, ?_⟩) hHeld ?_ ?_
           rotate_left
           ·rintro w' ⟨s0, s1, s2, s3, s4, s5, s6⟩
            go_simp
            with_reducible rfl
           rotate_left
           ·simp only [Act.put, List.setIfInBounds_toArray, List.set_cons_zero, List.set_cons_succ, i64_w, i32_w]
            rfl
           refine pure_ (i := 2) (N := some 13) (v := ?_) (a' := ?_) #[true, true, true, false, true, false, false, false, false, false, true, false, false, false, false, false] rfl rfl (any_of HT_.out (by kernel_rfl)) (fun _ _ _ h => h) (Or.inl ⟨by rfl, ?_⟩) ?_ ?_
           rotate_left
           ·intro w'
            go_simp
            with_reducible rfl
           rotate_left
           ·simp only [Act.put, List.setIfInBounds_toArray, List.set_cons_zero, List.set_cons_succ, i64_w, i32_w]
            rfl
           refine pure_ (i := 3) (N := some 14) (v := ?_) (a' := ?_) #[true, true, true, true, true, false, false, false, false, false, true, false, false, false, false, false] rfl rfl (any_of HT_.out (by kernel_rfl)) (fun _ _ _ h => h) (Or.inl ⟨by rfl, ?_⟩) ?_ ?_
           rotate_left
           ·intro w'
            go_simp
            with_reducible rfl
           rotate_left
           ·simp only [Act.put, List.setIfInBounds_toArray, List.set_cons_zero, List.set_cons_succ, i64_w, i32_w]
            rfl
           refine take_ (i := 5) (N := some 16) (v := ?_) (a' := ?_) #[true, true, true, true, true, true, false, false, false, false, true, false, false, false, false, false] rfl rfl (take_ofW HT_.out HW_.out (by kernel_rfl)) (fun _ _ _ h => h) (Or.inl ⟨by rfl, ?_⟩) hHeld ?_ ?_
           rotate_left
           ·rintro w' ⟨s0, s1, s2, s3, s4, s5, s6⟩
            go_simp
            with_reducible rfl
           rotate_left
           ·simp only [Act.put, List.setIfInBounds_toArray, List.set_cons_zero, List.set_cons_succ, i64_w, i32_w]
            rfl
           refine pure_ (i := 6) (N := some 17) (v := ?_) (a' := ?_) #[true, true, true, true, true, true, true, false, false, false, true, false, false, false, false, false] rfl rfl (any_of HT_.out (by kernel_rfl)) (fun _ _ _ h => h) (Or.inl ⟨by rfl, ?_⟩) ?_ ?_
           rotate_left
           ·intro w'
            go_simp
            with_reducible rfl
           rotate_left
           ·simp only [Act.put, List.setIfInBounds_toArray, List.set_cons_zero, List.set_cons_succ, i64_w, i32_w]
            rfl
           refine take_ (i := 11) (N := some 22) (v := ?_) (a' := ?_) #[true, true, true, true, true, true, true, false, false, false, true, true, false, false, false, false] rfl rfl (take_ofW HT_.out HW_.out (by kernel_rfl)) (fun _ _ _ h => h) (Or.inl ⟨by rfl, ?_⟩) hHeld ?_ ?_
           rotate_left
           ·rintro w' ⟨s0, s1, s2, s3, s4, s5, s6⟩
            go_simp
            with_reducible rfl
           rotate_left
           ·simp only [Act.put, List.setIfInBounds_toArray, List.set_cons_zero, List.set_cons_succ, i64_w, i32_w]
            rfl
           refine pure_ (i := 12) (N := some 23) (v := ?_) (a' := ?_) #[true, true, true, true, true, true, true, false, false, false, true, true, true, false, false, false] rfl rfl (any_of HT_.out (by kernel_rfl)) (fun _ _ _ h => h) (Or.inl ⟨by rfl, ?_⟩) ?_ ?_
           rotate_left
           ·intro w'
            go_simp
            with_reducible rfl
           rotate_left
           ·simp only [Act.put, List.setIfInBounds_toArray, List.set_cons_zero, List.set_cons_succ, i64_w, i32_w]
            rfl
           refine one_ (i := 7) (N := some 18) #[true, true, true, true, true, true, true, true, false, false, true, true, true, false, false, false] rfl rfl (one_of HT_.out (by kernel_rfl)) (by decide) (fun K hK => ?_)
           refine goes_ Tryd.func17 (by kernel_rfl) rfl #[.int .u64 (IntKind.u64.wrap (a0_4)), .int .i64 10] (by rfl) rfl rfl (by (try simp only [List.map_toArray, List.map_cons, List.map_nil]); first | done | rfl | (simp only [List.length_drop, List.length_take]; rfl)) ?_
           with_reducible refine (strconv_FormatUint.calls (IntKind.u64.wrap (a0_4)) 10 t105 _ ?side1 A5.out).mono ?_
           (case side1 => exact HLD.below (by repeat (first | (with_reducible first | exact HB.out | apply below_alloc | apply pw_below_drewN | apply below_drew1 | refine below_set ?_ GE101.out) | exact HB.out)))
           rintro e w34 ⟨rfl, hb⟩
           refine ⟨_, rfl, ?_⟩
           have n0_ := Aside0.mk (blk_below (g := gb101) (o := .cells #[.bool true, .string a0_1, .string a0_2, .string a0_3, .int .u32 a0_4, .int .u64 a0_5, .bool false] 34 (0, 0)) (by (with_reducible repeat (first | refine blk_drewN ?_ _ | refine blk_drew ?_ | refine blk_alloc ?_ _)); exact BK101.out) hb)
           have n1_ := Aside0.mk (below_step (by repeat (first | (with_reducible first | exact HB.out | apply below_alloc | apply pw_below_drewN | apply below_drew1 | refine below_set ?_ GE101.out) | exact HB.out)) hb)
           clear BK101
           clear HB
           have BK101 := n0_
           have HB := n1_
           clear n0_ n1_
           (try clear hb)
           (try clear hb2)
           (try clear hk)
           (try clear hi)
           refine hK.out _ _ ⟨(blk_cell BK101.out 0).trans rfl, (blk_cell BK101.out 1).trans rfl, (blk_cell BK101.out 2).trans rfl, (blk_cell BK101.out 3).trans rfl, (blk_cell BK101.out 4).trans rfl, (blk_cell BK101.out 5).trans rfl, (blk_cell BK101.out 6).trans rfl⟩ (fun hHeld => ?_)
           clear hK K
           refine norm_ (a' := ?_) ?_ ?_
           rotate_left
           ·show Act.put _ (some 18) _ = _
            simp only [Act.put, List.setIfInBounds_toArray, List.set_cons_zero, List.set_cons_succ, i64_w, i32_w]
            rfl
           refine pure_ (i := 8) (N := some 19) (v := ?_) (a' := ?_) #[true, true, true, true, true, true, true, true, true, false, true, true, true, false, false, false] rfl rfl (any_of HT_.out (by kernel_rfl)) (fun _ _ _ h => h) (Or.inl ⟨by rfl, ?_⟩) ?_ ?_
           rotate_left
           ·intro w'
            go_simp
            with_reducible rfl
           rotate_left
           ·simp only [Act.put, List.setIfInBounds_toArray, List.set_cons_zero, List.set_cons_succ, i64_w, i32_w]
            rfl
           refine pure_ (i := 9) (N := some 20) (v := ?_) (a' := ?_) #[true, true, true, true, true, true, true, true, true, true, true, true, true, false, false, false] rfl rfl (any_of HT_.out (by kernel_rfl)) (fun _ _ _ h => h) (Or.inl ⟨by rfl, ?_⟩) ?_ ?_
           rotate_left
           ·intro w'
            go_simp
            with_reducible rfl
           rotate_left
           ·simp only [Act.put, List.setIfInBounds_toArray, List.set_cons_zero, List.set_cons_succ, i64_w, i32_w]
            rfl
           refine one_ (i := 13) (N := some 24) #[true, true, true, true, true, true, true, true, true, true, true, true, true, true, false, false] rfl rfl (one_of HT_.out (by kernel_rfl)) (by decide) (fun K hK => ?_)
           refine goes_ Tryd.func18 (by kernel_rfl) rfl #[.int .i64 (a0_2.size : Int)] (by rfl) rfl rfl (by (try simp only [List.map_toArray, List.map_cons, List.map_nil]); first | done | rfl | (simp only [List.length_drop, List.length_take]; rfl)) ?_
           with_reducible refine (strconv_Itoa.calls (a0_2.size : Int) t106 _ ?side1 A8.out).mono ?_
           (case side1 => exact HLD.below (by repeat (first | (with_reducible first | exact HB.out | apply below_alloc | apply pw_below_drewN | apply below_drew1 | refine below_set ?_ GE101.out) | exact HB.out)))
           rintro e w35 ⟨rfl, hb⟩
           refine ⟨_, rfl, ?_⟩
           have n0_ := Aside0.mk (blk_below (g := gb101) (o := .cells #[.bool true, .string a0_1, .string a0_2, .string a0_3, .int .u32 a0_4, .int .u64 a0_5, .bool false] 34 (0, 0)) (by (with_reducible repeat (first | refine blk_drewN ?_ _ | refine blk_drew ?_ | refine blk_alloc ?_ _)); exact BK101.out) hb)
           have n1_ := Aside0.mk (below_step (by repeat (first | (with_reducible first | exact HB.out | apply below_alloc | apply pw_below_drewN | apply below_drew1 | refine below_set ?_ GE101.out) | exact HB.out)) hb)
           clear BK101
           clear HB
           have BK101 := n0_
           have HB := n1_
           clear n0_ n1_
           (try clear hb)
           (try clear hb2)
           (try clear hk)
           (try clear hi)
           refine hK.out _ _ ⟨(blk_cell BK101.out 0).trans rfl, (blk_cell BK101.out 1).trans rfl, (blk_cell BK101.out 2).trans rfl, (blk_cell BK101.out 3).trans rfl, (blk_cell BK101.out 4).trans rfl, (blk_cell BK101.out 5).trans rfl, (blk_cell BK101.out 6).trans rfl⟩ (fun hHeld => ?_)
           clear hK K
           refine norm_ (a' := ?_) ?_ ?_
           rotate_left
           ·show Act.put _ (some 24) _ = _
            simp only [Act.put, List.setIfInBounds_toArray, List.set_cons_zero, List.set_cons_succ, i64_w, i32_w]
            rfl
           refine pure_ (i := 14) (N := some 25) (v := ?_) (a' := ?_) #[true, true, true, true, true, true, true, true, true, true, true, true, true, true, true, false] rfl rfl (any_of HT_.out (by kernel_rfl)) (fun _ _ _ h => h) (Or.inl ⟨by rfl, ?_⟩) ?_ ?_
           rotate_left
           ·intro w'
            go_simp
            with_reducible rfl
           rotate_left
           ·simp only [Act.put, List.setIfInBounds_toArray, List.set_cons_zero, List.set_cons_succ, i64_w, i32_w]
            rfl
           refine pure_ (i := 15) (N := some 3) (v := ?_) (a' := ?_) #[true, true, true, true, true, true, true, true, true, true, true, true, true, true, true, true] rfl rfl (any_of HT_.out (by kernel_rfl)) (fun _ _ _ h => h) (Or.inl ⟨by rfl, ?_⟩) ?_ ?_
           rotate_left
           ·intro w'
            go_simp
            with_reducible rfl
           rotate_left
           ·simp only [Act.put, List.setIfInBounds_toArray, List.set_cons_zero, List.set_cons_succ, i64_w, i32_w]
            rfl
           refine done_ (done_of HT_.out (by kernel_rfl)) ?_
           have hcz36_0 : w35.cell? ⟨gb101, 0, none⟩ = some (.bool true) := (blk_cell BK101.out 0).trans rfl
           have hcz36_1 : w35.cell? ⟨gb101, 1, none⟩ = some (.string a0_1) := (blk_cell BK101.out 1).trans rfl
           have hcz36_2 : w35.cell? ⟨gb101, 2, none⟩ = some (.string a0_2) := (blk_cell BK101.out 2).trans rfl
           have hcz36_3 : w35.cell? ⟨gb101, 3, none⟩ = some (.string a0_3) := (blk_cell BK101.out 3).trans rfl
           have hcz36_4 : w35.cell? ⟨gb101, 4, none⟩ = some (.int .u32 a0_4) := (blk_cell BK101.out 4).trans rfl
           have hcz36_5 : w35.cell? ⟨gb101, 5, none⟩ = some (.int .u64 a0_5) := (blk_cell BK101.out 5).trans rfl
           have hcz36_6 : w35.cell? ⟨gb101, 6, none⟩ = some (.bool false) := (blk_cell BK101.out 6).trans rfl
           have hfz36_0 := blk_frozen BK101.out 0
           have hfz36_1 := blk_frozen BK101.out 1
           have hfz36_2 := blk_frozen BK101.out 2
           have hfz36_3 := blk_frozen BK101.out 3
           have hfz36_4 := blk_frozen BK101.out 4
           have hfz36_5 := blk_frozen BK101.out 5
           have hfz36_6 := blk_frozen BK101.out 6
           try go_wp2_with (first | ((with_reducible refine gate_dst (N := 40) rfl ?_); (refine conv_event rfl (N := 40) rfl 9 31 5 rfl Tryd.underlying9 Tryd.underlying31 Tryd.underlying5 (((((((((⟨#[86, 65, 76, 85, 69, 32]⟩ : ByteArray) ++ a0_1) ++ (⟨#[32]⟩ : ByteArray)) ++ t105) ++ (⟨#[32]⟩ : ByteArray)) ++ t106) ++ (⟨#[13, 10]⟩ : ByteArray)) ++ a0_2) ++ (⟨#[13, 10]⟩ : ByteArray)) t111 rfl A30.out ?_); intro v112 w37 ho0 hb; have n0_ := Aside0.mk (Kd.V_lower (Kd.V_mono (ok' := fun k_ => (w.heap.size ≤ k_) ∧ k_ ≠ gb101) ho0 (fun k_ hk_ => ⟨(Nat.le_trans (below_size (by repeat (first | (with_reducible first | exact HB.out | apply below_alloc | apply pw_below_drewN | apply below_drew1 | refine below_set ?_ GE101.out) | exact HB.out))) hk_), (Kd.freshB (g := gb101) (o := .cells #[.bool true, .string a0_1, .string a0_2, .string a0_3, .int .u32 a0_4, .int .u64 a0_5, .bool false] 34 (0, 0)) (by (with_reducible repeat (first | refine blk_drewN ?_ _ | refine blk_drew ?_ | refine blk_alloc ?_ _)); exact BK101.out) k_ hk_)⟩)) (below_size (by repeat (first | (with_reducible first | exact HB.out | apply below_alloc | apply pw_below_drewN | apply below_drew1 | refine below_set ?_ GE101.out) | exact HB.out)))); have n1_ := Aside0.mk (blk_below (g := gb101) (o := .cells #[.bool true, .string a0_1, .string a0_2, .string a0_3, .int .u32 a0_4, .int .u64 a0_5, .bool false] 34 (0, 0)) (by (with_reducible repeat (first | refine blk_drewN ?_ _ | refine blk_drew ?_ | refine blk_alloc ?_ _)); exact BK101.out) hb); have n2_ := Aside0.mk (below_step (by repeat (first | (with_reducible first | exact HB.out | apply below_alloc | apply pw_below_drewN | apply below_drew1 | refine below_set ?_ GE101.out) | exact HB.out)) hb); clear BK101; clear HB; have HO113 := n0_; have BK101 := n1_; have HB := n2_; clear n0_ n1_ n2_; (try clear hb); (try clear hb2); (try clear hk); (try clear hi); (try clear ho0)))
           go_ret
           exact ⟨_, by first | rfl | (simp [errW_none, errW_some] <;> rfl) | (simp [*, errW_none, errW_some] <;> rfl), by (with_reducible repeat (first | apply Kd.V_alloc | apply Kd.V_drewN | apply Kd.V_drew)); exact Kd.V_mono HO113.out (fun _ hk => hk.1), by repeat (first | (with_reducible first | exact HB.out | apply below_alloc | apply pw_below_drewN | apply below_drew1 | refine below_set ?_ GE101.out) | exact HB.out)⟩
          ·rw [if_neg c29] at H
           exact absurd H (by simp)
         ·rw [if_neg c28] at H
          exact absurd H (by simp)
        ·rw [if_neg c27] at H
         exact absurd H (by simp)
      ·rw [if_neg c9] at H
       exact absurd H (by simp)
     ·rw [if_neg c7] at H
      exact absurd H (by simp)
    ·rw [if_neg c6] at H
     exact absurd H (by simp)
   ·rw [if_neg c4] at H
    exact absurd H (by simp)
  ·rw [if_neg c3] at H
   exact absurd H (by simp)
 ·replace c2 := Bool.eq_false_iff.mpr c2
  subst c2
  have H1 : (if a0_3.size + 2 ≤ 9223372036854775807 then ((convB.f (a0_3 ++ (⟨#[13, 10]⟩ : ByteArray))).bind fun t102 => (some t102)) else (none)) = some r := by rw [if_neg (show ¬ (false = true) by decide)] at H; exact H
  clear H
  have H := H1
  clear H1
  by_cases c38 : a0_3.size + 2 ≤ 9223372036854775807
  ·rw [if_pos c38] at H
   have c38b0 := eq_true c38
   have c38b1 : decide (a0_3.size + 2 ≤ 9223372036854775807) = true := decide_eq_true c38
   try have c38b2 : (9223372036854775807 < a0_3.size + 2) = False := eq_false (Nat.not_lt.2 c38)
   replace H := Option.bind_eq_some_iff.mp H
   obtain ⟨t102, A390, H⟩ := H
   replace H : (some t102) = some r := H
   have A39 := Aside0.mk A390
   clear A390
   obtain rfl := Option.some.inj H
   go_enter Tryd.func10, Tryd.ntmps10
   go_wp2_with (first | ((with_reducible refine gate_dst (N := 1) rfl ?_); refine box_event ?hg (N := 1) ?hd (cs := #[.bool false, .string a0_1, .string a0_2, .string a0_3, .int .u32 a0_4, .int .u64 a0_5, .bool a0_6]) (t := 34) ?hr ?_; (case hd => rfl); (case hg => rfl); (case hr => first | (go_simp; done) | (go_simp; rfl)); intro gb101 hg w40 hbox hb; have n0_ := Aside0.mk (below_step (by repeat (first | (with_reducible first | exact HB.out | apply below_alloc | apply pw_below_drewN | apply below_drew1) | exact HB.out)) hb); have n1_ := Aside0.mk (hbox); have n2_ := Aside0.mk ((by rw [hg]; exact (below_size (by repeat (first | (with_reducible first | exact HB.out | apply below_alloc | apply pw_below_drewN | apply below_drew1) | exact HB.out))) : w.heap.size ≤ gb101)); have n3_ := Aside0.mk ((by rw [hg]; exact (below_size (by repeat (first | (with_reducible first | exact HB.out | apply below_alloc | apply pw_below_drewN | apply below_drew1) | exact HB.out))) : w.heap.size ≤ gb101)); clear HB; have HB := n0_; have BK101 := n1_; have GW101 := n2_; have GE101 := n3_; clear n0_ n1_ n2_ n3_; clear hb hbox hg; have hcz41_0 : w40.cell? ⟨gb101, 0, none⟩ = some (.bool false) := (blk_cell BK101.out 0).trans rfl; have hcz41_1 : w40.cell? ⟨gb101, 1, none⟩ = some (.string a0_1) := (blk_cell BK101.out 1).trans rfl; have hcz41_2 : w40.cell? ⟨gb101, 2, none⟩ = some (.string a0_2) := (blk_cell BK101.out 2).trans rfl; have hcz41_3 : w40.cell? ⟨gb101, 3, none⟩ = some (.string a0_3) := (blk_cell BK101.out 3).trans rfl; have hcz41_4 : w40.cell? ⟨gb101, 4, none⟩ = some (.int .u32 a0_4) := (blk_cell BK101.out 4).trans rfl; have hcz41_5 : w40.cell? ⟨gb101, 5, none⟩ = some (.int .u64 a0_5) := (blk_cell BK101.out 5).trans rfl; have hcz41_6 : w40.cell? ⟨gb101, 6, none⟩ = some (.bool a0_6) := (blk_cell BK101.out 6).trans rfl; have hfz41_0 := blk_frozen BK101.out 0; have hfz41_1 := blk_frozen BK101.out 1; have hfz41_2 := blk_frozen BK101.out 2; have hfz41_3 := blk_frozen BK101.out 3; have hfz41_4 := blk_frozen BK101.out 4; have hfz41_5 := blk_frozen BK101.out 5; have hfz41_6 := blk_frozen BK101.out 6) | ((with_reducible refine gate_dst (N := 10) rfl ?_); (refine conv_event rfl (N := 10) rfl 9 31 5 rfl Tryd.underlying9 Tryd.underlying31 Tryd.underlying5 (a0_3 ++ (⟨#[13, 10]⟩ : ByteArray)) t102 rfl A39.out ?_); intro v103 w42 ho0 hb; have n0_ := Aside0.mk (Kd.V_lower (Kd.V_mono (ok' := fun k_ => (w.heap.size ≤ k_) ∧ k_ ≠ gb101) ho0 (fun k_ hk_ => ⟨(Nat.le_trans (below_size (by repeat (first | (with_reducible first | exact HB.out | apply below_alloc | apply pw_below_drewN | apply below_drew1 | refine below_set ?_ GE101.out) | exact HB.out))) hk_), (Kd.freshB (g := gb101) (o := .cells #[.bool false, .string a0_1, .string a0_2, .string a0_3, .int .u32 a0_4, .int .u64 a0_5, .bool a0_6] 34 (0, 0)) (by (with_reducible repeat (first | refine blk_drewN ?_ _ | refine blk_drew ?_ | refine blk_alloc ?_ _)); exact BK101.out) k_ hk_)⟩)) (below_size (by repeat (first | (with_reducible first | exact HB.out | apply below_alloc | apply pw_below_drewN | apply below_drew1 | refine below_set ?_ GE101.out) | exact HB.out)))); have n1_ := Aside0.mk (blk_below (g := gb101) (o := .cells #[.bool false, .string a0_1, .string a0_2, .string a0_3, .int .u32 a0_4, .int .u64 a0_5, .bool a0_6] 34 (0, 0)) (by (with_reducible repeat (first | refine blk_drewN ?_ _ | refine blk_drew ?_ | refine blk_alloc ?_ _)); exact BK101.out) hb); have n2_ := Aside0.mk (below_step (by repeat (first | (with_reducible first | exact HB.out | apply below_alloc | apply pw_below_drewN | apply below_drew1 | refine below_set ?_ GE101.out) | exact HB.out)) hb); clear BK101; clear HB; have HO104 := n0_; have BK101 := n1_; have HB := n2_; clear n0_ n1_ n2_; (try clear hb); (try clear hb2); (try clear hk); (try clear hi); (try clear ho0)))
   go_ret
   exact ⟨_, by first | rfl | (simp [errW_none, errW_some] <;> rfl) | (simp [*, errW_none, errW_some] <;> rfl), by (with_reducible repeat (first | apply Kd.V_alloc | apply Kd.V_drewN | apply Kd.V_drew)); exact Kd.V_mono HO104.out (fun _ hk => hk.1), by repeat (first | (with_reducible first | exact HB.out | apply below_alloc | apply pw_below_drewN | apply below_drew1 | refine below_set ?_ GE101.out) | exact HB.out)⟩
  ·rw [if_neg c38] at H
   exact absurd H (by simp)

end Go.Proofs.YtgopcfkofjipjaaDoor.H
-- thinned
