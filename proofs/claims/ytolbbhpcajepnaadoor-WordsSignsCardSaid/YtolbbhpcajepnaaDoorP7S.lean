/-
  WordsNumbers, WordsBack and WordsSigns, plain. Their conditions: the statements' own.
-/
import Derived.Test.YtolbbhpcajepnaaDoorP7B
import Derived.Test.YtolbbhpcajepnaaDoorHX32
namespace Go.Proofs.YtolbbhpcajepnaaDoor.Pure
open Go Go.RowKit Go.Proofs.YtolbbhpcajepnaaDoorW.PrintWords Go.Proofs.YtolbbhpcajepnaaDoor.H Go.Proofs.YtolbbhpcajepnaaDoor.L
set_option linter.unusedSimpArgs false
set_option linter.unusedVariables false

theorem numF_sign (c : UInt8) (l : List UInt8) (h : ¬ (48 ≤ c.toNat ∧ c.toNat ≤ 57)) : (numF (c :: l)).2 = false := by
  rw [numF_eq]
  by_cases h1 : (c :: l).length < 1 ∨ 20 < (c :: l).length
  · rw [if_pos h1]
  · rw [if_neg h1]
    simp only [numG]
    rw [if_neg h]
theorem dec_head (n : Nat) : ∃ c r, Lib.decDigits n = c :: r ∧ c.toNat ≥ 48 := by
  induction n using Nat.strongRecOn with
  | _ n ih =>
    rw [Lib.decDigits]
    by_cases h1 : n < 10
    · rw [dif_pos h1]
      exact ⟨_, [], rfl, by rw [dig_num n h1]; omega⟩
    · rw [dif_neg h1]
      obtain ⟨c, r, e, hc⟩ := ih (n / 10) (by omega)
      exact ⟨c, r ++ [_], by rw [e]; rfl, hc⟩
theorem signF_dec (n : Nat) (h : n < 18446744073709551616) : signF (Lib.decDigits n) = if n < 9223372036854775808 then (wrap64 (n : Int), true) else (0, false) := by
  obtain ⟨c, r, e, hc⟩ := dec_head n
  have hn : negL (Lib.decDigits n) = false := by
    rw [e]
    show (c == 45) = false
    rw [beq_eq_false_iff_ne]
    rintro rfl
    exact absurd hc (by decide)
  have hl := dec_len n h
  have hf := numF_dec n 0 h (by omega)
  rw [List.replicate_zero, List.nil_append] at hf
  unfold signF
  rw [hn, hf, if_neg (by simp)]
  by_cases h1 : n < 9223372036854775808
  · rw [if_pos ⟨rfl, by show (n : Int) < _; omega⟩, if_pos h1]
  · rw [if_neg (fun e => h1 (by have := e.2; simp at this; omega)), if_neg h1]
theorem signF_neg (n : Nat) (h : n < 18446744073709551616) : signF (45 :: Lib.decDigits n) = if n ≤ 9223372036854775808 then (wrap64 (-(wrap64 (n : Int))), true) else (0, false) := by
  have hl := dec_len n h
  have hf := numF_dec n 0 h (by omega)
  rw [List.replicate_zero, List.nil_append] at hf
  unfold signF
  rw [show negL (45 :: Lib.decDigits n) = true from rfl, if_pos rfl, show (45 :: Lib.decDigits n).drop 1 = Lib.decDigits n from rfl, hf]
  by_cases h1 : n ≤ 9223372036854775808
  · rw [if_pos ⟨rfl, by show (n : Int) ≤ _; omega⟩, if_pos h1]
  · rw [if_neg (fun e => h1 (by have := e.2; simp at this; omega)), if_neg h1]
theorem signF_plus (l : List UInt8) : (signF (43 :: l)).2 = false := by
  unfold signF
  rw [show negL (43 :: l) = false from rfl, if_neg (by simp), if_neg]
  intro e
  have := numF_sign 43 l (by decide)
  rw [e.1] at this
  cases this
theorem signF_minus : (signF [45]).2 = false := by decide +kernel
theorem WordsSigns : cellaretlaw2_WordsSigns.Pure := by
  intro a0 w0
  obtain ⟨h0, h1⟩ := u64_of w0
  obtain ⟨n, rfl⟩ := Int.eq_ofNat_of_zero_le h0
  have h : n < 18446744073709551616 := by omega
  apply Ev.rounds
  refine Ev.bind awakeEv ?_
  have hl := dec_len n h
  have hsz : (ba (Lib.decDigits n)).size = (Lib.decDigits n).length := by simp [ba, ByteArray.size]
  simp only [if_true, text_eq n h, Option.bind_some]
  refine Ev.bind (evSigned _) ?_
  simp only [hsz, if_pos (show 1 + (Lib.decDigits n).length ≤ 9223372036854775807 by omega)]
  refine Ev.bind (evSigned _) ?_
  simp only [words_Number.f, Option.bind_some]
  refine Ev.bind (evSigned _) (Ev.bind (evSigned _) ?_)
  have e1 : ((⟨#[45]⟩ : ByteArray) ++ ba (Lib.decDigits n)).data.toList = 45 :: Lib.decDigits n := by rw [ba_app]; rfl
  have e2 : ((⟨#[43]⟩ : ByteArray) ++ ba (Lib.decDigits n)).data.toList = 43 :: Lib.decDigits n := by rw [ba_app]; rfl
  have e3 : ((⟨#[45]⟩ : ByteArray)).data.toList = [45] := rfl
  simp only [e1, e2, e3, ba_toList, signF_dec n h, signF_neg n h, signF_plus, signF_minus, numF_sign 45 _ (by decide)]
  by_cases c1 : n < 9223372036854775808
  · have k1 : IntKind.u64.wrap (wrap64 (n : Int)) = (n : Int) := by rw [IntKind.wrap_u64]; unfold wrap64; omega
    have k2 : IntKind.u64.wrap (wrap64 (-(wrap64 (-(wrap64 (n : Int)))))) = (n : Int) := by rw [IntKind.wrap_u64]; unfold wrap64; omega
    simp only [if_pos c1, if_pos (show n ≤ 9223372036854775808 by omega), decide_eq_true (show (n : Int) ≤ 9223372036854775807 by omega), decide_eq_true (show (n : Int) ≤ 9223372036854775808 by omega), k1, k2]
    simpa using Ev.now _
  · simp only [if_neg c1, decide_eq_false (show ¬ (n : Int) ≤ 9223372036854775807 by omega)]
    by_cases c2 : n ≤ 9223372036854775808
    · have k2 : IntKind.u64.wrap (wrap64 (-(wrap64 (-(wrap64 (n : Int)))))) = (n : Int) := by rw [IntKind.wrap_u64]; unfold wrap64; omega
      simp only [if_pos c2, decide_eq_true (show (n : Int) ≤ 9223372036854775808 by omega), k2]
      simpa using Ev.now _
    · simp only [if_neg c2, decide_eq_false (show ¬ (n : Int) ≤ 9223372036854775808 by omega)]
      simpa using Ev.now _
end Go.Proofs.YtolbbhpcajepnaaDoor.Pure
