/-
  WordsNumbers, WordsBack and WordsSigns, plain. Their conditions: the statements' own.
-/
import Derived.Test.YtolbbhpcajepnaaDoorPA
import Derived.Test.YtolbbhpcajepnaaDoorP6
import Derived.Test.YtolbbhpcajepnaaDoorHX27
namespace Go.Proofs.YtolbbhpcajepnaaDoor.Pure
open Go Go.RowKit Go.Proofs.YtolbbhpcajepnaaDoorW.PrintWords Go.Proofs.YtolbbhpcajepnaaDoor.H Go.Proofs.YtolbbhpcajepnaaDoor.L
set_option linter.unusedSimpArgs false
set_option linter.unusedVariables false

theorem u64_of {n : Int} (h : (Lit.int .u64 n).wf = true) : 0 ≤ n ∧ n < 18446744073709551616 := by
  have e1 : IntKind.u64.min = 0 := rfl
  have e2 : IntKind.u64.max = 18446744073709551615 := rfl
  simp [Lit.wf, e1, e2] at h
  omega
theorem i64_of {n : Int} (h : (Lit.int .i64 n).wf = true) : -9223372036854775808 ≤ n ∧ n < 9223372036854775808 := by
  have e1 : IntKind.i64.min = -9223372036854775808 := rfl
  have e2 : IntKind.i64.max = 9223372036854775807 := rfl
  simp [Lit.wf, e1, e2] at h
  omega
theorem numG_snoc (c : UInt8) (d : Nat) (hc : c.toNat = 48 + d) (hd : d < 10) (m : Nat) : ∀ (l : List UInt8) (a : Nat), numG a l = ((m : Int), true) → m * 10 + d < 18446744073709551616 → numG a (l ++ [c]) = (((m * 10 + d : Nat) : Int), true)
  | [], a, h, hm => by
    have ha : a = m := by simp [numG] at h; omega
    subst ha
    simp only [List.nil_append, numG]
    rw [if_pos (by omega), if_neg (by omega), hc]
    rw [show 48 + d - 48 = d by omega]
  | b :: r, a, h, hm => by
    simp only [List.cons_append, numG] at h ⊢
    by_cases h1 : 48 ≤ b.toNat ∧ b.toNat ≤ 57
    · rw [if_pos h1] at h ⊢
      by_cases h2 : 1844674407370955161 < a ∨ (a = 1844674407370955161 ∧ 5 < b.toNat - 48)
      · rw [if_pos h2] at h; simp at h
      · rw [if_neg h2] at h ⊢
        exact numG_snoc c d hc hd m r _ h hm
    · rw [if_neg h1] at h; simp at h
theorem dig_num (d : Nat) (h : d < 10) : (UInt8.ofNat (48 + d)).toNat = 48 + d := by rw [UInt8.toNat_ofNat', Nat.mod_eq_of_lt (by omega)]
theorem numG_dec (n : Nat) (h : n < 18446744073709551616) : numG 0 (Lib.decDigits n) = ((n : Int), true) := by
  induction n using Nat.strongRecOn with
  | _ n ih =>
    rw [Lib.decDigits]
    by_cases h1 : n < 10
    · rw [dif_pos h1]
      simp only [numG]
      rw [dig_num n h1, if_pos (by omega), if_neg (by omega)]
      simp
    · rw [dif_neg h1]
      have := numG_snoc (UInt8.ofNat (48 + n % 10)) (n % 10) (dig_num _ (by omega)) (by omega) (n / 10) _ 0 (ih (n / 10) (by omega) (by omega)) (by omega)
      rw [this]
      congr 1
      omega
theorem numG_zeros (l : List UInt8) : ∀ z : Nat, numG 0 (List.replicate z 48 ++ l) = numG 0 l
  | 0 => rfl
  | z + 1 => by
    rw [List.replicate_succ, List.cons_append]
    simp only [numG]
    rw [if_pos (by decide), if_neg (by decide)]
    exact numG_zeros l z
theorem dec_len (n : Nat) (h : n < 18446744073709551616) : 1 ≤ (Lib.decDigits n).length ∧ (Lib.decDigits n).length ≤ 20 := by
  rw [Lib.decDigits_length]
  refine ⟨Lib.nDigits_pos n, ?_⟩
  by_cases hz : n = 0
  · subst hz; rw [Lib.nDigits_small (by omega)]; omega
  · have := Lib.numDigits_eq n (by omega) h
    split at this <;> omega
theorem numF_dec (n z : Nat) (h : n < 18446744073709551616) (hz : z + (Lib.decDigits n).length ≤ 20) : numF (List.replicate z 48 ++ Lib.decDigits n) = ((n : Int), true) := by
  have hl := dec_len n h
  rw [numF_eq, if_neg (by rw [List.length_append, List.length_replicate]; omega), numG_zeros, numG_dec n h]

theorem back_end (n : Nat) (h : n < 18446744073709551616) (z : Nat) (hz : z + (Lib.decDigits n).length ≤ 20) :
    Ev (fun k => cellaretlaw2_WordsBack.j1 k (n : Int) (ba (List.replicate z 48 ++ Lib.decDigits n))) true := by
  refine Ev.step (fun k => cellaretlaw2_WordsBack.j1.eq_2 _ _ _) ?_
  have hl := dec_len n h
  have hsz : (ba (List.replicate z 48 ++ Lib.decDigits n)).size = z + (Lib.decDigits n).length := by simp [ba, ByteArray.size]
  simp only [words_Number.f, Option.bind_some, ba_toList, numF_dec n z h hz, if_true, hsz, if_pos (show 21 + (z + (Lib.decDigits n).length) ≤ 9223372036854775807 by omega)]
  rw [ba_app, numF_eq, if_pos (Or.inr (by rw [List.length_append]; show 20 < 21 + _; omega))]
  exact Ev.now _
theorem back_loop (n : Nat) (h : n < 18446744073709551616) (zeros : Int) : ∀ (d z i : Nat), z + (Lib.decDigits n).length + d = 20 → i ≤ z →
    Ev (fun k => cellaretlaw2_WordsBack.l0 k (n : Int) zeros (ba (List.replicate z 48 ++ Lib.decDigits n)) (i : Int)) true
  | d, z, i, hd, hi => by
    refine Ev.step (fun k => cellaretlaw2_WordsBack.l0.eq_2 _ _ _ _ _) ?_
    have hsz : (ba (List.replicate z 48 ++ Lib.decDigits n)).size = z + (Lib.decDigits n).length := by simp [ba, ByteArray.size]
    by_cases h1 : (i : Int) < zeros
    · simp only [if_pos h1, hsz]
      cases d with
      | zero =>
        simp only [if_neg (show ¬ (((z + (Lib.decDigits n).length : Nat) : Int) < 20) by omega)]
        exact back_end n h z (by omega)
      | succ d =>
        simp only [if_pos (show (((z + (Lib.decDigits n).length : Nat) : Int) < 20) by omega), if_pos (show 1 + (z + (Lib.decDigits n).length) ≤ 9223372036854775807 by omega), wrap_next (show (0 : Int) ≤ (i : Int) by omega) (by omega)]
        have e : (⟨#[48]⟩ : ByteArray) ++ ba (List.replicate z 48 ++ Lib.decDigits n) = ba (List.replicate (z + 1) 48 ++ Lib.decDigits n) := ba_ext (by
          rw [ba_app, ba_toList, List.replicate_succ]
          rfl)
        rw [e]
        exact back_loop n h zeros d (z + 1) (i + 1) (by omega) (by omega)
    · simp only [if_neg h1]
      exact back_end n h z (by omega)
theorem WordsBack : cellaretlaw2_WordsBack.Pure := by
  intro a0 zeros w0 w1
  obtain ⟨h0, h1⟩ := u64_of w0
  obtain ⟨n, rfl⟩ := Int.eq_ofNat_of_zero_le h0
  have h : n < 18446744073709551616 := by omega
  apply Ev.rounds
  refine Ev.bind awakeEv ?_
  simp only [if_true, text_eq n h, Option.bind_some]
  refine Ev.bind (evRefText n h) ?_
  simp only [if_true]
  have hl := dec_len n h
  exact back_loop n h zeros (20 - (Lib.decDigits n).length) 0 0 (by omega) (Nat.le_refl _)

end Go.Proofs.YtolbbhpcajepnaaDoor.Pure
