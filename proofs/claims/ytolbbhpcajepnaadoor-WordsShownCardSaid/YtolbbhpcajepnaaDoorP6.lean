/-
  The layer's and the reference's Number and Signed tell one and the same, and Text too (plain). Its condition: for Text, a number below 2^64; for Signed, a text of fewer than 2^47 bytes.
-/
import Derived.Test.YtolbbhpcajepnaaDoorPA
import Derived.Test.YtolbbhpcajepnaaDoorHX24
import Derived.Test.YtolbbhpcajepnaaDoorHX25
import Derived.Test.YtolbbhpcajepnaaDoorHX6
import Derived.Test.YtolbbhpcajepnaaDoorHX13
import Derived.Test.YtolbbhpcajepnaaDoorHX19
import Derived.Lib.ItoaNum
namespace Go.Proofs.YtolbbhpcajepnaaDoor.Pure
open Go Go.RowKit Go.Proofs.YtolbbhpcajepnaaDoorW.PrintWords Go.Proofs.YtolbbhpcajepnaaDoor.H Go.Proofs.YtolbbhpcajepnaaDoor.L
set_option linter.unusedSimpArgs false
set_option linter.unusedVariables false

def numG (acc : Nat) : List UInt8 → Int × Bool
  | [] => ((acc : Int), true)
  | c :: r => if 48 ≤ c.toNat ∧ c.toNat ≤ 57 then (if 1844674407370955161 < acc ∨ (acc = 1844674407370955161 ∧ 5 < c.toNat - 48) then (0, false) else numG (acc * 10 + (c.toNat - 48)) r) else (0, false)
theorem numG_bad : ∀ (l : List UInt8) (acc : Nat), l.all isDig ≠ true → numG acc l = (0, false)
  | [], acc, h => by simp at h
  | c :: r, acc, h => by
    unfold numG
    by_cases hc : 48 ≤ c.toNat ∧ c.toNat ≤ 57
    · rw [if_pos hc]
      by_cases ho : 1844674407370955161 < acc ∨ (acc = 1844674407370955161 ∧ 5 < c.toNat - 48)
      · rw [if_pos ho]
      · rw [if_neg ho]
        refine numG_bad r _ (fun e => h ?_)
        rw [List.all_cons, e]
        simp [isDig, hc.1, hc.2]
    · rw [if_neg hc]
theorem numG_parse : ∀ (l : List UInt8) (acc : Nat), l.all isDig = true → (match Lib.parseUintM (2 ^ 64 - 1) acc l with | .ok u => ((u : Int), true) | _ => (0, false)) = numG acc l
  | [], acc, _ => rfl
  | c :: r, acc, h => by
    rw [List.all_cons, Bool.and_eq_true] at h
    have hc : 48 ≤ c.toNat ∧ c.toNat ≤ 57 := by have := h.1; simp [isDig] at this; exact this
    unfold numG Lib.parseUintM
    rw [if_pos hc, if_pos hc]
    by_cases h1 : 1844674407370955162 ≤ acc
    · rw [if_pos h1, if_pos (by omega)]
    · rw [if_neg h1]
      by_cases h2 : 2 ^ 64 - 1 < acc * 10 + (c.toNat - 48)
      · rw [if_pos h2, if_pos (by omega)]
      · rw [if_neg h2, if_neg (by omega)]
        exact numG_parse r _ h.2
theorem numF_eq (l : List UInt8) : numF l = if l.length < 1 ∨ 20 < l.length then (0, false) else numG 0 l := by
  unfold numF
  by_cases h : l.length < 1 ∨ 20 < l.length
  · rw [if_pos h, if_pos h]
  · rw [if_neg h, if_neg h]
    by_cases hd : l.all isDig = true
    · rw [if_pos hd]
      unfold Lib.parseUintB
      rw [if_neg (by intro e; rw [e] at h; simp at h)]
      exact numG_parse l 0 hd
    · rw [if_neg hd, numG_bad l 0 hd]
theorem numG_range : ∀ (l : List UInt8) (acc : Nat), acc < 18446744073709551616 → 0 ≤ (numG acc l).1 ∧ (numG acc l).1 < 18446744073709551616
  | [], acc, h => by simp [numG]; omega
  | c :: r, acc, h => by
    unfold numG
    by_cases hc : 48 ≤ c.toNat ∧ c.toNat ≤ 57
    · rw [if_pos hc]
      by_cases ho : 1844674407370955161 < acc ∨ (acc = 1844674407370955161 ∧ 5 < c.toNat - 48)
      · rw [if_pos ho]; simp
      · rw [if_neg ho]; exact numG_range r _ (by omega)
    · rw [if_neg hc]; simp
theorem numF_range (l : List UInt8) : 0 ≤ (numF l).1 ∧ (numF l).1 < 18446744073709551616 := by
  rw [numF_eq]
  by_cases h : l.length < 1 ∨ 20 < l.length
  · rw [if_pos h]; simp
  · rw [if_neg h]; exact numG_range l 0 (by omega)

theorem u64w (n : Int) (h0 : 0 ≤ n) (h1 : n < 18446744073709551616) : IntKind.u64.wrap n = n := by rw [IntKind.wrap_u64]; omega
theorem drop_by (s : ByteArray) (i : Nat) (h : i < s.size) : ∃ c : UInt8, s.data.toList.drop i = c :: s.data.toList.drop (i + 1) ∧ c.toNat = by_ s i := by
  have hl := len_eq s
  refine ⟨s.data.toList[i]'(by omega), List.drop_eq_getElem_cons (by omega), ?_⟩
  unfold by_
  rw [List.getD_eq_getElem?_getD, List.getElem?_eq_getElem (by omega)]
  rfl
theorem refNum_loop (s : ByteArray) (hs : s.size < 140737488355328) : ∀ (d i acc : Nat), i + d = s.size → acc < 18446744073709551616 →
    Ev (fun k => cellaretref1_Number.l0 k s (acc : Int) (i : Int)) (numG acc (s.data.toList.drop i))
  | 0, i, acc, hi, ha => by
    refine Ev.step (fun k => cellaretref1_Number.l0.eq_2 _ _ _ _) ?_
    simp only [if_neg (show ¬ (i : Int) < (s.size : Int) by omega)]
    rw [List.drop_of_length_le (by rw [len_eq]; omega)]
    exact Ev.now _
  | d + 1, i, acc, hi, ha => by
    have hlt : i < s.size := by omega
    have hb := by_lt s i
    obtain ⟨c, hc, hcb⟩ := drop_by s i hlt
    refine Ev.step (fun k => cellaretref1_Number.l0.eq_2 _ _ _ _) ?_
    simp only [if_pos (show (i : Int) < (s.size : Int) by omega), if_pos (show (0 : Int) ≤ (i : Int) by omega), bt_by s i hlt]
    rw [hc]
    unfold numG
    rw [hcb]
    by_cases h1 : by_ s i < 48
    · simp only [if_pos (show (by_ s i : Int) < 48 by omega)]
      refine Ev.step (fun k => cellaretref1_Number.j2.eq_2 _ _ _ _ _) ?_
      simp only [if_true, if_neg (show ¬ (48 ≤ by_ s i ∧ by_ s i ≤ 57) by omega)]
      exact Ev.now _
    · simp only [if_neg (show ¬ (by_ s i : Int) < 48 by omega)]
      refine Ev.step (fun k => cellaretref1_Number.j2.eq_2 _ _ _ _ _) ?_
      by_cases h2 : 57 < by_ s i
      · simp only [decide_eq_true (show (by_ s i : Int) > 57 by omega), if_true, if_neg (show ¬ (48 ≤ by_ s i ∧ by_ s i ≤ 57) by omega)]
        exact Ev.now _
      · have e48 : ((by_ s i : Int) - 48) % 256 = ((by_ s i - 48 : Nat) : Int) := by omega
        simp only [decide_eq_false (show ¬ (by_ s i : Int) > 57 by omega), Bool.false_eq_true, if_false, if_pos (show (i : Int) < (s.size : Int) by omega), if_pos (show (0 : Int) ≤ (i : Int) by omega), bt_by s i hlt, if_pos (show 48 ≤ by_ s i ∧ by_ s i ≤ 57 by omega), e48, wrap_next (show (0 : Int) ≤ (i : Int) by omega) (by omega)]
        by_cases h3 : 1844674407370955161 < acc
        · simp only [if_pos (show (acc : Int) > 1844674407370955161 by omega), if_pos (show 1844674407370955161 < acc ∨ (acc = 1844674407370955161 ∧ 5 < by_ s i - 48) from .inl h3)]
          exact Ev.now _
        · simp only [if_neg (show ¬ (acc : Int) > 1844674407370955161 by omega)]
          have ew : acc < 1844674407370955161 ∨ by_ s i - 48 ≤ 5 → IntKind.u64.wrap (IntKind.u64.wrap (10 * (acc : Int)) + ((by_ s i - 48 : Nat) : Int)) = ((acc * 10 + (by_ s i - 48) : Nat) : Int) := fun h => by
            rw [u64w (10 * (acc : Int)) (by omega) (by omega), u64w _ (by omega) (by omega)]
            omega
          by_cases h4 : acc = 1844674407370955161
          · simp only [if_pos (show (acc : Int) = 1844674407370955161 by omega)]
            by_cases h5 : 5 < by_ s i - 48
            · simp only [if_pos (show ((by_ s i - 48 : Nat) : Int) > 5 by omega), if_pos (show 1844674407370955161 < acc ∨ (acc = 1844674407370955161 ∧ 5 < by_ s i - 48) from .inr ⟨h4, h5⟩)]
              exact Ev.now _
            · simp only [if_neg (show ¬ ((by_ s i - 48 : Nat) : Int) > 5 by omega), if_neg (show ¬ (1844674407370955161 < acc ∨ (acc = 1844674407370955161 ∧ 5 < by_ s i - 48)) by omega), ew (.inr (by omega))]
              exact refNum_loop s hs d (i + 1) _ (by omega) (by omega)
          · simp only [if_neg (show ¬ (acc : Int) = 1844674407370955161 by omega), if_neg (show ¬ (1844674407370955161 < acc ∨ (acc = 1844674407370955161 ∧ 5 < by_ s i - 48)) by omega), ew (.inl (by omega))]
            exact refNum_loop s hs d (i + 1) _ (by omega) (by omega)
theorem evRefNumber (s : ByteArray) : Ev (fun k => cellaretref1_Number.f k s) (numF s.data.toList) := by
  rw [numF_eq, len_eq]
  unfold cellaretref1_Number.f
  by_cases h1 : s.size < 1
  · simp only [if_pos (show (s.size : Int) < 1 by omega), if_pos (show s.size < 1 ∨ 20 < s.size from .inl h1)]
    refine Ev.step (fun k => cellaretref1_Number.j0.eq_2 _ _ _) ?_
    simp only [if_true]
    exact Ev.now _
  · simp only [if_neg (show ¬ (s.size : Int) < 1 by omega)]
    refine Ev.step (fun k => cellaretref1_Number.j0.eq_2 _ _ _) ?_
    by_cases h2 : 20 < s.size
    · simp only [decide_eq_true (show (s.size : Int) > 20 by omega), if_true, if_pos (show s.size < 1 ∨ 20 < s.size from .inr h2)]
      exact Ev.now _
    · simp only [decide_eq_false (show ¬ (s.size : Int) > 20 by omega), Bool.false_eq_true, if_false, if_neg (show ¬ (s.size < 1 ∨ 20 < s.size) by omega)]
      have h := refNum_loop s (by omega) _ 0 0 (Nat.zero_add _) (by omega)
      rw [List.drop_zero] at h
      exact h

/-! Signed. -/
def negL : List UInt8 → Bool
  | c :: _ => c == 45
  | [] => false
def signF (l : List UInt8) : Int × Bool :=
  if negL l = true then (if (numF (l.drop 1)).2 = true ∧ (numF (l.drop 1)).1 ≤ 9223372036854775808 then (wrap64 (-(wrap64 (numF (l.drop 1)).1)), true) else (0, false))
  else (if (numF l).2 = true ∧ (numF l).1 < 9223372036854775808 then (wrap64 (numF l).1, true) else (0, false))
theorem hasPrefix_minus (s : ByteArray) : strings_HasPrefix.f s ⟨#[45]⟩ = some (negL s.data.toList) := by
  unfold strings_HasPrefix.f stringslite_HasPrefix.f
  have e1 : ((⟨#[45]⟩ : ByteArray).size : Int) = 1 := rfl
  simp only [e1]
  have hl := len_eq s
  by_cases h : 1 ≤ s.size
  · rw [if_pos (by omega), if_pos (by omega), if_pos (by omega), Option.bind_some]
    rw [tl, tl, Lib.extract_data]
    match hm : s.data.toList with
    | [] => rw [hm] at hl; simp at hl; omega
    | c :: r => simp [negL]
  · rw [if_neg (by omega), Option.bind_some]
    have : s.data.toList = [] := List.eq_nil_of_length_eq_zero (by omega)
    rw [this]
    rfl
theorem trimPrefix_minus (s : ByteArray) : strings_TrimPrefix.f s ⟨#[45]⟩ = some (if negL s.data.toList = true then s.extract 1 s.size else s) := by
  have hp := hasPrefix_minus s
  unfold strings_HasPrefix.f at hp
  have hp2 : stringslite_HasPrefix.f s ⟨#[45]⟩ = some (negL s.data.toList) := by
    cases h : stringslite_HasPrefix.f s ⟨#[45]⟩ with
    | none => rw [h] at hp; cases hp
    | some b => rw [h] at hp; exact hp
  unfold strings_TrimPrefix.f stringslite_TrimPrefix.f
  have e1 : ((⟨#[45]⟩ : ByteArray).size : Int) = 1 := rfl
  rw [hp2]
  simp only [Option.bind_some, e1]
  by_cases h : negL s.data.toList = true
  · have hl := len_eq s
    have : 1 ≤ s.size := by
      by_cases h0 : 1 ≤ s.size
      · exact h0
      · have e : s.data.toList = [] := List.eq_nil_of_length_eq_zero (by omega)
        rw [e] at h; cases h
    rw [if_pos h, if_pos h, if_pos (by omega), if_pos (by omega)]
    rfl
  · rw [if_neg h, if_neg h]
    rfl
theorem evSigned (s : ByteArray) : Ev (fun k => words_Signed.f k s) (signF s.data.toList) := by
  unfold words_Signed.f signF words_Number.f
  simp only [trimPrefix_minus, hasPrefix_minus, Option.bind_some]
  by_cases h : negL s.data.toList = true
  · simp only [if_pos h, Lib.extract_to_end]
    by_cases h1 : (numF (s.data.toList.drop 1)).2 = true
    · simp only [if_pos h1]
      refine Ev.step (fun k => words_Signed.j0.eq_2 _ _ _ _) ?_
      by_cases h2 : (numF (s.data.toList.drop 1)).1 ≤ 9223372036854775808
      · simp only [decide_eq_true h2, if_true, if_pos (And.intro h1 h2)]; exact Ev.now _
      · simp only [decide_eq_false h2, Bool.false_eq_true, if_false, hasPrefix_minus, Option.bind_some, if_pos h, if_neg (fun e : _ ∧ _ => h2 e.2)]; exact Ev.now _
    · simp only [if_neg h1, if_neg (fun e : _ ∧ _ => h1 e.1)]; exact Ev.now _
  · simp only [if_neg h]
    by_cases h1 : (numF s.data.toList).2 = true
    · simp only [if_pos h1]
      refine Ev.step (fun k => words_Signed.j0.eq_2 _ _ _ _) ?_
      simp only [Bool.false_eq_true, if_false, hasPrefix_minus, Option.bind_some, if_neg h]
      by_cases h2 : (numF s.data.toList).1 < 9223372036854775808
      · simp only [if_pos h2, if_pos (And.intro h1 h2)]; exact Ev.now _
      · simp only [if_neg h2, if_neg (fun e : _ ∧ _ => h2 e.2)]; exact Ev.now _
    · simp only [if_neg h1, if_neg (fun e : _ ∧ _ => h1 e.1)]; exact Ev.now _
theorem neg_by (s : ByteArray) (h : 0 < s.size) : (bt s 0 == 45) = negL s.data.toList := by
  obtain ⟨c, hc, hcb⟩ := drop_by s 0 h
  rw [List.drop_zero] at hc
  rw [hc, show bt s 0 = (by_ s 0 : Int) from bt_by s 0 h, ← hcb]
  unfold negL
  rw [Bool.eq_iff_iff, beq_iff_eq, beq_iff_eq]
  constructor
  · intro e; exact UInt8.toNat_inj.1 (show c.toNat = 45 by omega)
  · rintro rfl; rfl
theorem evRefSigned (s : ByteArray) : Ev (fun k => cellaretref1_Signed.f k s) (signF s.data.toList) := by
  have hl := len_eq s
  have key : Ev (fun k => cellaretref1_Signed.j0 k s (negL s.data.toList)) (signF s.data.toList) := by
    refine Ev.step (fun k => cellaretref1_Signed.j0.eq_2 _ _ _) ?_
    unfold signF
    by_cases h : negL s.data.toList = true
    · have h1 : 1 ≤ s.size := by
        by_cases h0 : 1 ≤ s.size
        · exact h0
        · have e : s.data.toList = [] := List.eq_nil_of_length_eq_zero (by omega)
          rw [e] at h; cases h
      simp only [if_pos h, if_pos (show (1 : Int) ≤ (s.size : Int) by omega)]
      have hn := evRefNumber (s.extract 1 s.size)
      rw [Lib.extract_to_end] at hn
      refine Ev.bind hn ?_
      by_cases h1 : (numF (s.data.toList.drop 1)).2 = true
      · simp only [if_pos h1]
        refine Ev.step (fun k => cellaretref1_Signed.j1.eq_2 _ _ _) ?_
        by_cases h2 : (numF (s.data.toList.drop 1)).1 ≤ 9223372036854775808
        · simp only [decide_eq_false (show ¬ (numF (s.data.toList.drop 1)).1 > 9223372036854775808 by omega), Bool.false_eq_true, if_false, if_pos (And.intro h1 h2)]; exact Ev.now _
        · simp only [decide_eq_true (show (numF (s.data.toList.drop 1)).1 > 9223372036854775808 by omega), if_true, if_neg (fun e : _ ∧ _ => h2 e.2)]; exact Ev.now _
      · simp only [if_neg h1, if_neg (fun e : _ ∧ _ => h1 e.1)]
        refine Ev.step (fun k => cellaretref1_Signed.j1.eq_2 _ _ _) ?_
        simp only [if_true]; exact Ev.now _
    · simp only [if_neg h]
      refine Ev.bind (evRefNumber s) ?_
      by_cases h1 : (numF s.data.toList).2 = true
      · simp only [if_pos h1]
        by_cases h2 : (numF s.data.toList).1 < 9223372036854775808
        · simp only [if_neg (show ¬ (numF s.data.toList).1 > 9223372036854775807 by omega), if_pos (And.intro h1 h2)]; exact Ev.now _
        · simp only [if_pos (show (numF s.data.toList).1 > 9223372036854775807 by omega), if_neg (fun e : _ ∧ _ => h2 e.2)]; exact Ev.now _
      · simp only [if_neg h1, if_neg (fun e : _ ∧ _ => h1 e.1)]; exact Ev.now _
  unfold cellaretref1_Signed.f
  by_cases h : 0 < s.size
  · simp only [if_pos (show (s.size : Int) > 0 by omega), if_pos (show (0 : Int) < (s.size : Int) by omega), neg_by s h]
    exact key
  · simp only [if_neg (show ¬ (s.size : Int) > 0 by omega)]
    have e : s.data.toList = [] := List.eq_nil_of_length_eq_zero (by omega)
    rw [e] at key ⊢
    exact key

/-! Text. -/
theorem text_eq (n : Nat) (h : n < 18446744073709551616) : words_Text.f (n : Int) = some (ba (Lib.decDigits n)) := by
  unfold words_Text.f strconv_FormatUint.f
  rw [if_pos ⟨rfl, by omega, by omega⟩]
  rfl
theorem digit_at : ∀ n : Fin 10, (⟨#[48, 49, 50, 51, 52, 53, 54, 55, 56, 57]⟩ : ByteArray).extract n.val (n.val + 1) = ba [UInt8.ofNat (48 + n.val)] := by
  intro n
  match n with
  | 0 => rfl | 1 => rfl | 2 => rfl | 3 => rfl | 4 => rfl | 5 => rfl | 6 => rfl | 7 => rfl | 8 => rfl | 9 => rfl
theorem ba_ext {a b : ByteArray} (h : a.data.toList = b.data.toList) : a = b := by rw [← ba_of a, ← ba_of b, h]
theorem ba_app (a : ByteArray) (x : List UInt8) : (a ++ ba x).data.toList = a.data.toList ++ x := by rw [ByteArray.data_append, Array.toList_append, ba_toList]
theorem evRefText (n : Nat) (h : n < 18446744073709551616) : Ev (fun k => cellaretref1_Text.f k (n : Int)) (ba (Lib.decDigits n)) := by
  induction n using Nat.strongRecOn with
  | _ n ih =>
    refine Ev.step (fun k => cellaretref1_Text.f.eq_2 _ _) ?_
    rw [Lib.decDigits]
    by_cases h1 : n < 10
    · have e1 : (((n : Int) + 1).toNat) = n + 1 := by omega
      simp only [if_pos (show (n : Int) < 10 by omega), if_pos (show (0 : Int) ≤ (n : Int) by omega), u64w ((n : Int) + 1) (by omega) (by omega), if_pos (show (n : Int) ≤ (n : Int) + 1 by omega), if_pos (show (n : Int) + 1 ≤ 10 by omega), e1, Int.toNat_natCast, dif_pos h1]
      rw [digit_at ⟨n, h1⟩]
      exact Ev.now _
    · have e0 : Int.tdiv (n : Int) 10 = ((n / 10 : Nat) : Int) := by rw [Int.tdiv_eq_ediv_of_nonneg (by omega)]; omega
      have e2 : Int.tmod (n : Int) 10 = ((n % 10 : Nat) : Int) := by rw [Int.tmod_eq_emod_of_nonneg (by omega)]; omega
      have e1 : ((((n % 10 : Nat) : Int) + 1).toNat) = n % 10 + 1 := by omega
      simp only [if_neg (show ¬ (n : Int) < 10 by omega), e0, e2, u64w ((n / 10 : Nat) : Int) (by omega) (by omega), dif_neg h1]
      refine Ev.bind (ih (n / 10) (by omega) (by omega)) ?_
      have hd := digit_at ⟨n % 10, by omega⟩
      have hlen : (ba (Lib.decDigits (n / 10))).size ≤ 20 := by
        have : (ba (Lib.decDigits (n / 10))).size = (Lib.decDigits (n / 10)).length := by simp [ba, ByteArray.size]
        rw [this, Lib.decDigits_length]
        by_cases hz : n / 10 = 0
        · rw [hz]; decide +kernel
        · have := Lib.numDigits_eq (n / 10) (by omega) (by omega)
          split at this <;> omega
      have hs1 : (ba [UInt8.ofNat (48 + n % 10)]).size = 1 := rfl
      simp only [u64w (((n % 10 : Nat) : Int) + 1) (by omega) (by omega), if_pos (show (0 : Int) ≤ ((n % 10 : Nat) : Int) by omega), if_pos (show ((n % 10 : Nat) : Int) ≤ ((n % 10 : Nat) : Int) + 1 by omega), if_pos (show ((n % 10 : Nat) : Int) + 1 ≤ 10 by omega), e1, Int.toNat_natCast]
      rw [hd, hs1]
      simp only [if_pos (show (ba (Lib.decDigits (n / 10))).size + 1 ≤ 9223372036854775807 by omega)]
      have hx : ba (Lib.decDigits (n / 10)) ++ ba [UInt8.ofNat (48 + n % 10)] = ba (Lib.decDigits (n / 10) ++ [UInt8.ofNat (48 + n % 10)]) := ba_ext (by rw [ba_app, ba_toList, ba_toList])
      rw [hx]
      exact Ev.now _
end Go.Proofs.YtolbbhpcajepnaaDoor.Pure
