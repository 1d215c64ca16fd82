/-
  WordsShown and WordsRunes, plain. Their conditions: the statements' own.
-/
import Derived.Test.YtolbbhpcajepnaaDoorPA
import Derived.Test.YtolbbhpcajepnaaDoorP6
import Derived.Test.YtolbbhpcajepnaaDoorHX20
namespace Go.Proofs.YtolbbhpcajepnaaDoor.Pure
open Go Go.RowKit Go.Proofs.YtolbbhpcajepnaaDoorW.PrintWords Go.Proofs.YtolbbhpcajepnaaDoor.H Go.Proofs.YtolbbhpcajepnaaDoor.L
set_option linter.unusedSimpArgs false
set_option linter.unusedVariables false


/-! What is shown: its bytes. -/
def fine (c : UInt8) : Bool := decide (32 < c.toNat) && (c != 34 && c != 127)
theorem oct_fine (l : List UInt8) : (oct l).all fine = true := by
  unfold oct
  induction l with
  | nil => rfl
  | cons c r ih =>
    rw [List.flatMap_cons, List.all_append, ih, Bool.and_true]
    have h : ∀ d : Nat, d < 8 → fine (UInt8.ofNat (48 + d)) = true := by
      intro d hd
      match d, hd with
      | 0, _ => rfl | 1, _ => rfl | 2, _ => rfl | 3, _ => rfl | 4, _ => rfl | 5, _ => rfl | 6, _ => rfl | 7, _ => rfl
      | d + 8, hd => omega
    simp only [octB, List.all_cons, List.all_nil, h _ (show c.toNat / 64 % 8 < 8 by omega), h _ (show c.toNat / 8 % 8 < 8 by omega), h _ (show c.toNat % 8 < 8 by omega)]
    decide
theorem byte_ge (c : UInt8) (h : 128 ≤ c.toNat) : fine c = true ∧ c ≠ 92 := by
  refine ⟨?_, ?_⟩
  · unfold fine
    rw [decide_eq_true (by omega), Bool.true_and, Bool.and_eq_true]
    refine ⟨bne_iff_ne.2 ?_, bne_iff_ne.2 ?_⟩
    · rintro rfl; exact absurd h (by decide)
    · rintro rfl; exact absurd h (by decide)
  · rintro rfl; exact absurd h (by decide)
/-- A rune that is shown as it is: its bytes are fine, and none a backslash. -/
theorem plain_fine (l : List UInt8) (e : l ≠ []) (hk : okL l = true) (h : (decide (32 < (Lib.decodeL l).1) && ((Lib.decodeL l).1 != 127 && ((Lib.decodeL l).1 != 34 && (Lib.decodeL l).1 != 92))) = true) :
    ∀ c ∈ l.take (Lib.decodeL l).2, fine c = true ∧ c ≠ 92 := by
  have hp := List.length_pos_iff.2 e
  unfold okL at hk
  rw [Lib.decodeL_N] at h hk ⊢
  rcases Lib.decodeN_shape l.length (l.getD 0 0).toNat (l.getD 1 0).toNat (l.getD 2 0).toNat (l.getD 3 0).toNat with ⟨c, e⟩ | ⟨c1, c2, c3, cv, e⟩ | ⟨c1, c2, c3, c4, cv, cs, e⟩ | ⟨c1, c2, c3, c4, c5, cv, cw, e⟩ | e
  · rw [e] at h ⊢
    dsimp only at h ⊢
    rw [Lib.takeA l hp]
    intro x hx
    rw [List.mem_singleton] at hx
    subst hx
    simp only [Bool.and_eq_true, decide_eq_true_eq, bne_iff_ne] at h
    obtain ⟨h1, h2, h3, h4⟩ := h
    refine ⟨?_, ?_⟩
    · unfold fine
      rw [decide_eq_true h1, Bool.true_and, Bool.and_eq_true]
      refine ⟨bne_iff_ne.2 ?_, bne_iff_ne.2 ?_⟩
      · intro e1; rw [e1] at h3; exact h3 rfl
      · intro e1; rw [e1] at h2; exact h2 rfl
    · intro e1; rw [e1] at h4; exact h4 rfl
  · rw [e]
    dsimp only
    rw [Lib.takeB l c2]
    intro x hx
    simp only [List.mem_cons, List.not_mem_nil, or_false] at hx
    rcases hx with rfl | rfl <;> exact byte_ge _ (by omega)
  · rw [e]
    dsimp only
    rw [Lib.takeC l c2]
    intro x hx
    simp only [List.mem_cons, List.not_mem_nil, or_false] at hx
    rcases hx with rfl | rfl | rfl <;> exact byte_ge _ (by omega)
  · rw [e]
    dsimp only
    rw [Lib.takeD l c2]
    intro x hx
    simp only [List.mem_cons, List.not_mem_nil, or_false] at hx
    rcases hx with rfl | rfl | rfl | rfl <;> exact byte_ge _ (by omega)
  · rw [e] at hk
    simp at hk
/-- Each rune of a text is one of a rest that is not empty. -/
theorem rs_mem : ∀ (n : Nat) (l : List UInt8), l.length ≤ n → ∀ r ∈ rs l, ∃ m, m ≠ [] ∧ r = (okL m, (Lib.decodeL m).1, m.take (Lib.decodeL m).2)
  | n, l, hn, r, hr => by
    by_cases e : l = []
    · subst e; rw [rs_nil] at hr; cases hr
    · have hp := List.length_pos_iff.2 e
      have hw := wide_pos l
      obtain ⟨m, rfl⟩ : ∃ m, n = m + 1 := ⟨n - 1, by omega⟩
      rw [rs_cons l e] at hr
      rcases List.mem_cons.1 hr with rfl | hr
      · exact ⟨l, e, rfl⟩
      · exact rs_mem m _ (by rw [List.length_drop]; omega) r hr
theorem rs_bytes : ∀ (n : Nat) (l : List UInt8), l.length ≤ n → (rs l).flatMap (fun r => r.2.2) = l
  | n, l, hn => by
    by_cases e : l = []
    · subst e; rfl
    · have hp := List.length_pos_iff.2 e
      have hw := wide_pos l
      obtain ⟨m, rfl⟩ : ∃ m, n = m + 1 := ⟨n - 1, by omega⟩
      rw [rs_cons l e, List.flatMap_cons, rs_bytes m _ (by rw [List.length_drop]; omega), List.take_append_drop]
def plainR (r : Bool × Nat × List UInt8) : Bool := r.1 && (decide (32 < r.2.1) && (r.2.1 != 127 && (r.2.1 != 34 && r.2.1 != 92)))
theorem shR_eq (r : Bool × Nat × List UInt8) : shR r = if plainR r = true then r.2.2 else oct r.2.2 := rfl
theorem shR_fine (l : List UInt8) (r : Bool × Nat × List UInt8) (hr : r ∈ rs l) : (shR r).all fine = true ∧ (plainR r = true → ∀ c ∈ r.2.2, c ≠ 92) := by
  obtain ⟨m, hm, rfl⟩ := rs_mem l.length l (Nat.le_refl _) r hr
  by_cases h : plainR (okL m, (Lib.decodeL m).1, m.take (Lib.decodeL m).2) = true
  · have h2 := h
    unfold plainR at h2
    rw [Bool.and_eq_true] at h2
    have hf := plain_fine m hm h2.1 h2.2
    refine ⟨?_, fun _ c hc => (hf c hc).2⟩
    rw [shR_eq, if_pos h, List.all_eq_true]
    exact fun c hc => (hf c hc).1
  · refine ⟨?_, fun e => absurd e h⟩
    rw [shR_eq, if_neg h]
    exact oct_fine _
theorem shown_fine (s : ByteArray) : (shownF s).all fine = true := by
  rw [shownF_eq, List.all_eq_true]
  intro c hc
  obtain ⟨r, hr, hcr⟩ := List.mem_flatMap.1 hc
  exact List.all_eq_true.1 (shR_fine _ r hr).1 c hcr

/-! What is shown tells its text. -/
def unS : Nat → List UInt8 → List UInt8
  | 0, _ => []
  | f + 1, l => match l with
    | [] => []
    | x :: r => if x = 92 then (match r with
        | a :: b :: c :: q => UInt8.ofNat ((a.toNat - 48) * 64 + (b.toNat - 48) * 8 + (c.toNat - 48)) :: unS f q
        | _ => [])
      else x :: unS f r
theorem unS_plain : ∀ (p q : List UInt8) (f : Nat), (∀ c ∈ p, c ≠ 92) → unS (p.length + f) (p ++ q) = p ++ unS f q
  | [], q, f, _ => by simp
  | x :: p, q, f, h => by
    rw [List.length_cons, show p.length + 1 + f = (p.length + f) + 1 by omega, List.cons_append]
    simp only [unS, if_neg (h x (by simp))]
    rw [unS_plain p q f (fun c hc => h c (by simp [hc]))]
    rfl
theorem unS_oct : ∀ (p q : List UInt8) (f : Nat), unS (p.length + f) (oct p ++ q) = p ++ unS f q
  | [], q, f => by simp [oct]
  | x :: p, q, f => by
    have hx := x.toNat_lt
    have e : oct (x :: p) = octB x ++ oct p := by simp [oct]
    rw [e, List.length_cons, show p.length + 1 + f = (p.length + f) + 1 by omega]
    simp only [octB, List.cons_append, List.nil_append, unS, if_true]
    rw [unS_oct p q f]
    have hb : ∀ d : Nat, d < 8 → (UInt8.ofNat (48 + d)).toNat - 48 = d := fun d hd => by rw [UInt8.toNat_ofNat', Nat.mod_eq_of_lt (by omega)]; omega
    rw [hb _ (by omega), hb _ (by omega), hb _ (by omega)]
    have hv : UInt8.ofNat (x.toNat / 64 % 8 * 64 + x.toNat / 8 % 8 * 8 + x.toNat % 8) = x := by
      rw [show x.toNat / 64 % 8 * 64 + x.toNat / 8 % 8 * 8 + x.toNat % 8 = x.toNat by omega]
      simp
    rw [hv]
theorem unS_shown : ∀ (R : List (Bool × Nat × List UInt8)) (f : Nat), (∀ r ∈ R, plainR r = true → ∀ c ∈ r.2.2, c ≠ 92) → unS ((R.flatMap (fun r => r.2.2)).length + f) (R.flatMap shR) = R.flatMap (fun r => r.2.2)
  | [], f, _ => by cases f <;> simp [unS]
  | r :: R, f, h => by
    rw [List.flatMap_cons, List.flatMap_cons, List.length_append, Nat.add_assoc, shR_eq]
    have ih := unS_shown R f (fun q hq => h q (by simp [hq]))
    by_cases hp : plainR r = true
    · rw [if_pos hp, unS_plain r.2.2 _ _ (h r (by simp) hp), ih]
    · rw [if_neg hp, unS_oct, ih]
theorem unS_tells (s : ByteArray) (f : Nat) : unS (s.size + f) (shownF s) = s.data.toList := by
  have hb := rs_bytes s.data.toList.length s.data.toList (Nat.le_refl _)
  have h := unS_shown (rs s.data.toList) f (fun r hr => (shR_fine _ r hr).2)
  rw [hb, len_eq] at h
  rw [shownF_eq, h]
theorem shown_inj (a b : ByteArray) (h : shownF a = shownF b) : a.data.toList = b.data.toList := by
  have h1 := unS_tells a b.size
  have h2 := unS_tells b a.size
  rw [h, Nat.add_comm] at h1
  rw [← h1, h2]
theorem oct_len4 (l : List UInt8) : (oct l).length = 4 * l.length := oct_len l
theorem shown_len (s : ByteArray) : (shownF s).length ≤ 4 * s.size := by
  have hb := rs_bytes s.data.toList.length s.data.toList (Nat.le_refl _)
  have h : ∀ R : List (Bool × Nat × List UInt8), (R.flatMap shR).length ≤ 4 * (R.flatMap (fun r => r.2.2)).length := by
    intro R
    induction R with
    | nil => simp
    | cons r R ih =>
      rw [List.flatMap_cons, List.flatMap_cons, List.length_append, List.length_append, shR_eq]
      by_cases hp : plainR r = true
      · rw [if_pos hp]; omega
      · rw [if_neg hp, oct_len]; omega
  have := h (rs s.data.toList)
  rw [hb, len_eq] at this
  rw [shownF_eq]
  exact this
theorem shown_is (s : ByteArray) (h : s.size ≤ 35184372088832) : words_Shown.f s = some (ba (shownF s)) := by unfold words_Shown.f; rw [if_pos h]; rfl

end Go.Proofs.YtolbbhpcajepnaaDoor.Pure
