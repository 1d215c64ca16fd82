/-
  What stands ahead of what; the plan's facts. No condition.
-/
import Derived.Test.YtpakmmnbkccdcaaDoorEvLin
import Derived.Test.YtpakmmnbkccdcaaDoorEvCode
namespace Go.Proofs.YtpakmmnbkccdcaaDoor.Ev
open Go Go.RowKit
set_option linter.unusedVariables false
theorem tb_is (m i : Nat) : tb m i = m.testBit i := by
  unfold tb Nat.testBit
  have h : Nat.land (Nat.shiftRight m i) 1 = 1 &&& (m >>> i) := by
    show (m >>> i) &&& 1 = _
    exact Nat.and_comm _ _
  rw [h]
  have h2 : 1 &&& (m >>> i) = 0 ∨ 1 &&& (m >>> i) = 1 := by
    rw [Nat.and_comm, Nat.and_one_is_mod]; omega
  rcases h2 with h | h <;> rw [h] <;> rfl
theorem tb_or (a b i : Nat) : tb (Nat.lor a b) i = (tb a i || tb b i) := by
  rw [tb_is, tb_is, tb_is]; exact Nat.testBit_or a b i
theorem tb_pow (k i : Nat) : tb (2 ^ k) i = decide (k = i) := by rw [tb_is, Nat.testBit_two_pow]
theorem tb_zero (i : Nat) : tb 0 i = false := by rw [tb_is]; simp
theorem maskOf_ok (acc : List Nat) (j : Nat) : ∀ (es : List Edge), tb (maskOf acc es) j = true → ∃ e ∈ es, bindsA e = true ∧ (e.on = j ∨ tb (nth acc e.on) j = true) := by
  intro es
  induction es with
  | nil => intro h; rw [show maskOf acc [] = 0 from rfl, tb_zero] at h; cases h
  | cons e es ih =>
    intro h
    unfold maskOf at h
    cases hb : bindsA e with
    | false =>
      rw [hb] at h
      obtain ⟨e', a, b⟩ := ih h
      exact ⟨e', by simp [a], b⟩
    | true =>
      rw [hb] at h
      dsimp only [cond_true] at h
      rw [tb_or, tb_or, tb_pow] at h
      simp only [Bool.or_eq_true, decide_eq_true_eq] at h
      rcases h with (h | h) | h
      · exact ⟨e, by simp, hb, .inl h⟩
      · exact ⟨e, by simp, hb, .inr h⟩
      · obtain ⟨e', a, b⟩ := ih h
        exact ⟨e', by simp [a], b⟩
theorem nth_append (a b : List Nat) (i : Nat) (h : i < a.length) : nth (a ++ b) i = nth a i := by
  unfold nth; rw [List.getElem?_append_left h]
theorem nth_none (a : List Nat) (i : Nat) (h : a.length ≤ i) : nth a i = 0 := by
  unfold nth; rw [List.getElem?_eq_none h]
theorem masksFrom_pre : ∀ (l : List Oper) (acc : List Nat), ∃ r, masksFrom l acc = acc ++ r ∧ r.length = l.length := by
  intro l
  induction l with
  | nil => intro acc; exact ⟨[], by simp [masksFrom], rfl⟩
  | cons o l ih =>
    intro acc
    obtain ⟨r, h1, h2⟩ := ih (acc ++ [maskOf acc o.after.toList])
    exact ⟨maskOf acc o.after.toList :: r, by unfold masksFrom; rw [h1]; simp, by simp [h2]⟩
theorem masksFrom_ok : ∀ (l : List Oper) (acc : List Nat) (k : Nat) (o : Oper) (j : Nat), l[k]? = some o → tb (nth (masksFrom l acc) (acc.length + k)) j = true →
    ∃ e ∈ o.after.toList, bindsA e = true ∧ (e.on = j ∨ (e.on < acc.length + k ∧ tb (nth (masksFrom l acc) e.on) j = true)) := by
  intro l
  induction l with
  | nil => intro acc k o j h; cases h
  | cons p l ih =>
    intro acc k o j h ht
    unfold masksFrom at ht ⊢
    cases k with
    | zero =>
      cases h
      obtain ⟨r, h1, h2⟩ := masksFrom_pre l (acc ++ [maskOf acc p.after.toList])
      rw [h1] at ht ⊢
      rw [nth_append _ _ _ (by simp)] at ht
      have e0 : nth (acc ++ [maskOf acc p.after.toList]) (acc.length + 0) = maskOf acc p.after.toList := by unfold nth; simp
      rw [e0] at ht
      obtain ⟨e, a, b, c⟩ := maskOf_ok acc j _ ht
      refine ⟨e, a, b, ?_⟩
      rcases c with c | c
      · exact .inl c
      · rcases Nat.lt_or_ge e.on acc.length with hl | hl
        · refine .inr ⟨by omega, ?_⟩
          rw [nth_append _ _ _ (by simp; omega), nth_append _ _ _ hl]; exact c
        · rw [nth_none _ _ hl, tb_zero] at c; cases c
    | succ k =>
      have h : l[k]? = some o := by simpa using h
      have := ih (acc ++ [maskOf acc p.after.toList]) k o j h (by simp only [List.length_append, List.length_cons, List.length_nil]; rw [show acc.length + (0 + 1) + k = acc.length + (k + 1) by omega]; exact ht)
      simp only [List.length_append, List.length_cons, List.length_nil] at this
      rwa [show acc.length + (0 + 1) + k = acc.length + (k + 1) by omega] at this
theorem masks_ok {ops : List Oper} {i j : Nat} {o : Oper} (h : ops[i]? = some o) (ht : tb (nth (masks ops) i) j = true) : ∃ e ∈ o.after.toList, bindsA e = true ∧ (e.on = j ∨ (e.on < i ∧ tb (nth (masks ops) e.on) j = true)) := by
  have e : ([] : List Nat).length + i = i := Nat.zero_add i
  have := masksFrom_ok ops [] i o j h (by rw [e]; exact ht)
  rw [e] at this
  exact this
/-- All that an operation waits for has been done. -/
def Closed (ops : List Oper) (X : List Nat) : Prop := ∀ i ∈ X, ∀ o, ops[i]? = some o → ∀ e ∈ o.after.toList, bindsA e = true → e.on ∈ X
theorem Closed.mask {ops : List Oper} {X : List Nat} (h : Closed ops X) (hlt : ∀ i ∈ X, i < ops.length) : ∀ (i j : Nat), i ∈ X → tb (nth (masks ops) i) j = true → j ∈ X := by
  intro i
  induction i using Nat.strongRecOn with
  | _ i ih =>
    intro j hi ht
    obtain ⟨o, ho⟩ : ∃ o, ops[i]? = some o := ⟨_, List.getElem?_eq_getElem (hlt i hi)⟩
    obtain ⟨e, a, b, c⟩ := masks_ok ho ht
    have he := h i hi _ ho e a b
    rcases c with c | ⟨c1, c2⟩
    · exact c ▸ he
    · exact ih e.on c1 j he c2
theorem Closed.ready {ops : List Oper} {X : List Nat} (h : Closed ops X) (hlt : ∀ i ∈ X, i < ops.length) {i : Nat} {o : Oper} (ho : ops[i]? = some o) (hr : ∀ e ∈ o.after.toList, bindsA e = true → e.on ∈ X) {j : Nat} (ht : tb (nth (masks ops) i) j = true) : j ∈ X := by
  obtain ⟨e, a, b, c⟩ := masks_ok ho ht
  have he := hr e a b
  rcases c with c | ⟨_, c2⟩
  · exact c ▸ he
  · exact h.mask hlt e.on j he c2
theorem allB_mem {α : Type} {f : α → Bool} : ∀ {l : List α}, allB l f = true → ∀ x ∈ l, f x = true
  | [], _, x, hx => by cases hx
  | y :: l, h, x, hx => by
    unfold allB at h
    cases hy : f y with
    | false => rw [hy] at h; cases h
    | true =>
      rw [hy] at h
      rcases List.mem_cons.1 hx with e | e
      · rw [e]; exact hy
      · exact allB_mem h x e
theorem upTo_mem : ∀ {l : List Nat} {n : Nat}, upTo l n = true → ∀ j, j < n → j ∈ l
  | l, 0, _, j, hj => absurd hj (Nat.not_lt_zero _)
  | l, n + 1, h, j, hj => by
    unfold upTo at h
    cases hy : l.any (Nat.beq n) with
    | false => rw [hy] at h; cases h
    | true =>
      rw [hy] at h
      rcases Nat.lt_succ_iff_lt_or_eq.1 hj with e | e
      · exact upTo_mem h j e
      · obtain ⟨x, hx, hb⟩ := List.any_eq_true.1 hy
        have : n = x := Nat.eq_of_beq_eq_true hb
        rw [e, this]; exact hx
theorem eqL_eq {a b : List UInt8} (h : eqL a b = true) : a = b := by rw [eqL_is] at h; exact beq_iff_eq.1 h
theorem eqB_eq {a b : ByteArray} (h : eqB a b = true) : a = b := ByteArray.ext (Array.ext' (eqL_eq h))
theorem eqI_eq {a b : Int} (h : eqI a b = true) : a = b := by rw [eqI_is] at h; exact beq_iff_eq.1 h
theorem nb {a b : Nat} (h : Nat.beq a b = true) : a = b := Nat.eq_of_beq_eq_true h
theorem zip_same {n : Nat} (ih : ∀ x y, sameV n x y = true → x = y) : ∀ (a b : List Value), (a.length == b.length) = true → ((a.zip b).all fun p => sameV n p.1 p.2) = true → a = b
  | [], [], _, _ => rfl
  | [], _ :: _, h, _ => by simp at h
  | _ :: _, [], h, _ => by simp at h
  | x :: a, y :: b, h, h2 => by
    simp only [List.zip_cons_cons, List.all_cons, Bool.and_eq_true] at h2
    rw [ih x y h2.1, zip_same ih a b (by simpa using h) h2.2]
theorem addr_same {a b : Addr} (h : (Nat.beq a.block b.block && (Nat.beq a.off b.off && (a.spot.isNone && b.spot.isNone))) = true) : a = b := by
  simp only [Bool.and_eq_true] at h
  obtain ⟨h1, h2, h3, h4⟩ := h
  obtain ⟨ab, ao, asp⟩ := a
  obtain ⟨bb, bo, bs⟩ := b
  have e1 : ab = bb := nb h1
  have e2 : ao = bo := nb h2
  have e3 : asp = none := by cases asp <;> simp_all
  have e4 : bs = none := by cases bs <;> simp_all
  rw [e1, e2, e3, e4]
theorem sameV_eq : ∀ (n : Nat) (x y : Value), sameV n x y = true → x = y := by
  intro n
  induction n with
  | zero => intro x y h; cases h
  | succ n ih =>
    intro x y h
    unfold sameV at h
    split at h
    · rename_i a b; cases a <;> cases b <;> first | rfl | cases h
    · simp only [Bool.and_eq_true] at h; rw [eqK_is h.1, eqI_eq h.2]
    · rw [eqB_eq h]
    · rfl
    · rw [addr_same h]
    · simp only [Bool.and_eq_true] at h
      obtain ⟨h1, h2⟩ := h
      rename_i l c m d
      have e1 : l = m := nb h1
      have e2 : c = d := nb h2
      rw [e1, e2]
    · simp only [Bool.and_eq_true] at h
      rename_i a l c b m d
      have e0 : a = b := addr_same (by simp only [Bool.and_eq_true]; exact h.1)
      have e1 : l = m := nb h.2.1
      have e2 : c = d := nb h.2.2
      rw [e0, e1, e2]
    · rfl
    · rename_i a b
      have e1 : a = b := nb h
      rw [e1]
    · rfl
    · rfl
    · simp only [Bool.and_eq_true] at h
      rename_i t a u b
      have e1 : t = u := nb h.1
      rw [e1, ih _ _ h.2]
    · simp only [Bool.and_eq_true] at h; rw [Array.ext' (zip_same ih _ _ h.1 h.2)]
    · simp only [Bool.and_eq_true] at h; rw [Array.ext' (zip_same ih _ _ h.1 h.2)]
    · cases h
end Go.Proofs.YtpakmmnbkccdcaaDoor.Ev
