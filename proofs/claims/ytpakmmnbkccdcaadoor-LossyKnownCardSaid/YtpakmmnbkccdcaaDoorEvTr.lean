/-
  Laws of the plain machine's tries. No condition.
-/
import Derived.Test.YtpakmmnbkccdcaaDoorEv
namespace Go.Proofs.YtpakmmnbkccdcaaDoor.Ev
open Go
theorem Tr.get_nil {α : Type} (t : Tr α) : Tr.get [] t = Tr.val t := rfl
theorem Tr.get_cons {α : Type} (d : D) (p : List D) (t : Tr α) : Tr.get (d :: p) t = Tr.down t d (Tr.get p) := rfl
theorem Tr.set_nil {α : Type} (x : Option α) (t : Tr α) : Tr.set x [] t = Tr.lay t x := rfl
theorem Tr.set_cons {α : Type} (x : Option α) (d : D) (p : List D) (t : Tr α) : Tr.set x (d :: p) t = Tr.in t d (Tr.set x p) := rfl
theorem Tr.get_e {α : Type} (p : List D) : Tr.get p (.e : Tr α) = none := by cases p <;> rfl
theorem Tr.get_set {α : Type} (x : Option α) (q : List D) : ∀ (p : List D) (t : Tr α), Tr.get p (Tr.set x q t) = if p = q then x else Tr.get p t := by
  induction q with
  | nil =>
    intro p t
    rw [Tr.set_nil]
    cases p with
    | nil => rw [if_pos rfl]; cases t <;> rfl
    | cons d p =>
      rw [if_neg (by simp)]
      cases t with
      | e => rw [Tr.get_e]; cases d <;> exact Tr.get_e p
      | nd => rfl
  | cons d q ih =>
    intro p t
    rw [Tr.set_cons]
    cases p with
    | nil => rw [if_neg (by simp)]; cases t <;> cases d <;> rfl
    | cons d' p =>
      by_cases hd : d' = d
      · subst hd
        have e : (d' :: p = d' :: q) = (p = q) := by simp
        simp only [e]
        cases t with
        | e => rw [Tr.get_e]; cases d' <;> exact (ih p .e).trans (by rw [Tr.get_e])
        | nd v c0 c1 c2 c3 c4 c5 c6 c7 => cases d' <;> exact ih p _
      · rw [if_neg (fun h => hd (List.cons.inj h).1)]
        cases t with
        | e => rw [Tr.get_e]; cases d <;> cases d' <;> first | exact absurd rfl hd | exact Tr.get_e p
        | nd v c0 c1 c2 c3 c4 c5 c6 c7 => cases d <;> cases d' <;> first | exact absurd rfl hd | rfl
theorem dig_is (k : Nat) : k % 8 = match dig k with | .d0 => 0 | .d1 => 1 | .d2 => 2 | .d3 => 3 | .d4 => 4 | .d5 => 5 | .d6 => 6 | .d7 => 7 := by
  unfold dig
  have h0 : k % 2 = 0 ∨ k % 2 = 1 := by omega
  have h1 : k / 2 % 2 = 0 ∨ k / 2 % 2 = 1 := by omega
  have h2 : k / 4 % 2 = 0 ∨ k / 4 % 2 = 1 := by omega
  rcases h0 with h0 | h0 <;> rcases h1 with h1 | h1 <;> rcases h2 with h2 | h2 <;> rw [h0, h1, h2] <;> show k % 8 = _ <;> simp <;> omega
theorem dig_inj {j k : Nat} (h : dig j = dig k) : j % 8 = k % 8 := by rw [dig_is j, dig_is k, h]
theorem path_zero (f : Nat) : path f 0 = [] := by cases f <;> rfl
theorem path_inj : ∀ (f g j k : Nat), j ≤ f → k ≤ g → path f j = path g k → j = k := by
  intro f
  induction f with
  | zero =>
    intro g j k hj hk h
    have : j = 0 := by omega
    subst this
    cases g with
    | zero => omega
    | succ g => cases k with
      | zero => rfl
      | succ k => exact absurd h (by simp [path])
  | succ f ih =>
    intro g j k hj hk h
    cases j with
    | zero =>
      cases g with
      | zero => omega
      | succ g => cases k with
        | zero => rfl
        | succ k => exact absurd h (by simp [path])
    | succ j =>
      cases g with
      | zero => have : k = 0 := by omega
                subst this; exact absurd h (by simp [path])
      | succ g => cases k with
        | zero => exact absurd h (by simp [path])
        | succ k =>
          have h1 := List.cons.inj h
          have e1 := dig_inj h1.1
          have e2 := ih g (j / 8) (k / 8) (by omega) (by omega) h1.2
          omega
theorem pa_inj {j k : Nat} (h : pa j = pa k) : j = k := path_inj j k j k (Nat.le_refl _) (Nat.le_refl _) h
theorem Tr.at_put {α : Type} (t : Tr α) (k : Nat) (x : α) (j : Nat) : (t.put k x).at j = if j = k then some x else t.at j := by
  show Tr.get (pa j) (Tr.set (some x) (pa k) t) = _
  rw [Tr.get_set]
  by_cases h : j = k
  · subst h; rw [if_pos rfl, if_pos rfl]
  · rw [if_neg (fun e => h (pa_inj e)), if_neg h]
theorem Tr.at_e {α : Type} (j : Nat) : (Tr.e : Tr α).at j = none := Tr.get_e _
theorem Tr.at_ofFrom {α : Type} (l : List α) : ∀ (i : Nat) (t : Tr α) (j : Nat), (Tr.ofFrom l i t).at j = if i ≤ j ∧ j < i + l.length then l[j - i]? else t.at j := by
  induction l with
  | nil => intro i t j; rw [if_neg (by simp only [List.length_nil]; omega)]; rfl
  | cons x l ih =>
    intro i t j
    show (Tr.ofFrom l (i + 1) (t.put i x)).at j = _
    rw [ih, Tr.at_put]
    by_cases h1 : i + 1 ≤ j ∧ j < i + 1 + l.length
    · rw [if_pos h1, if_pos (by simp; omega)]
      obtain ⟨m, hm⟩ : ∃ m, j - i = m + 1 := ⟨j - i - 1, by omega⟩
      rw [hm, List.getElem?_cons_succ]
      exact congrArg (l[·]?) (by omega)
    · rw [if_neg h1]
      by_cases h2 : j = i
      · subst h2; rw [if_pos rfl, if_pos (by simp)]; simp
      · rw [if_neg h2, if_neg (by simp; omega)]
theorem Tr.at_of {α : Type} (l : List α) (j : Nat) : (Tr.of l).at j = l[j]? := by
  unfold Tr.of
  rw [Tr.at_ofFrom]
  by_cases h : 0 ≤ j ∧ j < 0 + l.length
  · rw [if_pos h]; simp
  · rw [if_neg h, Tr.at_e, List.getElem?_eq_none (by omega)]
theorem Tr.at_puts {α : Type} (l : List α) : ∀ (i : Nat) (t : Tr α) (j : Nat), (Tr.puts l i t).at j = if i ≤ j ∧ j < i + l.length then l[j - i]? else t.at j := by
  induction l with
  | nil => intro i t j; rw [if_neg (by simp only [List.length_nil]; omega)]; rfl
  | cons x l ih =>
    intro i t j
    show (Tr.puts l (i + 1) (t.put i x)).at j = _
    rw [ih, Tr.at_put]
    by_cases h1 : i + 1 ≤ j ∧ j < i + 1 + l.length
    · rw [if_pos h1, if_pos (by simp; omega)]
      obtain ⟨m, hm⟩ : ∃ m, j - i = m + 1 := ⟨j - i - 1, by omega⟩
      rw [hm, List.getElem?_cons_succ]
      exact congrArg (l[·]?) (by omega)
    · rw [if_neg h1]
      by_cases h2 : j = i
      · subst h2; rw [if_pos rfl, if_pos (by simp)]; simp
      · rw [if_neg h2, if_neg (by simp; omega)]
theorem Tr.row_some {α : Type} (t : Tr α) : ∀ (n i : Nat) (l : List α), Tr.row t i n = some l → l.length = n ∧ ∀ j, j < n → l[j]? = t.at (i + j) := by
  intro n
  induction n with
  | zero => intro i l h; cases h; exact ⟨rfl, fun j hj => by omega⟩
  | succ n ih =>
    intro i l h
    unfold Tr.row at h
    cases hx : t.at i with
    | none => simp only [hx] at h; cases h
    | some x =>
      simp only [hx] at h
      cases hr : Tr.row t (i + 1) n with
      | none => simp only [hr] at h; cases h
      | some m =>
        simp only [hr] at h
        cases h
        obtain ⟨h1, h2⟩ := ih _ _ hr
        refine ⟨by simp [h1], fun j hj => ?_⟩
        cases j with
        | zero => simpa using hx.symm
        | succ j => rw [List.getElem?_cons_succ, h2 j (by omega)]; congr 1; omega
end Go.Proofs.YtpakmmnbkccdcaaDoor.Ev
