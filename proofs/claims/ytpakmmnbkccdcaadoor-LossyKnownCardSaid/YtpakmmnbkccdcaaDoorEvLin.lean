/-
  The orders that a region may draw: each operation stands behind all that it waits for. No condition.
-/
import Derived.Test.YtpakmmnbkccdcaaDoorEvRun
namespace Go.Proofs.YtpakmmnbkccdcaaDoor.Ev
open Go Go.RowKit
set_option linter.unusedVariables false
theorem bindsA_is (e : Edge) : Region.binds .any e = bindsA e := by
  unfold Region.binds bindsA
  cases e.ground <;> rfl
/-- What is listed in such an order. -/
structure Lin (ops : Array Oper) (acc l : List Nat) : Prop where
  step : ∀ pre i post, l = pre ++ i :: post → i < ops.size ∧ i ∉ acc ∧ i ∉ pre ∧ ∀ o, ops[i]? = some o → ∀ e ∈ o.after.toList, bindsA e = true → e.on ∈ acc ∨ e.on ∈ pre
theorem Lin.nil (ops : Array Oper) (acc : List Nat) : Lin ops acc [] := ⟨fun pre i post h => by cases pre <;> cases h⟩
theorem Lin.cons {ops : Array Oper} {acc l : List Nat} {i : Nat} (h1 : i < ops.size) (h2 : i ∉ acc) (h3 : ∀ o, ops[i]? = some o → ∀ e ∈ o.after.toList, bindsA e = true → e.on ∈ acc) (h : Lin ops (i :: acc) l) : Lin ops acc (i :: l) := by
  refine ⟨fun pre j post e => ?_⟩
  cases pre with
  | nil => cases e; exact ⟨h1, h2, by simp, fun o ho e he hb => .inl (h3 o ho e he hb)⟩
  | cons p pre =>
    have e1 : p = i := (List.cons.inj e).1.symm
    have e2 := (List.cons.inj e).2
    subst e1
    obtain ⟨a, b, c, d⟩ := h.step pre j post e2
    simp only [List.mem_cons, not_or] at b
    refine ⟨a, b.2, by simp only [List.mem_cons, not_or]; exact ⟨b.1, c⟩, fun o ho e he hb => ?_⟩
    rcases d o ho e he hb with h | h
    · rcases List.mem_cons.1 h with h | h
      · exact .inr (by rw [h]; simp)
      · exact .inl h
    · exact .inr (by simp [h])
theorem pigeon : ∀ (n : Nat) (l : List Nat), l.Nodup → (∀ x ∈ l, x < n) → l.length ≤ n := by
  intro n
  induction n with
  | zero => intro l _ h; cases l with
    | nil => exact Nat.le_refl _
    | cons x l => exact absurd (h x (by simp)) (Nat.not_lt_zero _)
  | succ n ih =>
    intro l hn h
    by_cases hm : n ∈ l
    · have h1 := ih (l.erase n) (hn.erase n) (fun x hx => by
        have h2 := (hn.mem_erase_iff).1 hx
        have := h x h2.2
        omega)
      rw [List.length_erase_of_mem hm] at h1
      omega
    · have := ih l hn (fun x hx => by
        have := h x hx
        have : x ≠ n := fun e => hm (e ▸ hx)
        omega)
      omega
theorem go_ok (ops : Array Oper) : ∀ (fuel t : Nat) (listed : Array Bool) (acc : List Nat), listed.size = ops.size → (∀ j, j < ops.size → (listed.getD j true = true ↔ j ∈ acc)) → (∀ j, listed.getD j false = true → j ∈ acc) → (∀ j ∈ acc, j < ops.size) → acc.Nodup →
    ∃ l, Region.linearise.go .any ops fuel t listed acc = acc.reverse ++ l ∧ Lin ops acc l ∧
      ((∀ i o, ops[i]? = some o → ∀ e ∈ o.after.toList, bindsA e = true → e.on < i) → ops.size ≤ fuel + acc.length → ∀ j, j < ops.size → j ∈ acc ∨ j ∈ l) := by
  intro fuel
  induction fuel with
  | zero =>
    intro t listed acc hs h1 h2 h3 hnd
    refine ⟨[], by simp [Region.linearise.go], .nil _ _, fun _ hle j hj => .inl ?_⟩
    by_cases hja : j ∈ acc
    · exact hja
    · exfalso
      have := pigeon ops.size (j :: acc) (List.nodup_cons.2 ⟨hja, hnd⟩) (fun x hx => by
        rcases List.mem_cons.1 hx with e | e
        · rw [e]; exact hj
        · exact h3 x e)
      simp at this
      omega
  | succ fuel ih =>
    intro t listed acc hs h1 h2 h3 hnd
    unfold Region.linearise.go
    dsimp only
    generalize hrs : (List.range ops.size).filter (fun i => !listed.getD i true && ((ops[i]?).map (fun (o : Oper) => o.after.all fun e => !Region.binds .any e || listed.getD e.on false)).getD false) = rs
    cases hq : rs[t % rs.length]? with
    | none =>
      refine ⟨[], by simp, .nil _ _, fun hed hle j hj => .inl ?_⟩
      have all : ∀ m, m < ops.size → m ∈ acc := by
        intro m
        induction m using Nat.strongRecOn with
        | _ m ihm =>
          intro hm
          by_cases hma : m ∈ acc
          · exact hma
          · exfalso
            have hmr : m ∈ rs := by
              rw [← hrs]
              refine List.mem_filter.2 ⟨by simpa using hm, ?_⟩
              have hl : listed.getD m true = false := by
                cases hq2 : listed.getD m true with
                | false => rfl
                | true => exact absurd ((h1 m hm).1 hq2) hma
              have hom : ops[m]? = some ops[m] := Array.getElem?_eq_getElem hm
              rw [hl, hom]
              simp only [Bool.not_false, Bool.true_and, Option.map_some, Option.getD_some]
              rw [← Array.all_toList, List.all_eq_true]
              intro e he
              cases hb : bindsA e with
              | false => rw [bindsA_is, hb]; rfl
              | true =>
                have hlt := hed m _ hom e he hb
                have := (h1 e.on (by omega)).2 (ihm e.on hlt (by omega))
                have e2 : listed.getD e.on false = true := by
                  rw [Array.getD_eq_getD_getElem?] at this ⊢
                  rw [Array.getElem?_eq_getElem (by omega)] at this ⊢
                  exact this
                rw [e2]; simp
            have hlen : 0 < rs.length := List.length_pos_of_mem hmr
            have := Nat.mod_lt t hlen
            rw [List.getElem?_eq_getElem this] at hq
            cases hq
      exact all j hj
    | some i =>
      have hi : i ∈ rs := List.mem_of_getElem? hq
      rw [← hrs] at hi
      obtain ⟨hi1, hi2⟩ := List.mem_filter.1 hi
      have hi1 : i < ops.size := by simpa using hi1
      simp only [Bool.and_eq_true, Bool.not_eq_true'] at hi2
      obtain ⟨hi2, hi3⟩ := hi2
      have hni : i ∉ acc := fun e => by rw [(h1 i hi1).2 e] at hi2; cases hi2
      obtain ⟨l, r1, r2, r3⟩ := ih (t / rs.length) (listed.setIfInBounds i true) (i :: acc) (by simpa using hs) (fun j hj => by
          rw [Array.getD_eq_getD_getElem?, Array.getElem?_setIfInBounds]
          by_cases e : i = j
          · subst e; rw [if_pos rfl, if_pos (by omega)]; simp
          · rw [if_neg e, ← Array.getD_eq_getD_getElem?, h1 j hj, List.mem_cons]
            exact ⟨fun h => .inr h, fun h => h.resolve_left (fun h2 => e h2.symm)⟩)
        (fun j hj => by
          rw [Array.getD_eq_getD_getElem?, Array.getElem?_setIfInBounds] at hj
          by_cases e : i = j
          · subst e; simp
          · rw [if_neg e, ← Array.getD_eq_getD_getElem?] at hj; exact List.mem_cons_of_mem _ (h2 j hj))
        (fun j hj => by rcases List.mem_cons.1 hj with e | e; · rw [e]; exact hi1
                        · exact h3 j e) (List.nodup_cons.2 ⟨hni, hnd⟩)
      refine ⟨i :: l, by dsimp only; rw [r1]; simp, .cons hi1 hni (fun o ho e he hb => ?_) r2, fun hed hle j hj => ?_⟩
      · rw [ho] at hi3
        have hi3 : o.after.all (fun e => !Region.binds .any e || listed.getD e.on false) = true := hi3
        rw [← Array.all_toList, List.all_eq_true] at hi3
        have := hi3 e he
        rw [bindsA_is, hb] at this
        exact h2 _ (by simpa using this)
      · rcases r3 hed (by simp at hle ⊢; omega) j hj with h | h
        · rcases List.mem_cons.1 h with e | e
          · exact .inr (by rw [e]; simp)
          · exact .inl e
        · exact .inr (by simp [h])
theorem lin_ok (ops : Array Oper) (t : Nat) : Lin ops [] (Region.linearise .any ops t) ∧ ((∀ i o, ops[i]? = some o → ∀ e ∈ o.after.toList, bindsA e = true → e.on < i) → ∀ j, j < ops.size → j ∈ Region.linearise .any ops t) := by
  obtain ⟨l, a, b, c⟩ := go_ok ops ops.size t (Array.replicate ops.size false) [] (by simp) (fun j hj => by simp [hj]) (fun j hj => by
    rw [Array.getD_eq_getD_getElem?, Array.getElem?_replicate] at hj
    split at hj <;> cases hj) (fun j hj => by cases hj) List.nodup_nil
  have e : Region.linearise .any ops t = l := by unfold Region.linearise; rw [a]; rfl
  rw [e]
  exact ⟨b, fun hed j hj => by rcases c hed (by simp) j hj with h | h; · cases h
                               · exact h⟩
end Go.Proofs.YtpakmmnbkccdcaaDoor.Ev
