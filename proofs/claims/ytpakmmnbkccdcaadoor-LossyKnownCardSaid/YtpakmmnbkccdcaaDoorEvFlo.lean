/-
  A drawn region, one operation of the order drawn at a time: what floats ahead of the plan. No condition.
-/
import Derived.Test.YtpakmmnbkccdcaaDoorEvDraw
namespace Go.Proofs.YtpakmmnbkccdcaaDoor.Ev
open Go Go.RowKit
set_option linter.unusedVariables false
variable {P : Program} {C : Cx} {ι : IM}
theorem cl_of {ops : Array Oper} {i : Nat} {o : Oper} (h : ops[i]? = some o) : cl C ops i = clOf C o.op := by
  unfold cl clAt
  have : (ops.toList.map fun o => clOf C o.op)[i]? = some (clOf C o.op) := by
    rw [List.getElem?_map, Array.getElem?_toList, h]; rfl
  rw [this]
/-- Heaps with so many blocks at most are there. -/
theorem heap_ex (f : Nat → Option AO) : ∀ n, ∃ H : Tr AO, ∀ k, H.at k = if k < n then f k else none := by
  intro n
  induction n with
  | zero => exact ⟨.e, fun k => by rw [Tr.at_e]; simp⟩
  | succ n ih =>
    obtain ⟨H, hH⟩ := ih
    cases hf : f n with
    | none =>
      refine ⟨H, fun k => ?_⟩
      rw [hH]
      by_cases h : k < n
      · rw [if_pos h, if_pos (by omega)]
      · rw [if_neg h]
        by_cases h2 : k = n
        · subst h2; rw [if_pos (by omega), hf]
        · rw [if_neg (by omega)]
    | some o =>
      refine ⟨H.put n o, fun k => ?_⟩
      rw [Tr.at_put, hH]
      by_cases h2 : k = n
      · subst h2; rw [if_pos rfl, if_pos (by omega), hf]
      · rw [if_neg h2]
        by_cases h : k < n
        · rw [if_pos h, if_pos (by omega)]
        · rw [if_neg h, if_neg (by omega)]
theorem Rel.sub {H Hp : Tr AO} {w : World} (hr : Rel C ι Hp w) (hs : ∀ k i o, ι k = some i → H.at k = some o → Hp.at k = some o) : Rel C ι H w where
  inj := fun k k' i i' h h' e ⟨o, ho, hn⟩ ⟨o', ho', hn'⟩ => hr.inj k k' i i' h h' e ⟨o, hs k i o h ho, hn⟩ ⟨o', hs k' i' o' h' ho', hn'⟩
  obj := fun k i o h ho => hr.obj k i o h (hs k i o h ho)
theorem Step1.forms {call : Caller} {ops : List Oper} {o : Oper} {a b : Tr Value × St} (h : Step1 C call ops o a.1 a.2 b.1 b.2) :
    (wantO ops a.1 o.guard = false ∧ b = (putT a.1 o.dst undef, a.2)) ∨
    (wantO ops a.1 o.guard = true ∧ ∃ x, opR o.op C a.2.h a.2.nx (ρ a.1) = .v x ∧ b = (putT a.1 o.dst x, a.2)) ∨
    (wantO ops a.1 o.guard = true ∧ ∃ x ob, opR o.op C a.2.h a.2.nx (ρ a.1) = .n x ob ∧ b = (putT a.1 o.dst x, ⟨a.2.h.put a.2.nx ob, Nat.succ a.2.nx⟩)) ∨
    (wantO ops a.1 o.guard = true ∧ ∃ x h', opR o.op C a.2.h a.2.nx (ρ a.1) = .h x h' ∧ b = (putT a.1 o.dst x, ⟨h', Nat.succ a.2.nx⟩)) ∨
    (wantO ops a.1 o.guard = true ∧ ∃ k as v S', opR o.op C a.2.h a.2.nx (ρ a.1) = .c k as ∧ call k as a.2 = some (v, S') ∧ b = (putT a.1 o.dst v, S')) := by
  obtain ⟨T, S⟩ := a
  obtain ⟨T1, S1⟩ := b
  cases h with
  | skip h => exact .inl ⟨h, rfl⟩
  | look h hx => exact .inr (.inl ⟨h, _, hx, rfl⟩)
  | make h hx => exact .inr (.inr (.inl ⟨h, _, _, hx, rfl⟩))
  | act h hx => exact .inr (.inr (.inr (.inl ⟨h, _, _, hx, rfl⟩)))
  | call h hx hc => exact .inr (.inr (.inr (.inr ⟨h, _, _, _, _, hx, hc, rfl⟩)))
section
variable {call : Caller} {N : Nat} {ops : Array Oper} {pl : Pl} {tr : Nat → Tr Value × St}
theorem Dr.quiet1 (D : Dr P C call N ops pl tr) {q : Nat} {p : Nat × List Nat} (h : pl[q]? = some p) (hc : cl C ops p.1 ≠ .act) {k : Nat} (hk : k < (tr q).2.nx) : (tr (q + 1)).2.h.at k = (tr q).2.h.at k := by
  obtain ⟨o, ho, h1, h2, _⟩ := D.tc q p h
  rw [cl_of ho] at hc
  rcases h1.forms with ⟨_, e⟩ | ⟨_, x, _, e⟩ | ⟨_, x, ob, _, e⟩ | ⟨hw, x, h', hx, e⟩ | ⟨hw, k', as, v, S', hx, _, e⟩
  · rw [e]
  · rw [e]
  · rw [e]; show ((tr q).2.h.put (tr q).2.nx ob).at k = _
    rw [Tr.at_put, if_neg (by omega)]
  · have := h2 hw; rw [hx] at this
    cases hcc : clOf C o.op with
    | act => exact absurd hcc hc
    | look => rw [hcc] at this; cases this
    | make => rw [hcc] at this; cases this
  · have := h2 hw; rw [hx] at this
    cases hcc : clOf C o.op with
    | act => exact absurd hcc hc
    | look => rw [hcc] at this; cases this
    | make => rw [hcc] at this; cases this
theorem Dr.quiet (D : Dr P C call N ops pl tr) : ∀ (d q : Nat), q + d ≤ pl.length → (∀ q' p, q ≤ q' → q' < q + d → pl[q']? = some p → cl C ops p.1 ≠ .act) → ∀ k, k < (tr q).2.nx → (tr (q + d)).2.h.at k = (tr q).2.h.at k := by
  intro d
  induction d with
  | zero => intro q _ _ k _; rfl
  | succ d ih =>
    intro q h hn k hk
    obtain ⟨p, hp⟩ : ∃ p, pl[q + d]? = some p := ⟨_, List.getElem?_eq_getElem (by omega)⟩
    have e1 := D.quiet1 hp (hn _ p (by omega) (by omega) hp) (k := k) (Nat.lt_of_lt_of_le hk (D.up d q (by omega)).1)
    have e2 := ih q (by omega) (fun q' p a b c => hn q' p a (by omega) c) k hk
    exact e1.trans e2
theorem Dr.quietto (D : Dr P C call N ops pl tr) {q q' : Nat} (h : q ≤ q') (h' : q' ≤ pl.length) (hn : ∀ q'' p, q ≤ q'' → q'' < q' → pl[q'']? = some p → cl C ops p.1 ≠ .act) {k : Nat} (hk : k < (tr q).2.nx) : (tr q').2.h.at k = (tr q).2.h.at k := by
  have := D.quiet (q' - q) q (by omega) (fun q'' p a b c => hn q'' p a (by omega) c) k hk
  rwa [show q + (q' - q) = q' by omega] at this
/-- What floats ahead of the plan's place g. -/
structure Fl (C : Cx) (ops : Array Oper) (pl : Pl) (tr : Nat → Tr Value × St) (ι0 : IM) (w0 : World) (X : List Nat) (g : Nat) (Hp : Tr AO) (ι : IM) (w : World) : Prop where
  gl : g ≤ pl.length
  acts : ∀ (q : Nat) p, pl[q]? = some p → cl C ops p.1 = .act → (p.1 ∈ X ↔ q < g)
  last : ∀ g', g = g' + 1 → ∃ p, pl[g']? = some p ∧ cl C ops p.1 = .act
  base : ∀ k, k < (tr g).2.nx → Hp.at k = (tr g).2.h.at k
  fl : ∀ k i, ι k = some i → (tr g).2.nx ≤ k → k < (tr pl.length).2.nx → ∃ (q : Nat) (p : Nat × List Nat), g ≤ q ∧ pl[q]? = some p ∧ p.1 ∈ X ∧ (tr q).2.nx = k ∧ (tr (q + 1)).2.nx = k + 1 ∧ Hp.at k = (tr (q + 1)).2.h.at k
  go : Go1 C ι0 (tr 0).2.h (tr 0).2.nx w0 ι Hp (tr pl.length).2.nx w
variable {ι0 : IM} {w0 : World} {X : List Nat} {g : Nat} {Hp : Tr AO} {w : World}
theorem Dr.subh (D : Dr P C call N ops pl tr) (hf : Fl C ops pl tr ι0 w0 X g Hp ι w) {q : Nat} (hq : g ≤ q) (hq' : q ≤ pl.length) (hn : ∀ q'' p, g ≤ q'' → q'' < q → pl[q'']? = some p → cl C ops p.1 ≠ .act) : ∀ k i o, ι k = some i → (tr q).2.h.at k = some o → Hp.at k = some o := by
  intro k i o hi ho
  have hkq : k < (tr q).2.nx := by
    rcases Nat.lt_or_ge k (tr q).2.nx with h | h
    · exact h
    · rw [D.wf hq' k h] at ho; cases ho
  rcases Nat.lt_or_ge k (tr g).2.nx with h | h
  · rw [hf.base k h, ← D.quietto hq hq' hn h]; exact ho
  · have hE : k < (tr pl.length).2.nx := Nat.lt_of_lt_of_le hkq (D.upto hq' (Nat.le_refl _)).1
    obtain ⟨qf, p, h1, h2, h3, h4, h5, h6⟩ := hf.fl k i hi h hE
    have hqf : qf < pl.length := by
      rcases Nat.lt_or_ge qf pl.length with h | h
      · exact h
      · rw [List.getElem?_eq_none h] at h2; cases h2
    have hlt : qf < q := by
      rcases Nat.lt_or_ge qf q with h | h
      · exact h
      · have := (D.upto h (by omega)).1; omega
    rw [h6, ← D.quietto (q := qf + 1) (q' := q) (by omega) hq' (fun q'' p a b c => hn q'' p (by omega) b c) (by omega)]
    exact ho
theorem Dr.unq (D : Dr P C call N ops pl tr) (hf : Fl C ops pl tr ι0 w0 X g Hp ι w) {q : Nat} {p : Nat × List Nat} (hp : pl[q]? = some p) (hq : g ≤ q) (hx : p.1 ∉ X) : Un ι (tr q).2.nx (tr (q + 1)).2.nx := by
  intro k hk hk'
  have hq' : q < pl.length := by
    rcases Nat.lt_or_ge q pl.length with h | h
    · exact h
    · rw [List.getElem?_eq_none h] at hp; cases hp
  cases hi : ι k with
  | none => rfl
  | some i =>
    exfalso
    have h0 : (tr g).2.nx ≤ k := Nat.le_trans (D.upto hq (by omega)).1 hk
    have hE : k < (tr pl.length).2.nx := Nat.lt_of_lt_of_le hk' (D.upto (by omega) (Nat.le_refl _)).1
    obtain ⟨qf, pf, h1, h2, h3, h4, h5, h6⟩ := hf.fl k i hi h0 hE
    have hqf : qf < pl.length := by
      rcases Nat.lt_or_ge qf pl.length with h | h
      · exact h
      · rw [List.getElem?_eq_none h] at h2; cases h2
    rcases Nat.lt_trichotomy qf q with h | h | h
    · have := (D.upto (q := qf + 1) (q' := q) (by omega) (by omega)).1; omega
    · subst h; rw [hp] at h2; cases h2; exact hx h3
    · have := (D.upto (q := q + 1) (q' := qf) (by omega) (by omega)).1; omega
/-- Looks and skips. -/
theorem Dr.flKeep (D : Dr P C call N ops pl tr) (hf : Fl C ops pl tr ι0 w0 X g Hp ι w) {i : Nat} (hc : cl C ops i ≠ .act) : Fl C ops pl tr ι0 w0 (i :: X) g Hp ι w where
  gl := hf.gl
  acts := fun q p hp ha => by
    rw [← hf.acts q p hp ha, List.mem_cons]
    exact ⟨fun h => h.resolve_left (fun e => hc (e ▸ ha)), .inr⟩
  last := hf.last
  base := hf.base
  fl := fun k im hi h1 h2 => by
    obtain ⟨q, p, a, b, c, d⟩ := hf.fl k im hi h1 h2
    exact ⟨q, p, a, b, List.mem_cons_of_mem _ c, d⟩
  go := hf.go
theorem Go1.into {C : Cx} {ι ι1 ι2 : IM} {H H1 H2 : Tr AO} {a b b' c : Nat} {w w1 w2 : World} (h : Go1 C ι H a w ι1 H1 c w1) (h' : Go1 C ι1 H1 b w1 ι2 H2 b' w2) (hab : a ≤ b) (hbc : b' ≤ c) : Go1 C ι H a w ι2 H2 c w2 where
  up := h.up
  ext := fun k hk => by
    rw [h'.ext k (by omega), h.ext k hk]
  rel := h'.rel
  fr := ⟨h'.fr.os.trans h.fr.os, h'.fr.tape.trans h.fr.tape, h'.fr.output.trans h.fr.output, Nat.le_trans h.fr.size h'.fr.size, fun b hb hn => by
    rw [h'.fr.same b (Nat.lt_of_lt_of_le hb h.fr.size) (fun k i e l => by
      rcases h.new k i e l with h1 | ⟨k0, i0, e0, l0, hb0⟩
      · omega
      · rw [← hb0]; exact hn k0 i0 e0 l0), h.fr.same b hb hn]⟩
  new := fun k i e l => by
    rcases h'.new k i e l with h1 | ⟨k0, i0, e0, l0, hb0⟩
    · exact .inl (Nat.le_trans h.fr.size h1)
    · rcases h.new k0 i0 e0 l0 with h2 | ⟨k1, i1, e1, l1, hb1⟩
      · exact .inl (hb0 ▸ h2)
      · exact .inr ⟨k1, i1, e1, l1, hb1.trans hb0⟩
theorem Dr.flMake (D : Dr P C call N ops pl tr) (hf : Fl C ops pl tr ι0 w0 X g Hp ι w) {q : Nat} {p : Nat × List Nat} (hp : pl[q]? = some p) (hq : g ≤ q) (hx : p.1 ∉ X) (hc : cl C ops p.1 ≠ .act) {T : Tr Value} {ob : AO} (e : tr (q + 1) = (T, ⟨(tr q).2.h.put (tr q).2.nx ob, Nat.succ (tr q).2.nx⟩))
    {w1 : World} {obj : Obj} (hn : NewB w w1 obj) {i : Im} (hb : i.b = w.heap.size) (ho : ORel C (upd ι (tr q).2.nx i) i ob (some obj)) : Fl C ops pl tr ι0 w0 (p.1 :: X) g (Hp.put (tr q).2.nx ob) (upd ι (tr q).2.nx i) w1 := by
  have hq' : q < pl.length := by
    rcases Nat.lt_or_ge q pl.length with h | h
    · exact h
    · rw [List.getElem?_eq_none h] at hp; cases hp
  have hnx : (tr (q + 1)).2.nx = (tr q).2.nx + 1 := by rw [e]
  have hu := D.unq hf hp hq hx
  have hk : ι (tr q).2.nx = none := hu _ (Nat.le_refl _) (by omega)
  have hgo := hn.go hf.go.rel hk hb ho
  have hgq : (tr g).2.nx ≤ (tr q).2.nx := (D.upto hq (by omega)).1
  have h0q : (tr 0).2.nx ≤ (tr q).2.nx := (D.upto (Nat.zero_le _) (by omega)).1
  have hqE : (tr q).2.nx + 1 ≤ (tr pl.length).2.nx := by have := (D.upto (q := q + 1) (q' := pl.length) (by omega) (Nat.le_refl _)).1; omega
  have hf' := D.flKeep hf hc
  refine ⟨hf.gl, hf'.acts, hf.last, fun k hk => ?_, fun k j hj h1 h2 => ?_, hf.go.into hgo h0q hqE⟩
  · rw [Tr.at_put, if_neg (by omega)]; exact hf.base k hk
  · by_cases h : k = (tr q).2.nx
    · refine ⟨q, p, hq, hp, by simp, h.symm, by rw [hnx, h], ?_⟩
      rw [Tr.at_put, if_pos h, e]
      show _ = ((tr q).2.h.put (tr q).2.nx ob).at k
      rw [Tr.at_put, if_pos h]
    · rw [upd_other ι i h] at hj
      obtain ⟨q2, p2, a, b, c, d, e2, f⟩ := hf.fl k j hj h1 h2
      exact ⟨q2, p2, a, b, List.mem_cons_of_mem _ c, d, e2, by rw [Tr.at_put, if_neg h]; exact f⟩
theorem Dr.flAct (D : Dr P C call N ops pl tr) (hf : Fl C ops pl tr ι0 w0 X g Hp ι w) {q : Nat} {p : Nat × List Nat} (hp : pl[q]? = some p) (hq : g ≤ q) (hx : p.1 ∉ X) (hc : cl C ops p.1 = .act) (hn : ∀ q'' p, g ≤ q'' → q'' < q → pl[q'']? = some p → cl C ops p.1 ≠ .act)
    {ι1 : IM} {w1 : World} (hG : Go1 C ι (tr q).2.h (tr q).2.nx w ι1 (tr (q + 1)).2.h (tr (q + 1)).2.nx w1) : ∃ Hp1, Fl C ops pl tr ι0 w0 (p.1 :: X) (q + 1) Hp1 ι1 w1 := by
  have hq' : q < pl.length := by
    rcases Nat.lt_or_ge q pl.length with h | h
    · exact h
    · rw [List.getElem?_eq_none h] at hp; cases hp
  have hu := D.unq hf hp hq hx
  have hle := hG.le hu
  have hsub := D.subh hf hq (by omega) hn
  have hgq : (tr g).2.nx ≤ (tr q).2.nx := (D.upto hq (by omega)).1
  have h0q : (tr 0).2.nx ≤ (tr q).2.nx := (D.upto (Nat.zero_le _) (by omega)).1
  have hqE : (tr (q + 1)).2.nx ≤ (tr pl.length).2.nx := (D.upto (q := q + 1) (q' := pl.length) (by omega) (Nat.le_refl _)).1
  have hlow : ∀ {k0}, live (tr q).2.h k0 → k0 < (tr q).2.nx := fun {k0} ⟨o, ho, _⟩ => by
    rcases Nat.lt_or_ge k0 (tr q).2.nx with h | h
    · exact h
    · rw [D.wf (by omega) k0 h] at ho; cases ho
  have hliv : ∀ {k0 i0}, ι k0 = some i0 → live (tr q).2.h k0 → live Hp k0 := fun {k0 i0} hi ⟨o, ho, hne⟩ => ⟨o, hsub k0 i0 o hi ho, hne⟩
  obtain ⟨Hp0, hHp0⟩ := heap_ex (fun k => if k < (tr (q + 1)).2.nx then (tr (q + 1)).2.h.at k else Hp.at k) (tr pl.length).2.nx
  have lo : ∀ {k}, k < (tr (q + 1)).2.nx → Hp0.at k = (tr (q + 1)).2.h.at k := fun {k} h => by rw [hHp0, if_pos (by omega), if_pos h]
  have hi' : ∀ {k}, (tr (q + 1)).2.nx ≤ k → k < (tr pl.length).2.nx → Hp0.at k = Hp.at k := fun {k} h h2 => by rw [hHp0, if_pos h2, if_neg (by omega)]
  have out : ∀ {k}, (tr pl.length).2.nx ≤ k → Hp0.at k = none := fun {k} h => by rw [hHp0, if_neg (by omega)]
  have upl : ∀ {k}, (tr (q + 1)).2.nx ≤ k → live Hp0 k → live Hp k := fun {k} h ⟨o, ho, hne⟩ => by
    rcases Nat.lt_or_ge k (tr pl.length).2.nx with h2 | h2
    · rw [hi' h h2] at ho; exact ⟨o, ho, hne⟩
    · rw [out h2] at ho; cases ho
  have dnl : ∀ {k}, k < (tr (q + 1)).2.nx → live Hp0 k → live (tr (q + 1)).2.h k := fun {k} h ⟨o, ho, hne⟩ => by rw [lo h] at ho; exact ⟨o, ho, hne⟩
  have far : ∀ {k i}, (tr (q + 1)).2.nx ≤ k → ι1 k = some i → live Hp0 k → ι k = some i ∧ live Hp k ∧ i.b < w.heap.size ∧ ∀ k0 i0, ι k0 = some i0 → live (tr q).2.h k0 → i0.b ≠ i.b := fun {k i} h hi hl => by
    rw [hG.ext k (.inr h)] at hi
    have hl' := upl h hl
    refine ⟨hi, hl', hf.go.rel.lt hi hl', fun k0 i0 e0 l0 e => ?_⟩
    have := hf.go.rel.inj k0 k i0 i e0 hi e (hliv e0 l0) hl'
    have := hlow l0
    have := hG.up
    omega
  have hrel : Rel C ι1 Hp0 w1 := {
    inj := fun k k' i i' h h' e l l' => by
      have mix : ∀ {k k' i i'}, ι1 k = some i → ι1 k' = some i' → i.b = i'.b → live Hp0 k → live Hp0 k' → k < (tr (q + 1)).2.nx → (tr (q + 1)).2.nx ≤ k' → False := fun {k k' i i'} h h' e l l' a b => by
        obtain ⟨f1, f2, f3, f4⟩ := far b h' l'
        rcases hG.new k i h (dnl a l) with hh | ⟨k0, i0, e0, l0, hb0⟩
        · omega
        · exact f4 k0 i0 e0 l0 (hb0.trans e)
      rcases Nat.lt_or_ge k (tr (q + 1)).2.nx with a | a <;> rcases Nat.lt_or_ge k' (tr (q + 1)).2.nx with b | b
      · exact hG.rel.inj k k' i i' h h' e (dnl a l) (dnl b l')
      · exact (mix h h' e l l' a b).elim
      · exact (mix h' h e.symm l' l b a).elim
      · obtain ⟨f1, f2, _⟩ := far a h l
        obtain ⟨f1', f2', _⟩ := far b h' l'
        exact hf.go.rel.inj k k' i i' f1 f1' e f2 f2'
    obj := fun k i o h ho => by
      rcases Nat.lt_or_ge k (tr (q + 1)).2.nx with a | a
      · rw [lo a] at ho; exact hG.rel.obj k i o h ho
      · cases o with
        | dead => trivial
        | _ =>
          obtain ⟨f1, f2, f3, f4⟩ := far a h ⟨_, ho, fun e => by cases e⟩
          have hE : k < (tr pl.length).2.nx := by
            rcases Nat.lt_or_ge k (tr pl.length).2.nx with h2 | h2
            · exact h2
            · rw [out h2] at ho; cases ho
          rw [hi' a hE] at ho
          rw [hG.fr.same i.b f3 f4]
          exact (hf.go.rel.obj k i _ f1 ho).mono hle }
  have hgo : Go1 C ι Hp (tr q).2.nx w ι1 Hp0 (tr (q + 1)).2.nx w1 := {
    up := hG.up
    ext := hG.ext
    rel := hrel
    fr := ⟨hG.fr.os, hG.fr.tape, hG.fr.output, hG.fr.size, fun b hb hn' => hG.fr.same b hb fun k i e l => hn' k i e (hliv e l)⟩
    new := fun k i e l => by
      rcases Nat.lt_or_ge k (tr (q + 1)).2.nx with a | a
      · rcases hG.new k i e (dnl a l) with hh | ⟨k0, i0, e0, l0, hb0⟩
        · exact .inl hh
        · exact .inr ⟨k0, i0, e0, hliv e0 l0, hb0⟩
      · obtain ⟨f1, f2, _⟩ := far a e l
        exact .inr ⟨k, i, f1, f2, rfl⟩ }
  refine ⟨Hp0, by omega, fun q2 p2 hp2 ha => ?_, fun g' hg' => ⟨p, by rw [show g' = q by omega]; exact hp, hc⟩, fun k hk => lo hk, fun k j hj h1 h2 => ?_, hf.go.into hgo h0q hqE⟩
  · rw [List.mem_cons, hf.acts q2 p2 hp2 ha]
    constructor
    · rintro (h | h)
      · have := D.uniq hp2 hp h; omega
      · omega
    · intro h
      rcases Nat.lt_or_ge q2 g with h3 | h3
      · exact .inr h3
      · rcases Nat.lt_or_ge q2 q with h4 | h4
        · exact absurd ha (hn q2 p2 h3 h4 hp2)
        · have : q2 = q := by omega
          subst this; rw [hp] at hp2; cases hp2; exact .inl rfl
  · have hj0 : ι k = some j := by rw [← hG.ext k (.inr h1)]; exact hj
    have := hG.up
    obtain ⟨q2, p2, a, b, c, d, e2, f⟩ := hf.fl k j hj0 (by omega) h2
    have hq2 : q2 < pl.length := by
      rcases Nat.lt_or_ge q2 pl.length with h | h
      · exact h
      · rw [List.getElem?_eq_none h] at b; cases b
    refine ⟨q2, p2, ?_, b, List.mem_cons_of_mem _ c, d, e2, by rw [hi' h1 h2]; exact f⟩
    rcases Nat.lt_or_ge q q2 with h | h
    · omega
    · have := (D.upto (q := q2 + 1) (q' := q + 1) (by omega) (by omega)).1; omega
end
end Go.Proofs.YtpakmmnbkccdcaaDoor.Ev
