/-
  A region that draws its order comes to what its plan comes to, whatever order is drawn. No condition.
-/
import Derived.Test.YtpakmmnbkccdcaaDoorEvMask
namespace Go.Proofs.YtpakmmnbkccdcaaDoor.Ev
open Go Go.RowKit
set_option linter.unusedVariables false
variable {P : Program} {C : Cx} {ι : IM}
abbrev Pl := List (Nat × List Nat)
def Bf (ops : Array Oper) (i j : Nat) : Prop := tb (nth (masks ops.toList) i) j = true
noncomputable def cl (C : Cx) (ops : Array Oper) (i : Nat) : Cl := clAt (ops.toList.map fun o => clOf C o.op) i
/-- What the plan's check tells of a place. -/
structure PF (C : Cx) (ops : Array Oper) (pl : Pl) (q : Nat) (p : Nat × List Nat) (o : Oper) : Prop where
  op : ops[p.1]? = some o
  new : ∀ q' p', q' < q → pl[q']? = some p' → p'.1 ≠ p.1
  dep : ∀ j, j < ops.size → Bf ops p.1 j → ∃ q' p', q' < q ∧ pl[q']? = some p' ∧ p'.1 = j
  grd : ∀ g, o.guard = some g → Bf ops p.1 g.1
  pair : ∀ j r, ops[j]? = some r → j = p.1 ∨ (sameD o r = false ∧ (freeOf o r = true ∨ Bf ops p.1 j ∨ Bf ops j p.1))
  edge : ∀ e ∈ o.after.toList, bindsA e = true → e.on < p.1
  look : cl C ops p.1 = .look → ∀ q' p', q' < q → pl[q']? = some p' → cl C ops p'.1 = .act → Bf ops p.1 p'.1
  make : cl C ops p.1 = .make → ∀ q' p', q < q' → pl[q']? = some p' → cl C ops p'.1 = .act → Bf ops p'.1 p.1
  act1 : cl C ops p.1 = .act → ∀ q' p', q' < q → pl[q']? = some p' → cl C ops p'.1 = .act → Bf ops p.1 p'.1
  act2 : cl C ops p.1 = .act → ∀ q' p', q' < q → pl[q']? = some p' → cl C ops p'.1 = .look → Bf ops p.1 p'.1 ∨ p'.1 ∈ p.2
  act3 : cl C ops p.1 = .act → ∀ i ∈ p.2, ∃ oi, ops[i]? = some oi ∧ ∀ j r, ops[j]? = some r → freeOf oi r = true ∨ Bf ops i j
theorem isAct_iff {c : Cl} : isAct c = true ↔ c = .act := by cases c <;> simp [isAct]
theorem isLook_iff {c : Cl} : isLook c = true ↔ c = .look := by cases c <;> simp [isLook]
theorem take_mem {α : Type} {l : List α} {q q' : Nat} {p : α} (h : q' < q) (hp : l[q']? = some p) : p ∈ l.take q := by
  refine List.mem_of_getElem? (i := q') ?_
  rw [List.getElem?_take, if_pos h]; exact hp
theorem mem_take {α : Type} {l : List α} {q : Nat} {p : α} (h : p ∈ l.take q) : ∃ q', q' < q ∧ l[q']? = some p := by
  obtain ⟨j, hj⟩ := List.getElem?_of_mem h
  rw [List.getElem?_take] at hj
  split at hj
  · exact ⟨j, by assumption, hj⟩
  · cases hj
theorem drop_mem {α : Type} {l : List α} {q q' : Nat} {p : α} (h : q < q') (hp : l[q']? = some p) : p ∈ l.drop (q + 1) := by
  refine List.mem_of_getElem? (i := q' - (q + 1)) ?_
  rw [List.getElem?_drop, ← hp]
  exact congrArg (l[·]?) (by omega)
theorem place_ok {ops : Array Oper} {pl : Pl} (h : drawOk C ops.toList pl = true) : (∀ j, j < ops.size → ∃ (q : Nat) (rc : List Nat), pl[q]? = some (j, rc)) ∧ ∀ (q : Nat) p, pl[q]? = some p → ∃ o, PF C ops pl q p o := by
  unfold drawOk at h
  obtain ⟨h1, h2⟩ := (Bool.and_eq_true _ _).mp h
  refine ⟨fun j hj => ?_, fun q p hp => ?_⟩
  · have := upTo_mem h1 j (by simpa using hj)
    obtain ⟨p, hp, e⟩ := List.mem_map.1 this
    obtain ⟨q, hq⟩ := List.getElem?_of_mem hp
    exact ⟨q, p.2, by rw [hq, ← e]⟩
  · have hq : q < pl.length := by
      rcases Nat.lt_or_ge q pl.length with h | h
      · exact h
      · rw [List.getElem?_eq_none h] at hp; cases hp
    have h3 := allB_mem h2 q (by simpa using hq)
    unfold placeOk at h3
    rw [hp] at h3
    have h3 : stepOk ops.toList (masks ops.toList) (ops.toList.map fun o => clOf C o.op) (pl.take q) (pl.drop (q + 1)) p = true := h3
    unfold stepOk at h3
    cases ho : ops.toList[p.1]? with
    | none => rw [ho] at h3; cases h3
    | some o =>
      rw [ho] at h3
      obtain ⟨c1, h3⟩ := (Bool.and_eq_true _ _).mp h3
      obtain ⟨c2, h3⟩ := (Bool.and_eq_true _ _).mp h3
      obtain ⟨c3, h3⟩ := (Bool.and_eq_true _ _).mp h3
      obtain ⟨c4, h3⟩ := (Bool.and_eq_true _ _).mp h3
      obtain ⟨c5, c6⟩ := (Bool.and_eq_true _ _).mp h3
      have ho' : ops[p.1]? = some o := by rw [← Array.getElem?_toList]; exact ho
      have imp : ∀ {c : Cl} {b : Bool}, (!isAct c || b) = true → c = .act → b = true := fun {c b} h e => by subst e; simpa [isAct] using h
      have impl : ∀ {c : Cl} {b : Bool}, (!isLook c || b) = true → c = .look → b = true := fun {c b} h e => by subst e; simpa [isLook] using h
      refine ⟨o, ho', fun q' p' hq' hp' e => ?_, fun j hj hb => ?_, fun g hg => ?_, fun j r hr => ?_, fun e he hb => ?_, fun hc => ?_, fun hc => ?_, fun hc => ?_, fun hc => ?_, fun hc => ?_⟩
      · have := allB_mem c1 p' (take_mem hq' hp')
        rw [e, Nat.beq_refl] at this; cases this
      · have := allB_mem c2 j (by simpa using hj)
        rw [show tb (nth (masks ops.toList) p.1) j = true from hb] at this
        have : ((pl.take q).any fun q => Nat.beq q.1 j) = true := by simpa using this
        obtain ⟨p', hp', e⟩ := List.any_eq_true.1 this
        obtain ⟨q', a, b⟩ := mem_take hp'
        exact ⟨q', p', a, b, nb e⟩
      · unfold guardOk at c3; rw [hg] at c3; exact c3
      · have hj : j < ops.size := by
          rcases Nat.lt_or_ge j ops.size with h | h
          · exact h
          · rw [Array.getElem?_eq_none h] at hr; cases hr
        have := allB_mem c4 j (by simpa using hj)
        rw [Array.getElem?_toList, hr] at this
        unfold pairOk at this
        simp only [Bool.or_eq_true, Bool.and_eq_true, Bool.not_eq_true'] at this
        rcases this with h | ⟨h1, h2⟩
        · exact .inl (nb h)
        · exact .inr ⟨h1, h2⟩
      · have := allB_mem c5 e he
        rw [hb] at this
        simpa using this
      · intro q' p' hq' hp' ha
        unfold cl at hc; rw [hc] at c6
        exact imp (allB_mem c6 p' (take_mem hq' hp')) ha
      · intro q' p' hq' hp' ha
        unfold cl at hc; rw [hc] at c6
        exact imp (allB_mem c6 p' (drop_mem hq' hp')) ha
      · intro q' p' hq' hp' ha
        unfold cl at hc; rw [hc] at c6
        obtain ⟨d1, _⟩ := (Bool.and_eq_true _ _).mp c6
        exact imp (allB_mem d1 p' (take_mem hq' hp')) ha
      · intro q' p' hq' hp' ha
        unfold cl at hc; rw [hc] at c6
        obtain ⟨_, d2⟩ := (Bool.and_eq_true _ _).mp c6
        obtain ⟨d2, _⟩ := (Bool.and_eq_true _ _).mp d2
        have := impl (allB_mem d2 p' (take_mem hq' hp')) ha
        simp only [Bool.or_eq_true] at this
        rcases this with h | h
        · exact .inl h
        · obtain ⟨x, hx, e⟩ := List.any_eq_true.1 h
          exact .inr (by rw [nb e]; exact hx)
      · intro i hi
        unfold cl at hc; rw [hc] at c6
        obtain ⟨_, d2⟩ := (Bool.and_eq_true _ _).mp c6
        obtain ⟨_, d3⟩ := (Bool.and_eq_true _ _).mp d2
        have := allB_mem d3 i hi
        unfold readOk at this
        cases hoi : ops.toList[i]? with
        | none => rw [hoi] at this; cases this
        | some oi =>
          rw [hoi] at this
          refine ⟨oi, by rw [← Array.getElem?_toList]; exact hoi, fun j r hr => ?_⟩
          have hj : j < ops.size := by
            rcases Nat.lt_or_ge j ops.size with h | h
            · exact h
            · rw [Array.getElem?_eq_none h] at hr; cases hr
          have h4 := allB_mem this j (by simpa using hj)
          rw [Array.getElem?_toList, hr] at h4
          simpa [Bf] using h4
/-- The plan done, place by place. -/
def SP (C : Cx) (call : Caller) (ops : Array Oper) (p : Nat × List Nat) (a b : Tr Value × St) : Prop := ∃ o, ops[p.1]? = some o ∧ Step1 C call ops.toList o a.1 a.2 b.1 b.2 ∧
  (wantO ops.toList a.1 o.guard = true → fitsR (clOf C o.op) (opR o.op C a.2.h a.2.nx (ρ a.1)) = true) ∧ ∀ i ∈ p.2, againO C ops.toList b.1 b.2 i = true
theorem stepsP_trace {call : Caller} {ops : Array Oper} : ∀ (pl : Pl) (T : Tr Value) (S : St) (r : Tr Value × St), stepsP C call ops.toList pl T S = some r → ∃ tr : Nat → Tr Value × St, tr 0 = (T, S) ∧ tr pl.length = r ∧ ∀ q p, pl[q]? = some p → SP C call ops p (tr q) (tr (q + 1)) := by
  intro pl
  induction pl with
  | nil => intro T S r h; cases h; exact ⟨fun _ => (T, S), rfl, rfl, fun q p h => by cases h⟩
  | cons p pl ih =>
    intro T S r h
    have h : stepP C call ops.toList p (stepsP C call ops.toList pl) T S = some r := h
    unfold stepP at h
    cases ho : ops.toList[p.1]? with
    | none => rw [ho] at h; cases h
    | some o =>
      rw [ho] at h
      dsimp only at h
      have ho' : ops[p.1]? = some o := by rw [← Array.getElem?_toList]; exact ho
      have ag : ∀ {T1 S1}, againS C ops.toList (stepsP C call ops.toList pl) p.2 T1 S1 = some r → stepsP C call ops.toList pl T1 S1 = some r ∧ ∀ i ∈ p.2, againO C ops.toList T1 S1 i = true := by
        intro T1 S1 hh
        unfold againS at hh
        cases hb : allB p.2 (againO C ops.toList T1 S1) with
        | false => rw [hb] at hh; cases hh
        | true => rw [hb] at hh; exact ⟨hh, allB_mem hb⟩
      obtain ⟨T1, S1, h1, h2, h3⟩ : ∃ T1 S1, againS C ops.toList (stepsP C call ops.toList pl) p.2 T1 S1 = some r ∧ Step1 C call ops.toList o T S T1 S1 ∧ (wantO ops.toList T o.guard = true → fitsR (clOf C o.op) (opR o.op C S.h S.nx (ρ T)) = true) := by
        cases hw : wantO ops.toList T o.guard with
        | false => rw [hw] at h; exact ⟨_, _, h, .skip hw, fun e => by cases e⟩
        | true =>
          rw [hw] at h
          have h : stepK C call ops.toList o (againS C ops.toList (stepsP C call ops.toList pl) p.2) T S (opR o.op C S.h S.nx (ρ T)) = some r := h
          unfold stepK at h
          cases hfit : fitsR (clOf C o.op) (opR o.op C S.h S.nx (ρ T)) with
          | false => rw [hfit] at h; cases h
          | true =>
            rw [hfit] at h
            obtain ⟨T1, S1, a, b⟩ := thenR_cases hw h
            exact ⟨T1, S1, a, b, fun _ => rfl⟩
      obtain ⟨h4, h5⟩ := ag h1
      obtain ⟨tr, t0, t1, t2⟩ := ih T1 S1 r h4
      refine ⟨fun q => match q with | 0 => (T, S) | q + 1 => tr q, rfl, t1, fun q p' hp' => ?_⟩
      cases q with
      | zero =>
        cases hp'
        show SP C call ops p (T, S) (tr 0)
        rw [t0]
        exact ⟨o, ho', h2, h3, h5⟩
      | succ q => exact t2 q p' (by simpa using hp')
structure Dr (P : Program) (C : Cx) (call : Caller) (N : Nat) (ops : Array Oper) (pl : Pl) (tr : Nat → Tr Value × St) : Prop where
  hok : Ok P C
  hsnd : Snd P C call
  hds : ∀ o ∈ ops.toList, dstOk N o
  hops : ∀ o ∈ ops.toList, allX o.op.operands.toList = true
  all : ∀ j, j < ops.size → ∃ (q : Nat) (rc : List Nat), pl[q]? = some (j, rc)
  pf : ∀ (q : Nat) p, pl[q]? = some p → ∃ o, PF C ops pl q p o
  tc : ∀ (q : Nat) p, pl[q]? = some p → SP C call ops p (tr q) (tr (q + 1))
  wf0 : Wf (tr 0).2
section
variable {call : Caller} {N : Nat} {ops : Array Oper} {pl : Pl} {tr : Nat → Tr Value × St}
theorem Dr.uniq (D : Dr P C call N ops pl tr) {q q' : Nat} {p p' : Nat × List Nat} (h : pl[q]? = some p) (h' : pl[q']? = some p') (e : p.1 = p'.1) : q = q' := by
  rcases Nat.lt_trichotomy q q' with hlt | hlt | hlt
  · obtain ⟨o, hp⟩ := D.pf q' p' h'
    exact absurd e (hp.new q p hlt h)
  · exact hlt
  · obtain ⟨o, hp⟩ := D.pf q p h
    exact absurd e.symm (hp.new q' p' hlt h')
theorem Dr.up1 (D : Dr P C call N ops pl tr) {q : Nat} {p : Nat × List Nat} (h : pl[q]? = some p) : Up (tr q).2 (tr (q + 1)).2 := by
  obtain ⟨o, _, h1, _⟩ := D.tc q p h
  exact h1.up D.hsnd
theorem Dr.up (D : Dr P C call N ops pl tr) : ∀ (d q : Nat), q + d ≤ pl.length → Up (tr q).2 (tr (q + d)).2 := by
  intro d
  induction d with
  | zero => intro q _; exact .refl _
  | succ d ih =>
    intro q h
    obtain ⟨p, hp⟩ : ∃ p, pl[q + d]? = some p := ⟨_, List.getElem?_eq_getElem (by omega)⟩
    exact (ih q (by omega)).trans (D.up1 hp)
theorem Dr.upto (D : Dr P C call N ops pl tr) {q q' : Nat} (h : q ≤ q') (h' : q' ≤ pl.length) : Up (tr q).2 (tr q').2 := by
  have := D.up (q' - q) q (by omega)
  rwa [show q + (q' - q) = q' by omega] at this
theorem Dr.wf (D : Dr P C call N ops pl tr) {q : Nat} (h : q ≤ pl.length) : Wf (tr q).2 := (D.upto (Nat.zero_le q) h).2 D.wf0
theorem step_dst {o : Oper} {a b : Tr Value × St} (h : Step1 C call ops.toList o a.1 a.2 b.1 b.2) : ∃ x, b.1 = putT a.1 o.dst x := by
  obtain ⟨T, S⟩ := a
  obtain ⟨T1, S1⟩ := b
  cases h <;> exact ⟨_, rfl⟩
theorem getT_putT (T : Tr Value) (d : Option Tmp) (x : Value) {t : Nat} (h : d ≠ some t) : getT (putT T d x) t = getT T t := by
  cases d with
  | none => rfl
  | some d =>
    show getT (T.put d x) t = _
    rw [getT_put, if_neg (fun e => h (by rw [e]))]
theorem Dr.keep1 (D : Dr P C call N ops pl tr) {q : Nat} {p : Nat × List Nat} (h : pl[q]? = some p) {o : Oper} (ho : ops[p.1]? = some o) {t : Nat} (hd : o.dst ≠ some t) : getT (tr (q + 1)).1 t = getT (tr q).1 t := by
  obtain ⟨o', ho', h1, _⟩ := D.tc q p h
  rw [ho] at ho'; cases ho'
  obtain ⟨x, hx⟩ := step_dst h1
  rw [hx]
  exact getT_putT _ _ _ hd
theorem Dr.keep (D : Dr P C call N ops pl tr) {t : Nat} : ∀ (d q : Nat), q + d ≤ pl.length → (∀ q'' p o, q ≤ q'' → q'' < q + d → pl[q'']? = some p → ops[p.1]? = some o → o.dst ≠ some t) → getT (tr (q + d)).1 t = getT (tr q).1 t := by
  intro d
  induction d with
  | zero => intro q _ _; rfl
  | succ d ih =>
    intro q h hn
    obtain ⟨p, hp⟩ : ∃ p, pl[q + d]? = some p := ⟨_, List.getElem?_eq_getElem (by omega)⟩
    obtain ⟨o, hpf⟩ := D.pf _ _ hp
    have e1 := D.keep1 hp hpf.op (hn (q + d) p o (by omega) (by omega) hp hpf.op)
    have e2 := ih q (by omega) (fun q'' p o a b c d' => hn q'' p o a (by omega) c d')
    exact e1.trans e2
theorem Dr.keepto (D : Dr P C call N ops pl tr) {t q q' : Nat} (h : q ≤ q') (h' : q' ≤ pl.length) (hn : ∀ q'' p o, q ≤ q'' → q'' < q' → pl[q'']? = some p → ops[p.1]? = some o → o.dst ≠ some t) : getT (tr q').1 t = getT (tr q).1 t := by
  have := D.keep (t := t) (q' - q) q (by omega) (fun q'' p o a b c d => hn q'' p o a (by omega) c d)
  rwa [show q + (q' - q) = q' by omega] at this
/-- Who writes a slot is one alone. -/
theorem Dr.one (D : Dr P C call N ops pl tr) {q q' : Nat} {p p' : Nat × List Nat} {o o' : Oper} {t : Tmp} (h : pl[q]? = some p) (h' : pl[q']? = some p') (ho : ops[p.1]? = some o) (ho' : ops[p'.1]? = some o') (e : o.dst = some t) (e' : o'.dst = some t) : q = q' := by
  obtain ⟨o2, hp⟩ := D.pf q p h
  have := hp.op; rw [ho] at this; cases this
  rcases hp.pair p'.1 o' ho' with h1 | ⟨h1, _⟩
  · exact D.uniq h h' h1.symm
  · unfold sameD at h1; rw [e, e'] at h1
    have h1 : Nat.beq t t = false := h1
    rw [Nat.beq_refl] at h1; cases h1
/-- What has been done so far, in the order drawn. -/
structure Inv (X : List Nat) (ι : IM) (a : Act) : Prop where
  tm1 : ∀ (q : Nat) p o t, pl[q]? = some p → ops[p.1]? = some o → o.dst = some t → p.1 ∈ X → VR ι (getT (tr (q + 1)).1 t) (a.tmps.getD t undef)
  tm0 : ∀ t, (∀ (q : Nat) p o, pl[q]? = some p → ops[p.1]? = some o → o.dst = some t → p.1 ∉ X) → VR ι (getT (tr 0).1 t) (a.tmps.getD t undef)
  sz : a.tmps.size = N
  df : a.defers = []
theorem free_of {o r : Oper} {t : Tmp} (hd : r.dst = some t) (ht : Operand.tmp t ∈ o.op.operands.toList) : freeOf o r = false := by
  unfold freeOf
  rw [hd]
  have : t ∈ tmpsOf o.op.operands.toList := by
    unfold tmpsOf
    exact List.mem_filterMap.2 ⟨_, ht, rfl⟩
  have : (tmpsOf o.op.operands.toList).any (Nat.beq t) = true := List.any_eq_true.2 ⟨t, this, Nat.beq_refl t⟩
  simp [this]
/-- A slot that is read at its place in the plan. -/
theorem Dr.slot (D : Dr P C call N ops pl tr) {X : List Nat} {a : Act} (hi : Inv (tr := tr) (ops := ops) (pl := pl) (N := N) X ι a) {q : Nat} (hq : q ≤ pl.length) {t : Tmp}
    (h : ∀ (q' : Nat) p' r, pl[q']? = some p' → ops[p'.1]? = some r → r.dst = some t → (p'.1 ∈ X ∧ q' < q) ∨ (p'.1 ∉ X ∧ q ≤ q')) : VR ι (getT (tr q).1 t) (a.tmps.getD t undef) := by
  by_cases hex : ∃ (q' : Nat) (p' : Nat × List Nat) (r : Oper), pl[q']? = some p' ∧ ops[p'.1]? = some r ∧ r.dst = some t
  · obtain ⟨q', p', r, h1, h2, h3⟩ := hex
    rcases h q' p' r h1 h2 h3 with ⟨hx, hlt⟩ | ⟨hx, hle⟩
    · have e := D.keepto (t := t) (q := q' + 1) (q' := q) (by omega) hq (fun q'' p o a b c d e => by
        have := D.one h1 c h2 d h3 e; omega)
      rw [e]
      exact hi.tm1 q' p' r t h1 h2 h3 hx
    · have e := D.keepto (t := t) (q := 0) (q' := q) (Nat.zero_le _) hq (fun q'' p o a b c d e => by
        have := D.one h1 c h2 d h3 e; omega)
      rw [e]
      refine hi.tm0 t fun q'' p'' o'' a b c => ?_
      have := D.one h1 a h2 b h3 c
      subst this
      rw [h1] at a; cases a; exact hx
  · have e := D.keepto (t := t) (q := 0) (q' := q) (Nat.zero_le _) hq (fun q'' p o a b c d e => hex ⟨q'', p, o, c, d, e⟩)
    rw [e]
    exact hi.tm0 t fun q'' p'' o'' a b c => absurd ⟨q'', p'', o'', a, b, c⟩ hex
end
end Go.Proofs.YtpakmmnbkccdcaaDoor.Ev
