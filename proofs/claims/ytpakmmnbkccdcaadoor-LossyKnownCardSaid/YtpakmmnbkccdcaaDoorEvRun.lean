/-
  Regions in the text's order. No condition.
-/
import Derived.Test.YtpakmmnbkccdcaaDoorEvAct4
import Derived.Test.YtpakmmnbkccdcaaDoorEvWf
import Derived.Tactics
namespace Go.Proofs.YtpakmmnbkccdcaaDoor.Ev
open Go Go.RowKit
set_option linter.unusedVariables false
variable {P : Program} {C : Cx} {ι : IM}
/-- No number that is not given yet stands for anything. -/
def Wf (S : St) : Prop := ∀ k, S.nx ≤ k → S.h.at k = none
/-- On the way numbers are given, and no others stand for anything. -/
def Up (S S' : St) : Prop := S.nx ≤ S'.nx ∧ (Wf S → Wf S')
theorem Up.refl (S : St) : Up S S := ⟨Nat.le_refl _, id⟩
theorem Up.trans {a b c : St} (h : Up a b) (h' : Up b c) : Up a c := ⟨Nat.le_trans h.1 h'.1, fun w => h'.2 (h.2 w)⟩
/-- A call of the plain machine is the machine's. -/
def Snd (P : Program) (C : Cx) (call : Caller) : Prop := ∀ k args S v S', call k args S = some (v, S') → (∃ f, C.fn.at k = some f ∧ f.body.isSome = true) ∧ Up S S' ∧
  ∀ (ι : IM) (w : World) (args' : Array Value), Wf S → Rel C ι S.h w → LR ι args args'.toList → Un ι S.nx S'.nx →
    Calls P k args' w fun e w' => ∃ v' ι', e = .returned v' ∧ VR ι' v v' ∧ Go1 C ι S.h S.nx w ι' S'.h S'.nx w'
structure StR (C : Cx) (N : Nat) (ι : IM) (T : Tr Value) (S : St) (a : Act) (w : World) : Prop where
  rel : Rel C ι S.h w
  tm : ∀ t, VR ι (getT T t) (a.tmps.getD t undef)
  sz : a.tmps.size = N
  df : a.defers = []
  wf : Wf S
inductive Step1 (C : Cx) (call : Caller) (ops : List Oper) (o : Oper) (T : Tr Value) (S : St) : Tr Value → St → Prop
  | skip (h : wantO ops T o.guard = false) : Step1 C call ops o T S (putT T o.dst undef) S
  | look (h : wantO ops T o.guard = true) {x : Value} (hx : opR o.op C S.h S.nx (ρ T) = .v x) : Step1 C call ops o T S (putT T o.dst x) S
  | make (h : wantO ops T o.guard = true) {x : Value} {ob : AO} (hx : opR o.op C S.h S.nx (ρ T) = .n x ob) : Step1 C call ops o T S (putT T o.dst x) ⟨S.h.put S.nx ob, Nat.succ S.nx⟩
  | act (h : wantO ops T o.guard = true) {x : Value} {h' : Tr AO} (hx : opR o.op C S.h S.nx (ρ T) = .h x h') : Step1 C call ops o T S (putT T o.dst x) ⟨h', Nat.succ S.nx⟩
  | call (h : wantO ops T o.guard = true) {k : Nat} {as : List Value} {v : Value} {S' : St} (hx : opR o.op C S.h S.nx (ρ T) = .c k as) (hc : call k as S = some (v, S')) : Step1 C call ops o T S (putT T o.dst v) S'
theorem thenR_cases {call : Caller} {ops : List Oper} {o : Oper} {next : Tr Value → St → Option (Tr Value × St)} {T : Tr Value} {S : St} {res : Tr Value × St} (hw : wantO ops T o.guard = true)
    (h : thenR (opR o.op C S.h S.nx (ρ T)) call T S o.dst next = some res) : ∃ T1 S1, next T1 S1 = some res ∧ Step1 C call ops o T S T1 S1 := by
  cases hr : opR o.op C S.h S.nx (ρ T) with
  | v x => rw [hr] at h; exact ⟨_, _, h, .look hw hr⟩
  | n x ob => rw [hr] at h; exact ⟨_, _, h, .make hw hr⟩
  | h x h' => rw [hr] at h; exact ⟨_, _, h, .act hw hr⟩
  | c k as =>
    rw [hr] at h
    have h : backT T o.dst next (call k as S) = some res := h
    cases hc : call k as S with
    | none => rw [hc] at h; cases h
    | some r => rw [hc] at h; exact ⟨_, _, h, .call (v := r.1) (S' := r.2) hw hr hc⟩
  | bad => rw [hr] at h; cases h
theorem stepO_cases {call : Caller} {ops : List Oper} {o : Oper} {next : Tr Value → St → Option (Tr Value × St)} {T : Tr Value} {S : St} {res : Tr Value × St} (h : stepO C call ops o next T S = some res) :
    ∃ T1 S1, next T1 S1 = some res ∧ Step1 C call ops o T S T1 S1 := by
  unfold stepO at h
  cases hw : wantO ops T o.guard with
  | false => rw [hw] at h; exact ⟨_, _, h, .skip hw⟩
  | true => rw [hw] at h; exact thenR_cases hw h
theorem Step1.up {call : Caller} (hs : Snd P C call) {ops : List Oper} {o : Oper} {T T1 : Tr Value} {S S1 : St} (h : Step1 C call ops o T S T1 S1) : Up S S1 := by
  cases h with
  | skip => exact .refl _
  | look => exact .refl _
  | make => exact ⟨Nat.le_succ _, fun hw k hk => by
      show (S.h.put S.nx _).at k = none
      rw [Tr.at_put, if_neg (by have : S.nx + 1 ≤ k := hk; omega)]
      exact hw k (by have : S.nx + 1 ≤ k := hk; omega)⟩
  | act _ hx => exact ⟨Nat.le_succ _, fun hw k hk => opR_only hx k (by have : S.nx + 1 ≤ k := hk; omega) (hw k (by have : S.nx + 1 ≤ k := hk; omega))⟩
  | call _ _ hc => exact (hs _ _ _ _ _ hc).2.1
def dstOk (N : Nat) (o : Oper) : Prop := ∀ d, o.dst = some d → d < N
theorem dstX_mem {N : Nat} : ∀ {l : List Oper}, dstX N l = true → ∀ o ∈ l, dstOk N o
  | [], _, o, ho => by cases ho
  | p :: l, h, o, ho => by
    unfold dstX at h
    obtain ⟨h1, h2⟩ : dstB N p.dst = true ∧ dstX N l = true := by
      cases hq : dstB N p.dst with
      | false => rw [hq] at h; cases h
      | true => rw [hq] at h; exact ⟨rfl, h⟩
    rcases List.mem_cons.1 ho with e | e
    · subst e
      intro d hd
      rw [hd] at h1
      exact Nat.le_of_ble_eq_true h1
    · exact dstX_mem h2 o e
theorem opsX_mem : ∀ {l : List Oper}, opsX l = true → ∀ o ∈ l, allX o.op.operands.toList = true
  | [], _, o, ho => by cases ho
  | p :: l, h, o, ho => by
    unfold opsX at h
    cases hq : allX p.op.operands.toList with
    | false => rw [hq] at h; cases h
    | true =>
      rw [hq] at h
      rcases List.mem_cons.1 ho with e | e
      · rw [e]; exact hq
      · exact opsX_mem h o e
theorem getT_put (T : Tr Value) (d : Nat) (v : Value) (t : Nat) : getT (T.put d v) t = if t = d then v else getT T t := by
  unfold getT
  rw [Tr.at_put]
  by_cases h : t = d
  · rw [if_pos h, if_pos h]
  · rw [if_neg h, if_neg h]
theorem getD_put (tm : Array Value) (d : Nat) (v : Value) (hd : d < tm.size) (t : Nat) : (tm.setIfInBounds d v).getD t undef = if t = d then v else tm.getD t undef := by
  rw [Array.getD_eq_getD_getElem?, Array.getElem?_setIfInBounds]
  by_cases h : t = d
  · subst h; rw [if_pos rfl, if_pos rfl, if_pos hd]; rfl
  · rw [if_neg (fun e => h e.symm), if_neg h, Array.getD_eq_getD_getElem?]
/-- A slot written. -/
theorem tm_put {N : Nat} {T : Tr Value} {a : Act} (ht : ∀ t, VR ι (getT T t) (a.tmps.getD t undef)) (hsz : a.tmps.size = N) {o : Oper} (hd : dstOk N o) {v v' : Value} (hv : VR ι v v') :
    (∀ t, VR ι (getT (putT T o.dst v) t) ((a.put o.dst v').tmps.getD t undef)) ∧ (a.put o.dst v').tmps.size = N ∧ (a.put o.dst v').defers = a.defers := by
  cases hq : o.dst with
  | none => exact ⟨ht, hsz, rfl⟩
  | some d =>
    have hlt : d < N := hd d hq
    refine ⟨fun t => ?_, by simpa [Act.put] using hsz, rfl⟩
    show VR ι (getT (T.put d v) t) ((a.tmps.setIfInBounds d v').getD t undef)
    rw [getT_put, getD_put _ _ _ (Nat.lt_of_lt_of_eq hlt hsz.symm)]
    by_cases h : t = d
    · rw [if_pos h, if_pos h]; exact hv
    · rw [if_neg h, if_neg h]; exact ht t
theorem eval_ok {T : Tr Value} {a : Act} (ht : ∀ t, VR ι (getT T t) (a.tmps.getD t undef)) : ∀ x, okX x = true → VR ι (ρ T x) (a.eval x) := by
  intro x hx
  cases x with
  | tmp t => exact ht t
  | const v => exact VR.self ι hx
  | global g => cases hx
  | func f => exact .func _ rfl (fun j v w h => by simp at h) rfl (fun j v w h => by simp at h)
theorem yes_is (b c : Bool) : yes b c = (b == c) := by cases b <;> cases c <;> rfl
theorem want_ok {N : Nat} {T : Tr Value} {a : Act} (ht : ∀ t, VR ι (getT T t) (a.tmps.getD t undef)) (hsz : a.tmps.size = N) {ops : Array Oper} (hd : ∀ o ∈ ops.toList, dstOk N o) (o : Oper) :
    Region.wanted o (yielded ops a.tmps) = wantO ops.toList T o.guard := by
  unfold Region.wanted
  cases hg : o.guard with
  | none => rfl
  | some q =>
    obtain ⟨j, want⟩ := q
    show (yielded ops a.tmps j == some want) = wantG ops.toList T j want
    unfold wantG yielded
    rw [Array.getElem?_toList]
    cases hj : ops[j]? with
    | none => rfl
    | some p =>
      dsimp only [Option.bind]
      have hp : p ∈ ops.toList := by
        have : ops.toList[j]? = some p := by rw [Array.getElem?_toList]; exact hj
        exact List.mem_of_getElem? this
      cases hd' : p.dst with
      | none => rfl
      | some d =>
        have hlt : d < N := hd p hp d hd'
        have e1 : a.tmps[d]? = some (a.tmps.getD d undef) := by
          rw [Array.getD_eq_getD_getElem?, Array.getElem?_eq_getElem (Nat.lt_of_lt_of_eq hlt hsz.symm)]; rfl
        dsimp only
        rw [e1]
        unfold yieldT
        dsimp only
        have h := ht d
        generalize getT T d = x at h
        generalize a.tmps.getD d undef = y at h
        cases h <;> first | rfl | (show (some _ == some want) = yes _ want; rw [yes_is]; simp)
theorem StR.act {N : Nat} {T : Tr Value} {S S1 : St} {a : Act} {w w1 : World} {ι1 : IM} (hs : StR C N ι T S a w) (hg : Go1 C ι S.h S.nx w ι1 S1.h S1.nx w1) (hu : Un ι S.nx S1.nx) (hwf : Wf S1) {o : Oper} (hd : dstOk N o) {v v' : Value} (hv : VR ι1 v v') :
    StR C N ι1 (putT T o.dst v) S1 (a.put o.dst v') w1 := by
  have hle := hg.le hu
  obtain ⟨h1, h2, h3⟩ := tm_put (fun t => (hs.tm t).mono hle) hs.sz hd hv
  exact ⟨hg.rel, h1, h2, h3.trans hs.df, hwf⟩
theorem step_ok (hok : Ok P C) {call : Caller} (hsnd : Snd P C call) {N : Nat} {ops : Array Oper} (hds : ∀ o ∈ ops.toList, dstOk N o) {o : Oper} (hd : dstOk N o) (hops : allX o.op.operands.toList = true) {T T1 : Tr Value} {S S1 : St} (h : Step1 C call ops.toList o T S T1 S1)
    {a : Act} {w : World} (hs : StR C N ι T S a w) (hu : Un ι S.nx S1.nx) {Q : Exit → Act → World → Prop} {K : Act → World → Prop} (hK : ∀ ι1 a1 w1, StR C N ι1 T1 S1 a1 w1 → Go1 C ι S.h S.nx w ι1 S1.h S1.nx w1 → K a1 w1) :
    if Region.wanted o (yielded ops a.tmps) then o.wp P a w K Q else K (a.put o.dst undef) w := by
  have hw := want_ok hs.tm hs.sz hds o
  have hev : ∀ y, y ∈ o.op.operands.toList → VR ι (ρ T y) (a.eval y) := fun y hy => eval_ok (a := a) hs.tm y (allX_mem hops y hy)
  have hwf := (h.up hsnd).2 hs.wf
  cases h with
  | skip h =>
    rw [hw, h]
    exact hK ι _ _ (hs.act (Go1.refl hs.rel) hu hwf hd (.undef ι)) (Go1.refl hs.rel)
  | look h hx =>
    rw [hw, h]
    obtain ⟨x', r, hv⟩ := look_ok hok hs.rel hev hx
    show o.wp P a w K Q
    unfold Oper.wp
    rw [r]
    exact hK ι _ _ (hs.act (Go1.refl hs.rel) hu hwf hd hv) (Go1.refl hs.rel)
  | make h hx =>
    rw [hw, h]
    obtain ⟨x', w1, ob, i, r, hn, hb, ho, hv⟩ := make_ok hok hs.rel hev (hu S.nx (Nat.le_refl _) (Nat.lt_succ_self _)) hx
    show o.wp P a w K Q
    unfold Oper.wp
    rw [r]
    have hg := hn.go hs.rel (hu S.nx (Nat.le_refl _) (Nat.lt_succ_self _)) hb ho
    exact hK _ _ _ (hs.act (S1 := ⟨_, _⟩) hg hu hwf hd hv) hg
  | act h hx =>
    rw [hw, h]
    obtain ⟨n, x', w1, ι1, r, hn, hv, hg⟩ := act_ok hok hs.rel hev (hu S.nx (Nat.le_refl _) (Nat.lt_succ_self _)) hx
    show o.wp P a w K Q
    unfold Oper.wp
    rw [r]
    rcases hn with rfl | ⟨rfl, rfl⟩
    · exact hK _ _ _ (hs.act (S1 := ⟨_, _⟩) hg hu hwf hd hv) hg
    · exact hK _ _ _ (hs.act (S1 := ⟨_, _⟩) hg hu hwf hd hv) hg
  | call h hx hc =>
    rw [hw, h]
    obtain ⟨⟨f, hf, hb⟩, hup, hcall⟩ := hsnd _ _ _ _ _ hc
    obtain ⟨l', r, hl⟩ := call_ok hok hev hx hf hb (w := w)
    show o.wp P a w K Q
    unfold Oper.wp
    rw [r]
    show Calls P _ l' w _
    refine (hcall ι w l' hs.wf hs.rel hl hu).mono ?_
    rintro e w' ⟨v', ι', rfl, hv, hg⟩
    exact hK _ _ _ (hs.act hg hu hwf hd hv) hg
theorem stepsO_nil {call : Caller} {ops : List Oper} {T : Tr Value} {S : St} : stepsO C call ops [] T S = some (T, S) := rfl
theorem stepsO_cons {call : Caller} {ops : List Oper} {o : Oper} {l : List Oper} {T : Tr Value} {S : St} : stepsO C call ops (o :: l) T S = stepO C call ops o (stepsO C call ops l) T S := rfl
theorem stepsO_up {call : Caller} (hsnd : Snd P C call) {ops : List Oper} : ∀ (l : List Oper) (T : Tr Value) (S : St) (r : Tr Value × St), stepsO C call ops l T S = some r → Up S r.2 := by
  intro l
  induction l with
  | nil => intro T S r h; cases h; exact .refl _
  | cons o l ih =>
    intro T S r h
    rw [stepsO_cons] at h
    obtain ⟨T1, S1, h1, h2⟩ := stepO_cases h
    exact (h2.up hsnd).trans (ih _ _ _ h1)
theorem stepsO_ok (hok : Ok P C) {call : Caller} (hsnd : Snd P C call) {N : Nat} {ops : Array Oper} (hds : ∀ o ∈ ops.toList, dstOk N o) {Q : Exit → Act → World → Prop} :
    ∀ (l : List Oper), (∀ o ∈ l, dstOk N o ∧ allX o.op.operands.toList = true) → ∀ (T : Tr Value) (S : St) (r : Tr Value × St), stepsO C call ops.toList l T S = some r → ∀ (ι : IM) (a : Act) (w : World), StR C N ι T S a w → Un ι S.nx r.2.nx →
      (∀ ι1 a1 w1, StR C N ι1 r.1 r.2 a1 w1 → Go1 C ι S.h S.nx w ι1 r.2.h r.2.nx w1 → Q .normal a1 w1) → wpList P ops Q l a w := by
  intro l
  induction l with
  | nil => intro _ T S r h ι a w hs hu hQ; cases h; exact hQ ι a w hs (Go1.refl hs.rel)
  | cons o l ih =>
    intro hl T S r h ι a w hs hu hQ
    rw [stepsO_cons] at h
    obtain ⟨T1, S1, h1, h2⟩ := stepO_cases h
    have u1 := h2.up hsnd
    have u2 := stepsO_up hsnd _ _ _ _ h1
    refine wpList_step fun K hK => ?_
    refine step_ok hok hsnd hds (hl o (by simp)).1 (hl o (by simp)).2 h2 hs (fun k a b => hu k a (Nat.lt_of_lt_of_le b u2.1)) fun ι1 a1 w1 hs1 hg1 => hK _ _ ?_
    refine ih (fun p hp => hl p (by simp [hp])) T1 S1 r h1 ι1 a1 w1 hs1 (hg1.un hu) fun ι2 a2 w2 hs2 hg2 => hQ ι2 a2 w2 hs2 (hg1.trans hg2)
end Go.Proofs.YtpakmmnbkccdcaaDoor.Ev
