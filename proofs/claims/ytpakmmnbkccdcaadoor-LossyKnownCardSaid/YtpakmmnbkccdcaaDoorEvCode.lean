/-
  Code and calls: what the plain machine tells of a function is what a call of it comes to. No condition.
-/
import Derived.Test.YtpakmmnbkccdcaaDoorEvRun
import Derived.LoopN
namespace Go.Proofs.YtpakmmnbkccdcaaDoor.Ev
open Go Go.RowKit
set_option linter.unusedVariables false
variable {P : Program} {C : Cx} {ι : IM}
def exOf : Ex → Exit
  | .go => .normal
  | .exit i => .exit i
  | .ret => .ret
/-- What regions that draw are: to be shown. -/
def Drw (P : Program) (C : Cx) (call : Caller) : Prop := ∀ (N id : Nat) (ops : Array Oper) (T : Tr Value) (S : St) (r : Tr Value × St), dstX N ops.toList = true → opsX ops.toList = true → drawn C call ops.toList T S = some r →
  Up S r.2 ∧ ∀ (ι : IM) (a : Act) (w : World) (Q : Exit → Act → World → Prop), StR C N ι T S a w → Un ι S.nx r.2.nx → (∀ ι1 a1 w1, StR C N ι1 r.1 r.2 a1 w1 → Go1 C ι S.h S.nx w ι1 r.2.h r.2.nx w1 → Q .normal a1 w1) →
    (Code.region id ops true).wp P Q a w
theorem Rel.drew {H : Tr AO} {w : World} (hr : Rel C ι H w) (n : Nat) : Rel C ι H { w with drawn := n } := ⟨hr.inj, hr.obj⟩
theorem region_ok (hok : Ok P C) {call : Caller} (hsnd : Snd P C call) (hdr : Drw P C call) {N id : Nat} {ops : Array Oper} {draw : Bool} (hX : dstX N ops.toList = true) {T : Tr Value} {S : St} {r : Tr Value × St} (h : region C call ops.toList draw T S = some r) :
    Up S r.2 ∧ ∀ (ι : IM) (a : Act) (w : World) (Q : Exit → Act → World → Prop), StR C N ι T S a w → Un ι S.nx r.2.nx → (∀ ι1 a1 w1, StR C N ι1 r.1 r.2 a1 w1 → Go1 C ι S.h S.nx w ι1 r.2.h r.2.nx w1 → Q .normal a1 w1) →
    (Code.region id ops draw).wp P Q a w := by
  unfold region at h
  cases ho : opsX ops.toList with
  | false => rw [ho] at h; cases h
  | true =>
    rw [ho] at h
    cases draw with
    | true => exact hdr N id ops T S r hX ho h
    | false =>
      refine ⟨stepsO_up hsnd _ _ _ _ h, fun ι a w Q hs hu hQ => ?_⟩
      exact wp_region_list (stepsO_ok hok hsnd (dstX_mem hX) ops.toList (fun o ho' => ⟨dstX_mem hX o ho', opsX_mem ho o ho'⟩) T S r h ι a w hs hu hQ)
/-- What holds of a piece of code. -/
def Cok (P : Program) (C : Cx) (N : Nat) (c : Code) (f : Tr Value → St → Res) : Prop := ∀ T S e T' S', f T S = some (e, T', S') → Up S S' ∧ ∀ (ι : IM) (a : Act) (w : World) (Q : Exit → Act → World → Prop), StR C N ι T S a w → Un ι S.nx S'.nx →
  (∀ ι1 a1 w1, StR C N ι1 T' S' a1 w1 → Go1 C ι S.h S.nx w ι1 S'.h S'.nx w1 → Q (exOf e) a1 w1) → c.wp P Q a w
theorem Un.less {a b c : Nat} (h : Un ι a c) (hb : b ≤ c) : Un ι a b := fun k x y => h k x (Nat.lt_of_lt_of_le y hb)
theorem loop_ok {N : Nat} {c : Code} {f : Tr Value → St → Res} (hc : Cok P C N c f) : ∀ (n : Nat) (T : Tr Value) (S : St) (e : Ex) (T' : Tr Value) (S' : St), loopN f n T S = some (e, T', S') → Up S S' ∧ ∀ (ι : IM) (a : Act) (w : World) (Q : Exit → Act → World → Prop), StR C N ι T S a w → Un ι S.nx S'.nx →
    (∀ ι1 a1 w1, StR C N ι1 T' S' a1 w1 → Go1 C ι S.h S.nx w ι1 S'.h S'.nx w1 → Q (exOf e) a1 w1) → Code.rounds P c Q n a w := by
  intro n
  induction n with
  | zero => intro T S e T' S' h; cases h
  | succ n ih =>
    intro T S e T' S' h
    have h : andThen (loopN f n) (f T S) = some (e, T', S') := h
    cases hf : f T S with
    | none => rw [hf] at h; cases h
    | some r =>
      obtain ⟨e1, T1, S1⟩ := r
      rw [hf] at h
      obtain ⟨u1, hw⟩ := hc _ _ _ _ _ hf
      cases e1 with
      | go =>
        have h : loopN f n T1 S1 = some (e, T', S') := h
        obtain ⟨u2, hw2⟩ := ih _ _ _ _ _ h
        refine ⟨u1.trans u2, fun ι a w Q hs hu hQ => ?_⟩
        rw [rounds_succ]
        exact hw ι a w _ hs (hu.less u2.1) fun ι1 a1 w1 hs1 hg1 => hw2 ι1 a1 w1 Q hs1 (hg1.un hu) fun ι2 a2 w2 hs2 hg2 => hQ ι2 a2 w2 hs2 (hg1.trans hg2)
      | exit i =>
        cases h
        exact ⟨u1, fun ι a w Q hs hu hQ => by rw [rounds_succ]; exact hw ι a w _ hs hu hQ⟩
      | ret =>
        cases h
        exact ⟨u1, fun ι a w Q hs hu hQ => by rw [rounds_succ]; exact hw ι a w _ hs hu hQ⟩
theorem code_ok (hok : Ok P C) {call : Caller} (hsnd : Snd P C call) (hdr : Drw P C call) {N : Nat} (rounds : Nat) : ∀ c, codeX N c = true → Cok P C N c (code C call rounds c) := by
  intro c
  induction c with
  | skip => intro _ T S e T' S' h; cases h; exact ⟨.refl _, fun ι a w Q hs hu hQ => wp_skip (hQ ι a w hs (Go1.refl hs.rel))⟩
  | label l => intro _ T S e T' S' h; cases h; exact ⟨.refl _, fun ι a w Q hs hu hQ => wp_label (hQ ι a w hs (Go1.refl hs.rel))⟩
  | ret => intro _ T S e T' S' h; cases h; exact ⟨.refl _, fun ι a w Q hs hu hQ => wp_ret (hQ ι a w hs (Go1.refl hs.rel))⟩
  | exit i => intro _ T S e T' S' h; cases h; exact ⟨.refl _, fun ι a w Q hs hu hQ => wp_exit (hQ ι a w hs (Go1.refl hs.rel))⟩
  | region id ops draw =>
    intro hX T S e T' S' h
    have h : goes (region C call ops.toList draw T S) = some (e, T', S') := h
    cases hr : region C call ops.toList draw T S with
    | none => rw [hr] at h; cases h
    | some r => rw [hr] at h; cases h; exact region_ok hok hsnd hdr hX hr
  | seq x y ihx ihy =>
    intro hX T S e T' S' h
    obtain ⟨hx, hy⟩ := (Bool.and_eq_true _ _).mp (show (codeX N x && codeX N y) = true from hX)
    have h : andThen (code C call rounds y) (code C call rounds x T S) = some (e, T', S') := h
    cases hf : code C call rounds x T S with
    | none => rw [hf] at h; cases h
    | some r =>
      obtain ⟨e1, T1, S1⟩ := r
      rw [hf] at h
      obtain ⟨u1, hw⟩ := ihx hx _ _ _ _ _ hf
      cases e1 with
      | go =>
        have h : code C call rounds y T1 S1 = some (e, T', S') := h
        obtain ⟨u2, hw2⟩ := ihy hy _ _ _ _ _ h
        refine ⟨u1.trans u2, fun ι a w Q hs hu hQ => wp_seq ?_⟩
        exact hw ι a w _ hs (hu.less u2.1) fun ι1 a1 w1 hs1 hg1 => hw2 ι1 a1 w1 Q hs1 (hg1.un hu) fun ι2 a2 w2 hs2 hg2 => hQ ι2 a2 w2 hs2 (hg1.trans hg2)
      | exit i => cases h; exact ⟨u1, fun ι a w Q hs hu hQ => wp_seq (hw ι a w _ hs hu hQ)⟩
      | ret => cases h; exact ⟨u1, fun ι a w Q hs hu hQ => wp_seq (hw ι a w _ hs hu hQ)⟩
  | cond o x y ihx ihy =>
    intro hX T S e T' S' h
    obtain ⟨hx, hy⟩ := (Bool.and_eq_true _ _).mp (show (codeX N x && codeX N y) = true from hX)
    have h : (bif okX o then test (ρ T o) (code C call rounds x) (code C call rounds y) T S else none) = some (e, T', S') := h
    obtain ⟨ho, h⟩ := cond_some' h
    cases hv : ρ T o with
    | bool b =>
      rw [hv] at h
      cases b with
      | true =>
        obtain ⟨u1, hw⟩ := ihx hx _ _ _ _ _ h
        refine ⟨u1, fun ι a w Q hs hu hQ => ?_⟩
        have := eval_ok hs.tm o ho
        rw [hv] at this
        refine wp_cond_true ?_ (hw ι a w Q hs hu hQ)
        generalize a.eval o = z at this
        cases this; rfl
      | false =>
        obtain ⟨u1, hw⟩ := ihy hy _ _ _ _ _ h
        refine ⟨u1, fun ι a w Q hs hu hQ => ?_⟩
        have := eval_ok hs.tm o ho
        rw [hv] at this
        refine wp_cond_false ?_ (hw ι a w Q hs hu hQ)
        generalize a.eval o = z at this
        cases this; rfl
    | _ => rw [hv] at h; cases h
  | block i x ih =>
    intro hX T S e T' S' h
    have h : leave i (code C call rounds x T S) = some (e, T', S') := h
    cases hf : code C call rounds x T S with
    | none => rw [hf] at h; cases h
    | some r =>
      obtain ⟨e1, T1, S1⟩ := r
      rw [hf] at h
      obtain ⟨u1, hw⟩ := ih hX _ _ _ _ _ hf
      cases e1 with
      | go => cases h; exact ⟨u1, fun ι a w Q hs hu hQ => wp_block (hw ι a w _ hs hu hQ)⟩
      | ret => cases h; exact ⟨u1, fun ι a w Q hs hu hQ => wp_block (hw ι a w _ hs hu hQ)⟩
      | exit j =>
        have h : (bif Nat.beq j i then some (Ex.go, T1, S1) else some (Ex.exit j, T1, S1)) = some (e, T', S') := h
        cases hj : Nat.beq j i with
        | true =>
          rw [hj] at h; cases h
          have e0 : j = i := Nat.eq_of_beq_eq_true hj
          refine ⟨u1, fun ι a w Q hs hu hQ => wp_block (hw ι a w _ hs hu fun ι1 a1 w1 hs1 hg1 => ?_)⟩
          show (if j = i then Q .normal a1 w1 else Q (.exit j) a1 w1)
          rw [if_pos e0]; exact hQ ι1 a1 w1 hs1 hg1
        | false =>
          rw [hj] at h; cases h
          have e0 : ¬ j = i := fun e => by rw [e, Nat.beq_refl] at hj; cases hj
          refine ⟨u1, fun ι a w Q hs hu hQ => wp_block (hw ι a w _ hs hu fun ι1 a1 w1 hs1 hg1 => ?_)⟩
          show (if j = i then Q .normal a1 w1 else Q (.exit j) a1 w1)
          rw [if_neg e0]; exact hQ ι1 a1 w1 hs1 hg1
  | loop x ih =>
    intro hX T S e T' S' h
    obtain ⟨u1, hw⟩ := loop_ok (ih hX) rounds T S e T' S' h
    exact ⟨u1, fun ι a w Q hs hu hQ => wp_loop_rounds rounds (hw ι a w Q hs hu hQ)⟩
  | rangeFunc => intro _ T S e T' S' h; cases h
  | scope => intro _ T S e T' S' h; cases h
  | goto => intro _ T S e T' S' h; cases h
  | refuse => intro _ T S e T' S' h; cases h
/-! Results; calls. -/
theorem resL_ok (hok : Ok P C) {N : Nat} {T : Tr Value} {S : St} {a : Act} {w : World} (hs : StR C N ι T S a w) : ∀ (rs : List ResultVar) (l : List Value), resL C S.h T rs = some l → ∃ l', (rs.mapM (fun (r : ResultVar) => (match r with
    | .tmp t => pure (a.tmps.getD t undef)
    | .cell b t => do loadVar t (← asAddr (a.tmps.getD b undef)) : Sem Value))).run P w = .ok l' w ∧ LR ι l l' := by
  intro rs
  induction rs with
  | nil => intro l h; cases h; exact ⟨[], by simp, .nil ι⟩
  | cons r rs ih =>
    intro l h
    unfold resL at h
    cases h1 : resV C S.h T r with
    | none => rw [h1] at h; cases h
    | some v =>
      cases h2 : resL C S.h T rs with
      | none => rw [h1, h2] at h; cases h
      | some vs =>
        rw [h1, h2] at h; cases h
        obtain ⟨l', a1, a2⟩ := ih _ h2
        cases r with
        | tmp t =>
          cases h1
          exact ⟨a.tmps.getD t undef :: l', by simp only [List.mapM_cons, Sem.run_bind, Sem.run_pure, Result.andThen_ok, a1], .cons (hs.tm t) a2⟩
        | cell b t =>
          have h1 : loadX C S.h t (getT T b) = some v := h1
          have hb := hs.tm b
          unfold loadX at h1
          split at h1
          · rename_i ad he
            rw [he] at hb
            obtain ⟨i, hi, _, hy⟩ := ptr_inv hb
            obtain ⟨y, hy2, hv⟩ := loadV_ok hok hs.rel hi h1
            have ha : (asAddr (a.tmps.getD b undef)).run P w = .ok ⟨i.b, ad.off + i.δ, none⟩ w := by rw [hy]; rfl
            exact ⟨y :: l', by simp only [List.mapM_cons, Sem.run_bind, ha, Sem.run_pure, Result.andThen_ok, hy2, a1], .cons hv a2⟩
          · cases h1
theorem tup_ok {l l' : List Value} (h : LR ι l l') : VR ι (tup l) (if h : l'.toArray.size = 1 then l'.toArray[0] else .tuple l'.toArray) := by
  have hl := h.1
  match l, l', h with
  | [], [], _ => exact .tuple' (.nil ι)
  | [v], [w], h => exact h.tail.1
  | a :: b :: l, c :: d :: l', h =>
    have : ¬ ((c :: d :: l').toArray.size = 1) := by simp
    rw [dif_neg this]
    exact .tuple' h
  | [], _ :: _, h => have := h.1; simp at this
  | _ :: _, [], h => have := h.1; simp at this
  | [_], _ :: _ :: _, h => have := h.1; simp at this
  | _ :: _ :: _, [_], h => have := h.1; simp at this
theorem enter_ok (hok : Ok P C) {call : Caller} (hsnd : Snd P C call) (hdr : Drw P C call) (rounds : Nat) {k : Nat} {f : Func} (hf : C.fn.at k = some f) {args : List Value} {S : St} {v : Value} {S' : St} (h : enter C call rounds f.results.toList f.ntmps f.body args S = some (v, S')) :
    (∃ f, C.fn.at k = some f ∧ f.body.isSome = true) ∧ Up S S' ∧ ∀ (ι : IM) (w : World) (args' : Array Value), Wf S → Rel C ι S.h w → LR ι args args'.toList → Un ι S.nx S'.nx →
      Calls P k args' w fun e w' => ∃ v' ι', e = .returned v' ∧ VR ι' v v' ∧ Go1 C ι S.h S.nx w ι' S'.h S'.nx w' := by
  unfold enter at h
  cases hb : f.body with
  | none => rw [hb] at h; cases h
  | some c =>
    rw [hb] at h
    obtain ⟨hX, h⟩ := cond_some' h
    obtain ⟨hX, hle⟩ := (Bool.and_eq_true _ _).mp hX
    have hle : args.length ≤ f.ntmps := Nat.le_of_ble_eq_true hle
    cases hc : code C call rounds c (Tr.of args) S with
    | none => rw [hc] at h; cases h
    | some r =>
      obtain ⟨e, T, S1⟩ := r
      rw [hc] at h
      obtain ⟨u1, hw⟩ := code_ok hok hsnd hdr rounds c hX _ _ _ _ _ hc
      have key : (e = .go ∨ e = .ret) ∧ tupS S1 (resL C S1.h T f.results.toList) = some (v, S') := by
        cases e with
        | go => exact ⟨.inl rfl, h⟩
        | ret => exact ⟨.inr rfl, h⟩
        | exit i => cases h
      obtain ⟨he, h⟩ := key
      cases hr : resL C S1.h T f.results.toList with
      | none => rw [hr] at h; cases h
      | some l =>
        rw [hr] at h; cases h
        refine ⟨⟨f, hf, by rw [hb]; rfl⟩, u1, fun ι w args' hwf hrel hl hu => ?_⟩
        have hlen := hl.1
        simp only [Array.length_toList] at hlen
        refine calls_of_wp (hok.fn k f hf) hb ?_
        have hst : StR C f.ntmps ι (Tr.of args) S { tmps := args' ++ Array.replicate (f.ntmps - args'.size) undef, defers := [] } w := by
          refine ⟨hrel, fun t => ?_, by simp; omega, rfl, hwf⟩
          unfold getT
          rw [Tr.at_of, Array.getD_eq_getD_getElem?]
          rcases Nat.lt_or_ge t args.length with ht | ht
          · obtain ⟨y, hy, hv⟩ := hl.get (List.getElem?_eq_getElem ht)
            rw [List.getElem?_eq_getElem ht, Array.getElem?_append_left (by omega), ← Array.getElem?_toList, hy]
            exact hv
          · rw [List.getElem?_eq_none ht, Array.getElem?_append_right (by omega), Array.getElem?_replicate]
            split <;> exact .undef ι
        refine hw ι _ w _ hst hu fun ι1 a1 w1 hs1 hg1 => ?_
        obtain ⟨l', r1, r2⟩ := resL_ok hok hs1 _ _ hr
        have hres : (results f a1.tmps).run P w1 = .ok (if h : l'.toArray.size = 1 then l'.toArray[0] else .tuple l'.toArray) w1 := by
          unfold results
          simp only [Sem.run_bind]
          have : (f.results.mapM (fun (r : ResultVar) => (match r with
            | .tmp t => pure (a1.tmps.getD t undef)
            | .cell b t => do loadVar t (← asAddr (a1.tmps.getD b undef)) : Sem Value))).run P w1 = .ok l'.toArray w1 := by
            rw [Array.mapM_eq_mapM_toList, Sem.run_map, r1]; rfl
          exact (congrArg (fun z => z.andThen fun a w' => Sem.run P (pure (if h : a.size = 1 then a[0] else .tuple a)) w') this).trans rfl
        have hv := tup_ok r2
        rcases he with rfl | rfl
        · exact bodyPost_end hres hs1.df ⟨_, ι1, rfl, hv, hg1⟩
        · exact bodyPost_ret hres hs1.df ⟨_, ι1, rfl, hv, hg1⟩
theorem run_ok (hok : Ok P C) (hdr : ∀ call, Snd P C call → Drw P C call) (rounds : Nat) : ∀ d, Snd P C (run C rounds d) := by
  intro d
  induction d with
  | zero => intro k args S v S' h; cases h
  | succ d ih =>
    intro k args S v S' h
    have h : enterF C (run C rounds d) rounds args S (C.fn.at k) = some (v, S') := h
    cases hf : C.fn.at k with
    | none => rw [hf] at h; cases h
    | some f =>
      rw [hf] at h
      have := enter_ok hok ih (hdr _ ih) rounds hf h
      rwa [hf] at this
end Go.Proofs.YtpakmmnbkccdcaaDoor.Ev
