/-
  Every act, every call. No condition.
-/
import Derived.Test.YtpakmmnbkccdcaaDoorEvAct3
namespace Go.Proofs.YtpakmmnbkccdcaaDoor.Ev
open Go Go.RowKit
set_option linter.unusedVariables false
variable {P : Program} {C : Cx} {ι : IM}
theorem rH_h {o : Option (Value × Tr AO)} {x : Value} {h' : Tr AO} (h : rH o = .h x h') : o = some (x, h') := by cases o with | none => cases h | some p => cases h; rfl
theorem rV_h {o : Option Value} {x : Value} {h' : Tr AO} (h : rV o = .h x h') : False := by cases o <;> cases h
theorem rN_h {k : Nat} {o : Option (Value × AO)} {x : Value} {h' : Tr AO} (h : rN k o = .h x h') : False := by cases o <;> cases h
theorem r1_h {f : Value → R} {l : List Value} {x : Value} {h' : Tr AO} (h : r1 f l = .h x h') : ∃ a, l = [a] ∧ f a = .h x h' := by
  unfold r1 at h; split at h
  · exact ⟨_, rfl, h⟩
  · cases h
theorem r2_h {f : Value → Value → R} {l : List Value} {x : Value} {h' : Tr AO} (h : r2 f l = .h x h') : ∃ a b, l = [a, b] ∧ f a b = .h x h' := by
  unfold r2 at h; split at h
  · exact ⟨_, _, rfl, h⟩
  · cases h
theorem t1_h {f : TypeId → R} {l : List TypeId} {x : Value} {h' : Tr AO} (h : t1 f l = .h x h') : ∃ t r, l = t :: r ∧ f t = .h x h' := by
  unfold t1 at h; split at h
  · exact ⟨_, _, rfl, h⟩
  · cases h
theorem t2_h {f : TypeId → TypeId → R} {l : List TypeId} {x : Value} {h' : Tr AO} (h : t2 f l = .h x h') : ∃ t u r, l = t :: u :: r ∧ f t u = .h x h' := by
  unfold t2 at h; split at h
  · exact ⟨_, _, _, rfl, h⟩
  · cases h
theorem get1 {ats : Array TypeId} {t u : TypeId} {r : List TypeId} (h : ats.toList = t :: u :: r) : ats[1]? = some u := by rw [← Array.getElem?_toList, h]; rfl
theorem bi_h (hok : Ok P C) {H : Tr AO} {w : World} (hr : Rel C ι H w) {b : Builtin} {ats : Array TypeId} {u : TypeId} {as : List Value} {as' : Array Value} {k : Nat} (hk : ι k = none) {x : Value} {H' : Tr AO} (h : biR C H b ats.toList as k = .h x H') (hl : LR ι as as'.toList) (cs : Array Bool) :
    NA P C ι H w (builtin b ats u cs as') k x H' := by
  unfold biR at h
  split at h
  · obtain ⟨t, r, ht, h⟩ := t1_h h
    obtain ⟨a, rfl, h⟩ := r1_h h
    exact (rV_h h).elim
  · obtain ⟨t, r, ht, h⟩ := t1_h h
    obtain ⟨a, rfl, h⟩ := r1_h h
    exact (rV_h h).elim
  · obtain ⟨a, c, rfl, h⟩ := r2_h h
    exact (rV_h h).elim
  · obtain ⟨a, c, rfl, h⟩ := r2_h h
    exact (rV_h h).elim
  · obtain ⟨t, u2, r, ht, h⟩ := t2_h h
    obtain ⟨a, c, rfl, h⟩ := r2_h h
    obtain ⟨a', c', rfl, ha, hc⟩ := hl.two
    exact app_go hok hr ha hc hk (rH_h h) (get0 ht) (get1 ht)
  · obtain ⟨t, r, ht, h⟩ := t1_h h
    obtain ⟨a, c, rfl, h⟩ := r2_h h
    obtain ⟨a', c', rfl, ha, hc⟩ := hl.two
    exact copyV_ok hok hr ha hc (rH_h h) (get0 ht) k
  · obtain ⟨t, r, ht, h⟩ := t1_h h
    obtain ⟨a, c, rfl, h⟩ := r2_h h
    obtain ⟨a', c', rfl, ha, hc⟩ := hl.two
    exact deleteV_ok hok hr ha hc (rH_h h) (get0 ht) k
  · obtain ⟨t, r, ht, h⟩ := t1_h h
    obtain ⟨a, rfl, h⟩ := r1_h h
    obtain ⟨a', rfl, ha⟩ := hl.one
    exact clearV_ok hok hr ha (rH_h h) (get0 ht) k
  · cases h
theorem convR_h {H : Tr AO} {s d : TypeId} {x r : Value} {k : Nat} {h' : Tr AO} (h : convR C H s d x k = .h r h') : False := by
  unfold convR at h
  split at h
  · unfold convD at h
    split at h
    · split at h <;> cases h
    · split at h
      · cases h
      · unfold convS at h
        split at h
        · split at h
          · exact rV_h h
          · cases h
        · cases h
      · cases h
    · split at h
      · cases h
      · cases h
    · cases h
  · cases h
set_option maxHeartbeats 1000000 in
theorem act_ok (hok : Ok P C) {H : Tr AO} {w : World} (hr : Rel C ι H w) {v v' : Operand → Value} {o : Oper} (hx0 : ∀ y, y ∈ o.op.operands.toList → VR ι (v y) (v' y)) {k : Nat} (hk : ι k = none) {x : Value} {H' : Tr AO} (h : opR o.op C H k v = .h x H') :
    NA P C ι H w (execOp v' o) k x H' := by
  obtain ⟨dst, op, ty, pos, aft, g⟩ := o
  dsimp only at h hx0 ⊢
  have hx : ∀ y, y ∈ op.operands.toList → VR ι (v y) (v' y) := hx0
  cases op with
  | insert t m a b => exact mapSetV_ok hok hr (hx m (by simp [Op.operands])) (hx a (by simp [Op.operands])) (hx b (by simp [Op.operands])) (rH_h h) k
  | mapUpdate t m a b => exact mapSetV_ok hok hr (hx m (by simp [Op.operands])) (hx a (by simp [Op.operands])) (hx b (by simp [Op.operands])) (rH_h h) k
  | store t a b => exact storeV_ok hok hr (hx a (by simp [Op.operands])) (hx b (by simp [Op.operands])) (rH_h h) k
  | next a s => exact nextV_ok hr (hx a (by simp [Op.operands])) (rH_h h) k
  | call c =>
    obtain ⟨cal, args, ats⟩ := c
    have hl : LR ι (args.toList.map v) (args.toList.map v') := LR.map fun y hy => hx y (by
      simp only [Op.operands, Call.operands, Array.toList_append, List.mem_append]; exact .inr hy)
    cases cal with
    | builtin b =>
      obtain ⟨n, x', w1, ι1, a1, a2⟩ := bi_h (ats := ats) (u := ty) hok hr (as' := args.map v') hk h (by simpa using hl) (args.map fun | .const _ => true | _ => false)
      refine ⟨n, x', w1, ι1, ?_, a2⟩
      simp only [execOp, resolve, Sem.run_bind, Sem.run_pure, Result.andThen_ok, invoke]
      exact a1
    | value f =>
      have h : funR (v f) (args.toList.map v) = .h x H' := h
      unfold funR at h; split at h <;> cases h
    | invoke f m => cases h
  | convert s d a => exact (convR_h h).elim
  | alloc => exact (rN_h (k := 0) h).elim
  | box => cases h
  | buildSlice => exact (rN_h (k := 0) h).elim
  | makeMap => exact (rN_h (k := 0) h).elim
  | makeSlice => exact (rN_h (k := 0) h).elim
  | range => exact (rN_h (k := 0) h).elim
  | pick => exact (rV_h h).elim
  | build => exact (rV_h h).elim
  | load => exact (rV_h h).elim
  | nilCheck => exact (rV_h h).elim
  | binOp => exact (rV_h h).elim
  | unOp => exact (rV_h h).elim
  | makeInterface => exact (rV_h h).elim
  | slice => exact (rV_h h).elim
  | fieldAddr => exact (rV_h h).elim
  | field => exact (rV_h h).elim
  | indexAddr => exact (rV_h h).elim
  | index => exact (rV_h h).elim
  | lookup => exact (rV_h h).elim
  | typeAssert => exact (rV_h h).elim
  | extract => exact (rV_h h).elim
  | _ => cases h
theorem rV_c {o : Option Value} {g : Nat} {as : List Value} (h : rV o = .c g as) : False := by cases o <;> cases h
theorem rN_c {k : Nat} {o : Option (Value × AO)} {g : Nat} {as : List Value} (h : rN k o = .c g as) : False := by cases o <;> cases h
theorem rH_c {o : Option (Value × Tr AO)} {g : Nat} {as : List Value} (h : rH o = .c g as) : False := by cases o <;> cases h
theorem biR_c {H : Tr AO} {b : Builtin} {ts : List TypeId} {as : List Value} {k : Nat} {g : Nat} {l : List Value} (h : biR C H b ts as k = .c g l) : False := by
  unfold biR at h
  split at h <;> first
    | (cases h; done)
    | (unfold r2 at h; split at h <;> first | exact rV_c h | exact rH_c h | cases h)
    | (unfold t2 at h; split at h <;> first
        | (unfold r2 at h; split at h <;> first | exact rH_c h | cases h)
        | cases h)
    | (unfold t1 at h; split at h <;> first
        | (unfold r1 at h; split at h <;> first | exact rV_c h | exact rH_c h | cases h)
        | (unfold r2 at h; split at h <;> first | exact rV_c h | exact rH_c h | cases h)
        | cases h)
theorem convR_c {H : Tr AO} {s d : TypeId} {x : Value} {k g : Nat} {l : List Value} (h : convR C H s d x k = .c g l) : False := by
  unfold convR at h
  split at h
  · unfold convD at h
    split at h
    · split at h <;> cases h
    · split at h
      · cases h
      · unfold convS at h
        split at h
        · split at h
          · exact rV_c h
          · cases h
        · cases h
      · cases h
    · split at h
      · cases h
      · cases h
    · cases h
  · cases h
set_option maxHeartbeats 1000000 in
theorem call_ok (hok : Ok P C) {H : Tr AO} {w : World} {v v' : Operand → Value} {o : Oper} (hx0 : ∀ y, y ∈ o.op.operands.toList → VR ι (v y) (v' y)) {k g : Nat} {l : List Value} (h : opR o.op C H k v = .c g l) {f : Func} (hf : C.fn.at g = some f) (hb : f.body.isSome = true) :
    ∃ l', (execOp v' o).run P w = .ok (.enter g l') w ∧ LR ι l l'.toList := by
  obtain ⟨dst, op, ty, pos, aft, gu⟩ := o
  dsimp only at h hx0 ⊢
  have hx : ∀ y, y ∈ op.operands.toList → VR ι (v y) (v' y) := hx0
  cases op with
  | call c =>
    obtain ⟨cal, args, ats⟩ := c
    have hl : LR ι (args.toList.map v) (args.toList.map v') := LR.map fun y hy => hx y (by
      simp only [Op.operands, Call.operands, Array.toList_append, List.mem_append]; exact .inr hy)
    cases cal with
    | builtin b => exact (biR_c h).elim
    | value fv =>
      have h : funR (v fv) (args.toList.map v) = .c g l := h
      have hfv := hx fv (by simp [Op.operands, Call.operands])
      unfold funR at h
      split at h
      · rename_i k' first capt he
        cases h
        rw [he] at hfv
        generalize hy : v' fv = y at hfv
        cases hfv with
        | func _ h1 h2 h3 h4 =>
          rename_i b d
          refine ⟨b ++ args.map v' ++ d, ?_, ?_⟩
          · have hn : (f.name == "runtime.NumGoroutine") = false := by simpa using hok.nm g f hf hb
            have hbn : f.body.isNone = false := by cases hq : f.body <;> simp_all
            simp only [execOp, resolve, Sem.run_bind, Sem.run_pure, Result.andThen_ok, hy, Deferred.ofValue, invoke, callFunc, run_program, hok.fn g f hf, hn, hbn, Bool.false_eq_true, if_false]
          · rw [Array.toList_append, Array.toList_append, List.append_assoc, Array.toList_map]
            exact (LR.ofArr h1 h2).append (hl.append (LR.ofArr h3 h4))
      · cases h
    | invoke f m => cases h
  | convert s d a => exact (convR_c h).elim
  | alloc => exact (rN_c (k := 0) h).elim
  | box => cases h
  | buildSlice => exact (rN_c (k := 0) h).elim
  | makeMap => exact (rN_c (k := 0) h).elim
  | makeSlice => exact (rN_c (k := 0) h).elim
  | range => exact (rN_c (k := 0) h).elim
  | pick => exact (rV_c h).elim
  | build => exact (rV_c h).elim
  | load => exact (rV_c h).elim
  | nilCheck => exact (rV_c h).elim
  | binOp => exact (rV_c h).elim
  | unOp => exact (rV_c h).elim
  | makeInterface => exact (rV_c h).elim
  | slice => exact (rV_c h).elim
  | fieldAddr => exact (rV_c h).elim
  | field => exact (rV_c h).elim
  | indexAddr => exact (rV_c h).elim
  | index => exact (rV_c h).elim
  | lookup => exact (rV_c h).elim
  | typeAssert => exact (rV_c h).elim
  | extract => exact (rV_c h).elim
  | insert => exact (rH_c h).elim
  | mapUpdate => exact (rH_c h).elim
  | store => exact (rH_c h).elim
  | next => exact (rH_c h).elim
  | _ => cases h
end Go.Proofs.YtpakmmnbkccdcaaDoor.Ev
