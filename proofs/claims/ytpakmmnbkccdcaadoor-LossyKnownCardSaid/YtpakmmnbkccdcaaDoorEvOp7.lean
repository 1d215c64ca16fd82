/-
  Every operation that only looks does what the plain machine tells. No condition.
-/
import Derived.Test.YtpakmmnbkccdcaaDoorEvOp6
namespace Go.Proofs.YtpakmmnbkccdcaaDoor.Ev
open Go Go.RowKit
set_option linter.unusedVariables false
variable {P : Program} {C : Cx} {ι : IM}
theorem nilV_ok {x r : Value} (h : nilV x = some r) {x' : Value} (hx : VR ι x x') : VR ι r x' ∧ ((∃ a, x' = .pointer (some a)) ∨ (∃ f p c, x' = .func (.func f) p c) ∨ (∃ t y, x' = .iface t y)) := by
  unfold nilV at h
  split at h
  · cases h; obtain ⟨i, _, _, rfl⟩ := ptr_inv hx; exact ⟨hx, .inl ⟨_, rfl⟩⟩
  · cases h; cases hx with | func f h1 h2 h3 h4 => exact ⟨.func _ h1 h2 h3 h4, .inr (.inl ⟨_, _, _, rfl⟩)⟩
  · cases h; cases hx with | iface t h => exact ⟨.iface _ h, .inr (.inr ⟨_, _, rfl⟩)⟩
  · cases h
theorem mapP_ok {v v' : Operand → Value} {ps : List (Nat × Operand)} (h : ∀ p ∈ ps, VR ι (v p.2) (v' p.2)) : PR ι (mapP v ps) (mapP v' ps) := by
  refine ⟨by simp [mapP], fun j a b ha hb => ?_⟩
  unfold mapP at ha hb
  rw [List.getElem?_map, Option.map_eq_some_iff] at ha hb
  obtain ⟨p, hp, rfl⟩ := ha
  obtain ⟨q, hq, rfl⟩ := hb
  rw [hp] at hq; cases hq
  exact ⟨rfl, h p (List.mem_of_getElem? hp)⟩
theorem mapP_arr (v : Operand → Value) (ps : Array (Nat × Operand)) : (ps.map fun (p : Nat × Operand) => (p.1, v p.2)) = (mapP v ps.toList).toArray := by
  apply Array.ext'; simp [mapP]
theorem optV_ok {v v' : Operand → Value} {x : Option Operand} (h : ∀ y, x = some y → VR ι (v y) (v' y)) : OR ι (optV v x) (x.map v') := by
  cases x with
  | none => trivial
  | some y => exact h y rfl
theorem NV.of2 {w : World} {s : Sem Next} {s' : Sem Value} {x : Value} (h : Val P ι w s' x) (e : s = (do pure (.value (← s')))) : NV P ι w s x := by rw [e]; exact .of h
theorem r1_v {f : Value → R} {l : List Value} {x : Value} (h : r1 f l = .v x) : ∃ a, l = [a] ∧ f a = .v x := by
  unfold r1 at h; split at h
  · exact ⟨_, rfl, h⟩
  · cases h
theorem r2_v {f : Value → Value → R} {l : List Value} {x : Value} (h : r2 f l = .v x) : ∃ a b, l = [a, b] ∧ f a b = .v x := by
  unfold r2 at h; split at h
  · exact ⟨_, _, rfl, h⟩
  · cases h
theorem t1_v {f : TypeId → R} {l : List TypeId} {x : Value} (h : t1 f l = .v x) : ∃ t r, l = t :: r ∧ f t = .v x := by
  unfold t1 at h; split at h
  · exact ⟨_, _, rfl, h⟩
  · cases h
theorem t2_v {f : TypeId → TypeId → R} {l : List TypeId} {x : Value} (h : t2 f l = .v x) : ∃ t u r, l = t :: u :: r ∧ f t u = .v x := by
  unfold t2 at h; split at h
  · exact ⟨_, _, _, rfl, h⟩
  · cases h
theorem convR_v (hok : Ok P C) {H : Tr AO} {w : World} (hr : Rel C ι H w) {s d : TypeId} {x r : Value} {k : Nat} (h : convR C H s d x k = .v r) {x' : Value} (hx : VR ι x x') : Val P ι w (convert s d x') r := by
  unfold convR at h
  split at h
  · rename_i us ud hs hd
    unfold convD at h
    split at h
    · split at h
      · cases h; cases hx
        refine val_self ?_ rfl
        simp only [convert, Sem.run_bind, hok.und hs, hok.und hd, Result.andThen_ok, Conv.intToInt, Sem.run_pure, wr_is]
      · cases h
    · split at h
      · cases h; cases hx
        refine val_self ?_ rfl
        simp only [convert, Sem.run_bind, hok.und hs, hok.und hd, Result.andThen_ok, Sem.run_pure]
      · rename_i a n c
        unfold convS at h
        split at h
        · rename_i e
          split at h
          · rename_i he
            obtain ⟨y, hy, hv⟩ := bytesV_ok (P := P) hr (rV_v h) hx
            refine ⟨y, ?_, hv⟩
            cases hx <;> simp only [convert, Sem.run_bind, hok.und hs, hok.und hd, hok.und he, Result.andThen_ok, hy]
          · cases h
        · cases h
      · cases h
    · split at h
      · cases h
      · cases h
    · cases h
  · cases h
theorem arr1 {l : Array Value} {a : Value} (h : l.toList = [a]) : l = #[a] := by cases l; simp at h; rw [h]
theorem arr2 {l : Array Value} {a b : Value} (h : l.toList = [a, b]) : l = #[a, b] := by cases l; simp at h; rw [h]
theorem LR.one {a : Value} {l : Array Value} (h : LR ι [a] l.toList) : ∃ b, l = #[b] ∧ VR ι a b := by
  obtain ⟨xs⟩ := l
  cases xs with
  | nil => have := h.1; simp at this
  | cons b r =>
    cases r with
    | nil => exact ⟨b, rfl, h.tail.1⟩
    | cons => have := h.1; simp at this
theorem LR.two {a b : Value} {l : Array Value} (h : LR ι [a, b] l.toList) : ∃ c d, l = #[c, d] ∧ VR ι a c ∧ VR ι b d := by
  obtain ⟨xs⟩ := l
  cases xs with
  | nil => have := h.1; simp at this
  | cons c r =>
    cases r with
    | nil => have := h.1; simp at this
    | cons d r =>
      cases r with
      | nil => exact ⟨c, d, rfl, h.tail.1, h.tail.2.tail.1⟩
      | cons => have := h.1; simp at this
theorem get0 {ats : Array TypeId} {t : TypeId} {r : List TypeId} (h : ats.toList = t :: r) : ats[0]? = some t := by rw [← Array.getElem?_toList, h]; rfl
theorem bi_v (hok : Ok P C) {H : Tr AO} {w : World} (hr : Rel C ι H w) {b : Builtin} {ats : Array TypeId} {u : TypeId} {as : List Value} {as' : Array Value} {k : Nat} {x : Value} (h : biR C H b ats.toList as k = .v x) (hl : LR ι as as'.toList) :
    ∃ y, (∀ cs, (builtin b ats u cs as').run P w = .ok (.value y) w) ∧ VR ι x y := by
  have nv : ∀ {s : Sem Value}, Val P ι w s x → (∀ cs, builtin b ats u cs as' = (do pure (.value (← s)))) → ∃ y, (∀ cs, (builtin b ats u cs as').run P w = .ok (.value y) w) ∧ VR ι x y := by
    rintro s ⟨y, hy, hv⟩ e
    exact ⟨y, fun cs => by rw [e]; simp only [Sem.run_bind, hy, Result.andThen_ok, Sem.run_pure], hv⟩
  unfold biR at h
  split at h
  · obtain ⟨t, r, ht, h⟩ := t1_v h
    obtain ⟨a, rfl, h⟩ := r1_v h
    obtain ⟨a', rfl, ha⟩ := hl.one
    exact nv (lenV_ok (u := u) hok hr (rV_v h) ha (get0 ht)) (fun _ => rfl)
  · obtain ⟨t, r, ht, h⟩ := t1_v h
    obtain ⟨a, rfl, h⟩ := r1_v h
    obtain ⟨a', rfl, ha⟩ := hl.one
    exact nv (capV_ok (u := u) hok hr (rV_v h) ha (get0 ht)) (fun _ => rfl)
  · obtain ⟨a, c, rfl, h⟩ := r2_v h
    obtain ⟨a', c', rfl, ha, hc⟩ := hl.two
    exact nv (minV_ok (ts := ats) (u := u) (rV_v h) ha hc w) (fun _ => rfl)
  · obtain ⟨a, c, rfl, h⟩ := r2_v h
    obtain ⟨a', c', rfl, ha, hc⟩ := hl.two
    exact nv (maxV_ok (ts := ats) (u := u) (rV_v h) ha hc w) (fun _ => rfl)
  · obtain ⟨t, u, r, ht, h⟩ := t2_v h
    obtain ⟨a, c, rfl, h⟩ := r2_v h
    exact (rH_v h).elim
  · obtain ⟨t, r, ht, h⟩ := t1_v h
    obtain ⟨a, c, rfl, h⟩ := r2_v h
    exact (rH_v h).elim
  · obtain ⟨t, r, ht, h⟩ := t1_v h
    obtain ⟨a, c, rfl, h⟩ := r2_v h
    exact (rH_v h).elim
  · obtain ⟨t, r, ht, h⟩ := t1_v h
    obtain ⟨a, rfl, h⟩ := r1_v h
    exact (rH_v h).elim
  · cases h
theorem funR_v {f : Value} {as : List Value} {x : Value} (h : funR f as = .v x) : False := by
  unfold funR at h; split at h <;> cases h
set_option maxHeartbeats 1000000 in
theorem look_ok (hok : Ok P C) {H : Tr AO} {w : World} (hr : Rel C ι H w) {v v' : Operand → Value} {o : Oper} (hx0 : ∀ y, y ∈ o.op.operands.toList → VR ι (v y) (v' y)) {k : Nat} {x : Value} (h : opR o.op C H k v = .v x) :
    NV P ι w (execOp v' o) x := by
  obtain ⟨dst, op, ty, pos, aft, g⟩ := o
  dsimp only at h hx0 ⊢
  have hx : ∀ y, y ∈ op.operands.toList → VR ι (v y) (v' y) := hx0
  cases op with
  | move a => cases h; exact ⟨v' a, rfl, hx _ (by simp [Op.operands])⟩
  | assign a => cases h; exact ⟨v' a, rfl, hx _ (by simp [Op.operands])⟩
  | pick c a b =>
    have h := rV_v h
    unfold pickV at h
    split at h
    · rename_i t hc
      cases h
      have h1 := hx c (by simp [Op.operands])
      rw [hc] at h1
      cases t with
      | true => refine ⟨v' a, ?_, hx a (by simp [Op.operands])⟩; generalize hc' : v' c = c' at h1; cases h1; simp [execOp, hc', asBool]
      | false => refine ⟨v' b, ?_, hx b (by simp [Op.operands])⟩; generalize hc' : v' c = c' at h1; cases h1; simp [execOp, hc', asBool]
    · cases h
  | alloc t => exact (rN_v (k := 0) h).elim
  | box t a => cases h
  | build t ps =>
    refine NV.of2 (s' := Instr.build t (mapP v' ps.toList).toArray) (buildV_ok hok (rV_v h) (mapP_ok fun p hp => hx _ ?_) w) ?_
    · simp only [Op.operands, List.mem_map]; exact ⟨p, by simpa using hp, rfl⟩
    · rw [← mapP_arr]; rfl
  | buildSlice t n ps => exact (rN_v (k := 0) h).elim
  | insert t m a b => exact (rH_v h).elim
  | load t a => exact NV.of2 (loadX_ok hok hr (rV_v h) (hx a (by simp [Op.operands]))) rfl
  | store t a b => exact (rH_v h).elim
  | nilCheck a =>
    obtain ⟨h1, h2⟩ := nilV_ok (rV_v h) (hx a (by simp [Op.operands]))
    refine ⟨v' a, ?_, h1⟩
    rcases h2 with ⟨_, e⟩ | ⟨_, _, _, e⟩ | ⟨_, _, e⟩ <;> simp [execOp, e]
  | binOp b t a c u =>
    refine NV.of2 (binV_ok hok (rV_v h) rfl (hx a (by simp [Op.operands])) (hx c (by simp [Op.operands])) w) ?_
    rfl
  | unOp b t a => exact NV.of2 (unV_ok (rV_v h) (hx a (by simp [Op.operands])) w) rfl
  | convert s d a => exact NV.of2 (convR_v hok hr h (hx a (by simp [Op.operands]))) rfl
  | makeInterface t a => exact NV.of2 (ifaceV_ok hok (rV_v h) (hx a (by simp [Op.operands])) w) rfl
  | makeFunc f a c =>
    cases h
    refine ⟨.func f (a.map v') (c.map v'), by simp [execOp, Instr.makeFunc], ?_⟩
    have l1 : LR ι (a.toList.map v) (a.toList.map v') := LR.map fun y hy => hx y (by simp only [Op.operands, Array.toList_append, List.mem_append]; exact .inl hy)
    have l2 : LR ι (c.toList.map v) (c.toList.map v') := LR.map fun y hy => hx y (by simp only [Op.operands, Array.toList_append, List.mem_append]; exact .inr hy)
    exact .func f (by simp) (fun j p q hp hq => l1.2 j p q (by simpa using hp) (by simpa using hq)) (by simp) (fun j p q hp hq => l2.2 j p q (by simpa using hp) (by simpa using hq))
  | makeMap t r => exact (rN_v (k := 0) h).elim
  | makeSlice t a b => exact (rN_v (k := 0) h).elim
  | slice t a lo hi mx =>
    refine NV.of2 (sliceV_ok hok hr (rV_v h) (hx a ?_) (optV_ok fun y e => hx y ?_) (optV_ok fun y e => hx y ?_) (optV_ok fun y e => hx y ?_)) rfl <;> (try subst e) <;> simp [Op.operands]
  | fieldAddr t a f => exact NV.of2 (fieldAddrV_ok hok (rV_v h) (hx a (by simp [Op.operands])) w) rfl
  | field t a f => exact NV.of2 (fieldV_ok hok (rV_v h) (hx a (by simp [Op.operands])) w) rfl
  | indexAddr t a i => exact NV.of2 (indexAddrV_ok hok (rV_v h) (hx a (by simp [Op.operands])) (hx i (by simp [Op.operands])) w) rfl
  | index t a i => exact NV.of2 (indexV_ok hok (rV_v h) (hx a (by simp [Op.operands])) (hx i (by simp [Op.operands])) w) rfl
  | lookup t a i ok => exact NV.of2 (lookupV_ok hok hr (rV_v h) (hx a (by simp [Op.operands])) (hx i (by simp [Op.operands]))) rfl
  | mapUpdate t m a b => exact (rH_v h).elim
  | range t a => exact (rN_v (k := 0) h).elim
  | next a s => exact (rH_v h).elim
  | entry a => cases h
  | typeAssert a u t ok => exact NV.of2 (assertV_ok hok (rV_v h) (hx a (by simp [Op.operands])) w) rfl
  | extract a i => exact NV.of2 (extractV_ok (rV_v h) (hx a (by simp [Op.operands])) w) rfl
  | call c =>
    obtain ⟨cal, args, ats⟩ := c
    have hl : LR ι (args.toList.map v) (args.toList.map v') := LR.map fun y hy => hx y (by
      simp only [Op.operands, Call.operands, Array.toList_append, List.mem_append]; exact .inr hy)
    cases cal with
    | builtin b =>
      obtain ⟨y, hy, hv⟩ := bi_v (ats := ats) (u := ty) hok hr (as' := args.map v') h (by simpa using hl)
      refine ⟨y, ?_, hv⟩
      have hy := hy (args.map fun | .const _ => true | _ => false)
      simp only [execOp, resolve, Sem.run_bind, Sem.run_pure, Result.andThen_ok, invoke]
      exact hy
    | value f => exact (funR_v h).elim
    | invoke f m => cases h
  | _ => cases h
end Go.Proofs.YtpakmmnbkccdcaaDoor.Ev
