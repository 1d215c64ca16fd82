/-
  Each operation that only looks: all of them together. No condition.
-/
import Derived.Test.YtpakmmnbkccdcaaDoorEvOp4
namespace Go.Proofs.YtpakmmnbkccdcaaDoor.Ev
open Go Go.RowKit
set_option linter.unusedVariables false
variable {P : Program} {C : Cx} {ι : IM}
theorem okV_ok {ok : Bool} {x x' : Value} (b : Bool) (h : VR ι x x') : VR ι (okV ok x b) (if ok = true then .tuple #[x', .bool b] else x') := by
  cases ok with
  | true => exact .tuple' (LR.cons h (.cons (.bool b) (.nil ι)))
  | false => exact h
theorem failV_ok (hok : Ok P C) {t : TypeId} {ok : Bool} {r : Value} (h : failV C t ok = some r) (w : World) : ok = true ∧ ∃ z, (zeroValue t).run P w = .ok z w ∧ VR ι r (.tuple #[z, .bool false]) := by
  unfold failV at h
  obtain ⟨e, h⟩ := cond_some' h
  subst e
  cases hz : zer C t with
  | none => rw [hz] at h; cases h
  | some z =>
    rw [hz] at h; cases h
    obtain ⟨a, b⟩ := hok.zer hz w
    exact ⟨rfl, z, a, okV_ok (ok := true) false (okZ_self ι b)⟩
theorem assertC_ok (hok : Ok P C) {t xt : TypeId} {ok : Bool} {x r : Value} (h : assertC C t ok x = some r) {u : TypeDesc} (hu : Ev.und C t = some u) (hni : ∀ ms, u ≠ .interface ms) {x' : Value} (hx : VR ι x x') (w : World) : Val P ι w (Instr.typeAssert x' xt t ok) r := by
  unfold assertC at h
  split at h
  · rename_i t' y
    cases hx with
    | iface _ hy =>
      cases hb : Nat.beq t' t with
      | true =>
        rw [hb] at h; cases h
        have e : t' = t := Nat.eq_of_beq_eq_true hb
        subst e
        refine ⟨_, ?_, okV_ok true hy⟩
        simp only [Instr.typeAssert, Sem.run_bind, hok.und hu, Result.andThen_ok]
        cases u <;> first | exact absurd rfl (hni _) | (simp; done)
      | false =>
        rw [hb] at h
        obtain ⟨e, z, hz, hv⟩ := failV_ok (ι := ι) hok h w
        subst e
        have ne : ¬ t' = t := fun e => by rw [e, Nat.beq_refl] at hb; cases hb
        refine ⟨_, ?_, hv⟩
        simp only [Instr.typeAssert, Sem.run_bind, hok.und hu, Result.andThen_ok]
        cases u <;> first | exact absurd rfl (hni _) | (simp [ne, hz]; done)
  · cases hx
    obtain ⟨e, z, hz, hv⟩ := failV_ok (ι := ι) hok h w
    subst e
    refine ⟨_, ?_, hv⟩
    simp only [Instr.typeAssert, Sem.run_bind, hok.und hu, Result.andThen_ok]
    cases u <;> first | exact absurd rfl (hni _) | (simp [hz]; done)
  · cases h
theorem assertV_ok (hok : Ok P C) {t xt : TypeId} {ok : Bool} {x r : Value} (h : assertV C t ok x = some r) {x' : Value} (hx : VR ι x x') (w : World) : Val P ι w (Instr.typeAssert x' xt t ok) r := by
  unfold assertV at h
  cases hu : Ev.und C t with
  | none => rw [hu] at h; cases h
  | some u =>
    rw [hu] at h
    cases u <;> first | (cases h; done) | exact assertC_ok hok h hu (by intros; simp) hx w
theorem extractV_ok {x r : Value} {i : Nat} (h : extractV x i = some r) {x' : Value} (hx : VR ι x x') (w : World) : Val P ι w (Instr.extract x' i) r := by
  unfold extractV at h
  split at h
  · obtain ⟨vs, rfl, hl⟩ := hx.tuple_inv
    obtain ⟨y, hy, hv⟩ := hl.get h
    have hy' : vs[i]? = some y := by simpa using hy
    exact ⟨y, by simp [Instr.extract, hy'], hv⟩
  · cases h
theorem ifaceV_ok (hok : Ok P C) {t : TypeId} {x r : Value} (h : ifaceV C t x = some r) {x' : Value} (hx : VR ι x x') (w : World) : Val P ι w (Instr.makeInterface t x') r := by
  unfold ifaceV at h
  cases hu : Ev.und C t with
  | none => rw [hu] at h; cases h
  | some u =>
    rw [hu] at h
    cases u <;> first | (cases h; done) | (cases h; exact ⟨.iface t x', by simp [Instr.makeInterface, hok.und hu], .iface t hx⟩)
theorem run_mapM_arr {fs : Array Field} {w : World} {l : List (Nat × Nat)} (h : (fs.toList.mapM (fun (f : Field) => do pure (f.offset, ← sizeOf f.type))).run P w = .ok l w) :
    (fs.mapM (fun (f : Field) => do pure (f.offset, ← sizeOf f.type))).run P w = .ok l.toArray w := by
  rw [Array.mapM_eq_mapM_toList, Sem.run_map, h]; rfl
theorem sizAll_ok : ∀ (fs : List Field), sizAll C fs = true → ∀ f ∈ fs, ∃ s, siz C f.type = some s
  | [], _, f, hf => by cases hf
  | g :: fs, h, f, hf => by
    unfold sizAll at h
    cases hs : siz C g.type with
    | none => rw [hs] at h; cases h
    | some s =>
      rw [hs] at h
      rcases List.mem_cons.1 hf with e | e
      · rw [e]; exact ⟨s, hs⟩
      · exact sizAll_ok fs h f e
theorem buildV_ok (hok : Ok P C) {t : TypeId} {ps ps' : List (Nat × Value)} {r : Value} (h : buildV C t ps = some r) (hps : PR ι ps ps') (w : World) : Val P ι w (Instr.build t ps'.toArray) r := by
  unfold buildV at h
  split at h
  · rename_i fs z hu hz
    obtain ⟨z1, z2⟩ := hok.zer hz w
    obtain ⟨hs, h⟩ := cond_some' h
    cases hf : fillC (placeS C fs.toList) (cellsL z) ps with
    | none => rw [hf] at h; cases h
    | some l =>
      rw [hf] at h; cases h
      obtain ⟨pl, p1, p2⟩ := run_mapM_fields hok w fs.toList (sizAll_ok _ hs)
      obtain ⟨l', f1, f2⟩ := fillC_ok (ι := ι) (place' := fun i => pl.toArray[i]?) (fun i q e => by simpa [p2 i] using e) ps ps' _ _ z.cells hf hps (okZ_self ι z2).cells
      refine ⟨.agg l', ?_, by have := VR.agg' f2; rwa [Array.toArray_toList] at this⟩
      simp only [Instr.build, Sem.run_bind, z1, hok.und hu, Result.andThen_ok, run_mapM_arr p1, f1, Sem.run_pure]
  · rename_i n e z hu hz
    obtain ⟨z1, z2⟩ := hok.zer hz w
    split at h
    · rename_i s hs
      cases hf : fillC (fun i => some (i * s, s)) (cellsL z) ps with
      | none => rw [hf] at h; cases h
      | some l =>
        rw [hf] at h; cases h
        obtain ⟨l', f1, f2⟩ := fillC_ok (ι := ι) (fun i q e => e) ps ps' _ _ z.cells hf hps (okZ_self ι z2).cells
        refine ⟨.agg l', ?_, by have := VR.agg' f2; rwa [Array.toArray_toList] at this⟩
        simp only [Instr.build, Sem.run_bind, z1, hok.und hu, Result.andThen_ok, hok.siz hs, f1, Sem.run_pure]
    · cases h
  · cases h
theorem loadX_ok (hok : Ok P C) {H : Tr AO} {w : World} (hr : Rel C ι H w) {t : TypeId} {x r : Value} (h : loadX C H t x = some r) {x' : Value} (hx : VR ι x x') : Val P ι w (Instr.loadAt t x') r := by
  unfold loadX at h
  split at h
  · obtain ⟨i, hi, ha, rfl⟩ := ptr_inv hx
    obtain ⟨y, hy, hv⟩ := loadV_ok hok hr hi h
    exact ⟨y, by simp [Instr.loadAt, Instr.sureAddr, hy], hv⟩
  · cases h
/-! Maps. -/
theorem keyEq_ok {d : TypeDesc} {x y : Value} {b : Bool} (h : keyEq d x y = some b) {x' y' : Value} (hx : VR ι x x') (hy : VR ι y y') : Instr.sameNow d x' y' = some b := by
  unfold keyEq at h
  split at h
  · unfold keyI at h
    split at h
    · cases hx; cases hy
      obtain ⟨e, h2⟩ := cond_some h
      obtain rfl := eqK_is e
      subst h2
      simp [Instr.sameNow, eqI_is]
    · cases h
  · unfold keyS at h
    split at h
    · cases hx; cases hy; cases h
      simp [Instr.sameNow, eqB_is, beq_toListBytes]
    · cases h
  · unfold keyB at h
    split at h
    · cases hx; cases hy; cases h
      simp [Instr.sameNow, beq_cond]
    · cases h
  · cases h
def FR (ι : IM) : Option (Nat × Value) → Option (Nat × Value) → Prop
  | none, none => True
  | some p, some q => p.1 = q.1 ∧ VR ι p.2 q.2
  | _, _ => False
theorem EsR.tail {a : Ent} {as : List Ent} {b : MapEntry} {bs : List MapEntry} (h : EsR ι (a :: as) (b :: bs)) : EntR ι a b ∧ EsR ι as bs :=
  ⟨h.2 0 _ _ rfl rfl, by have := h.1; simpa using this, fun j v w hv hw => h.2 (j + 1) v w (by simpa using hv) (by simpa using hw)⟩
theorem findK_ok {d : TypeDesc} {k k' : Value} (hk : VR ι k k') : ∀ (es : List Ent) (es' : List MapEntry) (i : Nat) (r : Option (Nat × Value)), findK d k es i = some r → EsR ι es es' → ∃ r', Instr.findNow d k' es' i = some r' ∧ FR ι r r' := by
  intro es
  induction es with
  | nil =>
    intro es' i r h he
    cases es' with
    | nil => cases h; exact ⟨none, rfl, trivial⟩
    | cons _ _ => have := he.1; simp at this
  | cons e es ih =>
    intro es' i r h he
    cases es' with
    | nil => have := he.1; simp at this
    | cons e' es' =>
      obtain ⟨h1, h2⟩ := he.tail
      unfold findK at h
      split at h
      · rename_i hq
        cases h
        exact ⟨some (i, e'.val), by simp only [Instr.findNow, keyEq_ok hq hk h1.key], rfl, h1.val⟩
      · rename_i hq
        obtain ⟨r', a, b⟩ := ih es' (i + 1) r h h2
        exact ⟨r', by simp only [Instr.findNow, keyEq_ok hq hk h1.key]; exact a, b⟩
      · cases h
theorem findK_lt {d : TypeDesc} {k : Value} : ∀ (es : List Ent) (i : Nat) (p : Nat × Value), findK d k es i = some (some p) → i ≤ p.1 ∧ p.1 < i + es.length := by
  intro es
  induction es with
  | nil => intro i p h; cases h
  | cons e es ih =>
    intro i p h
    unfold findK at h
    split at h
    · cases h; simp
    · obtain ⟨a, b⟩ := ih (i + 1) p h; simp; omega
    · cases h
theorem spot_ok (hok : Ok P C) {t : TypeId} {k k' : Value} (hk : VR ι k k') {es : List Ent} {es' : List MapEntry} {r : Option (Nat × Value)} (h : spot C t k es = some r) (he : EsR ι es es') (w : World) :
    ∃ r', (Instr.findKey t k' es').run P w = .ok r' w ∧ FR ι r r' ∧ ∀ b, (Instr.checkKey b 10000 t k').run P w = .ok () w := by
  unfold spot at h
  split at h
  · rename_i d hu
    obtain ⟨hf, h⟩ := cond_some' h
    obtain ⟨r', a, b⟩ := findK_ok hk es es' 0 r h he
    refine ⟨r', by simp only [Instr.findKey, Sem.run_bind, hok.und hu, Result.andThen_ok, a, Sem.run_pure], b, fun b => ?_⟩
    unfold Instr.checkKey
    simp only [Sem.run_bind, hok.und hu, Result.andThen_ok]
    cases d <;> first | (cases hf; done) | rfl
  · cases h
/-- A map as the world holds it. -/
theorem map_of {H : Tr AO} {w : World} (hr : Rel C ι H w) {r : Nat} {i : Im} (hi : ι r = some i) {es : List Ent} {clock : Nat} (h : H.at r = some (.map es clock)) : ∃ es', w.heap[i.b]? = some (.map es' clock) ∧ EsR ι es es'.toList := by
  have hR := hr.obj _ _ _ hi h
  cases hw : w.heap[i.b]? with
  | none => rw [hw] at hR; exact hR.elim
  | some ob =>
    rw [hw] at hR
    cases ob with
    | map es' c' => obtain ⟨e, h2⟩ := hR; subst e; exact ⟨es', rfl, h2⟩
    | _ => exact hR.elim
theorem run_getObj_of {w : World} {b : Nat} {es : Array MapEntry} {c : Nat} (h : w.heap[b]? = some (.map es c)) : (getObj b).run P w = .ok (.map es c) w := by simp only [getObj, Sem.run, h]
def lookSem (kt e : TypeId) (k' : Value) (ok b : Bool) (es : List MapEntry) : Sem Value := do
  Instr.checkKey b 10000 kt k'
  let (v, ok') ← match ← Instr.findKey kt k' es with
    | some (_, v) => pure (v, true)
    | none => pure (← zeroValue e, false)
  pure (if ok then .tuple #[v, .bool ok'] else v)
theorem lookupV_ok (hok : Ok P C) {H : Tr AO} {w : World} (hr : Rel C ι H w) {t : TypeId} {x k r : Value} {ok : Bool} (h : lookupV C H t x k ok = some r) {x' k' : Value} (hx : VR ι x x') (hk : VR ι k k') : Val P ι w (Instr.lookup t x' k' ok) r := by
  unfold lookupV at h
  split at h
  · rename_i kt e es hu he
    have key : ∀ es', EsR ι es es' → ∀ b, Val P ι w (lookSem kt e k' ok b es') r := by
      intro es' hes b
      unfold lookE at h
      split at h
      · rename_i p hp
        cases h
        obtain ⟨r', a, fr, c⟩ := spot_ok hok hk hp hes w
        cases r' with
        | none => exact fr.elim
        | some q =>
          refine ⟨_, ?_, okV_ok true fr.2⟩
          simp only [lookSem, Sem.run_bind, c, Result.andThen_ok, a, Sem.run_pure]
      · rename_i hp
        obtain ⟨r', a, fr, c⟩ := spot_ok hok hk hp hes w
        cases r' with
        | some q => exact fr.elim
        | none =>
          split at h
          · rename_i z hz
            cases h
            obtain ⟨z1, z2⟩ := hok.zer hz w
            refine ⟨_, ?_, okV_ok false (okZ_self ι z2)⟩
            simp only [lookSem, Sem.run_bind, c, Result.andThen_ok, a, z1, Sem.run_pure]
          · cases h
      · cases h
    unfold entriesAt at he
    split at he
    · cases he
      cases hx
      obtain ⟨y, hy, hv⟩ := key [] ⟨rfl, fun j v w h => by simp at h⟩ true
      refine ⟨y, ?_, hv⟩
      rw [← hy]
      simp only [Instr.lookup, Sem.run_bind, hok.und hu, Result.andThen_ok, Sem.run_pure, lookSem]
      rfl
    · rename_i m
      split at he
      · rename_i es2 clock ho
        cases he
        cases hx with
        | map hi =>
          obtain ⟨es', hw, hes⟩ := map_of hr hi ho
          obtain ⟨y, hy, hv⟩ := key es'.toList hes es'.isEmpty
          refine ⟨y, ?_, hv⟩
          rw [← hy]
          simp only [Instr.lookup, Sem.run_bind, hok.und hu, Result.andThen_ok, run_getObj_of hw, Sem.run_pure, lookSem]
          rfl
      · cases he
    · cases he
  · cases h
end Go.Proofs.YtpakmmnbkccdcaaDoor.Ev
