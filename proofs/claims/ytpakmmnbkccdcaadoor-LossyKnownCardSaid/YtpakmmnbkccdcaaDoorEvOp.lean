/-
  What the plain machine tells of the types, of parts and of cells is what the machine does. No condition.
-/
import Derived.Test.YtpakmmnbkccdcaaDoorEvRel
import Derived.Laws.StructEq
namespace Go.Proofs.YtpakmmnbkccdcaaDoor.Ev
open Go Go.RowKit
set_option linter.unusedVariables false
structure Ok (P : Program) (C : Cx) : Prop where
  ty : ∀ t i, C.ty.at t = some i → P.info? t = some i
  fn : ∀ k f, C.fn.at k = some f → P.funcs[k]? = some f
  nm : ∀ k f, C.fn.at k = some f → f.body.isSome = true → f.name ≠ "runtime.NumGoroutine"
  eqg : ∀ t, C.eqs.any (Nat.beq t) = true → P.eqGuardType P.depth t = false ∧ P.stoodInHeld t = false ∧ ∀ f ∈ (P.fieldsOf t).toList, f.name ≠ "_"
  mx : P.follows .mixedOrders = true
variable {P : Program} {C : Cx} {ι : IM}
theorem Ok.und (hok : Ok P C) {t : TypeId} {d : TypeDesc} (h : und C t = some d) (w : World) : (underlying t).run P w = .ok d w := by
  have h2 : P.underlying t = some d := by
    unfold Ev.und at h
    unfold Program.underlying
    cases hi : C.ty.at t with
    | none => rw [hi] at h; cases h
    | some i =>
      rw [hi] at h
      rw [hok.ty t i hi]
      cases i with
      | mk desc str size bytes hp al fa zero cmp ms =>
        cases desc with
        | named nm u =>
          dsimp only at h ⊢
          cases hj : C.ty.at u with
          | none => rw [hj] at h; cases h
          | some j => rw [hj] at h; rw [hok.ty u j hj]; exact h
        | _ => exact h
  simp [underlying, h2]
theorem Ok.inf (hok : Ok P C) {t : TypeId} {i : TypeInfo} (h : inf C t = some i) (w : World) : (typeInfo t).run P w = .ok i w := by
  simp [typeInfo, hok.ty t i h]
theorem Ok.siz (hok : Ok P C) {t : TypeId} {n : Nat} (h : siz C t = some n) (w : World) : (sizeOf t).run P w = .ok n w := by
  unfold Ev.siz at h
  cases hi : C.ty.at t with
  | none => rw [hi] at h; cases h
  | some i =>
    rw [hi] at h; cases h
    simp [sizeOf, hok.inf hi]
theorem okZ_cells {z : Value} (h : okZ z = true) : ∀ v ∈ cellsL z, plainV v = true := by
  have all : ∀ l : List Value, allP l = true → ∀ v ∈ l, plainV v = true := by
    intro l
    induction l with
    | nil => intro _ v hv; cases hv
    | cons x l ih =>
      intro h v hv
      unfold allP at h
      cases hx : plainV x with
      | false => rw [hx] at h; cases h
      | true =>
        rw [hx] at h
        rcases List.mem_cons.1 hv with e | e
        · rw [e]; exact hx
        · exact ih h v e
  cases z <;> first
    | exact all _ h
    | (intro v hv; have e := List.mem_singleton.1 hv; rw [e]; exact h)
theorem okZ_self (ι : IM) {z : Value} (h : okZ z = true) : VR ι z z := by
  have hc := okZ_cells h
  cases z with
  | agg cs => exact .agg rfl (fun j v w hv hw => by rw [hv] at hw; cases hw; exact VR.self ι (hc v (by
      show v ∈ cs.toList
      exact List.mem_of_getElem? (by simpa using hv))))
  | _ => exact VR.self ι h
theorem Ok.zer (hok : Ok P C) {t : TypeId} {z : Value} (h : zer C t = some z) (w : World) : (zeroValue t).run P w = .ok z w ∧ okZ z = true := by
  unfold Ev.zer at h
  cases hi : Ev.inf C t with
  | none => rw [hi] at h; cases h
  | some i =>
    rw [hi] at h
    cases hz : i.zero with
    | none => simp only [hz] at h; cases h
    | some z' =>
      simp only [hz] at h
      cases ho : okZ z' with
      | false => rw [ho] at h; cases h
      | true =>
        rw [ho] at h
        cases h
        exact ⟨by simp [zeroValue, hok.inf hi, hz], ho⟩
theorem Ok.agg (hok : Ok P C) {t : TypeId} {b : Bool} (h : agg C t = some b) (w : World) : (isAgg t).run P w = .ok b w := by
  unfold Ev.agg at h
  cases hu : Ev.und C t with
  | none => rw [hu] at h; cases h
  | some d =>
    rw [hu] at h
    simp only [isAgg, Sem.run_bind, hok.und hu, Result.andThen_ok]
    cases d <;> first | (cases h; rfl) | (simp at h; subst h; rfl)
/-- The value of a look: the world stays. -/
def Val (P : Program) (ι : IM) (w : World) (s : Sem Value) (x : Value) : Prop := ∃ x', s.run P w = .ok x' w ∧ VR ι x x'
theorem partC_ok (hok : Ok P C) {t : TypeId} {cs : List Value} {cs' : Array Value} {off : Nat} {x : Value} (h : partC C t cs off = some x) (hl : LR ι cs cs'.toList) (w : World) : Val P ι w (part t cs' off) x := by
  unfold partC at h
  cases ha : Ev.agg C t with
  | none => rw [ha] at h; cases h
  | some b =>
    cases hs : Ev.siz C t with
    | none => rw [ha, hs] at h; cases b <;> cases h
    | some n =>
      rw [ha, hs] at h
      unfold Val
      simp only [part, Sem.run_bind, hok.agg ha, Result.andThen_ok]
      cases b with
      | true =>
        cases h
        refine ⟨.agg (cs'.extract off (off + n)), by simp [hok.siz hs], ?_⟩
        have e : cs'.extract off (off + n) = ((cs'.toList.drop off).take n).toArray := by
          apply Array.ext'
          simp [List.extract_eq_take_drop]
        rw [e]
        exact .agg' ((hl.drop off).take n)
      | false =>
        obtain ⟨y, hy, hv⟩ := hl.get h
        have hy' : cs'[off]? = some y := by simpa using hy
        exact ⟨y, by simp [hy'], hv⟩
/-! Cells. -/
theorem add_mk (b o n : Nat) : Addr.add ⟨b, o, none⟩ n = ⟨b, o + n, none⟩ := by
  unfold Addr.add
  split
  · subst_vars; rfl
  · rfl
theorem cell_of {w : World} {b : Nat} {arr : Array Value} {e : TypeId} {fr : Nat × Nat} (h : w.heap[b]? = some (.cells arr e fr)) (o : Nat) : w.cell? ⟨b, o, none⟩ = arr[o]? := by
  unfold World.cell?
  rw [h]; rfl
theorem frozen_of {w : World} {b : Nat} {arr : Array Value} {e : TypeId} {fr : Nat × Nat} (h : w.heap[b]? = some (.cells arr e fr)) (o : Nat) (hn : ¬ (fr.1 ≤ o ∧ o < fr.2)) : w.frozen? ⟨b, o, none⟩ = false := by
  unfold World.frozen?
  rw [h]
  obtain ⟨lo, hi⟩ := fr
  simp only [Bool.and_eq_false_iff, decide_eq_false_iff_not]
  by_cases h1 : lo ≤ o
  · exact .inr (fun h2 => hn ⟨h1, h2⟩)
  · exact .inl h1
theorem run_load_of {w : World} {a : Addr} {v : Value} (h : w.cell? a = some v) : (load a).run P w = .ok v w := by simp [h]
theorem loadCellsFrom_run {w : World} {b : Nat} {arr : Array Value} {e : TypeId} {fr : Nat × Nat} (h : w.heap[b]? = some (.cells arr e fr)) (o : Nat) :
    ∀ (n i : Nat) (acc : Array Value), o + i + n ≤ arr.size → (loadCellsFrom ⟨b, o, none⟩ i n acc).run P w = .ok (acc ++ arr.extract (o + i) (o + i + n)) w := by
  intro n
  induction n with
  | zero => intro i acc _; simp [loadCellsFrom]; omega
  | succ n ih =>
    intro i acc hle
    have hc : w.cell? ⟨b, o + i, none⟩ = some arr[o + i] := by rw [cell_of h]; exact Array.getElem?_eq_getElem (by omega)
    simp only [loadCellsFrom, Sem.run_bind, add_mk, run_load_of hc, Result.andThen_ok]
    rw [ih (i + 1) _ (by omega)]
    congr 1
    apply Array.ext'
    simp only [Array.toList_append, Array.toList_push, Array.toList_extract, List.append_assoc, List.cons_append, List.nil_append]
    congr 1
    rw [List.extract_eq_take_drop, List.extract_eq_take_drop, List.drop_eq_getElem_cons (i := o + i) (by simpa using (by omega : o + i < arr.size))]
    have e1 : o + i + (n + 1) - (o + i) = n + 1 := by omega
    have e2 : o + (i + 1) + n - (o + (i + 1)) = n := by omega
    rw [e1, e2, List.take_succ_cons]
    simp [Nat.add_assoc]
/-- What the plain machine reads of a block. -/
theorem cells_ok {H : Tr AO} {w : World} (hr : Rel C ι H w) {a : Addr} {i : Im} (hi : ι a.block = some i) {n : Nat} {l : List Value} (h : cellsAt H a n = some l) :
    ∃ arr e fr, w.heap[i.b]? = some (.cells arr e fr) ∧ a.off + i.δ + n ≤ arr.size ∧ LR ι l (arr.extract (a.off + i.δ) (a.off + i.δ + n)).toList := by
  unfold cellsAt at h
  cases ho : H.at a.block with
  | none => rw [ho] at h; cases h
  | some o =>
    rw [ho] at h
    have hR := hr.obj _ _ _ hi ho
    cases o with
    | cells e m c ex =>
      dsimp only at h
      cases hle : Nat.ble (a.off + n) m with
      | false => rw [hle] at h; cases h
      | true =>
        rw [hle] at h
        have hle := Nat.le_of_ble_eq_true hle
        cases hw : w.heap[i.b]? with
        | none => rw [hw] at hR; exact hR.elim
        | some ob =>
          rw [hw] at hR
          cases ob with
          | cells arr e' fr =>
            obtain ⟨h1, h2, h3, h3', h4, h5, h6⟩ := hR
            obtain ⟨r1, r2⟩ := Tr.row_some c n a.off l h
            refine ⟨arr, e', fr, rfl, by omega, ?_, ?_⟩
            · simp [r1]; omega
            · intro j v y hv hy
              have hj : j < n := by
                rcases Nat.lt_or_ge j n with h | h
                · exact h
                · rw [List.getElem?_eq_none (by omega)] at hv; cases hv
              rw [r2 j hj] at hv
              obtain ⟨v2, w2, q1, q2, q3⟩ := h6 (a.off + j) (by omega)
              rw [q1] at hv; cases hv
              have e : (arr.extract (a.off + i.δ) (a.off + i.δ + n)).toList[j]? = arr[i.δ + (a.off + j)]? := by
                rw [Array.toList_extract, List.extract_eq_take_drop, List.getElem?_take, if_pos (by omega), List.getElem?_drop, Array.getElem?_toList]
                congr 1; omega
              rw [e, q2] at hy; cases hy
              exact q3
          | _ => exact hR.elim
    | _ => cases h
theorem cell_ok {H : Tr AO} {w : World} (hr : Rel C ι H w) {a : Addr} {i : Im} (hi : ι a.block = some i) {v : Value} (h : cellAt H a = some v) :
    ∃ y, w.cell? ⟨i.b, a.off + i.δ, none⟩ = some y ∧ VR ι v y := by
  unfold cellAt at h
  cases ho : H.at a.block with
  | none => rw [ho] at h; cases h
  | some o =>
    rw [ho] at h
    have hR := hr.obj _ _ _ hi ho
    cases o with
    | cells e m c ex =>
      dsimp only at h
      cases hle : Nat.blt a.off m with
      | false => rw [hle] at h; cases h
      | true =>
        rw [hle] at h
        have hle : a.off < m := Nat.le_of_ble_eq_true hle
        cases hw : w.heap[i.b]? with
        | none => rw [hw] at hR; exact hR.elim
        | some ob =>
          rw [hw] at hR
          cases ob with
          | cells arr e' fr =>
            obtain ⟨h1, h2, h3, h3', h4, h5, h6⟩ := hR
            obtain ⟨v2, w2, q1, q2, q3⟩ := h6 a.off hle
            have h : c.at a.off = some v := h
            rw [q1] at h; cases h
            exact ⟨w2, by rw [cell_of hw, Nat.add_comm]; exact q2, q3⟩
          | _ => exact hR.elim
    | _ => cases h
theorem loadV_ok (hok : Ok P C) {H : Tr AO} {w : World} (hr : Rel C ι H w) {t : TypeId} {a : Addr} {i : Im} (hi : ι a.block = some i) {v : Value} (h : loadV C H t a = some v) :
    Val P ι w (loadVar t ⟨i.b, a.off + i.δ, none⟩) v := by
  unfold loadV at h
  cases ha : Ev.agg C t with
  | none => rw [ha] at h; cases h
  | some b =>
    cases hs : Ev.siz C t with
    | none => rw [ha, hs] at h; cases b <;> cases h
    | some n =>
      rw [ha, hs] at h
      unfold Val
      simp only [loadVar, Sem.run_bind, hok.agg ha, Result.andThen_ok]
      cases b with
      | true =>
        dsimp only at h
        cases hc : cellsAt H a n with
        | none => rw [hc] at h; cases h
        | some l =>
          rw [hc] at h; cases h
          obtain ⟨arr, e, fr, hw, hle, hl⟩ := cells_ok hr hi hc
          refine ⟨.agg (arr.extract (a.off + i.δ) (a.off + i.δ + n)), ?_, ?_⟩
          · have e := loadCellsFrom_run (P := P) hw (a.off + i.δ) n 0 #[] (by omega)
            simp only [Nat.add_zero] at e
            simp only [if_true, Sem.run_bind, hok.siz hs, Result.andThen_ok, loadCells, e, Sem.run_pure]
            simp
          · have := VR.agg' hl
            rwa [Array.toArray_toList] at this
      | false =>
        obtain ⟨y, hy, hv⟩ := cell_ok hr hi h
        exact ⟨y, by simp [hy], hv⟩
/-! Parts put together. -/
theorem over_foldl (vs : List Value) : ∀ (off k : Nat) (cs : Array Value), off + k + vs.length ≤ cs.size → ∀ j,
    ((vs.zipIdx k).foldl (fun (cs : Array Value) (p : Value × Nat) => cs.setIfInBounds (off + p.2) p.1) cs)[j]? = if off + k ≤ j ∧ j < off + k + vs.length then vs[j - (off + k)]? else cs[j]? := by
  induction vs with
  | nil => intro off k cs h j; rw [if_neg (by simp only [List.length_nil]; omega)]; rfl
  | cons v vs ih =>
    intro off k cs h j
    simp only [List.zipIdx_cons, List.foldl_cons]
    simp only [List.length_cons] at h ⊢
    rw [ih off (k + 1) _ (by simp; omega), Array.getElem?_setIfInBounds]
    by_cases h1 : off + (k + 1) ≤ j ∧ j < off + (k + 1) + vs.length
    · rw [if_pos h1, if_pos (by omega)]
      obtain ⟨m, hm⟩ : ∃ m, j - (off + k) = m + 1 := ⟨j - (off + k) - 1, by omega⟩
      rw [hm, List.getElem?_cons_succ]
      exact congrArg (vs[·]?) (by omega)
    · rw [if_neg h1]
      by_cases h2 : off + k = j
      · subst h2; rw [if_pos rfl, if_pos (by omega), if_pos (by omega)]; simp
      · rw [if_neg h2, if_neg (by omega)]
theorem overL_ok {cs vs : List Value} {cs' vs' : Array Value} {off : Nat} (hc : LR ι cs cs'.toList) (hv : LR ι vs vs'.toList) (h : off + vs.length ≤ cs.length) :
    LR ι (overL cs vs off) ((vs'.zipIdx.foldl (fun (cs : Array Value) (p : Value × Nat) => cs.setIfInBounds (off + p.2) p.1) cs')).toList := by
  have e : (vs'.zipIdx.foldl (fun (cs : Array Value) (p : Value × Nat) => cs.setIfInBounds (off + p.2) p.1) cs') = (vs'.toList.zipIdx 0).foldl (fun (cs : Array Value) (p : Value × Nat) => cs.setIfInBounds (off + p.2) p.1) cs' := by
    rw [← Array.foldl_toList, Array.toList_zipIdx]
  have l1 := hc.1
  have l2 := hv.1
  have hz : off + 0 + vs'.toList.length ≤ cs'.size := by simp only [Array.length_toList] at *; omega
  rw [e]
  have hL : LR ι (overL cs vs off) (cs'.toList.take off ++ (vs'.toList ++ cs'.toList.drop (off + vs.length))) := (hc.take _).append (hv.append (hc.drop _))
  have hh : ((vs'.toList.zipIdx 0).foldl (fun (cs : Array Value) (p : Value × Nat) => cs.setIfInBounds (off + p.2) p.1) cs').toList = cs'.toList.take off ++ (vs'.toList ++ cs'.toList.drop (off + vs.length)) := by
    apply List.ext_getElem?
    intro j
    rw [Array.getElem?_toList, over_foldl _ _ _ _ hz j]
    have la : (cs'.toList.take off).length = off := by simp only [List.length_take, Array.length_toList] at *; omega
    by_cases h1 : j < off
    · rw [if_neg (by omega), List.getElem?_append_left (by omega), List.getElem?_take, if_pos h1, Array.getElem?_toList]
    · rw [List.getElem?_append_right (by omega), la]
      by_cases h2 : j < off + vs'.toList.length
      · rw [if_pos (by omega), List.getElem?_append_left (by omega)]; rfl
      · rw [if_neg (by omega), List.getElem?_append_right (by omega), List.getElem?_drop, Array.getElem?_toList]
        exact congrArg (cs'[·]?) (by omega)
  rw [hh]
  exact hL
/-- Parts, by their places. -/
def PR (ι : IM) (ps : List (Nat × Value)) (ps' : List (Nat × Value)) : Prop := ps.length = ps'.length ∧ ∀ (j : Nat) v w, ps[j]? = some v → ps'[j]? = some w → v.1 = w.1 ∧ VR ι v.2 w.2
theorem fillC_ok {place place' : Nat → Option (Nat × Nat)} (hp : ∀ i q, place i = some q → place' i = some q) : ∀ (ps ps' : List (Nat × Value)) (cs l : List Value) (cs' : Array Value),
    fillC place cs ps = some l → PR ι ps ps' → LR ι cs cs'.toList → ∃ l', Instr.fill place' cs' ps' = some l' ∧ LR ι l l'.toList := by
  intro ps
  induction ps with
  | nil =>
    intro ps' cs l cs' h hps hc
    cases ps' with
    | nil => cases h; exact ⟨cs', rfl, hc⟩
    | cons p r => have := hps.1; simp at this
  | cons p ps ih =>
    intro ps' cs l cs' h hps hc
    cases ps' with
    | nil => have := hps.1; simp at this
    | cons p' ps' =>
      obtain ⟨i, v⟩ := p
      obtain ⟨i', v'⟩ := p'
      obtain ⟨e, hv⟩ := hps.2 0 _ _ rfl rfl
      dsimp only at e hv
      subst e
      unfold fillC at h
      dsimp only at h
      cases hq : place i with
      | none => rw [hq] at h; cases h
      | some q =>
        rw [hq] at h
        dsimp only at h
        cases hb : (Nat.beq (lenL (cellsL v)) q.2 && Nat.ble (q.1 + q.2) (lenL cs)) with
        | false => rw [hb] at h; cases h
        | true =>
          rw [hb] at h
          obtain ⟨b1, b2⟩ := (Bool.and_eq_true _ _).mp hb
          have b1 := Nat.eq_of_beq_eq_true b1
          have b2 := Nat.le_of_ble_eq_true b2
          have hcv := hv.cells
          have s1 : v'.cells.size = q.2 := by have := hcv.1; unfold lenL at b1; simp at this; omega
          have s2 : cs'.size = cs.length := by have := hc.1; simp at this; omega
          have hne : ¬ (v'.cells.size ≠ q.2 || decide (q.1 + v'.cells.size > cs'.size)) = true := by
            unfold lenL at b2
            simp [s1]; omega
          unfold Instr.fill
          rw [hp i q hq]
          obtain ⟨qa, qb⟩ := q
          dsimp only at *
          rw [if_neg hne]
          refine ih ps' _ l _ h ⟨by have := hps.1; simpa using this, fun j x y hx hy => hps.2 (j + 1) x y (by simpa using hx) (by simpa using hy)⟩ ?_
          exact overL_ok hc hcv (by unfold lenL at b1 b2; omega)
theorem run_mapM_fields (hok : Ok P C) (w : World) : ∀ (fs : List Field), (∀ f ∈ fs, ∃ s, siz C f.type = some s) →
    ∃ l : List (Nat × Nat), (fs.mapM (fun (f : Field) => do pure (f.offset, ← sizeOf f.type))).run P w = .ok l w ∧ ∀ i, l[i]? = placeS C fs i := by
  intro fs
  induction fs with
  | nil => intro _; exact ⟨[], by simp, fun i => by simp [placeS]⟩
  | cons f fs ih =>
    intro h
    obtain ⟨s, hs⟩ := h f (by simp)
    obtain ⟨l, h1, h2⟩ := ih (fun g hg => h g (by simp [hg]))
    refine ⟨(f.offset, s) :: l, ?_, fun i => ?_⟩
    · simp only [List.mapM_cons, Sem.run_bind, hok.siz hs, Result.andThen_ok, Sem.run_pure, h1]
    · cases i with
      | zero => simp [placeS, hs]
      | succ i => simpa [placeS] using h2 i
end Go.Proofs.YtpakmmnbkccdcaaDoor.Ev
