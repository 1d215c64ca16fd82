/-
  Bytes, lengths; every operation that only looks. No condition.
-/
import Derived.Test.YtpakmmnbkccdcaaDoorEvOp5
import Derived.Laws.BytesString
namespace Go.Proofs.YtpakmmnbkccdcaaDoor.Ev
open Go Go.RowKit
set_option linter.unusedVariables false
variable {P : Program} {C : Cx} {ι : IM}
theorem bytesOf_ok : ∀ (l : List Value) (b : List UInt8), bytesOf l = some b → ∃ ns : List Int, l = ns.map (Value.int .u8) ∧ b = ns.map fun n => UInt8.ofNat n.toNat
  | [], b, h => by cases h; exact ⟨[], rfl, rfl⟩
  | v :: l, b, h => by
    unfold bytesOf at h
    split at h
    · rename_i h0; cases h0
    · rename_i n l' h0
      cases h0
      split at h
      · rename_i r hr
        cases h
        obtain ⟨ns, e1, e2⟩ := bytesOf_ok l r hr
        exact ⟨.ofNat n :: ns, by rw [e1]; rfl, by rw [e2]; rfl⟩
      · cases h
    · cases h
theorem foldl_push (ns : List Int) : ∀ (s : ByteArray), ns.foldl (fun r n => r.push (UInt8.ofNat n.toNat)) s = ⟨(s.data.toList ++ ns.map fun n => UInt8.ofNat n.toNat).toArray⟩ := by
  induction ns with
  | nil => intro s; apply ByteArray.ext; apply Array.ext'; simp
  | cons n ns ih =>
    intro s
    simp only [List.foldl_cons, ih]
    apply ByteArray.ext
    apply Array.ext'
    simp [ByteArray.data_push]
theorem LR.ints {ns : List Int} {k : IntKind} {l : List Value} (h : LR ι (ns.map (Value.int k)) l) : l = ns.map (Value.int k) := by
  apply List.ext_getElem?
  intro j
  cases hj : (ns.map (Value.int k))[j]? with
  | none =>
    rw [List.getElem?_eq_none_iff] at hj ⊢
    rw [← h.1]; exact hj
  | some v =>
    obtain ⟨w, hw, hv⟩ := h.get hj
    rw [hw]
    rw [List.getElem?_map, Option.map_eq_some_iff] at hj
    obtain ⟨n, _, rfl⟩ := hj
    cases hv; rfl
theorem loadCells_ok {H : Tr AO} {w : World} (hr : Rel C ι H w) {a : Addr} {i : Im} (hi : ι a.block = some i) {n : Nat} {l : List Value} (h : cellsAt H a n = some l) :
    ∃ arr, (loadCells ⟨i.b, a.off + i.δ, none⟩ n).run P w = .ok arr w ∧ LR ι l arr.toList := by
  obtain ⟨arr, e, fr, hw, hle, hl⟩ := cells_ok hr hi h
  have e := loadCellsFrom_run (P := P) hw (a.off + i.δ) n 0 #[] (by omega)
  simp only [Nat.add_zero] at e
  exact ⟨_, by rw [loadCells]; exact e, by simpa using hl⟩
theorem bytesV_ok {H : Tr AO} {w : World} (hr : Rel C ι H w) {x r : Value} (h : bytesV H x = some r) {x' : Value} (hx : VR ι x x') : Val P ι w (Conv.bytesToString x') r := by
  unfold bytesV at h
  split at h
  · cases hx; cases h
    exact val_self rfl rfl
  · rename_i a n c
    split at h
    · rename_i l hl
      split at h
      · rename_i b hb
        cases h
        obtain ⟨ns, e1, e2⟩ := bytesOf_ok l b hb
        obtain ⟨i, hi, ha, ⟨c', rfl, _⟩ | ⟨n0, c0, o', rfl⟩⟩ := slice_inv hx
        · obtain ⟨arr, q1, q2⟩ := loadCells_ok (P := P) hr hi hl
          rw [e1] at q2
          have q3 := q2.ints
          have q4 : arr = (ns.map (Value.int .u8)).toArray := by rw [← q3]
          rw [q4] at q1
          refine val_self ?_ rfl
          rw [run_bytesToString w _ n c' ns q1, foldl_push, e2]
          rfl
        · subst n0
          have : l = [] := by
            unfold cellsAt at hl
            split at hl
            · obtain ⟨_, hl⟩ := cond_some' hl
              obtain ⟨q, _⟩ := Tr.row_some _ _ _ _ hl
              exact List.length_eq_zero_iff.1 q
            · cases hl
          rw [this] at e1
          have e0 : ns = [] := by cases ns with | nil => rfl | cons => cases e1
          refine val_self ?_ rfl
          rw [run_bytesToString w _ 0 0 [] rfl, e2, e0]
          rfl
      · cases h
    · cases h
  · cases h
theorem lenV_ok (hok : Ok P C) {H : Tr AO} {w : World} (hr : Rel C ι H w) {t u : TypeId} {x r : Value} (h : lenV C H t x = some r) {x' : Value} (hx : VR ι x x') {ts : Array TypeId} (ht : ts[0]? = some t) : Val P ι w (Builtin.len_ ts u #[x']) r := by
  unfold lenV at h
  split at h
  · rename_i hu
    split at h
    · cases hx; cases h
      exact val_self (by simp [Builtin.len_, ht, hok.und hu, goInt, lenB_is]) rfl
    · cases h
  · rename_i hu
    split at h
    · cases h
      refine val_self ?_ rfl
      cases hx <;> simp [Builtin.len_, ht, hok.und hu, goInt]
    · cases h
  · rename_i hu
    unfold lenM at h
    split at h
    · rename_i es he
      cases h
      unfold entriesAt at he
      split at he
      · cases he; cases hx
        exact val_self (by simp [Builtin.len_, ht, hok.und hu, goInt]) rfl
      · split at he
        · rename_i es2 clock ho
          cases he
          cases hx with
          | map hi =>
            obtain ⟨es', hw, hes⟩ := map_of hr hi ho
            refine val_self ?_ rfl
            have := hes.1
            simp [Builtin.len_, ht, hok.und hu, run_getObj_of hw, goInt, this]
        · cases he
      · cases he
    · cases h
  · cases h
theorem capV_ok (hok : Ok P C) {H : Tr AO} {w : World} (hr : Rel C ι H w) {t u : TypeId} {x r : Value} (h : capV C H t x = some r) {x' : Value} (hx : VR ι x x') {ts : Array TypeId} (ht : ts[0]? = some t) : Val P ι w (Builtin.cap_ ts u #[x']) r := by
  unfold capV at h
  split at h
  · rename_i e hu
    unfold capN at h
    split at h
    · cases hx; cases h
      exact val_self (by simp [Builtin.cap_, ht, hok.und hu, goInt]) rfl
    · rename_i a l n
      split at h
      · rename_i e' m c ho
        cases h
        obtain ⟨i, hi, _, ⟨c', rfl, hc⟩ | ⟨n0, c0, o', rfl⟩⟩ := slice_inv hx
        · have hR := hr.obj _ _ _ hi ho
          have he : i.ext = 0 := by
            cases hw : w.heap[i.b]? with
            | none => rw [hw] at hR; exact hR.elim
            | some ob =>
              rw [hw] at hR
              cases ob with
              | cells arr e'' fr => exact hR.2.2.1 rfl
              | _ => exact hR.elim
          have : c' = n := by rcases hc with h | h <;> omega
          subst this
          exact val_self (by simp [Builtin.cap_, ht, hok.und hu, goInt]) rfl
        · subst c0
          exact val_self (by simp [Builtin.cap_, ht, hok.und hu, goInt]) rfl
      · cases h
    · cases h
  · cases h
theorem minV_ok {x y r : Value} (h : minV x y = some r) {x' y' : Value} (hx : VR ι x x') (hy : VR ι y y') {ts : Array TypeId} {u : TypeId} (w : World) : Val P ι w (Builtin.min_ ts u #[x', y']) r := by
  unfold minV at h
  split at h
  · cases hx; cases hy
    obtain ⟨e, h2⟩ := cond_some h
    obtain rfl := eqK_is e
    subst h2
    refine val_self ?_ rfl
    simp only [Builtin.min_, List.foldlM_cons, List.foldlM_nil, Builtin.min2, ltI_is]
    simp [Bool.cond_decide]
  · cases h
theorem maxV_ok {x y r : Value} (h : maxV x y = some r) {x' y' : Value} (hx : VR ι x x') (hy : VR ι y y') {ts : Array TypeId} {u : TypeId} (w : World) : Val P ι w (Builtin.max_ ts u #[x', y']) r := by
  unfold maxV at h
  split at h
  · cases hx; cases hy
    obtain ⟨e, h2⟩ := cond_some h
    obtain rfl := eqK_is e
    subst h2
    refine val_self ?_ rfl
    simp only [Builtin.max_, List.foldlM_cons, List.foldlM_nil, Builtin.max2, ltI_is]
    simp [Bool.cond_decide]
  · cases h
/-! All of them. -/
theorem LR.map {f g : Operand → Value} {l : List Operand} (h : ∀ x ∈ l, VR ι (f x) (g x)) : LR ι (l.map f) (l.map g) := by
  induction l with
  | nil => exact .nil ι
  | cons x l ih => exact .cons (h x (by simp)) (ih fun y hy => h y (by simp [hy]))
theorem allX_mem : ∀ {l : List Operand}, allX l = true → ∀ x ∈ l, okX x = true
  | [], _, x, hx => by cases hx
  | y :: l, h, x, hx => by
    unfold allX at h
    cases hy : okX y with
    | false => rw [hy] at h; cases h
    | true =>
      rw [hy] at h
      rcases List.mem_cons.1 hx with e | e
      · rw [e]; exact hy
      · exact allX_mem h x e
/-- What an operation's value is told to be. -/
def NV (P : Program) (ι : IM) (w : World) (s : Sem Next) (x : Value) : Prop := ∃ x', s.run P w = .ok (.value x') w ∧ VR ι x x'
theorem NV.of {w : World} {s : Sem Value} {x : Value} (h : Val P ι w s x) : NV P ι w (do pure (.value (← s))) x := by
  obtain ⟨x', a, b⟩ := h
  exact ⟨x', by simp only [Sem.run_bind, a, Result.andThen_ok, Sem.run_pure], b⟩
theorem rV_v {o : Option Value} {x : Value} (h : rV o = .v x) : o = some x := by cases o <;> cases h; rfl
theorem rN_v {k : Nat} {o : Option (Value × AO)} {x : Value} (h : rN k o = .v x) : False := by cases o <;> cases h
theorem rH_v {o : Option (Value × Tr AO)} {x : Value} (h : rH o = .v x) : False := by cases o <;> cases h
end Go.Proofs.YtpakmmnbkccdcaaDoor.Ev
