/-
  What changes memory, more: maps, walks over a text, copies, appends. No condition.
-/
import Derived.Test.YtpakmmnbkccdcaaDoorEvAct
namespace Go.Proofs.YtpakmmnbkccdcaaDoor.Ev
open Go Go.RowKit
set_option linter.unusedVariables false
variable {P : Program} {C : Cx} {ι : IM}
theorem setObj_turned {w : World} {b : Nat} {o o' : Obj} (h : w.heap[b]? = some o) (hn : ∀ c e f, o ≠ .cells c e f) : ∃ w1, (setObj b o').run P w = .ok () w1 ∧ Turned w w1 b o' := by
  have hlt : b < w.heap.size := by
    rcases Nat.lt_or_ge b w.heap.size with h1 | h1
    · exact h1
    · rw [Array.getElem?_eq_none h1] at h; cases h
  refine ⟨{ w with heap := w.heap.setIfInBounds b o' }, ?_, ⟨rfl, rfl, rfl, by simp, fun k hk => ?_, ?_⟩⟩
  · simp only [setObj, Sem.run, h]
  · rw [Array.getElem?_setIfInBounds, if_neg (fun e => hk e.symm)]
  · rw [Array.getElem?_setIfInBounds, if_pos rfl, if_pos hlt]
theorem setVal_len : ∀ (es : List Ent) (i : Nat) (x y : Value), (setVal es i x y).length = es.length
  | [], _, _, _ => rfl
  | e :: es, 0, _, _ => rfl
  | e :: es, i + 1, x, y => by simp [setVal, setVal_len es i x y]
theorem setVal_get : ∀ (es : List Ent) (i : Nat) (x y : Value) (j : Nat), (setVal es i x y)[j]? = if j = i then (es[j]?).map (fun e => ⟨x, y, e.born⟩) else es[j]?
  | [], i, x, y, j => by simp [setVal]
  | e :: es, 0, x, y, j => by cases j <;> simp [setVal]
  | e :: es, i + 1, x, y, j => by
    cases j with
    | zero => simp [setVal]
    | succ j => simp [setVal, setVal_get es i x y j]
theorem sameBits_flat {d : TypeDesc} (hd : flatD d = true) {x y : Value} (h : keyEq d x y = some true) {x' y' : Value} (hx : VR ι x x') (hy : VR ι y y') : x' = y' ∧ Instr.sameBits 10000 y' x' = true := by
  unfold keyEq at h
  split at h
  · unfold keyI at h
    split at h
    · cases hx; cases hy
      obtain ⟨e, h2⟩ := cond_some h
      obtain rfl := eqK_is e
      rw [eqI_is] at h2
      have := beq_iff_eq.1 h2
      subst this
      exact ⟨rfl, by simp [Instr.sameBits]⟩
    · cases h
  · unfold keyS at h
    split at h
    · cases hx; cases hy
      rename_i a b
      injection h with h
      rw [eqB_is, ByteArray.toList_eq, ByteArray.toList_eq] at h
      have e : a.data.toList = b.data.toList := beq_iff_eq.1 h
      have : a = b := ByteArray.ext (Array.ext' e)
      subst this
      exact ⟨rfl, by simp [Instr.sameBits, beq_toListBytes]⟩
    · cases h
  · unfold keyB at h
    split at h
    · cases hx; cases hy
      injection h with h
      rw [← beq_cond] at h
      have := beq_iff_eq.1 h
      subst this
      exact ⟨rfl, by simp [Instr.sameBits]⟩
    · cases h
  · cases h
theorem findK_key {d : TypeDesc} {k : Value} : ∀ (es : List Ent) (i : Nat) (p : Nat × Value), findK d k es i = some (some p) → ∃ e, es[p.1 - i]? = some e ∧ i ≤ p.1 ∧ keyEq d k e.key = some true := by
  intro es
  induction es with
  | nil => intro i p h; cases h
  | cons e es ih =>
    intro i p h
    unfold findK at h
    split at h
    · rename_i hq; cases h; exact ⟨e, by simp, Nat.le_refl _, hq⟩
    · obtain ⟨e', a, b, c⟩ := ih (i + 1) p h
      refine ⟨e', ?_, by omega, c⟩
      obtain ⟨m, hm⟩ : ∃ m, p.1 - i = m + 1 := ⟨p.1 - i - 1, by omega⟩
      rw [hm, List.getElem?_cons_succ, ← a]
      exact congrArg (es[·]?) (by omega)
    · cases h
theorem spot_key {t : TypeId} {k : Value} {es : List Ent} {p : Nat × Value} (h : spot C t k es = some (some p)) : ∃ d e, flatD d = true ∧ es[p.1]? = some e ∧ keyEq d k e.key = some true := by
  unfold spot at h
  split at h
  · rename_i d hu
    obtain ⟨hf, h⟩ := cond_some' h
    obtain ⟨e, a, b, c⟩ := findK_key es 0 p h
    exact ⟨d, e, hf, by simpa using a, c⟩
  · cases h
theorem mapSetV_ok (hok : Ok P C) {H : Tr AO} {w : World} (hr : Rel C ι H w) {t : TypeId} {m x y m' x' y' : Value} (hm : VR ι m m') (hx : VR ι x x') (hy : VR ι y y') {p : Value × Tr AO} (h : mapSetV C H t m x y = some p) (k : Nat) :
    NA P C ι H w (do Instr.mapUpdate t m' x' y'; pure .skip) k p.1 p.2 := by
  unfold mapSetV at h
  split at h
  · rename_i kt e r hu
    split at h
    · rename_i es clock ho
      cases hm with
      | map hi =>
        rename_i i
        obtain ⟨es', hw, hes⟩ := map_of hr hi ho
        unfold mapPut at h
        split at h
        · rename_i q hq
          cases h
          obtain ⟨r', a, fr, c⟩ := spot_ok hok hx hq hes w
          cases r' with
          | none => exact fr.elim
          | some q' =>
            obtain ⟨d, en, f1, f2, f3⟩ := spot_key hq
            have f2' : ∃ en', es'[q'.1]? = some en' ∧ EntR ι en en' := by
              have hj : q.1 < es.length := by
                rcases Nat.lt_or_ge q.1 es.length with h | h
                · exact h
                · rw [List.getElem?_eq_none h] at f2; cases f2
              have hj' : q.1 < es'.toList.length := by rw [← hes.1]; exact hj
              have : es'.toList[q.1]? = some es'.toList[q.1] := List.getElem?_eq_getElem hj'
              refine ⟨_, ?_, hes.2 q.1 en _ f2 this⟩
              rw [← fr.1]; simp
            obtain ⟨en', g1, g2⟩ := f2'
            obtain ⟨s1, s2⟩ := sameBits_flat f1 f3 hx g2.key
            obtain ⟨w1, r1, r2⟩ := setObj_turned (P := P) (o' := .map (es'.modify q'.1 fun e => { e with key := x', val := y' }) clock) hw (by intros; simp)
            refine ⟨.skip, undef, w1, ι, ?_, .inr ⟨rfl, rfl⟩, .undef ι, (Turned.go (o := .map (setVal es q.1 x y) clock) hr hi ⟨_, ho, by simp⟩ r2 ⟨rfl, ?_⟩ k).wide (Nat.le_succ k)⟩
            · have gk : ((es'[q'.1]?).map (·.key)).getD x' = en'.key := by rw [g1]; rfl
              simp only [Instr.mapUpdate, Sem.run_bind, hok.und hu, Result.andThen_ok, run_getObj_of hw, c, a, gk, Instr.keyThatStays, s2, if_true, Sem.run_pure, r1]
            · refine ⟨by simp [setVal_len, hes.1], fun j v z hv hz => ?_⟩
              rw [setVal_get] at hv
              rw [Array.getElem?_toList, Array.getElem?_modify] at hz
              by_cases hj : j = q.1
              · rw [if_pos hj, Option.map_eq_some_iff] at hv
                obtain ⟨v0, hv0, rfl⟩ := hv
                rw [if_pos (by rw [← fr.1]; exact hj.symm), Option.map_eq_some_iff] at hz
                obtain ⟨z0, hz0, rfl⟩ := hz
                have := hes.2 j v0 z0 hv0 (by simpa using hz0)
                exact ⟨hx, hy, this.born⟩
              · rw [if_neg hj] at hv
                rw [if_neg (by rw [← fr.1]; exact fun e => hj e.symm)] at hz
                exact hes.2 j v z hv (by simpa using hz)
        · rename_i hq
          cases h
          obtain ⟨r', a, fr, c⟩ := spot_ok hok hx hq hes w
          cases r' with
          | some _ => exact fr.elim
          | none =>
            obtain ⟨w1, r1, r2⟩ := setObj_turned (P := P) (o' := .map (es'.push { key := x', val := y', born := clock }) (clock + 1)) hw (by intros; simp)
            refine ⟨.skip, undef, w1, ι, ?_, .inr ⟨rfl, rfl⟩, .undef ι, (Turned.go (o := .map (es ++ [⟨x, y, clock⟩]) (Nat.succ clock)) hr hi ⟨_, ho, by simp⟩ r2 ⟨rfl, ?_⟩ k).wide (Nat.le_succ k)⟩
            · simp only [Instr.mapUpdate, Sem.run_bind, hok.und hu, Result.andThen_ok, run_getObj_of hw, c, a, r1, Sem.run_pure]
            · refine ⟨by simp [hes.1], fun j v z hv hz => ?_⟩
              rw [Array.toList_push] at hz
              have hl := hes.1
              rcases Nat.lt_trichotomy j es.length with hj | hj | hj
              · rw [List.getElem?_append_left hj] at hv
                rw [List.getElem?_append_left (by omega)] at hz
                exact hes.2 j v z hv hz
              · subst hj
                rw [List.getElem?_append_right (Nat.le_refl _)] at hv
                rw [List.getElem?_append_right (by omega), hl] at hz
                simp at hv hz
                subst hv; subst hz
                exact ⟨hx, hy, rfl⟩
              · rw [List.getElem?_append_right (by omega), List.getElem?_eq_none (by simp; omega)] at hv; cases hv
        · cases h
    · cases h
  · cases h
theorem deleteV_ok (hok : Ok P C) {H : Tr AO} {w : World} (hr : Rel C ι H w) {t u : TypeId} {x y x' y' : Value} (hx : VR ι x x') (hy : VR ι y y') {p : Value × Tr AO} (h : deleteV C H t x y = some p) {ts : Array TypeId} (ht : ts[0]? = some t) (k : Nat) :
    NA P C ι H w (do pure (.value (← Builtin.delete_ ts u #[x', y']))) k p.1 p.2 := by
  unfold deleteV at h
  split at h
  · rename_i kt e hu
    split at h
    · rename_i q hq
      cases h; cases hx
      obtain ⟨r', a, fr, c⟩ := spot_ok hok hy hq (es' := []) ⟨rfl, fun j v w h => by simp at h⟩ w
      exact ⟨_, .tuple #[], w, ι, by simp [Builtin.delete_, ht, hok.und hu, c], .inl rfl, .unit ι, (Go1.refl hr).wide (Nat.le_succ k)⟩
    · cases h
  · rename_i kt e r hu
    split at h
    · rename_i es clock ho
      cases hx with
      | map hi =>
        rename_i i
        obtain ⟨es', hw, hes⟩ := map_of hr hi ho
        unfold mapDel at h
        split at h
        · rename_i q hq
          cases h
          obtain ⟨r', a, fr, c⟩ := spot_ok hok hy hq hes w
          cases r' with
          | none => exact fr.elim
          | some q' =>
            obtain ⟨w1, r1, r2⟩ := setObj_turned (P := P) (o' := .map (es'.eraseIdxIfInBounds q'.1) clock) hw (by intros; simp)
            refine ⟨_, .tuple #[], w1, ι, ?_, .inl rfl, .unit ι, (Turned.go (o := .map (es.eraseIdx q.1) clock) hr hi ⟨_, ho, by simp⟩ r2 ⟨rfl, ?_⟩ k).wide (Nat.le_succ k)⟩
            · simp [Builtin.delete_, ht, hok.und hu, run_getObj_of hw, c, a, r1]
            · have e : (es'.eraseIdxIfInBounds q'.1).toList = es'.toList.eraseIdx q'.1 := by simp
              rw [e, ← fr.1]
              have hl := hes.1
              refine ⟨by simp [List.length_eraseIdx, hl], fun j v z hv hz => ?_⟩
              rw [List.getElem?_eraseIdx] at hv hz
              split at hv
              · rename_i hj; rw [if_pos hj] at hz; exact hes.2 j v z hv hz
              · rename_i hj; rw [if_neg hj] at hz; exact hes.2 (j + 1) v z hv hz
        · rename_i hq
          cases h
          obtain ⟨r', a, fr, c⟩ := spot_ok hok hy hq hes w
          cases r' with
          | some _ => exact fr.elim
          | none =>
            obtain ⟨w1, r1, r2⟩ := setObj_turned (P := P) (o' := .map es' clock) hw (by intros; simp)
            have g := (Turned.go (o := .map es clock) hr hi ⟨_, ho, by simp⟩ r2 ⟨rfl, hes⟩ k).wide (Nat.le_succ k)
            refine ⟨_, .tuple #[], w1, ι, ?_, .inl rfl, .unit ι, ⟨g.up, g.ext, ⟨hr.inj, fun j ij oj hj hoj => ?_⟩, g.fr, fun j ij hj lj => .inr ⟨j, ij, hj, lj, rfl⟩⟩⟩
            · simp [Builtin.delete_, ht, hok.und hu, run_getObj_of hw, c, a, r1]
            · refine g.rel.obj j ij oj hj ?_
              rw [Tr.at_put]
              by_cases hjr : j = r
              · rw [if_pos hjr]; rw [hjr, ho] at hoj; exact hoj
              · rw [if_neg hjr]; exact hoj
        · cases h
    · cases h
  · cases h
theorem clearV_ok (hok : Ok P C) {H : Tr AO} {w : World} (hr : Rel C ι H w) {t u : TypeId} {x x' : Value} (hx : VR ι x x') {p : Value × Tr AO} (h : clearV C H t x = some p) {ts : Array TypeId} (ht : ts[0]? = some t) (k : Nat) :
    NA P C ι H w (do pure (.value (← Builtin.clear_ ts u #[x']))) k p.1 p.2 := by
  unfold clearV at h
  split at h
  · rename_i hu
    cases h; cases hx
    exact ⟨_, .tuple #[], w, ι, by simp [Builtin.clear_, ht, hok.und hu], .inl rfl, .unit ι, (Go1.refl hr).wide (Nat.le_succ k)⟩
  · rename_i a b r hu
    split at h
    · rename_i es clock ho
      cases h
      cases hx with
      | map hi =>
        rename_i i
        obtain ⟨es', hw, hes⟩ := map_of hr hi ho
        obtain ⟨w1, r1, r2⟩ := setObj_turned (P := P) (o' := .map #[] clock) hw (by intros; simp)
        refine ⟨_, .tuple #[], w1, ι, ?_, .inl rfl, .unit ι, (Turned.go (o := .map [] clock) hr hi ⟨_, ho, by simp⟩ r2 ⟨rfl, rfl, fun j v w h => by simp at h⟩ k).wide (Nat.le_succ k)⟩
        simp [Builtin.clear_, ht, hok.und hu, run_getObj_of hw, r1]
    · cases h
  · rename_i hu
    cases h; cases hx
    exact ⟨_, .tuple #[], w, ι, by simp [Builtin.clear_, ht, hok.und hu], .inl rfl, .unit ι, (Go1.refl hr).wide (Nat.le_succ k)⟩
  · rename_i e a n cap hu
    cases hn : Nat.beq n 0 with
    | true =>
      rw [hn] at h; cases h
      have : n = 0 := Nat.eq_of_beq_eq_true hn
      subst this
      obtain ⟨i, hi, _, ⟨c', rfl, _⟩ | ⟨_, _, o', rfl⟩⟩ := slice_inv hx <;>
        exact ⟨_, .tuple #[], w, ι, by simp [Builtin.clear_, ht, hok.und hu], .inl rfl, .unit ι, (Go1.refl hr).wide (Nat.le_succ k)⟩
    | false =>
      rw [hn] at h
      dsimp only [cond_false] at h
      split at h
      · rename_i z hz
        split at h
        · rename_i H' hp
          cases h
          obtain ⟨z1, z2⟩ := hok.zer hz w
          obtain ⟨i, hi, _, ⟨c', rfl, _⟩ | ⟨n0, _, _, _⟩⟩ := slice_inv hx
          case inr => subst n0; cases hn
          have hzc : (Builtin.zeroCells z.cells n).toList = repL z.cells.toList n := rep_arr z.cells n _ rfl
          obtain ⟨w1, r1, r2⟩ := putCells_ok (P := P) hr hi hp ((okZ_self ι z2).cells.rep n) k
          refine ⟨_, .tuple #[], w1, ι, ?_, .inl rfl, .unit ι, r2.wide (Nat.le_succ k)⟩
          have n0 : n ≠ 0 := fun e => by rw [e] at hn; cases hn
          obtain ⟨m, rfl⟩ : ∃ m, n = m + 1 := ⟨n - 1, by omega⟩
          simp [Builtin.clear_, ht, hok.und hu, z1, hzc, r1]
        · cases h
      · cases h
  · cases h
end Go.Proofs.YtpakmmnbkccdcaaDoor.Ev
