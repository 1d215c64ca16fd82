/-
  What changes memory: stores, maps, appends. No condition.
-/
import Derived.Test.YtpakmmnbkccdcaaDoorEvMk
namespace Go.Proofs.YtpakmmnbkccdcaaDoor.Ev
open Go Go.RowKit
set_option linter.unusedVariables false
variable {P : Program} {C : Cx} {ι : IM}
theorem Go1.wide {H H' : Tr AO} {nx nx' nx'' : Nat} {ι' : IM} {w w' : World} (h : Go1 C ι H nx w ι' H' nx' w') (hn : nx' ≤ nx'') : Go1 C ι H nx w ι' H' nx'' w' :=
  ⟨Nat.le_trans h.up hn, fun k hk => h.ext k (by omega), h.rel, h.fr, h.new⟩
/-- One block turned. -/
structure Turned (w w1 : World) (b : Nat) (ob : Obj) : Prop where
  os : w1.os = w.os
  tape : w1.tape = w.tape
  output : w1.output = w.output
  size : w1.heap.size = w.heap.size
  other : ∀ k, k ≠ b → w1.heap[k]? = w.heap[k]?
  here : w1.heap[b]? = some ob
theorem Turned.go {H : Tr AO} {w w1 : World} {ob : Obj} (hr : Rel C ι H w) {k0 : Nat} {i : Im} (hi : ι k0 = some i) (hl : live H k0) (ht : Turned w w1 i.b ob) {o : AO} (ho : ORel C ι i o (some ob)) (k : Nat) :
    Go1 C ι H k w ι (H.put k0 o) k w1 where
  up := Nat.le_refl k
  ext := fun _ _ => rfl
  rel := {
    inj := fun a b ia ib ha hb e la lb => by
      have l1 : live H a := by rcases live_put la with ⟨e, _⟩ | ⟨_, l⟩ <;> first | (rw [e]; exact hl) | exact l
      have l2 : live H b := by rcases live_put lb with ⟨e, _⟩ | ⟨_, l⟩ <;> first | (rw [e]; exact hl) | exact l
      exact hr.inj a b ia ib ha hb e l1 l2
    obj := fun j ij oj hj hoj => by
      rw [Tr.at_put] at hoj
      by_cases h1 : j = k0
      · subst h1
        rw [if_pos rfl] at hoj; cases hoj
        rw [hi] at hj; cases hj
        rw [ht.here]; exact ho
      · rw [if_neg h1] at hoj
        by_cases hd : oj = .dead
        · subst hd; trivial
        · have hne : ij.b ≠ i.b := fun e => h1 (hr.inj j k0 ij i hj hi e ⟨oj, hoj, hd⟩ hl)
          rw [ht.other _ hne]
          exact hr.obj j ij oj hj hoj }
  fr := ⟨ht.os, ht.tape, ht.output, Nat.le_of_eq ht.size.symm, fun b hb hn => ht.other b (fun e => hn k0 i hi hl e.symm)⟩
  new := fun j ij hj lj => by
    rcases live_put lj with ⟨e, _⟩ | ⟨_, l⟩
    · subst e; exact .inr ⟨j, ij, hj, hl, rfl⟩
    · exact .inr ⟨j, ij, hj, l, rfl⟩
/-! Cells stored. -/
theorem setCell_heap {w : World} {b o : Nat} {arr : Array Value} {e : TypeId} {fr : Nat × Nat} (h : w.heap[b]? = some (.cells arr e fr)) (v : Value) : Turned w (w.setCell ⟨b, o, none⟩ v) b (.cells (arr.setIfInBounds o v) e fr) := by
  refine ⟨rfl, rfl, rfl, by simp [World.setCell], fun k hk => ?_, ?_⟩
  · simp only [World.setCell, Array.getElem?_modify]
    rw [if_neg (fun e => hk e.symm)]
  · simp only [World.setCell, Array.getElem?_modify, if_pos, h, Option.map_some]
    rfl
theorem Turned.trans {w w1 w2 : World} {b : Nat} {o1 o2 : Obj} (h : Turned w w1 b o1) (h' : Turned w1 w2 b o2) : Turned w w2 b o2 :=
  ⟨h'.os.trans h.os, h'.tape.trans h.tape, h'.output.trans h.output, h'.size.trans h.size, fun k hk => (h'.other k hk).trans (h.other k hk), h'.here⟩
theorem flat_one {v y : Value} (h : VR ι v y) (hf : flatV v = true) : y.oneCell' = true := by
  cases h <;> first | rfl | cases hf
theorem allF_mem : ∀ {l : List Value}, allF l = true → ∀ v ∈ l, flatV v = true
  | [], _, v, hv => by cases hv
  | x :: l, h, v, hv => by
    unfold allF at h
    cases hx : flatV x with
    | false => rw [hx] at h; cases h
    | true =>
      rw [hx] at h
      rcases List.mem_cons.1 hv with e | e
      · rw [e]; exact hx
      · exact allF_mem h v e
theorem storeCells_run {b : Nat} {e : TypeId} {fr : Nat × Nat} (o : Nat) : ∀ (vs : List Value) (i : Nat) (w : World) (arr : Array Value), w.heap[b]? = some (.cells arr e fr) → (∀ j, j < arr.size → ¬ (fr.1 ≤ j ∧ j < fr.2)) → (∀ v ∈ vs, v.oneCell' = true) → o + i + vs.length ≤ arr.size →
    ∃ w1 arr1, (storeCells ⟨b, o, none⟩ vs i).run P w = .ok () w1 ∧ Turned w w1 b (.cells arr1 e fr) ∧ arr1.size = arr.size ∧ ∀ j, arr1[j]? = if o + i ≤ j ∧ j < o + i + vs.length then vs[j - (o + i)]? else arr[j]? := by
  intro vs
  induction vs with
  | nil =>
    intro i w arr hw _ _ _
    exact ⟨w, arr, rfl, ⟨rfl, rfl, rfl, rfl, fun _ _ => rfl, hw⟩, rfl, fun j => by rw [if_neg (by simp only [List.length_nil]; omega)]⟩
  | cons v vs ih =>
    intro i w arr hw hfr hone hle
    simp only [List.length_cons] at hle
    have hc : w.cell? ⟨b, o + i, none⟩ = some arr[o + i] := by rw [cell_of hw]; exact Array.getElem?_eq_getElem (by omega)
    have hz : w.frozen? ⟨b, o + i, none⟩ = false := frozen_of hw _ (hfr _ (by omega))
    have ht := setCell_heap (o := o + i) hw v
    obtain ⟨w1, arr1, r1, r2, r3, r4⟩ := ih (i + 1) (w.setCell ⟨b, o + i, none⟩ v) (arr.setIfInBounds (o + i) v) ht.here (by simpa using hfr) (fun x hx => hone x (by simp [hx])) (by simp; omega)
    refine ⟨w1, arr1, ?_, ht.trans r2, by simpa using r3, fun j => ?_⟩
    · simp only [storeCells, Sem.run_bind, add_mk, run_store P w _ v _ (hone v (by simp)), hc, hz, Bool.false_eq_true, if_false, Result.andThen_ok]
      exact r1
    · rw [r4 j, Array.getElem?_setIfInBounds]
      simp only [List.length_cons]
      by_cases h1 : o + (i + 1) ≤ j ∧ j < o + (i + 1) + vs.length
      · rw [if_pos h1, if_pos (by omega)]
        obtain ⟨m, hm⟩ : ∃ m, j - (o + i) = m + 1 := ⟨j - (o + i) - 1, by omega⟩
        rw [hm, List.getElem?_cons_succ]
        exact congrArg (vs[·]?) (by omega)
      · rw [if_neg h1]
        by_cases h2 : o + i = j
        · subst h2; rw [if_pos rfl, if_pos (by omega), if_pos (by omega)]; simp
        · rw [if_neg h2, if_neg (by omega)]
/-- A block of cells as the world holds it. -/
theorem cells_of {H : Tr AO} {w : World} (hr : Rel C ι H w) {r : Nat} {i : Im} (hi : ι r = some i) {e : TypeId} {n : Nat} {c : Tr Value} {ex : Bool} (h : H.at r = some (.cells e n c ex)) :
    ∃ arr fr, w.heap[i.b]? = some (.cells arr e fr) ∧ ORel C ι i (.cells e n c ex) (some (.cells arr e fr)) := by
  have hR := hr.obj _ _ _ hi h
  cases hw : w.heap[i.b]? with
  | none => rw [hw] at hR; exact hR.elim
  | some ob =>
    rw [hw] at hR
    cases ob with
    | cells arr e' fr => obtain rfl := hR.1; exact ⟨arr, fr, rfl, hR⟩
    | _ => exact hR.elim
theorem putCells_ok {H H' : Tr AO} {w : World} (hr : Rel C ι H w) {a : Addr} {i : Im} (hi : ι a.block = some i) {l l' : List Value} (h : putCells H a l = some H') (hl : LR ι l l') (k : Nat) :
    ∃ w1, (storeCells ⟨i.b, a.off + i.δ, none⟩ l').run P w = .ok () w1 ∧ Go1 C ι H k w ι H' k w1 := by
  unfold putCells at h
  split at h
  · rename_i e n c ex ho
    obtain ⟨hb, h⟩ := cond_some h
    subst h
    obtain ⟨b1, b2⟩ := (Bool.and_eq_true _ _).mp hb
    have b1 : a.off + l.length ≤ n := Nat.le_of_ble_eq_true b1
    obtain ⟨arr, fr, hw, h1, h2, h3, h3', h4, h5, h6⟩ := cells_of hr hi ho
    have hlen := hl.1
    have hone : ∀ v ∈ l', v.oneCell' = true := by
      intro v hv
      obtain ⟨j, hj⟩ := List.getElem?_of_mem hv
      have hj' : j < l.length := by
        rcases Nat.lt_or_ge j l.length with h | h
        · exact h
        · rw [List.getElem?_eq_none (by omega)] at hj; cases hj
      have := hl.2 j l[j] v (List.getElem?_eq_getElem hj') hj
      exact flat_one this (allF_mem b2 _ (List.getElem_mem hj'))
    obtain ⟨w1, arr1, r1, r2, r3, r4⟩ := storeCells_run (P := P) (a.off + i.δ) l' 0 w arr hw h5 hone (by omega)
    refine ⟨w1, r1, Turned.go hr hi ⟨_, ho, by simp⟩ r2 ?_ k⟩
    refine ⟨rfl, h2, h3, h3', by rw [r3]; exact h4, by rw [r3]; exact h5, fun j hj => ?_⟩
    rw [Tr.at_puts, r4]
    simp only [Nat.add_zero]
    by_cases hin : a.off ≤ j ∧ j < a.off + l.length
    · rw [if_pos hin, if_pos (by omega)]
      have hv : l[j - a.off]? = some l[j - a.off] := List.getElem?_eq_getElem (by omega)
      obtain ⟨y, hy, hvr⟩ := hl.get hv
      exact ⟨_, y, hv, by rw [← hy]; exact congrArg (l'[·]?) (by omega), hvr⟩
    · rw [if_neg hin, if_neg (by omega)]
      exact h6 j hj
  · cases h
/-- What an act comes to. -/
def NA (P : Program) (C : Cx) (ι : IM) (H : Tr AO) (w : World) (s : Sem Next) (k : Nat) (x : Value) (H' : Tr AO) : Prop :=
  ∃ n x' w1 ι1, s.run P w = .ok n w1 ∧ (n = .value x' ∨ (n = .skip ∧ x' = undef)) ∧ VR ι1 x x' ∧ Go1 C ι H k w ι1 H' (k + 1) w1
theorem VR.undef (ι : IM) : VR ι undef undef := .tuple rfl (fun j v w h => by simp at h)
theorem VR.unit (ι : IM) : VR ι (.tuple #[]) (.tuple #[]) := .tuple rfl (fun j v w h => by simp at h)
theorem storeV_ok (hok : Ok P C) {H : Tr AO} {w : World} (hr : Rel C ι H w) {t : TypeId} {x y x' y' : Value} (hx : VR ι x x') (hy : VR ι y y') {p : Value × Tr AO} (h : storeV C H t x y = some p) (k : Nat) :
    NA P C ι H w (do Instr.storeAt t x' y'; pure .skip) k p.1 p.2 := by
  unfold storeV at h
  split at h
  · rename_i a s hs
    obtain ⟨hb, h⟩ := cond_some' h
    have hb : (cellsL y).length = s := Nat.eq_of_beq_eq_true hb
    split at h
    · rename_i H' hp
      cases h
      obtain ⟨i, hi, _, rfl⟩ := ptr_inv hx
      obtain ⟨w1, r1, r2⟩ := putCells_ok (P := P) hr hi hp hy.cells k
      have hsz : y'.cells.size = s := by have := (hy.cells).1; simp at this; omega
      refine ⟨.skip, undef, w1, ι, ?_, .inr ⟨rfl, rfl⟩, .undef ι, r2.wide (Nat.le_succ k)⟩
      simp [Instr.storeAt, Instr.sureAddr, storeVar, hok.siz hs, hsz, r1]
    · cases h
  · cases h
end Go.Proofs.YtpakmmnbkccdcaaDoor.Ev
