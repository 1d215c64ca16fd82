/-
  How what the plain machine holds stands in the world: values and blocks, by a partial map of the plain machine's blocks. No condition.
-/
import Derived.Test.YtpakmmnbkccdcaaDoorEvTr
import Derived.Below
namespace Go.Proofs.YtpakmmnbkccdcaaDoor.Ev
open Go Go.RowKit
set_option linter.unusedVariables false
/-- Where a block stands: the world's block, from which cell; how many cells, of how many an element has; how many elements of room may be behind. -/
structure Im where
  b : Nat
  δ : Nat
  n : Nat
  z : Nat
  ext : Nat
abbrev IM := Nat → Option Im
def IM.le (ι ι' : IM) : Prop := ∀ k i, ι k = some i → ι' k = some i
theorem IM.le_refl (ι : IM) : IM.le ι ι := fun _ _ h => h
theorem IM.le_trans {a b c : IM} (h : IM.le a b) (h' : IM.le b c) : IM.le a c := fun k i e => h' k i (h k i e)
inductive VR (ι : IM) : Value → Value → Prop
  | bool (b : Bool) : VR ι (.bool b) (.bool b)
  | int (k : IntKind) (n : Int) : VR ι (.int k n) (.int k n)
  | float (k : FloatKind) (n : Nat) : VR ι (.float k n) (.float k n)
  | complex (k : FloatKind) (n m : Nat) : VR ι (.complex k n m) (.complex k n m)
  | string (s : ByteArray) : VR ι (.string s) (.string s)
  | nilFunc : VR ι .nilFunc .nilFunc
  | nilIface : VR ι .nilIface .nilIface
  | nilPtr : VR ι (.pointer none) (.pointer none)
  | nilMap : VR ι (.map none) (.map none)
  | nilSlice (l c : Nat) : VR ι (.slice none l c) (.slice none l c)
  | ptr {k : Nat} {i : Im} (o : Nat) (h : ι k = some i) : VR ι (.pointer (some ⟨k, o, none⟩)) (.pointer (some ⟨i.b, o + i.δ, none⟩))
  | map {k : Nat} {i : Im} (h : ι k = some i) : VR ι (.map (some k)) (.map (some i.b))
  | slice {k : Nat} {i : Im} (o l c c' : Nat) (h : ι k = some i) (hc : c' = c ∨ (c < c' ∧ o + c * i.z = i.n ∧ c' ≤ c + i.ext)) : VR ι (.slice (some ⟨k, o, none⟩) l c) (.slice (some ⟨i.b, o + i.δ, none⟩) l c')
  | slice0 {k : Nat} {i : Im} (o o' : Nat) (h : ι k = some i) : VR ι (.slice (some ⟨k, o, none⟩) 0 0) (.slice (some ⟨i.b, o', none⟩) 0 0)
  | iface (t : TypeId) {v w : Value} (h : VR ι v w) : VR ι (.iface t v) (.iface t w)
  | func (f : Fn) {a b c d : Array Value} (h1 : a.size = b.size) (h2 : ∀ (j : Nat) v w, a[j]? = some v → b[j]? = some w → VR ι v w) (h3 : c.size = d.size) (h4 : ∀ (j : Nat) v w, c[j]? = some v → d[j]? = some w → VR ι v w) : VR ι (.func f a c) (.func f b d)
  | agg {a b : Array Value} (h1 : a.size = b.size) (h2 : ∀ (j : Nat) v w, a[j]? = some v → b[j]? = some w → VR ι v w) : VR ι (.agg a) (.agg b)
  | tuple {a b : Array Value} (h1 : a.size = b.size) (h2 : ∀ (j : Nat) v w, a[j]? = some v → b[j]? = some w → VR ι v w) : VR ι (.tuple a) (.tuple b)
theorem VR.mono {ι ι' : IM} (hι : IM.le ι ι') {v w : Value} (h : VR ι v w) : VR ι' v w := by
  induction h with
  | bool b => exact .bool b
  | int k n => exact .int k n
  | float k n => exact .float k n
  | complex k n m => exact .complex k n m
  | string s => exact .string s
  | nilFunc => exact .nilFunc
  | nilIface => exact .nilIface
  | nilPtr => exact .nilPtr
  | nilMap => exact .nilMap
  | nilSlice l c => exact .nilSlice l c
  | ptr o h => exact .ptr o (hι _ _ h)
  | map h => exact .map (hι _ _ h)
  | slice o l c c' h hc => exact .slice o l c c' (hι _ _ h) hc
  | slice0 o o' h => exact .slice0 o o' (hι _ _ h)
  | iface t _ ih => exact .iface t ih
  | func f h1 _ h3 _ i2 i4 => exact .func f h1 i2 h3 i4
  | agg h1 _ i2 => exact .agg h1 i2
  | tuple h1 _ i2 => exact .tuple h1 i2
/-- Rows of values. -/
def LR (ι : IM) (a b : List Value) : Prop := a.length = b.length ∧ ∀ (j : Nat) v w, a[j]? = some v → b[j]? = some w → VR ι v w
theorem LR.nil (ι : IM) : LR ι [] [] := ⟨rfl, fun j v w h => by simp at h⟩
theorem LR.cons {ι : IM} {v w : Value} {a b : List Value} (h : VR ι v w) (hl : LR ι a b) : LR ι (v :: a) (w :: b) :=
  ⟨by simp [hl.1], fun j x y hx hy => by
    cases j with
    | zero => simp at hx hy; subst hx; subst hy; exact h
    | succ j => exact hl.2 j x y (by simpa using hx) (by simpa using hy)⟩
theorem LR.tail {ι : IM} {v w : Value} {a b : List Value} (h : LR ι (v :: a) (w :: b)) : VR ι v w ∧ LR ι a b :=
  ⟨h.2 0 v w rfl rfl, by have := h.1; simpa using this, fun j x y hx hy => h.2 (j + 1) x y (by simpa using hx) (by simpa using hy)⟩
theorem LR.mono {ι ι' : IM} (hι : IM.le ι ι') {a b : List Value} (h : LR ι a b) : LR ι' a b := ⟨h.1, fun j v w hv hw => (h.2 j v w hv hw).mono hι⟩
theorem LR.get {ι : IM} {a b : List Value} (h : LR ι a b) {j : Nat} {v : Value} (hv : a[j]? = some v) : ∃ w, b[j]? = some w ∧ VR ι v w := by
  have hj : j < a.length := by
    rcases Nat.lt_or_ge j a.length with h | h
    · exact h
    · rw [List.getElem?_eq_none h] at hv; cases hv
  have hj' : j < b.length := h.1 ▸ hj
  exact ⟨b[j], List.getElem?_eq_getElem hj', h.2 j v _ hv (List.getElem?_eq_getElem hj')⟩
theorem LR.append {ι : IM} {a b c d : List Value} (h : LR ι a b) (h' : LR ι c d) : LR ι (a ++ c) (b ++ d) :=
  ⟨by simp [h.1, h'.1], fun j v w hv hw => by
    rcases Nat.lt_or_ge j a.length with hj | hj
    · rw [List.getElem?_append_left hj] at hv
      rw [List.getElem?_append_left (h.1 ▸ hj)] at hw
      exact h.2 j v w hv hw
    · rw [List.getElem?_append_right hj] at hv
      rw [List.getElem?_append_right (h.1 ▸ hj), ← h.1] at hw
      exact h'.2 _ v w hv hw⟩
theorem LR.take {ι : IM} {a b : List Value} (h : LR ι a b) (n : Nat) : LR ι (a.take n) (b.take n) :=
  ⟨by simp [h.1], fun j v w hv hw => by
    rw [List.getElem?_take] at hv hw
    split at hv
    · rename_i hj; rw [if_pos hj] at hw; exact h.2 j v w hv hw
    · cases hv⟩
theorem LR.drop {ι : IM} {a b : List Value} (h : LR ι a b) (n : Nat) : LR ι (a.drop n) (b.drop n) :=
  ⟨by simp [h.1], fun j v w hv hw => by
    rw [List.getElem?_drop] at hv hw
    exact h.2 _ v w hv hw⟩
theorem LR.rep {ι : IM} {a b : List Value} (h : LR ι a b) : ∀ n, LR ι (repL a n) (repL b n)
  | 0 => .nil ι
  | n + 1 => h.append (h.rep n)
theorem VR.agg' {ι : IM} {a b : List Value} (h : LR ι a b) : VR ι (.agg a.toArray) (.agg b.toArray) := .agg (by simpa using h.1) (fun j v w hv hw => h.2 j v w (by simpa using hv) (by simpa using hw))
theorem VR.tuple' {ι : IM} {a b : List Value} (h : LR ι a b) : VR ι (.tuple a.toArray) (.tuple b.toArray) := .tuple (by simpa using h.1) (fun j v w hv hw => h.2 j v w (by simpa using hv) (by simpa using hw))
theorem LR.ofArr {ι : IM} {a b : Array Value} (h1 : a.size = b.size) (h2 : ∀ (j : Nat) v w, a[j]? = some v → b[j]? = some w → VR ι v w) : LR ι a.toList b.toList := ⟨by simpa using h1, fun j v w hv hw => h2 j v w (by simpa using hv) (by simpa using hw)⟩
theorem VR.agg_inv {ι : IM} {a : Array Value} {w : Value} (h : VR ι (.agg a) w) : ∃ b, w = .agg b ∧ LR ι a.toList b.toList := by
  cases h with | agg h1 h2 => exact ⟨_, rfl, .ofArr h1 h2⟩
theorem VR.tuple_inv {ι : IM} {a : Array Value} {w : Value} (h : VR ι (.tuple a) w) : ∃ b, w = .tuple b ∧ LR ι a.toList b.toList := by
  cases h with | tuple h1 h2 => exact ⟨_, rfl, .ofArr h1 h2⟩
theorem VR.cells {ι : IM} {v w : Value} (h : VR ι v w) : LR ι (cellsL v) w.cells.toList := by
  have one : ∀ {x y : Value}, VR ι x y → LR ι [x] [y] := fun h => .cons h (.nil ι)
  cases h with
  | agg h1 h2 => exact .ofArr h1 h2
  | bool b => exact one (.bool b)
  | int k n => exact one (.int k n)
  | float k n => exact one (.float k n)
  | complex k n m => exact one (.complex k n m)
  | string s => exact one (.string s)
  | nilFunc => exact one .nilFunc
  | nilIface => exact one .nilIface
  | nilPtr => exact one .nilPtr
  | nilMap => exact one .nilMap
  | nilSlice l c => exact one (.nilSlice l c)
  | ptr o h => exact one (.ptr o h)
  | map h => exact one (.map h)
  | slice o l c c' h hc => exact one (.slice o l c c' h hc)
  | slice0 o o' h => exact one (.slice0 o o' h)
  | iface t h => exact one (.iface t h)
  | func f h1 h2 h3 h4 => exact one (.func f h1 h2 h3 h4)
  | tuple h1 h2 => exact one (.tuple h1 h2)
theorem VR.self (ι : IM) : ∀ {v : Value}, plainV v = true → VR ι v v
  | .bool b, _ => .bool b
  | .int k n, _ => .int k n
  | .float k n, _ => .float k n
  | .complex k n m, _ => .complex k n m
  | .string s, _ => .string s
  | .nilFunc, _ => .nilFunc
  | .nilIface, _ => .nilIface
  | .pointer none, _ => .nilPtr
  | .map none, _ => .nilMap
  | .slice none l c, _ => .nilSlice l c
theorem LR.self (ι : IM) {l : List Value} (h : ∀ v ∈ l, plainV v = true) : LR ι l l := ⟨rfl, fun j v w hv hw => by
  rw [hv] at hw; cases hw; exact VR.self ι (h v (List.mem_of_getElem? hv))⟩
/-! Blocks. -/
structure EntR (ι : IM) (a : Ent) (b : MapEntry) : Prop where
  key : VR ι a.key b.key
  val : VR ι a.val b.val
  born : a.born = b.born
def EsR (ι : IM) (a : List Ent) (b : List MapEntry) : Prop := a.length = b.length ∧ ∀ (j : Nat) v w, a[j]? = some v → b[j]? = some w → EntR ι v w
def ORel (C : Cx) (ι : IM) (i : Im) : AO → Option Obj → Prop
  | .cells e n c ex, some (.cells arr e' fr) => e' = e ∧ i.n = n ∧ (ex = true → i.ext = 0) ∧ (ex = false → siz C e = some i.z) ∧ i.δ + n + i.ext * i.z ≤ arr.size ∧ (∀ j, j < arr.size → ¬ (fr.1 ≤ j ∧ j < fr.2)) ∧
      ∀ j, j < n → ∃ v w, c.at j = some v ∧ arr[i.δ + j]? = some w ∧ VR ι v w
  | .map es clock, some (.map es' clock') => clock' = clock ∧ EsR ι es es'.toList
  | .iter s pos, some (.stringIter s' pos') => i.δ = 0 ∧ s' = s ∧ pos' = pos
  | .miter m since seen last, some (.mapIter m' since' seen' last') => i.δ = 0 ∧ since' = since ∧ seen'.toList = seen ∧ last' = last ∧ (match m with | none => m' = none | some k => ∃ i', ι k = some i' ∧ m' = some i'.b)
  | .dead, _ => True
  | _, _ => False
theorem EsR.mono {ι ι' : IM} (hι : IM.le ι ι') {a : List Ent} {b : List MapEntry} (h : EsR ι a b) : EsR ι' a b :=
  ⟨h.1, fun j v w hv hw => ⟨(h.2 j v w hv hw).key.mono hι, (h.2 j v w hv hw).val.mono hι, (h.2 j v w hv hw).born⟩⟩
theorem ORel.mono {C : Cx} {ι ι' : IM} (hι : IM.le ι ι') {i : Im} {o : AO} {x : Option Obj} (h : ORel C ι i o x) : ORel C ι' i o x := by
  cases o with
  | cells e n c ex =>
    match x, h with
    | some (.cells arr e' fr), ⟨h1, h2, h3, h3', h4, h5, h6⟩ =>
      exact ⟨h1, h2, h3, h3', h4, h5, fun j hj => by obtain ⟨v, w, a, b, c⟩ := h6 j hj; exact ⟨v, w, a, b, c.mono hι⟩⟩
  | map es clock =>
    match x, h with
    | some (.map es' clock'), ⟨h1, h2⟩ => exact ⟨h1, h2.mono hι⟩
  | iter s pos =>
    match x, h with
    | some (.stringIter s' pos'), h => exact h
  | miter m since seen last =>
    match x, h with
    | some (.mapIter m' since' seen' last'), ⟨h0, h1, h2, h3, h4⟩ =>
      refine ⟨h0, h1, h2, h3, ?_⟩
      cases m with
      | none => exact h4
      | some k => obtain ⟨i', a, b⟩ := h4; exact ⟨i', hι _ _ a, b⟩
  | dead => trivial
def live (H : Tr AO) (k : Nat) : Prop := ∃ o, H.at k = some o ∧ o ≠ .dead
structure Rel (C : Cx) (ι : IM) (H : Tr AO) (w : World) : Prop where
  inj : ∀ k k' i i', ι k = some i → ι k' = some i' → i.b = i'.b → live H k → live H k' → k = k'
  obj : ∀ k i o, ι k = some i → H.at k = some o → ORel C ι i o w.heap[i.b]?
/-- What stays: every block that is none of the plain machine's. -/
structure Fr (ι : IM) (H : Tr AO) (w w' : World) : Prop where
  os : w'.os = w.os
  tape : w'.tape = w.tape
  output : w'.output = w.output
  size : w.heap.size ≤ w'.heap.size
  same : ∀ b, b < w.heap.size → (∀ k i, ι k = some i → live H k → i.b ≠ b) → w'.heap[b]? = w.heap[b]?
/-- A step, or many. -/
structure Go1 (C : Cx) (ι : IM) (H : Tr AO) (nx : Nat) (w : World) (ι' : IM) (H' : Tr AO) (nx' : Nat) (w' : World) : Prop where
  up : nx ≤ nx'
  ext : ∀ k, k < nx ∨ nx' ≤ k → ι' k = ι k
  rel : Rel C ι' H' w'
  fr : Fr ι H w w'
  new : ∀ k i, ι' k = some i → live H' k → w.heap.size ≤ i.b ∨ ∃ k0 i0, ι k0 = some i0 ∧ live H k0 ∧ i0.b = i.b
/-- Nothing stands yet at the numbers from a up to b. -/
def Un (ι : IM) (a b : Nat) : Prop := ∀ k, a ≤ k → k < b → ι k = none
theorem Go1.le {C : Cx} {ι ι' : IM} {H H' : Tr AO} {nx nx' : Nat} {w w' : World} (h : Go1 C ι H nx w ι' H' nx' w') (hu : Un ι nx nx') : IM.le ι ι' := fun k i e => by
  rcases Nat.lt_or_ge k nx with h1 | h1
  · rw [h.ext k (.inl h1)]; exact e
  · rcases Nat.lt_or_ge k nx' with h2 | h2
    · rw [hu k h1 h2] at e; cases e
    · rw [h.ext k (.inr h2)]; exact e
theorem Go1.refl {C : Cx} {ι : IM} {H : Tr AO} {nx : Nat} {w : World} (h : Rel C ι H w) : Go1 C ι H nx w ι H nx w :=
  ⟨Nat.le_refl _, fun _ _ => rfl, h, ⟨rfl, rfl, rfl, Nat.le_refl _, fun _ _ _ => rfl⟩, fun k i e l => .inr ⟨k, i, e, l, rfl⟩⟩
theorem Go1.un {C : Cx} {ι ι1 : IM} {H H1 : Tr AO} {nx nx1 nx2 : Nat} {w w1 : World} (h : Go1 C ι H nx w ι1 H1 nx1 w1) (hu : Un ι nx nx2) : Un ι1 nx1 nx2 := fun k a b => by
  rw [h.ext k (.inr a)]; exact hu k (Nat.le_trans h.up a) b
theorem Go1.trans {C : Cx} {ι ι1 ι2 : IM} {H H1 H2 : Tr AO} {nx nx1 nx2 : Nat} {w w1 w2 : World} (h : Go1 C ι H nx w ι1 H1 nx1 w1) (h' : Go1 C ι1 H1 nx1 w1 ι2 H2 nx2 w2) : Go1 C ι H nx w ι2 H2 nx2 w2 where
  up := Nat.le_trans h.up h'.up
  ext := fun k hk => by
    rcases hk with hk | hk
    · rw [h'.ext k (.inl (Nat.lt_of_lt_of_le hk h.up)), h.ext k (.inl hk)]
    · rw [h'.ext k (.inr hk), h.ext k (.inr (Nat.le_trans h'.up hk))]
  rel := h'.rel
  fr := ⟨h'.fr.os.trans h.fr.os, h'.fr.tape.trans h.fr.tape, h'.fr.output.trans h.fr.output, Nat.le_trans h.fr.size h'.fr.size, fun b hb hn => by
    rw [h'.fr.same b (Nat.lt_of_lt_of_le hb h.fr.size) (fun k i e l => by
      rcases h.new k i e l with h1 | ⟨k0, i0, e0, l0, hb0⟩
      · omega
      · rw [← hb0]; exact hn k0 i0 e0 l0), h.fr.same b hb hn]⟩
  new := fun k i e l => by
    rcases h'.new k i e l with h1 | ⟨k0, i0, e0, l0, hb0⟩
    · exact .inl (Nat.le_trans h.fr.size h1)
    · rcases h.new k0 i0 e0 l0 with h2 | ⟨k1, i1, e1, l1, hb1⟩
      · exact .inl (hb0 ▸ h2)
      · exact .inr ⟨k1, i1, e1, l1, hb1.trans hb0⟩
end Go.Proofs.YtpakmmnbkccdcaaDoor.Ev
