/-
  What makes memory: a new block, as the plain machine tells it. No condition.
-/
import Derived.Test.YtpakmmnbkccdcaaDoorEvOp7
namespace Go.Proofs.YtpakmmnbkccdcaaDoor.Ev
open Go Go.RowKit
set_option linter.unusedVariables false
variable {P : Program} {C : Cx} {ι : IM}
def upd (ι : IM) (k : Nat) (i : Im) : IM := fun j => if j = k then some i else ι j
theorem upd_same (ι : IM) (k : Nat) (i : Im) : upd ι k i k = some i := if_pos rfl
theorem upd_other (ι : IM) {k j : Nat} (i : Im) (h : j ≠ k) : upd ι k i j = ι j := if_neg h
theorem upd_le {ι : IM} {k : Nat} (i : Im) (h : ι k = none) : IM.le ι (upd ι k i) := fun j x e => by
  by_cases hj : j = k
  · subst hj; rw [h] at e; cases e
  · rw [upd_other ι i hj]; exact e
theorem Rel.lt {H : Tr AO} {w : World} (hr : Rel C ι H w) {k : Nat} {i : Im} (hi : ι k = some i) (hl : live H k) : i.b < w.heap.size := by
  obtain ⟨o, ho, hne⟩ := hl
  have hR := hr.obj _ _ _ hi ho
  rcases Nat.lt_or_ge i.b w.heap.size with h | h
  · exact h
  · rw [Array.getElem?_eq_none h] at hR
    cases o <;> first | exact hR.elim | exact absurd rfl hne
/-- A new block. -/
structure NewB (w w1 : World) (ob : Obj) : Prop where
  heap : w1.heap = w.heap.push ob
  os : w1.os = w.os
  tape : w1.tape = w.tape
  output : w1.output = w.output
theorem live_put {H : Tr AO} {k j : Nat} {o : AO} (h : live (H.put k o) j) : (j = k ∧ o ≠ .dead) ∨ (j ≠ k ∧ live H j) := by
  obtain ⟨x, hx, hne⟩ := h
  rw [Tr.at_put] at hx
  by_cases hj : j = k
  · rw [if_pos hj] at hx; cases hx; exact .inl ⟨hj, hne⟩
  · rw [if_neg hj] at hx; exact .inr ⟨hj, x, hx, hne⟩
theorem NewB.go {H : Tr AO} {w w1 : World} {ob : Obj} (hn : NewB w w1 ob) (hr : Rel C ι H w) {k : Nat} (hk : ι k = none) {i : Im} (hb : i.b = w.heap.size) {o : AO} (ho : ORel C (upd ι k i) i o (some ob)) :
    Go1 C ι H k w (upd ι k i) (H.put k o) (k + 1) w1 where
  up := Nat.le_succ k
  ext := fun j hj => upd_other ι i (by omega)
  rel := {
    inj := fun a b ia ib ha hb' e la lb => by
      have low : ∀ {c ic}, upd ι k i c = some ic → live (H.put k o) c → c ≠ k → ic.b < w.heap.size := fun {c ic} h l hne => by
        rw [upd_other ι i hne] at h
        rcases live_put l with ⟨e, _⟩ | ⟨_, l⟩
        · exact absurd e hne
        · exact hr.lt h l
      by_cases h1 : a = k <;> by_cases h2 : b = k
      · rw [h1, h2]
      · have := low hb' lb h2
        subst h1; rw [upd_same] at ha; cases ha; omega
      · have := low ha la h1
        subst h2; rw [upd_same] at hb'; cases hb'; omega
      · rw [upd_other ι i h1] at ha
        rw [upd_other ι i h2] at hb'
        rcases live_put la with ⟨e, _⟩ | ⟨_, la⟩
        · exact absurd e h1
        · rcases live_put lb with ⟨e, _⟩ | ⟨_, lb⟩
          · exact absurd e h2
          · exact hr.inj a b ia ib ha hb' e la lb
    obj := fun j ij oj hj hoj => by
      rw [Tr.at_put] at hoj
      by_cases h1 : j = k
      · subst h1
        rw [if_pos rfl] at hoj; cases hoj
        rw [upd_same] at hj; cases hj
        rw [hn.heap, hb, Array.getElem?_push, if_pos rfl]
        exact ho
      · rw [if_neg h1] at hoj
        rw [upd_other ι i h1] at hj
        have h0 := hr.obj j ij oj hj hoj
        by_cases hd : oj = .dead
        · subst hd; trivial
        · have hlt := hr.lt hj ⟨oj, hoj, hd⟩
          rw [hn.heap, Array.getElem?_push, if_neg (by omega)]
          exact h0.mono (upd_le i hk) }
  fr := ⟨hn.os, hn.tape, hn.output, by rw [hn.heap]; simp, fun b hb _ => by rw [hn.heap, Array.getElem?_push, if_neg (by omega)]⟩
  new := fun j ij hj lj => by
    rcases live_put lj with ⟨e, _⟩ | ⟨hne, lj⟩
    · subst e; rw [upd_same] at hj; cases hj; exact .inl (by omega)
    · rw [upd_other ι i hne] at hj; exact .inr ⟨j, ij, hj, lj, rfl⟩
/-- A block is made. -/
def Mk (P : Program) (C : Cx) (ι : IM) (w : World) (s : Sem Value) (k : Nat) (x : Value) (o : AO) : Prop :=
  ∃ x' w1 ob i, s.run P w = .ok x' w1 ∧ NewB w w1 ob ∧ i.b = w.heap.size ∧ ORel C (upd ι k i) i o (some ob) ∧ VR (upd ι k i) x x'
theorem newB_new (w : World) (ob : Obj) : NewB w { w with heap := w.heap.push ob } ob := ⟨rfl, rfl, rfl, rfl⟩
theorem rowO_ok {ι' : IM} {e : TypeId} {l : List Value} {arr : Array Value} (hl : LR ι' l arr.toList) {i : Im} (h1 : i.δ = 0) (h2 : i.n = l.length) (h3 : i.ext = 0) : ORel C ι' i (rowO e l true) (some (.cells arr e (0, 0))) := by
  have hs := hl.1
  refine ⟨rfl, h2, fun _ => h3, fun h => (by cases h), ?_, fun j _ h => (by omega), fun j hj => ?_⟩
  · rw [h1, h3]; unfold lenL; simp at hs; omega
  · unfold lenL at hj
    have hv : l[j]? = some l[j] := List.getElem?_eq_getElem hj
    obtain ⟨y, hy, vr⟩ := hl.get hv
    refine ⟨l[j], y, by rw [Tr.at_of]; exact hv, ?_, vr⟩
    rw [h1, Nat.zero_add]; simpa using hy
theorem box_ok {t : TypeId} {x x' : Value} (hx : VR ι x x') {k : Nat} (hk : ι k = none) (w : World) : Mk P C ι w (Instr.box t x') k (.pointer (atK k)) (rowO t (cellsL x) true) := by
  let i : Im := ⟨w.heap.size, 0, (cellsL x).length, 0, 0⟩
  refine ⟨.pointer (some ⟨w.heap.size, 0, none⟩), _, .cells x'.cells t (0, 0), i, ?_, newB_new w _, rfl, rowO_ok ((hx.cells).mono (upd_le i hk)) rfl rfl rfl, ?_⟩
  · simp [Instr.box, newVar, newRow]
  · exact VR.ptr (ι := upd ι k i) (k := k) 0 (upd_same ι k i)
theorem allocV_ok (hok : Ok P C) {t : TypeId} {k : Nat} {p : Value × AO} (h : allocV C t k = some p) (hk : ι k = none) (w : World) : Mk P C ι w (Instr.alloc t true (.tuple #[])) k p.1 p.2 := by
  unfold allocV at h
  split at h
  · rename_i z hz
    cases h
    obtain ⟨z1, z2⟩ := hok.zer hz w
    obtain ⟨x', w1, ob, i, a, b, c, d, e⟩ := box_ok (P := P) (C := C) (t := t) (okZ_self ι z2) hk w
    refine ⟨x', w1, ob, i, ?_, b, c, d, e⟩
    rw [← a]
    simp [Instr.alloc, Instr.box, z1]
  · cases h
theorem rep_get (z : List Value) (hz : 0 < z.length) : ∀ (c j : Nat), j < c * z.length → (repL z c)[j]? = z[j % z.length]? := by
  intro c
  induction c with
  | zero => intro j h; omega
  | succ c ih =>
    intro j h
    show (z ++ repL z c)[j]? = _
    rw [Nat.succ_mul] at h
    by_cases hj : j < z.length
    · rw [List.getElem?_append_left hj, Nat.mod_eq_of_lt hj]
    · rw [List.getElem?_append_right (by omega), ih _ (by omega)]
      congr 1
      exact (Nat.mod_eq_sub_mod (by omega)).symm
theorem rep_len (z : List Value) : ∀ c, (repL z c).length = c * z.length
  | 0 => by simp [repL]
  | c + 1 => by show (z ++ repL z c).length = _; rw [List.length_append, rep_len z c, Nat.succ_mul]; omega
theorem rep_arr (z : Array Value) (c n : Nat) (hn : n = c * z.size) : (((Array.range n).map (z[· % z.size]!)).toList) = repL z.toList c := by
  apply List.ext_getElem?
  intro j
  have hl : (repL z.toList c).length = n := by rw [rep_len]; simp [hn]
  by_cases hj : j < n
  · have hz : 0 < z.size := by
      rcases Nat.eq_zero_or_pos z.size with h | h
      · rw [h] at hn; omega
      · exact h
    rw [rep_get z.toList (by simpa using hz) c j (by simpa [hn] using hj)]
    have hm : j % z.size < z.size := Nat.mod_lt _ hz
    simp [hj, getElem!_pos, hm]
  · rw [List.getElem?_eq_none (by simp; omega), List.getElem?_eq_none (by omega)]
theorem slice_new (ι : IM) (k : Nat) (i : Im) (l c : Nat) (h : i.δ = 0) : VR (upd ι k i) (.slice (atK k) l c) (.slice (some ⟨i.b, 0, none⟩) l c) := by
  have := VR.slice (ι := upd ι k i) (k := k) 0 l c c (upd_same ι k i) (.inl rfl)
  rwa [h] at this
theorem buildSliceV_ok (hok : Ok P C) {t : TypeId} {n : Nat} {ps ps' : List (Nat × Value)} (hps : PR ι ps ps') {k : Nat} {p : Value × AO} (h : buildSliceV C t n ps k = some p) (hk : ι k = none) (w : World) : Mk P C ι w (Instr.buildSlice t n ps'.toArray) k p.1 p.2 := by
  unfold buildSliceV at h
  split at h
  · rename_i e hu
    split at h
    · rename_i s z hs hz
      obtain ⟨hb, h⟩ := cond_some' h
      obtain ⟨b1, b2⟩ := (Bool.and_eq_true _ _).mp hb
      have b1 := Nat.le_of_ble_eq_true b1
      have b2 : (cellsL z).length = s := Nat.eq_of_beq_eq_true b2
      obtain ⟨z1, z2⟩ := hok.zer hz w
      split at h
      · rename_i l hl
        cases h
        have hzc : LR ι (repL (cellsL z) n) ((Array.range (n * s)).map ((if n * s = 0 then #[] else z.cells)[· % (if n * s = 0 then (#[] : Array Value) else z.cells).size]!)).toList := by
          have hc := (okZ_self ι z2).cells
          have hs2 : z.cells.size = s := by have := hc.1; simp at this; omega
          by_cases h0 : n * s = 0
          · have : repL (cellsL z) n = [] := by
              apply List.eq_nil_of_length_eq_zero
              rw [rep_len, b2]; exact h0
            rw [this, h0]; simp; exact .nil ι
          · simp only [h0, if_false]
            rw [rep_arr z.cells n (n * s) (by rw [hs2])]
            exact hc.rep n
        obtain ⟨l', f1, f2⟩ := fillC_ok (ι := ι) (place' := fun i => some (i * s, s)) (fun i q e => e) ps ps' _ _ _ hl hps hzc
        let i : Im := ⟨w.heap.size, 0, l.length, 0, 0⟩
        refine ⟨.slice (some ⟨w.heap.size, 0, none⟩) n n, _, .cells l' e (0, 0), i, ?_, newB_new w _, rfl, rowO_ok (f2.mono (upd_le i hk)) rfl rfl rfl, slice_new ι k i n n rfl⟩
        have hle : ¬ (n * s > 2 ^ 24) := by omega
        simp only [Instr.buildSlice, Sem.run_bind, hok.und hu, hok.siz hs, Result.andThen_ok, hle, if_false]
        by_cases h0 : n * s = 0
        · simp only [h0, if_true] at f1 ⊢
          simp only [Sem.run_bind, Sem.run_pure, Result.andThen_ok, f1]
          simp [newRow]
        · simp only [h0, if_false] at f1 ⊢
          simp only [Sem.run_pure, Result.andThen_ok, Sem.run_bind, z1, f1]
          simp [newRow]
      · cases h
    · cases h
  · cases h
theorem makeMapV_ok (hok : Ok P C) {t : TypeId} {r r' : Option Value} (hr : OR ι r r') {k : Nat} {p : Value × AO} (h : makeMapV C t r k = some p) (hk : ι k = none) (w : World) : Mk P C ι w (Instr.makeMap t r') k p.1 p.2 := by
  let i : Im := ⟨w.heap.size, 0, 0, 0, 0⟩
  have fin : ORel C (upd ι k i) i (.map [] 0) (some (.map #[] 0)) := ⟨rfl, rfl, fun j v w h => by simp at h⟩
  have fin2 : VR (upd ι k i) (.map (some k)) (.map (some w.heap.size)) := VR.map (ι := upd ι k i) (k := k) (upd_same ι k i)
  unfold makeMapV at h
  split at h
  · cases h
    cases r' with
    | some _ => exact hr.elim
    | none => exact ⟨_, _, .map #[] 0, i, by simp [Instr.makeMap], newB_new w _, rfl, fin, fin2⟩
  · split at h
    · rename_i hu
      cases h
      cases r' with
      | none => exact hr.elim
      | some y =>
        have hr : VR ι _ _ := hr
        cases hr
        exact ⟨_, _, .map #[] 0, i, by simp [Instr.makeMap, hok.und hu, asInt, asIntOf], newB_new w _, rfl, fin, fin2⟩
    · cases h
theorem makeSliceV_ok (hok : Ok P C) {t : TypeId} {x y x' y' : Value} (hx : VR ι x x') (hy : VR ι y y') {k : Nat} {p : Value × AO} (h : makeSliceV C t x y k = some p) (hk : ι k = none) (w : World) : Mk P C ι w (Instr.makeSlice t x' y') k p.1 p.2 := by
  unfold makeSliceV at h
  split at h
  · rename_i e l c hu hl hc
    split at h
    · rename_i ti hi
      split at h
      · rename_i z hz
        obtain ⟨hb, h⟩ := cond_some h
        subst h
        obtain ⟨b1, b2⟩ := (Bool.and_eq_true _ _).mp hb
        obtain ⟨b3, b4⟩ := (Bool.and_eq_true _ _).mp b1
        obtain ⟨b5, b6⟩ := (Bool.and_eq_true _ _).mp b2
        obtain ⟨b7, b8⟩ := (Bool.and_eq_true _ _).mp b6
        have b4 : (cellsL z).length = ti.size := Nat.eq_of_beq_eq_true b4
        have b5 := Nat.le_of_ble_eq_true b5
        have b7 := Nat.le_of_ble_eq_true b7
        have b8 : c < 9223372036854775808 := Nat.le_of_ble_eq_true b8
        obtain ⟨j1, rfl⟩ := natV_inv hl hx
        obtain ⟨j2, rfl⟩ := natV_inv hc hy
        have zr : (zeroValue e).run P w = .ok z w := by simp [zeroValue, hok.inf hi, hz]
        have sr : (sizeOf e).run P w = .ok ti.size w := by simp [sizeOf, hok.inf hi]
        have wl : IntKind.i64.wrap (Int.ofNat l) = (l : Int) := by simp [IntKind.wrap, IntKind.signed, IntKind.bits]; omega
        have wc : IntKind.i64.wrap (Int.ofNat c) = (c : Int) := by simp [IntKind.wrap, IntKind.signed, IntKind.bits]; omega
        have hzc : LR ι (repL (cellsL z) c) ((Array.range (c * ti.size)).map ((if c * ti.size = 0 then #[] else z.cells)[· % (if c * ti.size = 0 then (#[] : Array Value) else z.cells).size]!)).toList := by
          have hc := (okZ_self ι b3).cells
          have hs2 : z.cells.size = ti.size := by have := hc.1; simp at this; omega
          by_cases h0 : c * ti.size = 0
          · have : repL (cellsL z) c = [] := by
              apply List.eq_nil_of_length_eq_zero
              rw [rep_len, b4]; exact h0
            rw [this, h0]; simp; exact .nil ι
          · simp only [h0, if_false]
            rw [rep_arr z.cells c (c * ti.size) (by rw [hs2])]
            exact hc.rep c
        let i : Im := ⟨w.heap.size, 0, (repL (cellsL z) c).length, 0, 0⟩
        refine ⟨.slice (some ⟨w.heap.size, 0, none⟩) l c, _, .cells _ e (0, 0), i, ?_, newB_new w _, rfl, rowO_ok (hzc.mono (upd_le i hk)) rfl rfl rfl, slice_new ι k i l c rfl⟩
        have tl : ∀ n : Nat, n ≤ c → (decide ((n : Int) < 0) || decide ((ti.bytes : Int) * (n : Int) > 2 ^ 48)) = false := by
          intro n hn
          have : ti.bytes * n ≤ ti.bytes * c := Nat.mul_le_mul_left _ hn
          have h2 : (ti.bytes : Int) * (n : Int) = ((ti.bytes * n : Nat) : Int) := by push_cast; rfl
          rw [h2]
          simp only [Bool.or_eq_false_iff, decide_eq_false_iff_not]
          omega
        simp only [Instr.makeSlice, Sem.run_bind, hok.und hu, Result.andThen_ok, asInt, asIntOf, Sem.run_pure, hok.inf hi, wl, wc, tl c (Nat.le_refl c)]
        have c1 : (false || decide ((l : Int) < 0) || decide ((l : Int) > (c : Int))) = false := by simp; omega
        simp only [c1, Bool.false_eq_true, if_false, Sem.run_bind, run_askRoom, sr, Result.andThen_ok, Int.toNat_natCast]
        by_cases h0 : c * ti.size = 0
        · simp only [h0, if_true]
          simp [newRow]
        · simp only [h0, if_false, Sem.run_bind, zr, Sem.run_pure, Result.andThen_ok]
          simp [newRow]
      · cases h
    · cases h
  · cases h
/-- As Mk, but the world may have been asked, too. -/
theorem rangeV_ok (hok : Ok P C) {H : Tr AO} {w : World} (hr : Rel C ι H w) {t : TypeId} {x x' : Value} (hx : VR ι x x') {k : Nat} {p : Value × AO} (h : rangeV C H t x k = some p) (hk : ι k = none) : Mk P C ι w (Instr.range t x') k p.1 p.2 := by
  let i : Im := ⟨w.heap.size, 0, 0, 0, 0⟩
  have fin2 : VR (upd ι k i) (.pointer (atK k)) (.pointer (some ⟨w.heap.size, 0, none⟩)) := VR.ptr (ι := upd ι k i) (k := k) 0 (upd_same ι k i)
  unfold rangeV at h
  split at h
  · rename_i hu
    cases h; cases hx
    exact ⟨_, _, _, i, by simp [Instr.range, hok.und hu], newB_new w (.stringIter _ 0), rfl, ⟨rfl, rfl, rfl⟩, fin2⟩
  · rename_i hu
    cases h; cases hx
    exact ⟨_, _, _, i, by simp [Instr.range, hok.und hu], newB_new w (.mapIter none 0 #[] 0), rfl, ⟨rfl, rfl, rfl, rfl, rfl⟩, fin2⟩
  · rename_i hu
    split at h
    · rename_i es clock ho
      cases h
      cases hx with
      | map hi =>
        obtain ⟨es', hw, _⟩ := map_of hr hi ho
        exact ⟨_, _, _, i, by simp [Instr.range, hok.und hu, run_getObj_of hw], newB_new w (.mapIter _ clock #[] clock), rfl, ⟨rfl, rfl, rfl, rfl, _, upd_le i hk _ _ hi, rfl⟩, fin2⟩
    · cases h
  · cases h
theorem rN_n {k : Nat} {o : Option (Value × AO)} {x : Value} {ob : AO} (h : rN k o = .n x ob) : o = some (x, ob) := by cases o with | none => cases h | some p => cases h; rfl
theorem rV_n {o : Option Value} {x : Value} {ob : AO} (h : rV o = .n x ob) : False := by cases o <;> cases h
theorem rH_n {o : Option (Value × Tr AO)} {x : Value} {ob : AO} (h : rH o = .n x ob) : False := by cases o <;> cases h
theorem biR_n {H : Tr AO} {b : Builtin} {ts : List TypeId} {as : List Value} {k : Nat} {x : Value} {ob : AO} (h : biR C H b ts as k = .n x ob) : False := by
  unfold biR at h
  split at h <;> first
    | (cases h; done)
    | (unfold r1 at h; split at h <;> first | exact rV_n h | cases h)
    | (unfold r2 at h; split at h <;> first | exact rV_n h | exact rH_n h | cases h)
    | (unfold t2 at h; split at h <;> first
        | (unfold r2 at h; split at h <;> first | exact rH_n h | cases h)
        | cases h)
    | (unfold t1 at h; split at h <;> first
        | (unfold r1 at h; split at h <;> first | exact rV_n h | exact rH_n h | cases h)
        | (unfold r2 at h; split at h <;> first | exact rV_n h | exact rH_n h | cases h)
        | cases h)
/-- What an operation makes. -/
def NM (P : Program) (C : Cx) (ι : IM) (w : World) (s : Sem Next) (k : Nat) (x : Value) (o : AO) : Prop :=
  ∃ x' w1 ob i, s.run P w = .ok (.value x') w1 ∧ NewB w w1 ob ∧ i.b = w.heap.size ∧ ORel C (upd ι k i) i o (some ob) ∧ VR (upd ι k i) x x'
theorem NM.of {w : World} {s : Sem Next} {s' : Sem Value} {k : Nat} {x : Value} {o : AO} (h : Mk P C ι w s' k x o) (e : s = (do pure (.value (← s')))) : NM P C ι w s k x o := by
  obtain ⟨x', w1, ob, i, a, b⟩ := h
  exact ⟨x', w1, ob, i, by rw [e]; simp only [Sem.run_bind, a, Result.andThen_ok, Sem.run_pure], b⟩
theorem convR_n {H : Tr AO} {s d : TypeId} {x r : Value} {k : Nat} {ob : AO} (h : convR C H s d x k = .n r ob) : False := by
  unfold convR at h
  split at h
  · unfold convD at h
    split at h
    · split at h <;> cases h
    · split at h
      · cases h
      · unfold convS at h
        split at h
        · split at h
          · exact rV_n h
          · cases h
        · cases h
      · cases h
    · split at h
      · cases h
      · cases h
    · cases h
  · cases h
set_option maxHeartbeats 1000000 in
theorem make_ok (hok : Ok P C) {H : Tr AO} {w : World} (hr : Rel C ι H w) {v v' : Operand → Value} {o : Oper} (hx0 : ∀ y, y ∈ o.op.operands.toList → VR ι (v y) (v' y)) {k : Nat} (hk : ι k = none) {x : Value} {ob : AO} (h : opR o.op C H k v = .n x ob) :
    NM P C ι w (execOp v' o) k x ob := by
  obtain ⟨dst, op, ty, pos, aft, g⟩ := o
  dsimp only at h hx0 ⊢
  have hx : ∀ y, y ∈ op.operands.toList → VR ι (v y) (v' y) := hx0
  cases op with
  | alloc t => exact .of (allocV_ok hok (rN_n (k := k) h) hk w) rfl
  | box t a => cases h; exact .of (box_ok (hx a (by simp [Op.operands])) hk w) rfl
  | buildSlice t n ps =>
    refine .of (buildSliceV_ok hok (mapP_ok fun p hp => hx _ ?_) (rN_n (k := k) h) hk w) ?_
    · simp only [Op.operands, List.mem_map]; exact ⟨p, by simpa using hp, rfl⟩
    · rw [← mapP_arr]; rfl
  | makeMap t r => exact .of (makeMapV_ok hok (optV_ok fun y e => hx y (by subst e; simp [Op.operands])) (rN_n (k := k) h) hk w) rfl
  | makeSlice t a b => exact .of (makeSliceV_ok hok (hx a (by simp [Op.operands])) (hx b (by simp [Op.operands])) (rN_n (k := k) h) hk w) rfl
  | range t a => exact .of (rangeV_ok hok hr (hx a (by simp [Op.operands])) (rN_n (k := k) h) hk) rfl
  | convert s d a => exact (convR_n h).elim
  | call c =>
    obtain ⟨cal, args, ats⟩ := c
    cases cal with
    | builtin b => exact (biR_n h).elim
    | value f =>
      have h : funR (v f) (args.toList.map v) = .n x ob := h
      unfold funR at h; split at h <;> cases h
    | invoke f m => cases h
  | pick => exact (rV_n h).elim
  | build => exact (rV_n h).elim
  | load => exact (rV_n h).elim
  | nilCheck => exact (rV_n h).elim
  | binOp => exact (rV_n h).elim
  | unOp => exact (rV_n h).elim
  | makeInterface => exact (rV_n h).elim
  | slice => exact (rV_n h).elim
  | fieldAddr => exact (rV_n h).elim
  | field => exact (rV_n h).elim
  | indexAddr => exact (rV_n h).elim
  | index => exact (rV_n h).elim
  | lookup => exact (rV_n h).elim
  | typeAssert => exact (rV_n h).elim
  | extract => exact (rV_n h).elim
  | insert => exact (rH_n h).elim
  | store => exact (rH_n h).elim
  | mapUpdate => exact (rH_n h).elim
  | next => exact (rH_n h).elim
  | _ => cases h
end Go.Proofs.YtpakmmnbkccdcaaDoor.Ev
