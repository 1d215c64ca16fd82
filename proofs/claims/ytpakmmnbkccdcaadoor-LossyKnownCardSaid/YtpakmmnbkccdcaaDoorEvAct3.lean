/-
  What changes memory, the rest: copies, appends. No condition.
-/
import Derived.Test.YtpakmmnbkccdcaaDoorEvAct2
namespace Go.Proofs.YtpakmmnbkccdcaaDoor.Ev
open Go Go.RowKit
set_option linter.unusedVariables false
variable {P : Program} {C : Cx} {ι : IM}
theorem iter_of {H : Tr AO} {w : World} (hr : Rel C ι H w) {r : Nat} {i : Im} (hi : ι r = some i) {s : ByteArray} {pos : Nat} (h : H.at r = some (.iter s pos)) : i.δ = 0 ∧ w.heap[i.b]? = some (.stringIter s pos) := by
  have hR := hr.obj _ _ _ hi h
  cases hw : w.heap[i.b]? with
  | none => rw [hw] at hR; exact hR.elim
  | some ob =>
    rw [hw] at hR
    cases ob with
    | stringIter s' p' => obtain ⟨e0, e, h2⟩ := hR; subst e; subst h2; exact ⟨e0, rfl⟩
    | _ => exact hR.elim
theorem nextV_ok {H : Tr AO} {w : World} (hr : Rel C ι H w) {x x' : Value} (hx : VR ι x x') {isS : Bool} {u : TypeId} {p : Value × Tr AO} (h : nextV H x isS = some p) (k : Nat) :
    NA P C ι H w (do pure (.value (← Instr.next x' isS u))) k p.1 p.2 := by
  unfold nextV at h
  split at h
  · rename_i a
    split at h
    · rename_i b pos ho
      obtain ⟨hb, h2⟩ := cond_some' h
      clear h
      obtain ⟨b1, b2⟩ := (Bool.and_eq_true _ _).mp hb
      have b2 : a.off = 0 := Nat.eq_of_beq_eq_true b2
      obtain ⟨i, hi, ha, rfl⟩ := ptr_inv hx
      obtain ⟨d0, hw⟩ := iter_of hr hi ho
      subst b1
      have go : (getObj i.b).run P w = .ok (.stringIter b pos) w := by simp only [getObj, Sem.run, hw]
      have e0 : a.off + i.δ = 0 := by omega
      rw [e0]
      cases hp : Nat.blt pos (lenB b) with
      | false =>
        rw [hp] at h2; cases h2
        have hp : ¬ pos < b.size := fun hl => by
          have : Nat.blt pos (lenB b) = true := Nat.ble_eq_true_of_le hl
          rw [this] at hp; cases hp
        exact ⟨_, .tuple #[.bool false], w, ι, by simp [Instr.next, go, hp], .inl rfl, .tuple' (.cons (.bool false) (.nil ι)), (Go1.refl hr).wide (Nat.le_succ k)⟩
      | true =>
        rw [hp] at h2
        have hp : pos < b.size := Nat.le_of_ble_eq_true hp
        dsimp only [cond_true] at h2
        cases hd : Utf8.decode b pos with
        | mk c wd =>
          rw [hd] at h2
          cases h2
          obtain ⟨w1, r1, r2⟩ := setObj_turned (P := P) (o' := .stringIter b (pos + wd)) hw (by intros; simp)
          refine ⟨_, .tuple #[.bool true, .int .i64 (Int.ofNat pos), .int .i32 (Int.ofNat c)], w1, ι, ?_, .inl rfl, .tuple' (.cons (.bool true) (.cons (.int _ _) (.cons (.int _ _) (.nil ι)))), (Turned.go (o := .iter b (pos + wd)) hr hi ⟨_, ho, by simp⟩ r2 ⟨d0, rfl, rfl⟩ k).wide (Nat.le_succ k)⟩
          simp [Instr.next, go, hp, hd, r1, goInt]
    · cases h
  · cases h
theorem srcLen_ok {y y' : Value} {m : Nat} (h : srcLen y = some m) (hy : VR ι y y') (w : World) : (Builtin.lenOf y').run P w = .ok m w := by
  unfold srcLen at h
  split at h
  · cases h
    cases hy <;> rfl
  · cases h; cases hy; rfl
  · cases h
theorem srcCells_ok {H : Tr AO} {w : World} (hr : Rel C ι H w) {s : Nat} {y y' : Value} {l : List Value} {m : Nat} (h : srcCells H s y = some l) (hm : srcLen y = some m) (hy : VR ι y y') {n : Nat} (hn : n ≤ m) :
    l.length = m * s ∧ ∃ arr, (Builtin.firstCells s n y').run P w = .ok arr w ∧ LR ι (l.take (n * s)) arr.toList := by
  unfold srcCells at h
  split at h
  · rename_i n0 c0
    obtain ⟨hb, h⟩ := cond_some h
    subst h
    cases hm
    have : m = 0 := Nat.eq_of_beq_eq_true hb
    subst this
    have : n = 0 := by omega
    subst this
    cases hy
    exact ⟨by simp, #[], rfl, by simp; exact .nil ι⟩
  · rename_i a n0 c0
    cases hm
    have hlen : l.length = m * s := by
      unfold cellsAt at h
      split at h
      · obtain ⟨_, h⟩ := cond_some' h; exact (Tr.row_some _ _ _ _ h).1
      · cases h
    refine ⟨hlen, ?_⟩
    obtain ⟨i, hi, _, ⟨c', rfl, _⟩ | ⟨m0, _, o', rfl⟩⟩ := slice_inv hy
    · obtain ⟨arr, e, fr, hw, hle, hl⟩ := cells_ok hr hi h
      have hns : n * s ≤ m * s := Nat.mul_le_mul_right s hn
      have e := loadCellsFrom_run (P := P) hw (a.off + i.δ) (n * s) 0 #[] (by omega)
      simp only [Nat.add_zero] at e
      refine ⟨_, by rw [Builtin.firstCells, loadCells]; exact e, ?_⟩
      have h2 := hl.take (n * s)
      have e2 : (arr.extract (a.off + i.δ) (a.off + i.δ + m * s)).toList.take (n * s) = (#[] ++ arr.extract (a.off + i.δ) (a.off + i.δ + n * s)).toList := by
        simp only [Array.empty_append, Array.toList_extract, List.extract_eq_take_drop, List.take_take]
        congr 1; omega
      rwa [e2] at h2
    · subst m0
      have : n = 0 := by omega
      subst this
      refine ⟨#[], by simp [Builtin.firstCells, loadCells, loadCellsFrom], ?_⟩
      simp; exact .nil ι
  · rename_i b
    obtain ⟨hb, h⟩ := cond_some h
    subst h
    have : s = 1 := Nat.eq_of_beq_eq_true hb
    subst this
    cases hm
    cases hy
    refine ⟨by simp [lenB], (b.extract 0 n).data.map fun (u : UInt8) => Value.int .u8 (u.toNat : Int), rfl, ?_⟩
    rw [ByteArray.data_extract]
    simp only [Nat.mul_one, Array.toList_map, Array.toList_extract, List.extract_eq_take_drop, List.drop_zero, Nat.sub_zero, ← List.map_take]
    exact .self ι fun v hv => by
      obtain ⟨u, _, rfl⟩ := List.mem_map.1 hv
      rfl
  · cases h
theorem copyV_ok (hok : Ok P C) {H : Tr AO} {w : World} (hr : Rel C ι H w) {t u : TypeId} {x y x' y' : Value} (hx : VR ι x x') (hy : VR ι y y') {p : Value × Tr AO} (h : copyV C H t x y = some p) {ts : Array TypeId} (ht : ts[0]? = some t) (k : Nat) :
    NA P C ι H w (do pure (.value (← Builtin.copy_ ts u #[x', y']))) k p.1 p.2 := by
  unfold copyV at h
  split at h
  · rename_i e b n cap m hu hm
    split at h
    · rename_i s hs
      have lo := srcLen_ok (P := P) hm hy w
      split at h
      · rename_i l hl
        obtain ⟨_, arr, f1, f2⟩ := srcCells_ok (P := P) hr hl hm hy (n := Nat.min m n) (Nat.min_le_left m n)
        cases hn : Nat.beq n 0 with
        | true =>
          rw [hn] at h; cases h
          have : n = 0 := Nat.eq_of_beq_eq_true hn
          subst this
          have e0 : Nat.min m 0 = 0 := Nat.min_zero m
          rw [e0] at f1 f2
          have ea : arr = #[] := by
            have := f2.1
            simp at this
            exact Array.eq_empty_of_size_eq_zero this.symm
          rw [ea] at f1
          refine ⟨_, .int .i64 0, w, ι, ?_, .inl rfl, .int _ _, (Go1.refl hr).wide (Nat.le_succ k)⟩
          cases hx <;> simp [Builtin.copy_, ht, hok.und hu, lo, hok.siz hs, f1, storeCells, goInt]
        | false =>
          rw [hn] at h
          dsimp only [cond_false] at h
          split at h
          · cases h
          · rename_i a
            split at h
            · rename_i H' hp
              cases h
              obtain ⟨i, hi, _, ⟨c', rfl, _⟩ | ⟨n0, c0, o', rfl⟩⟩ := slice_inv hx
              · obtain ⟨w1, r1, r2⟩ := putCells_ok (P := P) hr hi hp f2 k
                refine ⟨_, .int .i64 (Int.ofNat (Nat.min m n)), w1, ι, ?_, .inl rfl, .int _ _, r2.wide (Nat.le_succ k)⟩
                simp only [Builtin.copy_, ht, List.getElem?_toArray, List.getElem?_cons_zero, List.getElem?_cons_succ, Sem.run_bind, hok.und hu, Result.andThen_ok, lo, hok.siz hs, f1, r1, Sem.run_pure, goInt]
                rfl
              · subst n0; cases hn
            · cases h
      · cases h
    · cases h
  · cases h
/-! Appends. -/
theorem nextcap_le (n c : Nat) (h : c < n) : Builtin.nextslicecap n c ≤ 4 * n + 2000 := by
  have grow : ∀ r c, c ≤ 2 * n + 200 → Builtin.growBy n r c ≤ 2 * n + 200 := by
    intro r
    induction r with
    | zero => intro c h; exact h
    | succ r ih =>
      intro c h
      unfold Builtin.growBy
      split
      · exact h
      · exact ih _ (by omega)
  unfold Builtin.nextslicecap
  split
  · omega
  · split
    · omega
    · have := grow 4 c (by omega); omega
/-- A new block in the place of another, which is dead, or behind all. -/
theorem appKill_ok {H H' : Tr AO} {e : TypeId} {b : Option Addr} {c : Nat} (h : appKill H e b c = some H') : (∀ k, H'.at k = H.at k ∨ H'.at k = some .dead) := by
  unfold appKill at h
  intro k
  split at h
  · cases h; exact .inl rfl
  · rename_i a
    split at h
    · rename_i e' n ct ex ho
      cases ex with
      | true => cases h; exact .inl rfl
      | false =>
        dsimp only [cond_false] at h
        obtain ⟨_, h⟩ := cond_some h
        subst h
        cases Nat.beq (a.off + c) n with
        | false => exact .inl rfl
        | true =>
          show ((H.put a.block AO.dead).at k = _ ∨ (H.put a.block AO.dead).at k = _)
          rw [Tr.at_put]
          by_cases hk : k = a.block
          · rw [if_pos hk]; exact .inr rfl
          · rw [if_neg hk]; exact .inl rfl
    · cases h
theorem Rel.less {H H' : Tr AO} {w : World} (hr : Rel C ι H w) (h : ∀ k, H'.at k = H.at k ∨ H'.at k = some .dead) : Rel C ι H' w := by
  have lv : ∀ k, live H' k → live H k := fun k ⟨o, ho, hne⟩ => by
    rcases h k with e | e
    · exact ⟨o, by rw [← e]; exact ho, hne⟩
    · rw [e] at ho; cases ho; exact absurd rfl hne
  refine ⟨fun a b ia ib ha hb e la lb => hr.inj a b ia ib ha hb e (lv a la) (lv b lb), fun k i o hi ho => ?_⟩
  rcases h k with e | e
  · exact hr.obj k i o hi (by rw [← e]; exact ho)
  · rw [e] at ho; cases ho; trivial
theorem live_less {H H' : Tr AO} (h : ∀ k, H'.at k = H.at k ∨ H'.at k = some .dead) {k : Nat} (hl : live H' k) : live H k := by
  obtain ⟨o, ho, hne⟩ := hl
  rcases h k with e | e
  · exact ⟨o, by rw [← e]; exact ho, hne⟩
  · rw [e] at ho; cases ho; exact absurd rfl hne
theorem Go1.less {H H0 H' : Tr AO} {nx nx' : Nat} {ι' : IM} {w w' : World} (hl : ∀ k, H0.at k = H.at k ∨ H0.at k = some .dead) (h : Go1 C ι H0 nx w ι' H' nx' w') : Go1 C ι H nx w ι' H' nx' w' :=
  ⟨h.up, h.ext, h.rel, ⟨h.fr.os, h.fr.tape, h.fr.output, h.fr.size, fun b hb hn => h.fr.same b hb fun k i hi l => hn k i hi (live_less hl l)⟩, fun k i hi l => by
    rcases h.new k i hi l with e | ⟨k0, i0, a, b, c⟩
    · exact .inl e
    · exact .inr ⟨k0, i0, a, live_less hl b, c⟩⟩
theorem ncap_ok {n c b : Nat} (h : c < n) (hb : (4 * n + 2000) * b ≤ 140737488355328) : ¬ (Builtin.nextslicecap n c * b > 2 ^ 48) := by
  have h1 := nextcap_le n c h
  have h2 : Builtin.nextslicecap n c * b ≤ (4 * n + 2000) * b := Nat.mul_le_mul_right b h1
  omega
/-- The world's own append, where there is room. -/
theorem app_in (hok : Ok P C) {w : World} {ts : Array TypeId} {t u ty e : TypeId} {d : TypeDesc} {i : TypeInfo} (h0 : ts[0]? = some t) (h1 : ts[1]? = some u) (hu : und C t = some (.slice e)) (hd : und C u = some d) (hi : isInt d = false) (hinf : inf C e = some i)
    {base : Option Addr} {len cap m : Nat} {y' : Value} (lo : (Builtin.lenOf y').run P w = .ok m w) (hle : len + m ≤ cap) {arr : Array Value} (hf : (Builtin.firstCells i.size m y').run P w = .ok arr w) {w1 : World}
    (hs : match base with | none => w1 = w | some a => (storeCells (a.add (len * i.size)) arr.toList).run P w = .ok () w1) :
    (Builtin.append_ ts ty #[.slice base len cap, y']).run P w = .ok (.slice base (len + m) cap) w1 := by
  have sr : ∀ w, (sizeOf e).run P w = .ok i.size w := fun w => by simp [sizeOf, hok.inf hinf]
  cases base with
  | none =>
    obtain rfl := hs
    cases d <;> first
      | (cases hi; done)
      | simp only [Builtin.append_, h0, h1, List.getElem?_toArray, List.getElem?_cons_zero, List.getElem?_cons_succ, Sem.run_bind, hok.und hu, hok.und hd, Result.andThen_ok, sr, Sem.run_pure, Bool.false_eq_true, if_false, lo, hle, if_true, Bool.not_false, hf]
  | some a =>
    cases d <;> first
      | (cases hi; done)
      | simp only [Builtin.append_, h0, h1, List.getElem?_toArray, List.getElem?_cons_zero, List.getElem?_cons_succ, Sem.run_bind, hok.und hu, hok.und hd, Result.andThen_ok, sr, Sem.run_pure, Bool.false_eq_true, if_false, lo, hle, if_true, Bool.not_false, hf, hs]
/-- The world's own append, where there is none. -/
theorem app_new (hok : Ok P C) {w : World} {ts : Array TypeId} {t u ty e : TypeId} {d : TypeDesc} {i : TypeInfo} (h0 : ts[0]? = some t) (h1 : ts[1]? = some u) (hu : und C t = some (.slice e)) (hd : und C u = some d) (hi : isInt d = false) (hinf : inf C e = some i)
    {base : Option Addr} {len cap m : Nat} {y' z : Value} (lo : (Builtin.lenOf y').run P w = .ok m w) (hgt : cap < len + m) (hb : (4 * (len + m) + 2000) * i.bytes ≤ 140737488355328) (hb0 : 0 < i.bytes) (hz : i.zero = some z)
    {arr brr : Array Value} (hf : (Builtin.firstCells i.size m y').run P { w with drawn := w.drawn + 1 } = .ok arr { w with drawn := w.drawn + 1 }) (hg : (Builtin.firstCells i.size len (.slice base len cap)).run P { w with drawn := w.drawn + 1 } = .ok brr { w with drawn := w.drawn + 1 }) :
    ∃ ncap, len + m ≤ ncap ∧ (Builtin.append_ ts ty #[.slice base len cap, y']).run P w = .ok (.slice (some ⟨w.heap.size, 0, none⟩) (len + m) ncap) { w with heap := w.heap.push (.cells (brr ++ arr ++ Builtin.zeroCells z.cells (ncap - (len + m))) e (0, 0)), drawn := w.drawn + 1 } := by
  have sr : ∀ w, (sizeOf e).run P w = .ok i.size w := fun w => by simp [sizeOf, hok.inf hinf]
  have zr : ∀ w, (zeroValue e).run P w = .ok z w := fun w => by simp [zeroValue, hok.inf hinf, hz]
  have hn := ncap_ok hgt hb
  have hm : ¬ (((len + m : Nat) : Int) > IntKind.i64.max ∧ (False ∨ i.bytes = 0)) := by rintro ⟨_, h | h⟩ <;> first | exact h | omega
  refine ⟨(Question.appendCap (len + m) cap e).cut (w.tape w.drawn (.appendCap (len + m) cap e)), Nat.le_add_right _ _, ?_⟩
  have hfo : (Question.appendCap (len + m) cap e).forced = false := rfl
  cases d <;> first
    | (cases hi; done)
    | simp only [Builtin.append_, h0, h1, List.getElem?_toArray, List.getElem?_cons_zero, List.getElem?_cons_succ, Sem.run_bind, hok.und hu, hok.und hd, Result.andThen_ok, sr, Bool.false_eq_true, if_false, lo, show ¬ (len + m ≤ cap) by omega, hok.inf hinf, hm, hn, run_choose, hfo, run_askRoom, hg, hf, Bool.not_false, if_true, zr, newRow, run_newObj, Sem.run_pure]
theorem first0 {y y' : Value} {m : Nat} (h : srcLen y = some m) (hy : VR ι y y') (s : Nat) (w : World) : (Builtin.firstCells s 0 y').run P w = .ok #[] w := by
  unfold srcLen at h
  split at h
  · cases hy <;> simp [Builtin.firstCells, loadCells, loadCellsFrom]
  · cases hy; simp [Builtin.firstCells]
  · cases h
theorem Rel.drawn {H : Tr AO} {w : World} (hr : Rel C ι H w) (n : Nat) : Rel C ι H { w with drawn := n } := ⟨hr.inj, hr.obj⟩
theorem siz_of_inf {e : TypeId} {i : TypeInfo} (h : inf C e = some i) : siz C e = some i.size := by
  have h : C.ty.at e = some i := h
  unfold siz
  rw [h]
/-- The new row, in the place of the old one. -/
theorem app_over {H H' : Tr AO} {w w1 : World} (hr : Rel C ι H w) {k k0 : Nat} (hk : ι k = none) {im jm : Im} (hi : ι k0 = some im) (hl : live H k0) (hd : H'.at k0 = some .dead) (hs : ∀ j, H'.at j = H.at j ∨ H'.at j = some .dead) (hb : jm.b = im.b) {ob : Obj} (ht : Turned w w1 im.b ob) {o : AO} (ho : ORel C (upd ι k jm) jm o (some ob)) :
    Go1 C ι H k w (upd ι k jm) (H'.put k o) (k + 1) w1 := by
  have hk0 : k0 ≠ k := fun e => by rw [e, hk] at hi; cases hi
  have sep : ∀ j ij, ι j = some ij → live H' j → ij.b ≠ im.b := fun j ij hj lj e => by
    have := hr.inj j k0 ij im hj hi e (live_less hs lj) hl
    subst this
    obtain ⟨x, hx, hne⟩ := lj
    rw [hd] at hx; cases hx; exact hne rfl
  refine ⟨Nat.le_succ k, fun j hj => upd_other ι jm (by omega), ⟨fun a b ia ib ha hb' e la lb => ?_, fun j ij oj hj hoj => ?_⟩, ⟨ht.os, ht.tape, ht.output, Nat.le_of_eq ht.size.symm, fun b hb hn => ht.other b (fun e => hn k0 im hi hl e.symm)⟩, fun j ij hj lj => ?_⟩
  · by_cases h1 : a = k <;> by_cases h2 : b = k
    · rw [h1, h2]
    · rcases live_put lb with ⟨e2, _⟩ | ⟨_, lb'⟩
      · exact absurd e2 h2
      · rw [upd_other ι jm h2] at hb'
        have hs2 := sep b ib hb' lb'
        subst h1; rw [upd_same] at ha; cases ha
        exact absurd (e.symm.trans hb) hs2
    · rcases live_put la with ⟨e2, _⟩ | ⟨_, la'⟩
      · exact absurd e2 h1
      · rw [upd_other ι jm h1] at ha
        have hs2 := sep a ia ha la'
        subst h2; rw [upd_same] at hb'; cases hb'
        exact absurd (e.trans hb) hs2
    · rcases live_put la with ⟨e2, _⟩ | ⟨_, la⟩
      · exact absurd e2 h1
      · rcases live_put lb with ⟨e2, _⟩ | ⟨_, lb⟩
        · exact absurd e2 h2
        · rw [upd_other ι jm h1] at ha
          rw [upd_other ι jm h2] at hb'
          exact hr.inj a b ia ib ha hb' e (live_less hs la) (live_less hs lb)
  · rw [Tr.at_put] at hoj
    by_cases h1 : j = k
    · subst h1
      rw [if_pos rfl] at hoj; cases hoj
      rw [upd_same] at hj; cases hj
      rw [hb, ht.here]; exact ho
    · rw [if_neg h1] at hoj
      rw [upd_other ι jm h1] at hj
      by_cases hdd : oj = .dead
      · subst hdd; trivial
      · have lj : live H' j := ⟨oj, hoj, hdd⟩
        rw [ht.other _ (sep j ij hj lj)]
        rcases hs j with e | e
        · exact (hr.obj j ij oj hj (by rw [← e]; exact hoj)).mono (upd_le jm hk)
        · rw [e] at hoj; cases hoj; exact absurd rfl hdd
  · rcases live_put lj with ⟨e, _⟩ | ⟨hne, lj⟩
    · subst e; rw [upd_same] at hj; cases hj; exact .inr ⟨k0, im, hi, hl, hb.symm⟩
    · rw [upd_other ι jm hne] at hj; exact .inr ⟨j, ij, hj, live_less hs lj, rfl⟩
theorem app_go (hok : Ok P C) {H : Tr AO} {w : World} (hr : Rel C ι H w) {t u : TypeId} {x y x' y' : Value} (hx : VR ι x x') (hy : VR ι y y') {k : Nat} (hk : ι k = none) {p : Value × Tr AO} (h : appendV C H t u x y k = some p) {ts : Array TypeId} {ty : TypeId} (h0 : ts[0]? = some t) (h1 : ts[1]? = some u) :
    NA P C ι H w (do pure (.value (← Builtin.append_ ts ty #[x', y']))) k p.1 p.2 := by
  have fin : ∀ {v w1 ι1}, (Builtin.append_ ts ty #[x', y']).run P w = .ok v w1 → VR ι1 p.1 v → Go1 C ι H k w ι1 p.2 (k + 1) w1 → NA P C ι H w (do pure (.value (← Builtin.append_ ts ty #[x', y']))) k p.1 p.2 := fun {v w1 ι1} a b c =>
    ⟨_, v, w1, ι1, by simp only [Sem.run_bind, a, Result.andThen_ok, Sem.run_pure], .inl rfl, b, c⟩
  unfold appendV at h
  split at h
  · rename_i e d hu hd
    obtain ⟨hi, h2⟩ := cond_none h
    clear h
    split at h2
    · rename_i b len cap
      split at h2
      · rename_i i m hinf hm
        have lo := srcLen_ok (P := P) hm hy w
        unfold appendE at h2
        cases hroom : Nat.ble (len + m) cap with
        | true =>
          rw [hroom] at h2
          dsimp only [cond_true] at h2
          have hle := Nat.le_of_ble_eq_true hroom
          unfold appIn at h2
          split at h2
          · obtain ⟨hm0, h2⟩ := cond_some h2
            subst h2
            have hm0 : m = 0 := Nat.eq_of_beq_eq_true hm0
            subst hm0
            cases hx
            exact fin (app_in hok h0 h1 hu hd hi hinf lo hle (first0 hm hy _ w) rfl) (.nilSlice _ _) ((Go1.refl hr).wide (Nat.le_succ k))
          · rename_i a
            cases hm0 : Nat.beq m 0 with
            | true =>
              rw [hm0] at h2; cases h2
              have hm0 : m = 0 := Nat.eq_of_beq_eq_true hm0
              subst hm0
              obtain ⟨im, him, _, ⟨c', rfl, hc⟩ | ⟨l0, c0, o', rfl⟩⟩ := slice_inv hx
              · have hcc : cap ≤ c' := by rcases hc with h | h <;> omega
                exact fin (app_in hok h0 h1 hu hd hi hinf lo (show len + 0 ≤ c' by omega) (first0 hm hy _ w) (w1 := w) rfl) hx ((Go1.refl hr).wide (Nat.le_succ k))
              · subst l0; subst c0
                exact fin (app_in hok h0 h1 hu hd hi hinf lo (Nat.le_refl 0) (first0 hm hy _ w) (w1 := w) rfl) hx ((Go1.refl hr).wide (Nat.le_succ k))
            | false =>
              rw [hm0] at h2
              dsimp only [cond_false] at h2
              split at h2
              · cases h2
              · rename_i l hl
                split at h2
                · cases h2
                · rename_i H' hp
                  cases h2
                  obtain ⟨ll, arr, f1, f2⟩ := srcCells_ok (P := P) hr hl hm hy (Nat.le_refl m)
                  rw [List.take_of_length_le (by omega)] at f2
                  obtain ⟨im, him, _, ⟨c', rfl, hc⟩ | ⟨l0, c0, o', rfl⟩⟩ := slice_inv hx
                  · have hcc : cap ≤ c' := by rcases hc with h | h <;> omega
                    obtain ⟨w1, r1, r2⟩ := putCells_ok (P := P) hr (a := ⟨a.block, a.off + len * i.size, none⟩) him hp f2 k
                    have e1 : a.off + len * i.size + im.δ = a.off + im.δ + len * i.size := by omega
                    have hs : (storeCells (Addr.add ⟨im.b, a.off + im.δ, none⟩ (len * i.size)) arr.toList).run P w = .ok () w1 := by rw [add_mk, ← e1]; exact r1
                    refine fin (app_in hok h0 h1 hu hd hi hinf lo (show len + m ≤ c' by omega) f1 (base := some ⟨im.b, a.off + im.δ, none⟩) hs) ?_ (r2.wide (Nat.le_succ k))
                    have ha : a = ⟨a.block, a.off, none⟩ := by assumption
                    rw [ha]
                    exact .slice a.off (len + m) cap c' him hc
                  · subst l0; subst c0
                    have : m = 0 := by omega
                    subst this; cases hm0
        | false =>
          rw [hroom] at h2
          dsimp only [cond_false] at h2
          obtain ⟨hap, h2⟩ := cond_some' h2
          have hgt : cap < len + m := by
            rcases Nat.lt_or_ge cap (len + m) with h | h
            · exact h
            · rw [Nat.ble_eq_true_of_le h] at hroom; cases hroom
          unfold appOk at hap
          obtain ⟨p1, p2⟩ := (Bool.and_eq_true _ _).mp hap
          obtain ⟨p3, p4⟩ := (Bool.and_eq_true _ _).mp p2
          obtain ⟨p5, p6⟩ := (Bool.and_eq_true _ _).mp p4
          have p1 := Nat.le_of_ble_eq_true p1
          have p3 : 0 < i.bytes := Nat.le_of_ble_eq_true p3
          have p5 : 0 < i.size := Nat.le_of_ble_eq_true p5
          split at p6
          case h_2 => cases p6
          rename_i z hz
          obtain ⟨p7, p8⟩ := (Bool.and_eq_true _ _).mp p6
          have p8 : (cellsL z).length = i.size := Nat.eq_of_beq_eq_true p8
          have zs : z.cells.size = i.size := by have := ((okZ_self ι p7).cells).1; simp at this; omega
          unfold appNew at h2
          split at h2
          · rename_i l l' H' hl hl' hkill
            obtain ⟨hfl, h2⟩ := cond_some h2
            subst h2
            have less := appKill_ok hkill
            have hmul : (len + m) * i.size = len * i.size + m * i.size := Nat.add_mul _ _ _
            obtain ⟨n1, _⟩ := srcCells_ok (P := P) hr hl (m := len) rfl hx (Nat.le_refl len)
            obtain ⟨n2, arr0, g1, g2⟩ := srcCells_ok (P := P) hr hl' hm hy (Nat.le_refl m)
            rw [List.take_of_length_le (by omega)] at g2
            -- a new row, behind all
            have anew : ∀ (base : Option Addr) (c' : Nat), x' = .slice base len c' → c' < len + m → NA P C ι H w (do pure (.value (← Builtin.append_ ts ty #[x', y']))) k (.slice (atK k) (len + m) (len + m)) (H'.put k (.cells e ((len + m) * i.size) (Tr.of (l ++ l')) false)) := by
              intro base c' hx' hlt
              obtain ⟨_, brr, f1, f2⟩ := srcCells_ok (P := P) (hr.drawn (w.drawn + 1)) hl (m := len) rfl hx (Nat.le_refl len)
              obtain ⟨_, arr, f3, f4⟩ := srcCells_ok (P := P) (hr.drawn (w.drawn + 1)) hl' hm hy (Nat.le_refl m)
              rw [List.take_of_length_le (by omega)] at f2 f4
              subst hx'
              obtain ⟨ncap, q1, q2⟩ := app_new (ty := ty) hok h0 h1 hu hd hi hinf lo hlt p1 p3 hz f3 f1
              let jm : Im := ⟨w.heap.size, 0, (len + m) * i.size, i.size, ncap - (len + m)⟩
              have s1 := f2.1
              have s2 := f4.1
              simp only [Array.length_toList] at s1 s2
              have hor : ORel C (upd ι k jm) jm (.cells e ((len + m) * i.size) (Tr.of (l ++ l')) false) (some (.cells (brr ++ arr ++ Builtin.zeroCells z.cells (ncap - (len + m))) e (0, 0))) := by
                refine ⟨rfl, rfl, fun h => (by cases h), fun _ => siz_of_inf hinf, ?_, fun j _ h => (by omega), fun j hj => ?_⟩
                · show 0 + (len + m) * i.size + (ncap - (len + m)) * i.size ≤ _
                  simp only [Array.size_append, Builtin.zeroCells, Array.size_map, Array.size_range, zs]
                  omega
                · have f5 := (f2.append f4).mono (upd_le jm hk)
                  obtain ⟨v0, hv⟩ : ∃ v, (l ++ l')[j]? = some v := ⟨_, List.getElem?_eq_getElem (by simp; omega)⟩
                  obtain ⟨yy, hyy, hvr⟩ := f5.get hv
                  refine ⟨_, yy, by rw [Tr.at_of]; exact hv, ?_, hvr⟩
                  show (brr ++ arr ++ Builtin.zeroCells z.cells (ncap - (len + m)))[0 + j]? = _
                  rw [Nat.zero_add, Array.getElem?_append_left (by simp; omega)]
                  rw [← Array.getElem?_toList, Array.toList_append]
                  exact hyy
              refine ⟨.value (.slice (some ⟨w.heap.size, 0, none⟩) (len + m) ncap), .slice (some ⟨w.heap.size, 0, none⟩) (len + m) ncap, { w with heap := w.heap.push (.cells (brr ++ arr ++ Builtin.zeroCells z.cells (ncap - (len + m))) e (0, 0)), drawn := w.drawn + 1 }, upd ι k jm, by simp only [Sem.run_bind, q2, Result.andThen_ok, Sem.run_pure], .inl rfl, ?_, (NewB.go (w1 := { w with heap := w.heap.push (.cells (brr ++ arr ++ Builtin.zeroCells z.cells (ncap - (len + m))) e (0, 0)), drawn := w.drawn + 1 }) ⟨rfl, rfl, rfl, rfl⟩ (hr.less less) hk (i := jm) rfl hor).less less⟩
              refine VR.slice (ι := upd ι k jm) (k := k) (i := jm) 0 (len + m) (len + m) ncap (upd_same ι k jm) ?_
              rcases Nat.lt_or_ge (len + m) ncap with hlt2 | hge
              · exact .inr ⟨hlt2, by show 0 + (len + m) * i.size = (len + m) * i.size; omega, by show ncap ≤ len + m + (ncap - (len + m)); omega⟩
              · exact .inl (by omega)
            cases b with
            | none =>
              cases hx
              exact anew none cap rfl hgt
            | some a =>
              obtain ⟨im, him, hasp, ⟨c', rfl, hc⟩ | ⟨l0, c0, o', rfl⟩⟩ := slice_inv hx
              · by_cases hroom2 : len + m ≤ c'
                · -- in its place
                  rcases hc with hc | ⟨c1, c2, c3⟩
                  · omega
                  · unfold appKill at hkill
                    dsimp only at hkill
                    split at hkill
                    · rename_i e' n ct ex ho
                      obtain ⟨arr1, fr, hw, r1, r2, r3, r3', r4, r5, r6⟩ := cells_of hr him ho
                      cases ex with
                      | true => have := r3 rfl; omega
                      | false =>
                        dsimp only [cond_false] at hkill
                        obtain ⟨hee, hk2⟩ := cond_some hkill
                        clear hkill
                        have hee : e = e' := Nat.eq_of_beq_eq_true hee
                        subst hee
                        have hz1 : im.z = i.size := by
                          have a1 := r3' rfl
                          rw [siz_of_inf hinf] at a1
                          exact (Option.some.inj a1).symm
                        rw [hz1] at c2 r4
                        have hend : Nat.beq (a.off + cap * i.size) n = true := by
                          rw [c2, r2]; exact Nat.beq_refl n
                        rw [hend] at hk2
                        dsimp only [cond_true] at hk2
                        have hone : ∀ v ∈ arr0.toList, v.oneCell' = true := by
                          intro v hv
                          obtain ⟨j, hj⟩ := List.getElem?_of_mem hv
                          have hlen := g2.1
                          have hj' : j < l'.length := by
                            rcases Nat.lt_or_ge j l'.length with h | h
                            · exact h
                            · rw [List.getElem?_eq_none (by omega)] at hj; cases hj
                          exact flat_one (g2.2 j l'[j] v (List.getElem?_eq_getElem hj') hj) (allF_mem hfl _ (List.getElem_mem hj'))
                        have gl := g2.1
                        have hmc : (len + m) * i.size ≤ c' * i.size := Nat.mul_le_mul_right _ hroom2
                        have hmc2 : c' * i.size ≤ (cap + im.ext) * i.size := Nat.mul_le_mul_right _ c3
                        rw [Nat.add_mul] at hmc2
                        obtain ⟨w1, arr2, t1, t2, t3, t4⟩ := storeCells_run (P := P) (a.off + im.δ + len * i.size) arr0.toList 0 w arr1 hw r5 hone (by omega)
                        let jm : Im := ⟨im.b, a.off + im.δ, (len + m) * i.size, i.size, c' - (len + m)⟩
                        have hsub : (c' - (len + m)) * i.size + (len + m) * i.size = c' * i.size := by rw [← Nat.add_mul]; congr 1; omega
                        obtain ⟨_, brr, f1, f2⟩ := srcCells_ok (P := P) hr hl (m := len) rfl hx (Nat.le_refl len)
                        rw [List.take_of_length_le (by omega)] at f2
                        have hor : ORel C (upd ι k jm) jm (.cells e ((len + m) * i.size) (Tr.of (l ++ l')) false) (some (.cells arr2 e fr)) := by
                          refine ⟨rfl, rfl, fun h => (by cases h), fun _ => siz_of_inf hinf, ?_, by rw [t3]; exact r5, fun j hj => ?_⟩
                          · show a.off + im.δ + (len + m) * i.size + (c' - (len + m)) * i.size ≤ _
                            omega
                          · rw [Tr.at_of]
                            show ∃ v y, _ ∧ arr2[a.off + im.δ + j]? = some y ∧ _
                            rw [t4]
                            by_cases hjl : j < len * i.size
                            · obtain ⟨v0, hv⟩ : ∃ v, l[j]? = some v := ⟨_, List.getElem?_eq_getElem (by omega)⟩
                              rw [List.getElem?_append_left (by omega), if_neg (by omega)]
                              unfold srcCells at hl
                              dsimp only at hl
                              obtain ⟨arrx, ex, frx, hwx, hlex, hlx⟩ := cells_ok hr him hl
                              rw [hw] at hwx; cases hwx
                              obtain ⟨yy, hyy, hvr⟩ := hlx.get hv
                              refine ⟨_, yy, hv, ?_, hvr.mono (upd_le jm hk)⟩
                              rw [← hyy, Array.toList_extract, List.extract_eq_take_drop, List.getElem?_take, if_pos (by omega), List.getElem?_drop, Array.getElem?_toList]
                            · obtain ⟨v0, hv⟩ : ∃ v, l'[j - len * i.size]? = some v := ⟨_, List.getElem?_eq_getElem (by omega)⟩
                              rw [List.getElem?_append_right (by omega), if_pos (by omega), n1]
                              obtain ⟨yy, hyy, hvr⟩ := g2.get hv
                              refine ⟨_, yy, hv, ?_, hvr.mono (upd_le jm hk)⟩
                              rw [← hyy]
                              exact congrArg (arr0.toList[·]?) (by omega)
                        have hs : (storeCells (Addr.add ⟨im.b, a.off + im.δ, none⟩ (len * i.size)) arr0.toList).run P w = .ok () w1 := by rw [add_mk]; exact t1
                        refine fin (app_in hok h0 h1 hu hd hi hinf lo hroom2 g1 (base := some ⟨im.b, a.off + im.δ, none⟩) hs) ?_ (app_over (jm := jm) hr hk him ⟨_, ho, by simp⟩ (by rw [← hk2, Tr.at_put, if_pos rfl]) less rfl t2 hor)
                        have hsl := VR.slice (ι := upd ι k jm) (k := k) (i := jm) 0 (len + m) (len + m) c' (upd_same ι k jm) (by
                          rcases Nat.lt_or_ge (len + m) c' with hlt2 | hge
                          · exact .inr ⟨hlt2, by show 0 + (len + m) * i.size = (len + m) * i.size; omega, by show c' ≤ len + m + (c' - (len + m)); omega⟩
                          · exact .inl (by omega))
                        have e0 : 0 + jm.δ = a.off + im.δ := Nat.zero_add _
                        rw [e0] at hsl
                        exact hsl
                    · cases hkill
                · exact anew _ c' rfl (by omega)
              · subst l0; subst c0
                exact anew _ 0 rfl hgt
          · cases h2
      · cases h2
    · cases h2
  · cases h
end Go.Proofs.YtpakmmnbkccdcaaDoor.Ev
