/-
  Each operation that only looks: what the plain machine tells is what the machine does. No condition.
-/
import Derived.Test.YtpakmmnbkccdcaaDoorEvOp
namespace Go.Proofs.YtpakmmnbkccdcaaDoor.Ev
open Go Go.RowKit
set_option linter.unusedVariables false
variable {P : Program} {C : Cx} {ι : IM}
/-! Whole numbers. -/
theorem eqI_is (a b : Int) : eqI a b = (a == b) := by
  rw [Bool.eq_iff_iff, beq_iff_eq]
  cases a with
  | ofNat a => cases b with
    | ofNat b => show Nat.beq a b = true ↔ _; rw [Nat.beq_eq]; exact ⟨fun h => by rw [h], fun h => by injection h⟩
    | negSucc b => exact ⟨fun h => (by cases h), fun h => (by cases h)⟩
  | negSucc a => cases b with
    | ofNat b => exact ⟨fun h => (by cases h), fun h => (by cases h)⟩
    | negSucc b => show Nat.beq a b = true ↔ _; rw [Nat.beq_eq]; exact ⟨fun h => by rw [h], fun h => by injection h⟩
theorem leI_is (a b : Int) : leI a b = decide (a ≤ b) := by
  rw [Bool.eq_iff_iff, decide_eq_true_iff]
  cases a with
  | ofNat a => cases b with
    | ofNat b => show Nat.ble a b = true ↔ _; rw [Nat.ble_eq]; exact (Int.ofNat_le).symm
    | negSucc b => simp [leI]; omega
  | negSucc a => cases b with
    | ofNat b => simp [leI]; omega
    | negSucc b => show Nat.ble b a = true ↔ _; rw [Nat.ble_eq]; omega
theorem ltI_is (a b : Int) : ltI a b = decide (a < b) := by
  unfold ltI; rw [leI_is, Bool.eq_iff_iff]; simp
theorem wr_is (k : IntKind) (n : Int) : wr k n = k.wrap n := by
  unfold wr
  cases n with
  | ofNat m =>
    dsimp only
    cases hb : Nat.blt m (topN k) with
    | false => rfl
    | true =>
      have hm : m < topN k := Nat.le_of_ble_eq_true hb
      cases k <;> simp only [topN] at hm <;> simp [IntKind.wrap, IntKind.signed, IntKind.bits] <;> omega
  | negSucc m => rfl
theorem eqK_is {j k : IntKind} (h : eqK j k = true) : j = k := by cases j <;> cases k <;> first | rfl | cases h
theorem bits_ne (k : IntKind) : (2 : Nat) ^ k.bits ≠ 0 := by cases k <;> simp [IntKind.bits]
theorem bitsN_is (k : IntKind) (n : Int) : (BitVec.ofInt k.bits n).toNat = bitsN k n := by
  rw [BitVec.toNat_ofInt]
  unfold bitsN
  cases n with
  | ofNat m =>
    show ((m : Int) % ((2 ^ k.bits : Nat) : Int)).toNat = m % 2 ^ k.bits
    rw [← Int.natCast_emod]; rfl
  | negSucc m =>
    dsimp only
    cases k <;> simp only [IntKind.bits] <;> omega
theorem and_bits (k : IntKind) (m : Nat) : (BitVec.ofInt k.bits m).toNat = m % 2 ^ k.bits := by
  rw [BitVec.toNat_ofInt, ← Int.natCast_emod]; rfl
theorem intOp_ok {op : BinOp} {k : IntKind} {a b : Int} {x : Value} (h : intOp op k a b = some x) (t : TypeId) (w : World) :
    (binOp op t (.int k a) (.int k b)).run P w = .ok x w := by
  cases op <;> simp only [intOp, wr_is, eqI_is, leI_is, ltI_is, reduceCtorEq, Option.some.injEq] at h
  case add => subst h; simp [binOp, Op.intArith]
  case sub => subst h; simp [binOp, Op.intArith]
  case mul => subst h; simp [binOp, Op.intArith]
  case quo =>
    by_cases hb : b = 0
    · simp [hb] at h
    · have e : (b == 0) = false := by simpa using hb
      rw [e] at h; cases h; simp [binOp, Op.intDiv, hb]
  case rem =>
    by_cases hb : b = 0
    · simp [hb] at h
    · have e : (b == 0) = false := by simpa using hb
      rw [e] at h; cases h; simp [binOp, Op.intDiv, hb]
  case and => subst h; simp only [binOp, Op.intBits, ne_eq, not_true_eq_false, if_false, Sem.run_pure, BitVec.toNat_and, bitsN_is]; rfl
  case or => subst h; simp only [binOp, Op.intBits, ne_eq, not_true_eq_false, if_false, Sem.run_pure, BitVec.toNat_or, bitsN_is]; rfl
  case xor => subst h; simp only [binOp, Op.intBits, ne_eq, not_true_eq_false, if_false, Sem.run_pure, BitVec.toNat_xor, bitsN_is]; rfl
  case andNot => subst h; simp only [binOp, Op.intBits, ne_eq, not_true_eq_false, if_false, Sem.run_pure, BitVec.toNat_and, BitVec.toNat_not, bitsN_is]; rfl
  case eql => subst h; simp [binOp, Op.intCmp]
  case neq => subst h; simp [binOp, Op.intCmp, bne]
  case lss => subst h; simp [binOp, Op.intCmp]
  case leq => subst h; simp [binOp, Op.intCmp]
  case gtr => subst h; simp [binOp, Op.intCmp]
  case geq => subst h; simp [binOp, Op.intCmp]
/-! Bytes. -/
theorem eqL_is : ∀ (a b : List UInt8), eqL a b = (a == b)
  | [], [] => rfl
  | [], _ :: _ => rfl
  | _ :: _, [] => rfl
  | x :: a, y :: b => by
    unfold eqL
    rw [eqL_is a b]
    have e : Nat.beq x.toNat y.toNat = (x == y) := by
      rw [Bool.eq_iff_iff, Nat.beq_eq, beq_iff_eq]; exact UInt8.toNat_inj
    rw [e]
    show _ = ((x == y) && (a == b))
    cases (x == y) <;> rfl
theorem eqB_is (a b : ByteArray) : eqB a b = (a.toList == b.toList) := by rw [ByteArray.toList_eq, ByteArray.toList_eq]; exact eqL_is _ _
theorem ltL_is : ∀ (a b : List UInt8), ltL a b = Op.bytesLess a b
  | [], [] => rfl
  | _ :: _, [] => rfl
  | [], _ :: _ => rfl
  | x :: a, y :: b => by
    unfold ltL Op.bytesLess
    rw [ltL_is a b]
    have e : Nat.beq x.toNat y.toNat = (x == y) := by
      rw [Bool.eq_iff_iff, Nat.beq_eq, beq_iff_eq]; exact UInt8.toNat_inj
    have e2 : Nat.blt x.toNat y.toNat = decide (x < y) := by
      rw [Bool.eq_iff_iff, decide_eq_true_iff, UInt8.lt_iff_toNat_lt]
      exact ⟨fun h => Nat.le_of_ble_eq_true h, fun h => Nat.ble_eq_true_of_le h⟩
    rw [e, e2]
    cases decide (x < y) <;> cases (x == y) <;> rfl
theorem lenB_is (a : ByteArray) : lenB a = a.size := rfl
theorem catB_is (a b : ByteArray) : catB a b = a ++ b := by
  apply ByteArray.ext
  rw [ByteArray.data_append]
  apply Array.ext'
  simp [catB]
theorem cutB_is (a : ByteArray) (l h : Nat) : cutB a l h = a.extract l h := by
  apply ByteArray.ext
  rw [ByteArray.data_extract]
  apply Array.ext'
  rw [Array.toList_extract, List.extract_eq_take_drop]
  simp [cutB, List.drop_take]
theorem atB_is (a : ByteArray) (i : Nat) : atB a i = a[i]? := by
  unfold atB
  by_cases h : i < a.size
  · rw [getElem?_pos a i h]
    have h' : i < a.data.toList.length := h
    rw [List.getElem?_eq_getElem h']; rfl
  · rw [getElem?_neg a i h, List.getElem?_eq_none (by have : a.data.toList.length = a.size := rfl; omega)]
theorem strOp_ok {op : BinOp} {a b : ByteArray} {x : Value} (h : strOp op a b = some x) (t : TypeId) (w : World) :
    (binOp op t (.string a) (.string b)).run P w = .ok x w := by
  have e : binOp op t (.string a) (.string b) = Op.stringOp op a b := by cases op <;> rfl
  rw [e]
  cases op <;> simp only [strOp, reduceCtorEq, Option.some.injEq] at h
  case add =>
    cases hb : Nat.blt (lenB a + lenB b) 9223372036854775808 with
    | false => rw [hb] at h; cases h
    | true =>
      rw [hb] at h; cases h
      have hl : lenB a + lenB b < 9223372036854775808 := Nat.le_of_ble_eq_true hb
      rw [lenB_is, lenB_is] at hl
      have hm : IntKind.i64.max = 9223372036854775807 := by decide
      simp only [Op.stringOp, hm, Sem.run_ite, catB_is, Sem.run_pure]
      rw [if_neg (by omega)]
  case eql => subst h; simp [Op.stringOp, eqB_is]
  case neq => subst h; simp [Op.stringOp, eqB_is]
  case lss => subst h; simp [Op.stringOp, ltL_is, ByteArray.toList_eq]
  case leq => subst h; simp [Op.stringOp, ltL_is, eqB_is, ByteArray.toList_eq]
  case gtr => subst h; simp [Op.stringOp, ltL_is, eqB_is, ByteArray.toList_eq]
  case geq => subst h; simp [Op.stringOp, ltL_is, ByteArray.toList_eq]
/-! Alike? -/
theorem eqFs_ok {d d' : Nat} {xs xs' ys ys' : Array Value} (hok : Ok P C) (hx : LR ι xs.toList xs'.toList) (hy : LR ι ys.toList ys'.toList) (w : World)
    (ih : ∀ t x y b, eqV C d t x y = some b → ∀ x' y', VR ι x x' → VR ι y y' → (Op.equalIn d' t x' y').run P w = .ok b w) :
    ∀ (fs : List Field) (b : Bool), (∀ f ∈ fs, f.name ≠ "_") → eqFs (fun f => match partC C f.type xs.toList f.offset, partC C f.type ys.toList f.offset with
          | some a, some b => eqV C d f.type a b
          | _, _ => none) fs = some b → (Op.eqFields d' xs' ys' fs).run P w = .ok b w := by
  intro fs
  induction fs with
  | nil => intro b _ h; cases h; simp [Op.eqFields]
  | cons f fs ihf =>
    intro b hn h
    unfold eqFs at h
    cases hp : partC C f.type xs.toList f.offset with
    | none => rw [hp] at h; cases h
    | some a =>
      cases hq : partC C f.type ys.toList f.offset with
      | none => rw [hp, hq] at h; cases h
      | some c =>
        rw [hp, hq] at h
        dsimp only at h
        obtain ⟨a', ha, va⟩ := partC_ok hok hp hx w
        obtain ⟨c', hc, vc⟩ := partC_ok hok hq hy w
        simp only [Op.eqFields, ne_eq, hn f (by simp), not_false_eq_true, if_true, Sem.run_bind, ha, hc, Result.andThen_ok]
        cases he : eqV C d f.type a c with
        | none => rw [he] at h; cases h
        | some r =>
          rw [he] at h
          rw [ih _ _ _ _ he _ _ va vc]
          cases r with
          | true => simpa using ihf b (fun g hg => hn g (by simp [hg])) h
          | false => cases h; simp
theorem fieldsOf_is {t : TypeId} {fs : Array Field} (h : P.underlying t = some (.struct fs)) : P.fieldsOf t = fs := by simp [Program.fieldsOf, h]
theorem Ok.und' (hok : Ok P C) {t : TypeId} {d : TypeDesc} (h : Ev.und C t = some d) : P.underlying t = some d := by
  have h2 := hok.und h default
  unfold underlying at h2
  simp only [Sem.run_bind, run_program, Result.andThen_ok] at h2
  cases hu : P.underlying t with
  | none => rw [hu] at h2; simp at h2
  | some e => rw [hu] at h2; simp at h2; rw [h2]
theorem cond_some {α : Type} {b : Bool} {x y : α} (h : (bif b then some x else none) = some y) : b = true ∧ x = y := by
  cases b with
  | true => cases h; exact ⟨rfl, rfl⟩
  | false => cases h
theorem cond_some' {α : Type} {b : Bool} {x : Option α} {y : α} (h : (bif b then x else none) = some y) : b = true ∧ x = some y := by
  cases b with
  | true => exact ⟨rfl, h⟩
  | false => cases h
theorem beq_cond (a b : Bool) : (a == b) = bif a then b else !b := by cases a <;> cases b <;> rfl
theorem eqV_ok (hok : Ok P C) (w : World) : ∀ (d : Nat) (t : TypeId) (x y : Value) (b : Bool), eqV C d t x y = some b → ∀ d', d ≤ d' → ∀ x' y', VR ι x x' → VR ι y y' → (Op.equalIn d' t x' y').run P w = .ok b w := by
  intro d
  induction d with
  | zero => intro t x y b h; cases h
  | succ d ih =>
    intro t x y b h d' hd x' y' hx hy
    obtain ⟨d', rfl⟩ : ∃ e, d' = e + 1 := ⟨d' - 1, by omega⟩
    unfold eqV at h
    cases hu : Ev.und C t with
    | none => rw [hu] at h; cases h
    | some u =>
      rw [hu] at h
      dsimp only at h
      split at h
      · cases hx; cases hy; cases h
        simp only [Op.equalIn, Sem.run_bind, hok.und hu, Result.andThen_ok, Sem.run_pure, beq_cond]
      · cases hx; cases hy
        obtain ⟨hk, e⟩ := cond_some h
        obtain rfl := eqK_is hk
        subst e
        simp only [Op.equalIn, Sem.run_bind, hok.und hu, Result.andThen_ok, if_true, Sem.run_pure, eqI_is]
      · cases hx; cases hy; cases h
        simp only [Op.equalIn, Sem.run_bind, hok.und hu, Result.andThen_ok, Sem.run_pure, eqB_is, beq_toListBytes]
      · cases hx <;> cases hy <;> cases h <;> first | (simp only [Op.equalIn, Sem.run_bind, hok.und hu, Result.andThen_ok, Sem.run_pure]; done) | (simp only [Op.equalIn, Sem.run_bind, hok.und hu, Result.andThen_ok, Sem.run_pure]; rfl)
      · cases hx <;> cases hy <;> cases h <;> first | (simp only [Op.equalIn, Sem.run_bind, hok.und hu, Result.andThen_ok, Sem.run_pure]; done) | (simp only [Op.equalIn, Sem.run_bind, hok.und hu, Result.andThen_ok, Sem.run_pure]; rfl)
      · cases hx <;> cases hy <;> cases h <;> first | (simp only [Op.equalIn, Sem.run_bind, hok.und hu, Result.andThen_ok, Sem.run_pure]; done) | (simp only [Op.equalIn, Sem.run_bind, hok.und hu, Result.andThen_ok, Sem.run_pure]; rfl)
      · cases hx <;> cases hy <;> cases h <;> first | (simp only [Op.equalIn, Sem.run_bind, hok.und hu, Result.andThen_ok, Sem.run_pure]; done) | (simp only [Op.equalIn, Sem.run_bind, hok.und hu, Result.andThen_ok, Sem.run_pure]; rfl)
      · cases hx <;> cases hy <;> cases h <;> first | (simp only [Op.equalIn, Sem.run_bind, hok.und hu, Result.andThen_ok, Sem.run_pure]; done) | (simp only [Op.equalIn, Sem.run_bind, hok.und hu, Result.andThen_ok, Sem.run_pure]; rfl)
      · cases hx <;> cases hy <;> cases h <;> first | (simp only [Op.equalIn, Sem.run_bind, hok.und hu, Result.andThen_ok, Sem.run_pure]; done) | (simp only [Op.equalIn, Sem.run_bind, hok.und hu, Result.andThen_ok, Sem.run_pure]; rfl)
      · cases hx <;> cases hy <;> cases h <;> first | (simp only [Op.equalIn, Sem.run_bind, hok.und hu, Result.andThen_ok, Sem.run_pure]; done) | (simp only [Op.equalIn, Sem.run_bind, hok.und hu, Result.andThen_ok, Sem.run_pure]; rfl)
      · cases hx <;> cases hy <;> cases h <;> first | (simp only [Op.equalIn, Sem.run_bind, hok.und hu, Result.andThen_ok, Sem.run_pure]; done) | (simp only [Op.equalIn, Sem.run_bind, hok.und hu, Result.andThen_ok, Sem.run_pure]; rfl)
      · cases hx <;> cases hy <;> cases h <;> first | (simp only [Op.equalIn, Sem.run_bind, hok.und hu, Result.andThen_ok, Sem.run_pure]; done) | (simp only [Op.equalIn, Sem.run_bind, hok.und hu, Result.andThen_ok, Sem.run_pure]; rfl)
      · cases hx <;> cases hy <;> cases h <;> first | (simp only [Op.equalIn, Sem.run_bind, hok.und hu, Result.andThen_ok, Sem.run_pure]; done) | (simp only [Op.equalIn, Sem.run_bind, hok.und hu, Result.andThen_ok, Sem.run_pure]; rfl)
      · cases hx <;> cases hy <;> cases h <;> first | (simp only [Op.equalIn, Sem.run_bind, hok.und hu, Result.andThen_ok, Sem.run_pure]; done) | (simp only [Op.equalIn, Sem.run_bind, hok.und hu, Result.andThen_ok, Sem.run_pure]; rfl)
      · cases hx <;> cases hy <;> cases h <;> first | (simp only [Op.equalIn, Sem.run_bind, hok.und hu, Result.andThen_ok, Sem.run_pure]; done) | (simp only [Op.equalIn, Sem.run_bind, hok.und hu, Result.andThen_ok, Sem.run_pure]; rfl)
      · obtain ⟨xs', rfl, lx⟩ := hx.agg_inv
        obtain ⟨ys', rfl, ly⟩ := hy.agg_inv
        obtain ⟨hk, h⟩ := cond_some' h
        obtain ⟨_, g2, g3⟩ := hok.eqg t hk
        have hP := hok.und' hu
        have hf := fieldsOf_is hP
        rw [run_equalIn_struct w d' t xs' ys' (by rw [hf]; exact hP) g2, hf]
        exact eqFs_ok hok lx ly w (fun t x y b he x' y' vx vy => ih t x y b he d' (by omega) x' y' vx vy) _ b (by rw [← hf]; exact g3) h
      · cases h
/-! Operations on one or two values. -/
theorem cond_none {α : Type} {b : Bool} {x : Option α} {y : α} (h : (bif b then none else x) = some y) : b = false ∧ x = some y := by
  cases b with
  | true => cases h
  | false => exact ⟨rfl, h⟩
theorem isC_const {x : Operand} (h : isC x = true) : ∃ v, x = .const v := by cases x <;> first | exact ⟨_, rfl⟩ | cases h
theorem binop_other {op : BinOp} (t : TypeId) {x y : Value} (hi : ∀ k a, x ≠ .int k a) (hs : ∀ s, x ≠ .string s) (hf : ∀ k a, x ≠ .float k a) (hc : ∀ k a b, x ≠ .complex k a b) :
    (op = .eql → binOp op t x y = do pure (.bool (← Op.equal t x y))) ∧ (op = .neq → binOp op t x y = do pure (.bool (!(← Op.equal t x y)))) := by
  constructor <;> intro e <;> subst e <;> cases x <;> first
    | exact absurd rfl (hi _ _)
    | exact absurd rfl (hs _)
    | exact absurd rfl (hf _ _)
    | exact absurd rfl (hc _ _ _)
    | rfl
/-- The guard of a comparison lets pass. -/
theorem eqGuard_ok (hok : Ok P C) {op : BinOp} {t : TypeId} {x y : Operand} {a b : Value} (w : World) (hn : nilsOk (isC x || isC y) a b = true) (hs : ∀ xs ys, a = .agg xs → b = .agg ys → C.eqs.any (Nat.beq t) = true) {a' b' : Value} (ha : VR ι a a') (hb : VR ι b b') :
    (eqGuard op t x y a' b').run P w = .ok () w := by
  have key : (eqGuard .eql t x y a' b').run P w = .ok () w := by
    unfold eqGuard
    cases ha <;> cases hb <;> try rfl
    · have hn : (isC x || isC y) = true := hn
      cases x <;> cases y <;> first | rfl | (cases hn)
    · obtain ⟨g1, _, _⟩ := hok.eqg t (hs _ _ rfl rfl)
      simp [g1]
  cases op <;> first | exact key | rfl
end Go.Proofs.YtpakmmnbkccdcaaDoor.Ev
