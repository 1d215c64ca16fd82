/-
  Each operation that only looks, more. No condition.
-/
import Derived.Test.YtpakmmnbkccdcaaDoorEvOp2
namespace Go.Proofs.YtpakmmnbkccdcaaDoor.Ev
open Go Go.RowKit
set_option linter.unusedVariables false
variable {P : Program} {C : Cx} {ι : IM}
/-- A value that is its own picture. -/
theorem val_self {w : World} {s : Sem Value} {x : Value} (h : s.run P w = .ok x w) (hp : plainV x = true) : Val P ι w s x := ⟨x, h, VR.self ι hp⟩
theorem eqV_agg {d : Nat} {t : TypeId} {xs ys : Array Value} {b : Bool} (h : eqV C d t (.agg xs) (.agg ys) = some b) : C.eqs.any (Nat.beq t) = true := by
  cases d with
  | zero => cases h
  | succ d =>
    unfold eqV at h
    cases hu : Ev.und C t with
    | none => rw [hu] at h; cases h
    | some u =>
      rw [hu] at h
      cases u <;> first | exact (cond_some' h).1 | cases h
theorem binE_ok (hok : Ok P C) {op : BinOp} {t : TypeId} {k : Bool} {x y r : Value} (h : binE C op t k x y = some r) {ox oy : Operand} (hk : k = (isC ox || isC oy)) {x' y' : Value} (hx : VR ι x x') (hy : VR ι y y')
    (hi : ∀ k a, x ≠ .int k a) (hs : ∀ s, x ≠ .string s) (w : World) : Val P ι w (do eqGuard op t ox oy x' y'; binOp op t x' y') r := by
  subst hk
  unfold binE at h
  obtain ⟨hn, h2⟩ := cond_some' h
  clear h
  have hg : ∀ b, eqV C 100 t x y = some b → (eqGuard op t ox oy x' y').run P w = .ok () w := fun b hb => eqGuard_ok hok w hn (fun xs ys e1 e2 => by subst e1; subst e2; exact eqV_agg hb) hx hy
  have hq : ∀ b, eqV C 100 t x y = some b → (Op.equal t x' y').run P w = .ok b w := fun b hb => eqV_ok hok w 100 t x y b hb 10000 (by omega) x' y' hx hy
  have ne : ∀ b, eqV C 100 t x y = some b → (∀ k a, x' ≠ .int k a) ∧ (∀ s, x' ≠ .string s) ∧ (∀ k a, x' ≠ .float k a) ∧ (∀ k a b, x' ≠ .complex k a b) := by
    intro b hb
    refine ⟨fun k a e => ?_, fun s e => ?_, fun k a e => ?_, fun k a b e => ?_⟩
    · subst e; cases hx; exact hi _ _ rfl
    · subst e; cases hx; exact hs _ rfl
    · subst e; cases hx; unfold eqV at hb; cases hu : Ev.und C t with
      | none => rw [hu] at hb; cases hb
      | some u => rw [hu] at hb; cases u <;> cases hb
    · subst e; cases hx; unfold eqV at hb; cases hu : Ev.und C t with
      | none => rw [hu] at hb; cases hb
      | some u => rw [hu] at hb; cases u <;> cases hb
  cases op <;> try (cases h2; done)
  · dsimp only at h2
    cases he : eqV C 100 t x y with
    | none => rw [he] at h2; cases h2
    | some b =>
      rw [he] at h2; cases h2
      obtain ⟨n1, n2, n3, n4⟩ := ne b he
      refine val_self ?_ rfl
      simp only [Sem.run_bind, hg b he, Result.andThen_ok, (binop_other t n1 n2 n3 n4).1 rfl, hq b he, Sem.run_pure]
  · dsimp only at h2
    cases he : eqV C 100 t x y with
    | none => rw [he] at h2; cases h2
    | some b =>
      rw [he] at h2; cases h2
      obtain ⟨n1, n2, n3, n4⟩ := ne b he
      refine val_self ?_ rfl
      simp only [Sem.run_bind, hg b he, Result.andThen_ok, (binop_other t n1 n2 n3 n4).2 rfl, hq b he, Sem.run_pure]
theorem intOp_plain {op : BinOp} {k : IntKind} {a b : Int} {x : Value} (h : intOp op k a b = some x) : plainV x = true := by
  cases op <;> simp only [intOp, reduceCtorEq, Option.some.injEq] at h <;> first
    | (subst h; rfl)
    | (obtain ⟨_, h⟩ := cond_none h; cases h; rfl)
theorem strOp_plain {op : BinOp} {a b : ByteArray} {x : Value} (h : strOp op a b = some x) : plainV x = true := by
  cases op <;> simp only [strOp, reduceCtorEq, Option.some.injEq] at h <;> first
    | (subst h; rfl)
    | (obtain ⟨_, h⟩ := cond_some h; subst h; rfl)
theorem guard_int {op : BinOp} {t : TypeId} {ox oy : Operand} {k : IntKind} {a : Int} {y : Value} (w : World) : (eqGuard op t ox oy (.int k a) y).run P w = .ok () w := by
  cases op <;> rfl
theorem guard_str {op : BinOp} {t : TypeId} {ox oy : Operand} {a : ByteArray} {y : Value} (w : World) : (eqGuard op t ox oy (.string a) y).run P w = .ok () w := by
  cases op <;> rfl
theorem ltI0 {b : Int} (h : ltI b 0 = false) : ¬ b < 0 := by rw [ltI_is] at h; simpa using h
theorem binV_ok (hok : Ok P C) {op : BinOp} {t : TypeId} {k : Bool} {x y r : Value} (h : binV C op t k x y = some r) {ox oy : Operand} (hk : k = (isC ox || isC oy)) {x' y' : Value} (hx : VR ι x x') (hy : VR ι y y')
    (w : World) : Val P ι w (do eqGuard op t ox oy x' y'; binOp op t x' y') r := by
  unfold binV at h
  cases x with
  | int k a =>
    cases hx
    dsimp only at h
    unfold binX at h
    cases y with
    | int k' b =>
      cases hy
      dsimp only at h
      unfold binI at h
      cases op with
      | shl =>
        obtain ⟨hb, h⟩ := cond_none h
        cases h
        refine val_self ?_ rfl
        simp only [Sem.run_bind, guard_int, Result.andThen_ok, binOp, Op.shift, ltI0 hb, if_false, Sem.run_pure, wr_is]
      | shr =>
        obtain ⟨hb, h⟩ := cond_none h
        cases h
        refine val_self ?_ rfl
        simp only [Sem.run_bind, guard_int, Result.andThen_ok, binOp, Op.shift, ltI0 hb, if_false, Sem.run_pure]
      | _ =>
        obtain ⟨hb, h2⟩ := cond_some' h
        clear h
        obtain rfl := eqK_is hb
        refine val_self ?_ (intOp_plain h2)
        simp only [Sem.run_bind, guard_int, Result.andThen_ok]
        exact intOp_ok h2 t w
    | _ => cases h
  | string a =>
    cases hx
    dsimp only at h
    unfold binY at h
    cases y with
    | string b =>
      cases hy
      refine val_self ?_ (strOp_plain h)
      simp only [Sem.run_bind, guard_str, Result.andThen_ok]
      exact strOp_ok h t w
    | _ => cases h
  | _ => exact binE_ok hok h hk hx hy (by intros; simp) (by intros; simp) w
theorem unV_ok {op : UnOp} {x r : Value} (h : unV op x = some r) {x' : Value} (hx : VR ι x x') (w : World) : Val P ι w (Op.unary op x') r := by
  unfold unV at h
  split at h
  · cases hx; cases h; exact val_self (by simp [Op.unary, Op.intArith, wr_is]) rfl
  · cases hx; cases h
    refine val_self ?_ rfl
    simp only [Op.unary, Op.intBits, Sem.run_pure, BitVec.toNat_xor, bitsN_is, wr_is]
    congr 3
    rename_i k n
    cases k <;> rfl
  · cases hx; cases h; exact val_self (by simp [Op.unary]) rfl
  · cases h
/-! Places, parts, cuts. -/
theorem ptrV_ok {ι : IM} {a : Addr} {i : Im} (hi : ι a.block = some i) (off : Nat) : VR ι (ptrV a off) (.pointer (some ⟨i.b, a.off + i.δ + off, none⟩)) := by
  have := VR.ptr (ι := ι) (k := a.block) (a.off + off) hi
  have e : a.off + off + i.δ = a.off + i.δ + off := by omega
  rw [e] at this
  exact this
theorem ptr_inv {a : Addr} {y : Value} (h : VR ι (.pointer (some a)) y) : ∃ i, ι a.block = some i ∧ a = ⟨a.block, a.off, none⟩ ∧ y = .pointer (some ⟨i.b, a.off + i.δ, none⟩) := by
  cases h with | ptr o h => exact ⟨_, h, rfl, rfl⟩
theorem slice_inv {a : Addr} {l c : Nat} {y : Value} (h : VR ι (.slice (some a) l c) y) : ∃ i, ι a.block = some i ∧ a = ⟨a.block, a.off, none⟩ ∧
    ((∃ c', y = .slice (some ⟨i.b, a.off + i.δ, none⟩) l c' ∧ (c' = c ∨ (c < c' ∧ a.off + c * i.z = i.n ∧ c' ≤ c + i.ext))) ∨ (l = 0 ∧ c = 0 ∧ ∃ o', y = .slice (some ⟨i.b, o', none⟩) 0 0)) := by
  cases h with
  | slice o l c c' h hc => exact ⟨_, h, rfl, .inl ⟨c', rfl, hc⟩⟩
  | slice0 o o' h => exact ⟨_, h, rfl, .inr ⟨rfl, rfl, o', rfl⟩⟩
theorem fieldAddrV_ok (hok : Ok P C) {t : TypeId} {x r : Value} {f : Nat} (h : fieldAddrV C t x f = some r) {x' : Value} (hx : VR ι x x') (w : World) : Val P ι w (Instr.fieldAt t x' f) r := by
  unfold fieldAddrV at h
  split at h
  · rename_i a
    split at h
    · rename_i fs hu
      split at h
      · rename_i g hg
        split at h
        · rename_i s hs
          obtain ⟨hb, h⟩ := cond_none h
          cases h
          obtain ⟨i, hi, ha, rfl⟩ := ptr_inv hx
          have hs0 : s ≠ 0 := fun e => by rw [e] at hb; cases hb
          have hg' : fs[f]? = some g := by simpa using hg
          refine ⟨_, ?_, ptrV_ok hi g.offset⟩
          simp [Instr.fieldAt, hok.und hu, hg', Instr.sureAddr, fieldPlace, hok.siz hs, hs0, add_mk]
        · cases h
      · cases h
    · cases h
  · cases h
theorem fieldV_ok (hok : Ok P C) {t : TypeId} {x r : Value} {f : Nat} (h : fieldV C t x f = some r) {x' : Value} (hx : VR ι x x') (w : World) : Val P ι w (Instr.field t x' f) r := by
  unfold fieldV at h
  split at h
  · rename_i cs
    split at h
    · rename_i fs hu
      split at h
      · rename_i g hg
        obtain ⟨cs', rfl, hl⟩ := hx.agg_inv
        have hg' : fs[f]? = some g := by simpa using hg
        obtain ⟨y, hy, hv⟩ := partC_ok hok h hl w
        exact ⟨y, by simp [Instr.field, hok.und hu, hg', asAgg, hy], hv⟩
      · cases h
    · cases h
  · cases h
theorem natV_inv {i : Value} {k : Nat} (h : natV i = some k) {i' : Value} (hv : VR ι i i') : ∃ j, i' = .int j (.ofNat k) := by
  unfold natV at h
  split at h
  · cases h; cases hv; exact ⟨_, rfl⟩
  · cases h
theorem indexAddrV_ok (hok : Ok P C) {t : TypeId} {x i r : Value} (h : indexAddrV C t x i = some r) {x' i' : Value} (hx : VR ι x x') (hi : VR ι i i') (w : World) : Val P ι w (Instr.indexAt t x' i') r := by
  have ix : ∀ {e a len}, ixA C e a len i = some r → ∃ k s j, i' = .int j (.ofNat k) ∧ siz C e = some s ∧ k < len ∧ r = ptrV a (k * s) := by
    intro e a len h
    unfold ixA at h
    split at h
    · rename_i k hk
      split at h
      · rename_i s hs
        obtain ⟨hb, h⟩ := cond_some h
        obtain ⟨j, hj⟩ := natV_inv hk hi
        exact ⟨k, s, j, hj, hs, Nat.le_of_ble_eq_true hb, h.symm⟩
      · cases h
    · cases h
  unfold indexAddrV at h
  split at h
  · rename_i e hu
    split at h
    · rename_i a len cap
      obtain ⟨k, s, j, rfl, hs, hlt, rfl⟩ := ix h
      obtain ⟨im, him, ha, ⟨c', rfl, _⟩ | ⟨e0, _, _⟩⟩ := slice_inv hx
      case inr => omega
      refine ⟨_, ?_, ptrV_ok him (k * s)⟩
      have hl : (0 : Int) ≤ Int.ofNat k ∧ (Int.ofNat k : Int) < (len : Int) := ⟨Int.natCast_nonneg k, Int.ofNat_lt.2 hlt⟩
      simp only [Instr.indexAt, asIntOf, Sem.run_bind, Sem.run_pure, Result.andThen_ok, hok.und hu]
      rw [if_pos hl]
      simp [hok.siz hs, add_mk]
    · cases h
  · rename_i n e hu
    split at h
    · rename_i a
      obtain ⟨k, s, j, rfl, hs, hlt, rfl⟩ := ix h
      obtain ⟨im, him, ha, rfl⟩ := ptr_inv hx
      refine ⟨_, ?_, ptrV_ok him (k * s)⟩
      have hl : (0 : Int) ≤ Int.ofNat k ∧ (Int.ofNat k : Int) < (n : Int) := ⟨Int.natCast_nonneg k, Int.ofNat_lt.2 hlt⟩
      simp only [Instr.indexAt, asIntOf, Sem.run_bind, Sem.run_pure, Result.andThen_ok, hok.und hu, Instr.sureAddr]
      rw [if_pos hl]
      simp [hok.siz hs, add_mk]
    · cases h
  · cases h
end Go.Proofs.YtpakmmnbkccdcaaDoor.Ev
