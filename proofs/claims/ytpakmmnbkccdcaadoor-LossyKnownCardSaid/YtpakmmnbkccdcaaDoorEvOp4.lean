/-
  Each operation that only looks, the rest. No condition.
-/
import Derived.Test.YtpakmmnbkccdcaaDoorEvOp3
namespace Go.Proofs.YtpakmmnbkccdcaaDoor.Ev
open Go Go.RowKit
set_option linter.unusedVariables false
variable {P : Program} {C : Cx} {ι : IM}
theorem indexV_ok (hok : Ok P C) {t : TypeId} {x i r : Value} (h : indexV C t x i = some r) {x' i' : Value} (hx : VR ι x x') (hi : VR ι i i') (w : World) : Val P ι w (Instr.index t x' i') r := by
  unfold indexV at h
  split at h
  · rename_i k hu hk
    obtain ⟨j, rfl⟩ := natV_inv hk hi
    split at h
    · rename_i b
      cases hx
      split at h
      · rename_i u hb
        cases h
        refine val_self ?_ rfl
        rw [atB_is] at hb
        simp only [Instr.index, asIntOf, Sem.run_bind, Sem.run_pure, Result.andThen_ok, hok.und hu]
        have e : (if 0 ≤ Int.ofNat k then b[(Int.ofNat k).toNat]? else none) = some u := (if_pos (show (0 : Int) ≤ Int.ofNat k from Int.natCast_nonneg k)).trans hb
        rw [e]; rfl
      · cases h
    · cases h
  · rename_i n e k hu hk
    obtain ⟨j, rfl⟩ := natV_inv hk hi
    split at h
    · rename_i cs
      split at h
      · rename_i s hs
        obtain ⟨hb, h2⟩ := cond_some' h
        have hlt : k < n := Nat.le_of_ble_eq_true hb
        obtain ⟨cs', rfl, hl⟩ := hx.agg_inv
        obtain ⟨y, hy, hv⟩ := partC_ok hok h2 hl w
        refine ⟨y, ?_, hv⟩
        simp only [Instr.index, asIntOf, Sem.run_bind, Sem.run_pure, Result.andThen_ok, hok.und hu]
        rw [if_pos ⟨Int.natCast_nonneg k, Int.ofNat_lt.2 hlt⟩]
        simp only [Sem.run_bind, hok.siz hs, Result.andThen_ok]
        exact hy
      · cases h
    · cases h
  · cases h
/-! Cuts. -/
def OR (ι : IM) : Option Value → Option Value → Prop
  | none, none => True
  | some x, some y => VR ι x y
  | _, _ => False
theorem bound_ok {v v' : Value} (hv : VR ι v v') {top n : Nat} (h : (match natV v with | some n => bif Nat.ble n top then some n else none | none => none) = some n) (code : BoundsCode) (w : World) :
    (Instr.sliceBound v' top code).run P w = .ok n w ∧ n ≤ top := by
  split at h
  · rename_i m hm
    obtain ⟨hb, e⟩ := cond_some h
    subst e
    obtain ⟨j, rfl⟩ := natV_inv hm hv
    have hle := Nat.le_of_ble_eq_true hb
    refine ⟨?_, hle⟩
    simp only [Instr.sliceBound, asIntOf, Sem.run_bind, Sem.run_pure, Result.andThen_ok]
    rw [if_pos ⟨Int.natCast_nonneg m, Int.ofNat_le.2 hle⟩]
    rfl
  · cases h
/-- The bounds; the room may be larger than is known, if no bound names it. -/
def endN (mx : Option Value) (cap m : Nat) : Nat := match mx with | none => cap | some _ => m
theorem bounds_ok {lo lo' hi hi' mx mx' : Option Value} (hlo : OR ι lo lo') (hhi : OR ι hi hi') (hmx : OR ι mx mx') {len cap cap' : Nat} {q : Nat × Nat × Nat} (h : boundsN len cap lo hi mx = some q) (hle : cap ≤ cap') (isS : Bool) (w : World) :
    (Instr.sliceBounds isS len cap' lo' hi' mx').run P w = .ok (q.1, q.2.1, endN mx cap' q.2.2) w ∧ q.2.2 ≤ cap ∧ q.1 ≤ q.2.1 ∧ (mx = none → q.2.2 = cap) ∧ q.2.1 ≤ q.2.2 := by
  unfold boundsN at h
  obtain ⟨hz, h⟩ := cond_none h
  split at h
  · cases h
  · rename_i m hm
    split at h
    · cases h
    · rename_i hh hhh
      split at h
      · cases h
      · rename_i l hl
        obtain ⟨hb, h⟩ := cond_some h
        subst h
        dsimp only
        cases mx with
        | none =>
          cases mx' with
          | some _ => exact hmx.elim
          | none =>
            cases hm
            cases hi with
            | none =>
              cases hi' with
              | some _ => exact hhi.elim
              | none =>
                cases hhh
                cases lo with
                | none =>
                  cases lo' with
                  | some _ => exact hlo.elim
                  | none => cases hl; exact ⟨by simp [Instr.sliceBounds, endN], Nat.le_refl _, Nat.zero_le _, fun _ => rfl, Nat.le_of_ble_eq_true hb⟩
                | some x =>
                  cases lo' with
                  | none => exact hlo.elim
                  | some x' =>
                    obtain ⟨b1, b2⟩ := bound_ok (P := P) hlo hl (if (none : Option Value).isSome then .slice3C else .sliceB) w
                    exact ⟨by simp only [Instr.sliceBounds, endN, Sem.run_bind, Sem.run_pure, Result.andThen_ok, b1], Nat.le_refl _, b2, fun _ => rfl, Nat.le_of_ble_eq_true hb⟩
            | some y =>
              cases hi' with
              | none => exact hhi.elim
              | some y' =>
                obtain ⟨c1, c2⟩ : (Instr.sliceBound y' cap' (if isS then .sliceAcap else .sliceAlen)).run P w = .ok hh w ∧ hh ≤ cap := by
                  have hhh' : (match natV y with | some n => bif Nat.ble n cap then some n else none | none => none) = some hh := hhh
                  have c0 := (bound_ok (P := P) hhi hhh' .sliceAcap w).2
                  refine ⟨(bound_ok (P := P) hhi (top := cap') ?_ _ w).1, c0⟩
                  split at hhh'
                  · rename_i m hm
                    obtain ⟨_, e⟩ := cond_some hhh'
                    subst e
                    simp only [show Nat.ble m cap' = true from Nat.ble_eq_true_of_le (Nat.le_trans c0 hle)]; rfl
                  · cases hhh'
                cases lo with
                | none =>
                  cases lo' with
                  | some _ => exact hlo.elim
                  | none => cases hl; exact ⟨by simp only [Instr.sliceBounds, endN, Sem.run_bind, Sem.run_pure, Result.andThen_ok, c1], Nat.le_refl _, Nat.zero_le _, fun _ => rfl, Nat.le_of_ble_eq_true hb⟩
                | some x =>
                  cases lo' with
                  | none => exact hlo.elim
                  | some x' =>
                    obtain ⟨b1, b2⟩ := bound_ok (P := P) hlo hl (if (none : Option Value).isSome then .slice3C else .sliceB) w
                    exact ⟨by simp only [Instr.sliceBounds, endN, Sem.run_bind, Sem.run_pure, Result.andThen_ok, c1, b1], Nat.le_refl _, b2, fun _ => rfl, Nat.le_of_ble_eq_true hb⟩
        | some z =>
          cases mx' with
          | none => exact hmx.elim
          | some z' =>
            obtain ⟨d1, d2⟩ : (Instr.sliceBound z' cap' (if isS then .slice3Acap else .slice3Alen)).run P w = .ok m w ∧ m ≤ cap := by
              have hm' : (match natV z with | some n => bif Nat.ble n cap then some n else none | none => none) = some m := hm
              have c0 := (bound_ok (P := P) hmx hm' .sliceAcap w).2
              refine ⟨(bound_ok (P := P) hmx (top := cap') ?_ _ w).1, c0⟩
              split at hm'
              · rename_i m2 hm2
                obtain ⟨_, e⟩ := cond_some hm'
                subst e
                simp only [show Nat.ble m2 cap' = true from Nat.ble_eq_true_of_le (Nat.le_trans c0 hle)]; rfl
              · cases hm'
            cases hi with
            | none => cases hz
            | some y =>
              cases hi' with
              | none => exact hhi.elim
              | some y' =>
                obtain ⟨c1, c2⟩ := bound_ok (P := P) hhi hhh .slice3B w
                cases lo with
                | none =>
                  cases lo' with
                  | some _ => exact hlo.elim
                  | none => cases hl; exact ⟨by simp only [Instr.sliceBounds, endN, Sem.run_bind, Sem.run_pure, Result.andThen_ok, c1, d1], d2, Nat.zero_le _, fun e => (by cases e), Nat.le_of_ble_eq_true hb⟩
                | some x =>
                  cases lo' with
                  | none => exact hlo.elim
                  | some x' =>
                    obtain ⟨b1, b2⟩ := bound_ok (P := P) hlo hl (if (some z').isSome then .slice3C else .sliceB) w
                    exact ⟨by simp only [Instr.sliceBounds, endN, Sem.run_bind, Sem.run_pure, Result.andThen_ok, c1, d1, b1], d2, b2, fun e => (by cases e), Nat.le_of_ble_eq_true hb⟩
theorem cutS_ok {b : ByteArray} {lo lo' hi hi' : Option Value} {r : Value} (h : cutS b lo hi = some r) (hlo : OR ι lo lo') (hhi : OR ι hi hi') (hok : Ok P C) {t : TypeId} (hu : und C t = some .string) (w : World) :
    Val P ι w (Instr.slice t (.string b) lo' hi' none) r := by
  unfold cutS at h
  split at h
  · rename_i q hq
    cases h
    obtain ⟨b1, _, _, _, _⟩ := bounds_ok (P := P) (mx := none) (mx' := none) hlo hhi trivial hq (Nat.le_refl _) false w
    refine val_self ?_ rfl
    rw [lenB_is] at b1
    simp only [Instr.slice, Sem.run_bind, hok.und hu, Result.andThen_ok, Option.isSome_none, Bool.false_eq_true, if_false, Sem.run_pure, b1, cutB_is]
  · cases h
theorem cutA_ok {e : TypeId} {a : Addr} {len cap cap' : Nat} {lo lo' hi hi' mx mx' : Option Value} {r : Value} (h : cutA C e (some a) len cap lo hi mx = some r) (hlo : OR ι lo lo') (hhi : OR ι hi hi') (hmx : OR ι mx mx')
    {i : Im} (hi0 : ι a.block = some i) (hsp : a = ⟨a.block, a.off, none⟩) (hc : cap' = cap ∨ (cap < cap' ∧ a.off + cap * i.z = i.n ∧ cap' ≤ cap + i.ext)) (isS : Bool) (hz : cap' ≠ cap → siz C e = some i.z) (w : World) :
    ∃ l h m s, (Instr.sliceBounds isS len cap' lo' hi' mx').run P w = .ok (l, h, m) w ∧ siz C e = some s ∧ VR ι r (.slice (some (if m = l then ⟨i.b, a.off + i.δ, none⟩ else ⟨i.b, a.off + i.δ + l * s, none⟩)) (h - l) (m - l)) := by
  unfold cutA at h
  split at h
  · rename_i s q hs hq
    dsimp only at h
    cases h
    have hle : cap ≤ cap' := by rcases hc with h | h <;> omega
    obtain ⟨b1, b2, b3, b4, b5⟩ := bounds_ok (P := P) hlo hhi hmx hq hle isS w
    refine ⟨q.1, q.2.1, _, s, b1, hs, ?_⟩
    generalize hm : endN mx cap' q.2.2 = m
    have hm' : m = q.2.2 ∨ (q.2.2 = cap ∧ m = cap') := by
      cases mx with
      | none => exact .inr ⟨b4 rfl, hm.symm⟩
      | some _ => exact .inl hm.symm
    have hge : q.2.2 ≤ m := by rcases hm' with e | ⟨e1, e2⟩ <;> omega
    by_cases he : m = q.1
    · rw [if_pos he]
      have e1 : q.2.1 - q.1 = 0 := by omega
      have e2 : q.2.2 - q.1 = 0 := by omega
      have e3 : m - q.1 = 0 := by omega
      rw [e1, e2, e3]
      exact .slice0 _ _ hi0
    · rw [if_neg he]
      have hv := VR.slice (ι := ι) (k := a.block) (a.off + q.1 * s) (q.2.1 - q.1) (q.2.2 - q.1) (m - q.1) hi0 (by
        rcases hm' with e | ⟨e1, e2⟩
        · exact .inl (by rw [e])
        · rcases hc with hc | ⟨c1, c2, c3⟩
          · exact .inl (by omega)
          · have hz' := hz (by omega)
            rw [hs] at hz'
            cases hz'
            refine .inr ⟨by omega, ?_, by omega⟩
            have : q.1 * i.z + (q.2.2 - q.1) * i.z = q.2.2 * i.z := by rw [← Nat.add_mul]; congr 1; omega
            rw [e1] at this ⊢
            omega)
      have e : a.off + q.1 * s + i.δ = a.off + i.δ + q.1 * s := by omega
      rw [e] at hv
      exact hv
  · cases h
theorem add_if (b o l s m : Nat) (h : m = l → True) : (if m = l then (⟨b, o, none⟩ : Addr) else Addr.add ⟨b, o, none⟩ (l * s)) = if m = l then ⟨b, o, none⟩ else ⟨b, o + l * s, none⟩ := by split <;> simp [add_mk]
theorem sliceV_ok (hok : Ok P C) {H : Tr AO} {w : World} (hr : Rel C ι H w) {t : TypeId} {x r : Value} {lo lo' hi hi' mx mx' : Option Value} (h : sliceV C H t x lo hi mx = some r) {x' : Value} (hx : VR ι x x')
    (hlo : OR ι lo lo') (hhi : OR ι hi hi') (hmx : OR ι mx mx') : Val P ι w (Instr.sliceAt t x' lo' hi' mx') r := by
  unfold sliceV at h
  split at h
  · rename_i hu
    split at h
    · cases hx
      cases mx' with
      | some _ => exact hmx.elim
      | none =>
        obtain ⟨y, hy, hv⟩ := cutS_ok h hlo hhi hok hu w
        exact ⟨y, by simp only [Instr.sliceAt, Sem.run_bind, hok.und hu, Result.andThen_ok]; exact hy, hv⟩
    · cases h
  · rename_i e hu
    split at h
    · rename_i a len cap
      obtain ⟨hz, h⟩ := cond_some' h
      cases a with
      | none =>
        cases hx
        unfold cutA at h
        split at h
        · rename_i s q hs hq
          cases h
          obtain ⟨b1, b2, b3, b4, b5⟩ := bounds_ok (P := P) hlo hhi hmx hq (Nat.le_refl _) true w
          have e2 : endN mx cap q.2.2 = q.2.2 := by cases mx with | none => exact (b4 rfl).symm | some _ => rfl
          rw [e2] at b1
          refine ⟨_, ?_, .nilSlice _ _⟩
          simp only [Instr.sliceAt, Instr.slice, Sem.run_bind, hok.und hu, Result.andThen_ok, b1, hok.siz hs, Sem.run_pure]
          simp
        · cases h
      | some a =>
        obtain ⟨i, hi0, hsp, hy⟩ := slice_inv hx
        have hz' : ∀ c', (c' = cap ∨ (cap < c' ∧ a.off + cap * i.z = i.n ∧ c' ≤ cap + i.ext)) → c' ≠ cap → siz C e = some i.z := by
          intro c' hc hne
          unfold zOk at hz
          dsimp only at hz
          cases ho : H.at a.block with
          | none => rw [ho] at hz; cases hz
          | some o =>
            rw [ho] at hz
            have hR := hr.obj _ _ _ hi0 ho
            cases o with
            | cells e' m c ex =>
              dsimp only at hz
              cases hw : w.heap[i.b]? with
              | none => rw [hw] at hR; exact hR.elim
              | some ob =>
                rw [hw] at hR
                cases ob with
                | cells arr e'' fr =>
                  obtain ⟨h1, h2, h3, h3', h4, h5, h6⟩ := hR
                  cases ex with
                  | true => have := h3 rfl; omega
                  | false =>
                    have ee : e = e' := Nat.eq_of_beq_eq_true hz
                    rw [ee]; exact h3' rfl
                | _ => exact hR.elim
            | _ => cases hz
        rcases hy with ⟨c', rfl, hc⟩ | ⟨e1, e2, o', rfl⟩
        · obtain ⟨l, hh, m, s, b1, hs, hv⟩ := cutA_ok (P := P) h hlo hhi hmx hi0 hsp hc true (hz' c' hc) w
          refine ⟨_, ?_, hv⟩
          simp only [Instr.sliceAt, Instr.slice, Sem.run_bind, hok.und hu, Result.andThen_ok, b1, hok.siz hs, Sem.run_pure]
          congr 2
          split <;> simp [add_mk]
        · subst e1; subst e2
          unfold cutA at h
          split at h
          · rename_i s q hs hq
            cases h
            obtain ⟨b1, b2, b3, b4, b5⟩ := bounds_ok (P := P) hlo hhi hmx hq (Nat.le_refl _) true w
            have e2 : endN mx 0 q.2.2 = q.2.2 := by cases mx with | none => exact (b4 rfl).symm | some _ => rfl
            have q1 : q.1 = 0 := by omega
            have q2 : q.2.1 = 0 := by omega
            have q3 : q.2.2 = 0 := by omega
            rw [e2, q1, q2, q3] at b1
            refine ⟨.slice (some ⟨i.b, o', none⟩) 0 0, ?_, ?_⟩
            · simp only [Instr.sliceAt, Instr.slice, Sem.run_bind, hok.und hu, Result.andThen_ok, b1, hok.siz hs, Sem.run_pure]
              simp
            · rw [q1, q2, q3]; exact .slice0 _ _ hi0
          · cases h
    · cases h
  · rename_i n e hu
    split at h
    · rename_i a
      obtain ⟨i, hi0, hsp, rfl⟩ := ptr_inv hx
      obtain ⟨l, hh, m, s, b1, hs, hv⟩ := cutA_ok (P := P) h hlo hhi hmx hi0 hsp (.inl rfl) false (fun e => absurd rfl e) w
      refine ⟨_, ?_, hv⟩
      simp only [Instr.sliceAt, Sem.run_bind, hok.und hu, Result.andThen_ok, Instr.sureAddr, b1, hok.siz hs, Sem.run_pure]
      congr 3
      split <;> simp [add_mk]
    · cases h
  · cases h
end Go.Proofs.YtpakmmnbkccdcaaDoor.Ev
