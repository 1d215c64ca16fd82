/-
  The plain machine of a program is the program's, where three plain facts hold of it. No condition.
-/
import Derived.Test.YtpakmmnbkccdcaaDoorEvDrw
namespace Go.Proofs.YtpakmmnbkccdcaaDoor.Ev
open Go Go.RowKit
set_option linter.unusedVariables false
variable {P : Program}
noncomputable def Cx.at (P : Program) (eqs : List Nat) : Cx := { Cx.of P with eqs := eqs }
def nameOk (P : Program) : Bool := P.funcs.toList.all fun f => f.name != "runtime.NumGoroutine"
def eqOk (P : Program) (t : Nat) : Bool := !P.eqGuardType P.depth t && (!P.stoodInHeld t && (P.fieldsOf t).toList.all fun f => f.name != "_")
theorem ok_at {eqs : List Nat} (h1 : P.follows .mixedOrders = true) (h2 : nameOk P = true) (h3 : eqs.all (eqOk P) = true) : Ok P (Cx.at P eqs) where
  ty := fun t i h => by
    have h : (Tr.of P.types.toList).at t = some i := h
    rw [Tr.at_of, Array.getElem?_toList] at h
    show P.info? t = some i
    have hlt : t < P.types.size := by
      rcases Nat.lt_or_ge t P.types.size with h' | h'
      · exact h'
      · rw [Array.getElem?_eq_none h'] at h; cases h
    unfold Tables.info?
    rw [if_pos hlt]
    exact h
  fn := fun k f h => by
    have h : (Tr.of P.funcs.toList).at k = some f := h
    rw [Tr.at_of, Array.getElem?_toList] at h
    exact h
  nm := fun k f h _ => by
    have h : (Tr.of P.funcs.toList).at k = some f := h
    rw [Tr.at_of] at h
    have := List.all_eq_true.1 h2 f (List.mem_of_getElem? h)
    simpa using this
  eqg := fun t h => by
    have h : eqs.any (Nat.beq t) = true := h
    obtain ⟨x, hx, e⟩ := List.any_eq_true.1 h
    have : t = x := Nat.eq_of_beq_eq_true e
    subst this
    have := List.all_eq_true.1 h3 t hx
    unfold eqOk at this
    simp only [Bool.and_eq_true, Bool.not_eq_true', List.all_eq_true] at this
    exact ⟨this.1, this.2.1, fun f hf => by simpa using this.2.2 f hf⟩
  mx := h1
noncomputable def isB (b : Bool) : Option (Value × St) → Bool
  | some (.bool c, _) => yes c b
  | _ => false
/-- A closed run: what the plain machine tells, the machine does; nothing that was there has turned. -/
theorem closed {C : Cx} (hok : Ok P C) {rounds d k nx : Nat} {b : Bool} (h : isB b (run C rounds d k [] { h := .e, nx := nx }) = true) (w : World) :
    Calls P k #[] w fun e w' => e = .returned (.bool b) ∧ Below w.heap.size w w' := by
  cases hr : run C rounds d k [] { h := .e, nx := nx } with
  | none => rw [hr] at h; cases h
  | some r =>
    obtain ⟨v, S'⟩ := r
    rw [hr] at h
    have hv : v = .bool b := by
      unfold isB at h
      split at h
      · rename_i c _ e
        cases e
        rw [yes_is] at h
        simp only [beq_iff_eq] at h
        rw [h]
      · cases h
    subst hv
    obtain ⟨_, _, hc⟩ := run_snd hok rounds d _ _ _ _ _ hr
    refine (hc (fun _ => none) w #[] (fun k _ => Tr.at_e k) ⟨fun k k' i i' h => (by cases h), fun k i o h => (by cases h)⟩ (.nil _) (fun _ _ _ => rfl)).mono ?_
    rintro e w' ⟨v', ι', rfl, hv, hg⟩
    have : v' = .bool b := by cases hv; rfl
    subst this
    exact ⟨rfl, hg.fr.os, hg.fr.tape, hg.fr.output, hg.fr.size, fun k hk => hg.fr.same k hk (fun k i h => by cases h)⟩
end Go.Proofs.YtpakmmnbkccdcaaDoor.Ev
