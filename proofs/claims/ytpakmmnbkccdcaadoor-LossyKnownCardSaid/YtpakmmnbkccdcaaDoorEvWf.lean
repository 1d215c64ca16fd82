/-
  Numbers that are not given yet stand for nothing; values told to be the same are. No condition.
-/
import Derived.Test.YtpakmmnbkccdcaaDoorEvMk
namespace Go.Proofs.YtpakmmnbkccdcaaDoor.Ev
open Go Go.RowKit
set_option linter.unusedVariables false
variable {C : Cx}
/-- Nothing is made but at k. -/
def Only (H H' : Tr AO) (k : Nat) : Prop := ∀ j, j ≠ k → H.at j = none → H'.at j = none
theorem Only.refl (H : Tr AO) (k : Nat) : Only H H k := fun _ _ h => h
theorem Only.put {H : Tr AO} {r : Nat} {o o' : AO} (h : H.at r = some o) (k : Nat) : Only H (H.put r o') k := fun j _ hj => by
  rw [Tr.at_put]
  by_cases e : j = r
  · subst e; rw [h] at hj; cases hj
  · rw [if_neg e]; exact hj
theorem putCells_only {H H' : Tr AO} {a : Addr} {l : List Value} (h : putCells H a l = some H') (k : Nat) : Only H H' k := by
  unfold putCells at h
  split at h
  · rename_i ho
    obtain ⟨_, h⟩ := cond_some h
    subst h
    exact .put ho k
  · cases h
theorem storeV_only {H : Tr AO} {t : TypeId} {x y : Value} {p : Value × Tr AO} (h : storeV C H t x y = some p) (k : Nat) : Only H p.2 k := by
  unfold storeV at h
  split at h
  · obtain ⟨_, h⟩ := cond_some' h
    split at h
    · rename_i hp; cases h; exact putCells_only hp k
    · cases h
  · cases h
theorem mapSetV_only {H : Tr AO} {t : TypeId} {m x y : Value} {p : Value × Tr AO} (h : mapSetV C H t m x y = some p) (k : Nat) : Only H p.2 k := by
  unfold mapSetV at h
  split at h
  · split at h
    · rename_i ho
      unfold mapPut at h
      split at h
      · cases h; exact .put ho k
      · cases h; exact .put ho k
      · cases h
    · cases h
  · cases h
theorem deleteV_only {H : Tr AO} {t : TypeId} {x y : Value} {p : Value × Tr AO} (h : deleteV C H t x y = some p) (k : Nat) : Only H p.2 k := by
  unfold deleteV at h
  split at h
  · split at h
    · cases h; exact .refl H k
    · cases h
  · split at h
    · rename_i ho
      unfold mapDel at h
      split at h
      · cases h; exact .put ho k
      · cases h; exact .refl H k
      · cases h
    · cases h
  · cases h
theorem clearV_only {H : Tr AO} {t : TypeId} {x : Value} {p : Value × Tr AO} (h : clearV C H t x = some p) (k : Nat) : Only H p.2 k := by
  unfold clearV at h
  split at h
  · cases h; exact .refl H k
  · split at h
    · rename_i ho; cases h; exact .put ho k
    · cases h
  · cases h; exact .refl H k
  · rename_i e a n cap hu
    cases hn : Nat.beq n 0 with
    | true => rw [hn] at h; cases h; exact .refl H k
    | false =>
      rw [hn] at h
      dsimp only [cond_false] at h
      split at h
      · split at h
        · rename_i hp; cases h; exact putCells_only hp k
        · cases h
      · cases h
  · cases h
theorem copyV_only {H : Tr AO} {t : TypeId} {x y : Value} {p : Value × Tr AO} (h : copyV C H t x y = some p) (k : Nat) : Only H p.2 k := by
  unfold copyV at h
  split at h
  · rename_i e b n cap m hu hm
    split at h
    · split at h
      · cases hn : Nat.beq n 0 with
        | true => rw [hn] at h; cases h; exact .refl H k
        | false =>
          rw [hn] at h
          dsimp only [cond_false] at h
          split at h
          · cases h
          · split at h
            · rename_i hp; cases h; exact putCells_only hp k
            · cases h
      · cases h
    · cases h
  · cases h
theorem nextV_only {H : Tr AO} {x : Value} {s : Bool} {p : Value × Tr AO} (h : nextV H x s = some p) (k : Nat) : Only H p.2 k := by
  unfold nextV at h
  split at h
  · split at h
    · rename_i b pos ho
      obtain ⟨_, h⟩ := cond_some' h
      cases hp : Nat.blt pos (lenB b) with
      | false => rw [hp] at h; cases h; exact .refl H k
      | true =>
        rw [hp] at h
        dsimp only [cond_true] at h
        cases hd : Utf8.decode b pos with
        | mk c w => rw [hd] at h; cases h; exact .put ho k
    · cases h
  · cases h
theorem bif_at {b : Bool} {X Y : Tr AO} {j : Nat} (h1 : X.at j = none) (h2 : Y.at j = none) : (bif b then X else Y).at j = none := by cases b <;> assumption
theorem appendV_only {H : Tr AO} {t u : TypeId} {x y : Value} {k : Nat} {p : Value × Tr AO} (h : appendV C H t u x y k = some p) : Only H p.2 k := by
  unfold appendV at h
  split at h
  · obtain ⟨_, h2⟩ := cond_none h
    clear h
    split at h2
    · rename_i b len cap
      split at h2
      · rename_i i m hi hm
        have h := h2
        unfold appendE at h
        cases hr : Nat.ble (len + m) cap with
        | true =>
          rw [hr] at h
          dsimp only [cond_true] at h
          unfold appIn at h
          split at h
          · obtain ⟨_, h⟩ := cond_some h; subst h; exact .refl H k
          · cases hm : Nat.beq m 0 with
            | true => rw [hm] at h; cases h; exact .refl H k
            | false =>
              rw [hm] at h
              dsimp only [cond_false] at h
              split at h
              · cases h
              · split at h
                · cases h
                · rename_i hp; cases h; exact putCells_only hp k
        | false =>
          rw [hr] at h
          dsimp only [cond_false] at h
          obtain ⟨_, h⟩ := cond_some' h
          unfold appNew at h
          split at h
          · rename_i l l' H' hl hl' hk
            obtain ⟨_, h⟩ := cond_some h
            subst h
            intro j hj h0
            show (H'.put k _).at j = none
            rw [Tr.at_put, if_neg hj]
            unfold appKill at hk
            split at hk
            · cases hk; exact h0
            · split at hk
              · rename_i e' n c ex ho
                cases ex with
                | true => cases hk; exact h0
                | false =>
                  dsimp only [cond_false] at hk
                  obtain ⟨_, hk⟩ := cond_some hk
                  subst hk
                  exact bif_at (Only.put ho k j hj h0) h0
              · cases hk
          · cases h
      · cases h2
    · cases h2
  · cases h
theorem rH_h' {o : Option (Value × Tr AO)} {x : Value} {h' : Tr AO} (h : rH o = .h x h') : o = some (x, h') := by cases o with | none => cases h | some p => cases h; rfl
theorem rV_h' {o : Option Value} {x : Value} {h' : Tr AO} (h : rV o = .h x h') : False := by cases o <;> cases h
theorem rN_h' {k : Nat} {o : Option (Value × AO)} {x : Value} {h' : Tr AO} (h : rN k o = .h x h') : False := by cases o <;> cases h
theorem biR_only {H : Tr AO} {b : Builtin} {ts : List TypeId} {as : List Value} {k : Nat} {x : Value} {H' : Tr AO} (h : biR C H b ts as k = .h x H') : Only H H' k := by
  unfold biR at h
  split at h
  · unfold t1 r1 at h; (repeat' split at h) <;> first | exact (rV_h' h).elim | cases h
  · unfold t1 r1 at h; (repeat' split at h) <;> first | exact (rV_h' h).elim | cases h
  · unfold r2 at h; (repeat' split at h) <;> first | exact (rV_h' h).elim | cases h
  · unfold r2 at h; (repeat' split at h) <;> first | exact (rV_h' h).elim | cases h
  · unfold t2 r2 at h; (repeat' split at h) <;> first | exact appendV_only (rH_h' h) | cases h
  · unfold t1 r2 at h; (repeat' split at h) <;> first | exact copyV_only (rH_h' h) k | cases h
  · unfold t1 r2 at h; (repeat' split at h) <;> first | exact deleteV_only (rH_h' h) k | cases h
  · unfold t1 r1 at h; (repeat' split at h) <;> first | exact clearV_only (rH_h' h) k | cases h
  · cases h
theorem convR_h' {H : Tr AO} {s d : TypeId} {x r : Value} {k : Nat} {h' : Tr AO} (h : convR C H s d x k = .h r h') : False := by
  unfold convR convD convS at h
  (repeat' split at h) <;> first | exact rV_h' h | cases h
theorem opR_only {H : Tr AO} {v : Operand → Value} {op : Op} {k : Nat} {x : Value} {H' : Tr AO} (h : opR op C H k v = .h x H') : Only H H' k := by
  cases op with
  | insert t m a b => exact mapSetV_only (rH_h' h) k
  | mapUpdate t m a b => exact mapSetV_only (rH_h' h) k
  | store t a b => exact storeV_only (rH_h' h) k
  | next a s => exact nextV_only (rH_h' h) k
  | call c =>
    obtain ⟨cal, args, ats⟩ := c
    cases cal with
    | builtin b => exact biR_only h
    | value f =>
      have h : funR (v f) (args.toList.map v) = .h x H' := h
      unfold funR at h; split at h <;> cases h
    | invoke f m => cases h
  | convert s d a => exact (convR_h' h).elim
  | alloc => exact (rN_h' (k := 0) h).elim
  | box => cases h
  | buildSlice => exact (rN_h' (k := 0) h).elim
  | makeMap => exact (rN_h' (k := 0) h).elim
  | makeSlice => exact (rN_h' (k := 0) h).elim
  | range => exact (rN_h' (k := 0) h).elim
  | pick => exact (rV_h' h).elim
  | build => exact (rV_h' h).elim
  | load => exact (rV_h' h).elim
  | nilCheck => exact (rV_h' h).elim
  | binOp => exact (rV_h' h).elim
  | unOp => exact (rV_h' h).elim
  | makeInterface => exact (rV_h' h).elim
  | slice => exact (rV_h' h).elim
  | fieldAddr => exact (rV_h' h).elim
  | field => exact (rV_h' h).elim
  | indexAddr => exact (rV_h' h).elim
  | index => exact (rV_h' h).elim
  | lookup => exact (rV_h' h).elim
  | typeAssert => exact (rV_h' h).elim
  | extract => exact (rV_h' h).elim
  | _ => cases h
/-- What makes memory looks at no memory. -/
theorem make_blind {H H' : Tr AO} {v : Operand → Value} {op : Op} {k : Nat} {x : Value} {ob : AO} (hc : clOf C op = .make) (h : opR op C H k v = .n x ob) : opR op C H' k v = .n x ob := by
  cases op with
  | call c =>
    obtain ⟨cal, args, ats⟩ := c
    cases cal with
    | builtin b => cases b <;> cases hc
    | value f => cases hc
    | invoke f m => cases hc
  | _ => first
    | (cases hc; done)
    | exact h
    | exact (convR_n h).elim
end Go.Proofs.YtpakmmnbkccdcaaDoor.Ev
