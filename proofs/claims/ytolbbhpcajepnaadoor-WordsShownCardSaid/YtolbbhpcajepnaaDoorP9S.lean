/-
  WordsShown and WordsRunes, plain. Their conditions: the statements' own.
-/
import Derived.Test.YtolbbhpcajepnaaDoorP9A
import Derived.Test.YtolbbhpcajepnaaDoorHX28
namespace Go.Proofs.YtolbbhpcajepnaaDoor.Pure
open Go Go.RowKit Go.Proofs.YtolbbhpcajepnaaDoorW.PrintWords Go.Proofs.YtolbbhpcajepnaaDoor.H Go.Proofs.YtolbbhpcajepnaaDoor.L
set_option linter.unusedSimpArgs false
set_option linter.unusedVariables false

theorem shown_loop (a b : ByteArray) (hb : b.size ≤ 500) (ha : a.size ≤ 500) : ∀ (d i : Nat), i + d = (shownF a).length →
    Ev (fun k => cellaretlaw2_WordsShown.l0 k a b (ba (shownF a)) (i : Int)) true
  | 0, i, hi => by
    refine Ev.step (fun k => cellaretlaw2_WordsShown.l0.eq_2 _ _ _ _ _) ?_
    have hsz : (ba (shownF a)).size = (shownF a).length := by simp [ba, ByteArray.size]
    simp only [hsz, if_neg (show ¬ (i : Int) < ((shownF a).length : Int) by omega), shown_is b (by omega), Option.bind_some, tl, ba_toList]
    have : ((shownF a == shownF b) == (a.data.toList == b.data.toList)) = true := by
      rw [beq_iff_eq, Bool.eq_iff_iff, beq_iff_eq, beq_iff_eq]
      constructor
      · exact shown_inj a b
      · intro e
        rw [shownF_eq, shownF_eq, e]
    rw [this]
    exact Ev.now _
  | d + 1, i, hi => by
    refine Ev.step (fun k => cellaretlaw2_WordsShown.l0.eq_2 _ _ _ _ _) ?_
    have hsz : (ba (shownF a)).size = (shownF a).length := by simp [ba, ByteArray.size]
    have hl := shown_len a
    have hlt : i < (ba (shownF a)).size := by omega
    obtain ⟨c, hc, hcb⟩ := drop_by (ba (shownF a)) i hlt
    have hmem : c ∈ shownF a := by
      rw [ba_toList] at hc
      exact List.mem_of_mem_drop (i := i) (by rw [hc]; simp)
    have hf := List.all_eq_true.1 (shown_fine a) c hmem
    unfold fine at hf
    simp only [Bool.and_eq_true, decide_eq_true_eq, bne_iff_ne] at hf
    have n34 : c.toNat ≠ 34 := fun e => hf.2.1 (UInt8.toNat_inj.1 (show c.toNat = 34 from e))
    have n127 : c.toNat ≠ 127 := fun e => hf.2.2 (UInt8.toNat_inj.1 (show c.toNat = 127 from e))
    simp only [hsz, if_pos (show (i : Int) < ((shownF a).length : Int) by omega), if_pos (show (0 : Int) ≤ (i : Int) by omega), bt_by _ i hlt, ← hcb, if_neg (show ¬ (c.toNat : Int) ≤ 32 by omega), if_neg (show ¬ (c.toNat : Int) = 34 by omega), if_neg (show ¬ (c.toNat : Int) = 127 by omega), wrap_next (show (0 : Int) ≤ (i : Int) by omega) (by omega)]
    exact shown_loop a b hb ha d (i + 1) (by omega)
theorem WordsShown : cellaretlaw2_WordsShown.Pure := by
  intro a b ha hb
  apply Ev.rounds
  refine Ev.bind awakeEv ?_
  simp only [if_true]
  by_cases h1 : (a.size : Int) > 500
  · simp only [if_pos h1]
    refine Ev.step (fun k => cellaretlaw2_WordsShown.j0.eq_2 _ _ _ _) ?_
    simp only [if_true]; exact Ev.now _
  · simp only [if_neg h1]
    refine Ev.step (fun k => cellaretlaw2_WordsShown.j0.eq_2 _ _ _ _) ?_
    by_cases h2 : (b.size : Int) > 500
    · simp only [decide_eq_true h2, if_true]; exact Ev.now _
    · simp only [decide_eq_false h2, Bool.false_eq_true, if_false, shown_is a (by omega), Option.bind_some]
      exact shown_loop a b (by omega) (by omega) _ 0 (Nat.zero_add _)

end Go.Proofs.YtolbbhpcajepnaaDoor.Pure
