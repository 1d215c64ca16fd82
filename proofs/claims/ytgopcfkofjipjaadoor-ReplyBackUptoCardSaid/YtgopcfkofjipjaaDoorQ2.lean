/-
  Answers made and written, plain: AnsBack and All. Their conditions: at most a thousand answers, each within bounds.
-/
import Derived.Test.YtgopcfkofjipjaaDoorQ0
import Derived.Test.YtgopcfkofjipjaaDoorHX17
import Derived.Test.YtgopcfkofjipjaaDoorHX6
namespace Go.Proofs.YtgopcfkofjipjaaDoor.Pure
open Go Go.RowKit Go.Proofs.YtgopcfkofjipjaaDoorW.PrintWords Go.Proofs.YtgopcfkofjipjaaDoor.H
set_option linter.unusedSimpArgs false
set_option linter.unusedVariables false

theorem back_loop (l : List An) (hl : l.length ≤ 1000) : ∀ (d i : Nat), i + d = l.length →
    Ev (fun k => cellaretref17_AnsBack.l0 k l ((l.take i).map backA) (i : Int)) (l.map backA)
  | 0, i, h => by
    obtain rfl : i = l.length := by omega
    refine Ev.step (fun k => cellaretref17_AnsBack.l0.eq_2 _ _ _ _) ?_
    simp only [if_neg (show ¬ ((l.length : Int) < (l.length : Int)) by omega), List.take_length]
    exact Ev.now _
  | d + 1, i, h => by
    have hi : i < l.length := by omega
    refine Ev.step (fun k => cellaretref17_AnsBack.l0.eq_2 _ _ _ _) ?_
    have hlen : ((l.take i).map backA).length < 1759218604441 := by rw [List.length_map, List.length_take]; omega
    simp only [if_pos (show (i : Int) < (l.length : Int) by omega), if_pos (show (0 : Int) ≤ (i : Int) by omega), rdA l i hi, if_pos hlen, wrapN i (by omega)]
    have hn := take_next l backA i hi
    by_cases hb : l[i].f0 = true
    · simp only [if_pos hb]
      have e : backA l[i] = (⟨true, l[i].f2, l[i].f3, (⟨#[]⟩ : ByteArray), l[i].f4, l[i].f5, l[i].f6⟩ : Ev34) := by unfold backA; rw [if_pos hb]
      rw [← e, hn]
      exact back_loop l hl d (i + 1) (by omega)
    · simp only [if_neg hb]
      have e : backA l[i] = (⟨false, (⟨#[]⟩ : ByteArray), (⟨#[]⟩ : ByteArray), l[i].f1, 0, 0, false⟩ : Ev34) := by unfold backA; rw [if_neg hb]
      rw [← e, hn]
      exact back_loop l hl d (i + 1) (by omega)
theorem evBack (l : List An) (hl : l.length ≤ 1000) : Ev (fun k => cellaretref17_AnsBack.f k l) (l.map backA) := back_loop l hl l.length 0 (by omega)

theorem all_loop (l : List An) (hl : l.length ≤ 1000) (B : Nat) (hB : B * 1000 + B < 140737488355328) (hs : ∀ x ∈ l, okN x ∧ (refB x).size ≤ B ∧ x.f1.size ≤ 4611686018427387904 ∧ x.f2.size ≤ 4611686018427387904 ∧ x.f3.size ≤ 2305843009213693952) : ∀ (d i : Nat), i + d = l.length →
    Ev (fun k => reply_All.l0 k (allI (l.take i)) (l.map backA) ((l.map backA).length : Int) (i : Int)) (allI l)
  | 0, i, h => by
    obtain rfl : i = l.length := by omega
    refine Ev.step (fun k => reply_All.l0.eq_2 _ _ _ _ _) ?_
    simp only [List.length_map, if_neg (show ¬ ((l.length : Int) < (l.length : Int)) by omega), List.take_length]
    exact Ev.now _
  | d + 1, i, h => by
    have hi : i < l.length := by omega
    have hx := hs l[i] (List.getElem_mem hi)
    refine Ev.step (fun k => reply_All.l0.eq_2 _ _ _ _ _) ?_
    have hm : i < (l.map backA).length := by rw [List.length_map]; exact hi
    have hlen := allI_len B (l.take i) (fun x hx => (hs x (List.mem_of_mem_take hx)).2.1)
    have hlt : (l.take i).length ≤ 1000 := by rw [List.length_take]; omega
    have hmul : (l.take i).length * B ≤ 1000 * B := Nat.mul_le_mul_right _ hlt
    have e : (l.map backA)[i] = backA l[i] := List.getElem_map ..
    simp only [if_pos (show (i : Int) < ((l.map backA).length : Int) by omega), if_pos (show (0 : Int) ≤ (i : Int) by omega), rdE _ i hm, e, bytes_back l[i] hx.1 hx.2.2.1 hx.2.2.2.1 hx.2.2.2.2, Option.bind_some, wrapN i (by omega)]
    simp only [allI_next l i hi, if_pos (show (allI (l.take i)).length + (bytesOf (refB l[i])).length < 140737488355328 by rw [bytesOf_length]; have := hx.2.1; omega)]
    exact all_loop l hl B hB hs d (i + 1) (by omega)
theorem evAll (l : List An) (hl : l.length ≤ 1000) (B : Nat) (hB : B * 1000 + B < 140737488355328) (hs : ∀ x ∈ l, okN x ∧ (refB x).size ≤ B ∧ x.f1.size ≤ 4611686018427387904 ∧ x.f2.size ≤ 4611686018427387904 ∧ x.f3.size ≤ 2305843009213693952) :
    Ev (fun k => reply_All.f k (l.map backA)) (allI l) := all_loop l hl B hB hs l.length 0 (by omega)
end Go.Proofs.YtgopcfkofjipjaaDoor.Pure
