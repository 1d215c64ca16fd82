/-
  ReplyWrites, plain: any answers are the bytes that the document says. Its conditions: each number of its kind.
-/
import Derived.Test.YtgopcfkofjipjaaDoorQ1
import Derived.Test.YtgopcfkofjipjaaDoorHX20
namespace Go.Proofs.YtgopcfkofjipjaaDoor.Pure
open Go Go.RowKit Go.Proofs.YtgopcfkofjipjaaDoorW.PrintWords Go.Proofs.YtgopcfkofjipjaaDoor.H
set_option linter.unusedSimpArgs false
set_option linter.unusedVariables false

abbrev An := S29
abbrev Ev34 := S34
def okN (x : An) : Prop := 0 ≤ x.f4 ∧ x.f4 < 4294967296 ∧ 0 ≤ x.f5 ∧ x.f5 < 18446744073709551616
def backA (x : An) : Ev34 := if x.f0 = true then ⟨true, x.f2, x.f3, (⟨#[]⟩ : ByteArray), x.f4, x.f5, x.f6⟩ else ⟨false, (⟨#[]⟩ : ByteArray), (⟨#[]⟩ : ByteArray), x.f1, 0, 0, false⟩
def refB (x : An) : ByteArray := ansB x.f0 x.f1 x.f2 x.f3 x.f4.toNat x.f5.toNat x.f6
def smallA (x : An) : Prop := x.f3.size ≤ 2000 ∧ x.f2.size ≤ 1000 ∧ x.f1.size ≤ 2000
theorem wrapN (i : Nat) (h : i < 1000000) : wrap64 ((i : Int) + 1) = ((i + 1 : Nat) : Int) := by unfold wrap64; omega
theorem rdA (l : List An) (i : Nat) (h : i < l.length) : rd_T29 l (i : Int) = l[i] := by
  unfold rd_T29
  rw [Int.toNat_natCast, List.getD_eq_getElem?_getD, List.getElem?_eq_getElem h]
  rfl
theorem rdE (l : List Ev34) (i : Nat) (h : i < l.length) : rd_T34 l (i : Int) = l[i] := by
  unfold rd_T34
  rw [Int.toNat_natCast, List.getD_eq_getElem?_getD, List.getElem?_eq_getElem h]
  rfl
theorem take_next {α β : Type} (l : List α) (f : α → β) (i : Nat) (h : i < l.length) : (l.take i).map f ++ [f l[i]] = (l.take (i + 1)).map f := by
  rw [List.take_succ_eq_append_getElem h, List.map_append]
  rfl
theorem back_loop (l : List An) (hl : l.length ≤ 1000) : ∀ (d i : Nat), i + d = l.length →
    Ev (fun k => cellaretref17_AnsBack.l0 k l ((l.take i).map backA) (i : Int)) (l.map backA)
  | 0, i, h => by
    obtain rfl : i = l.length := by omega
    refine Ev.step (fun k => cellaretref17_AnsBack.l0.eq_2 _ _ _ _) ?_
    simp only [if_neg (show ¬ ((l.length : Int) < (l.length : Int)) by omega), List.take_length]
    exact Ev.now _
  | d + 1, i, h => by
    have hi : i < l.length := by omega
    refine Ev.step (fun k => cellaretref17_AnsBack.l0.eq_2 _ _ _ _) ?_
    have hlen : ((l.take i).map backA).length < 1759218604441 := by rw [List.length_map, List.length_take]; omega
    simp only [if_pos (show (i : Int) < (l.length : Int) by omega), if_pos (show (0 : Int) ≤ (i : Int) by omega), rdA l i hi, if_pos hlen, wrapN i (by omega)]
    have hn := take_next l backA i hi
    by_cases hb : l[i].f0 = true
    · simp only [if_pos hb]
      have e : backA l[i] = (⟨true, l[i].f2, l[i].f3, (⟨#[]⟩ : ByteArray), l[i].f4, l[i].f5, l[i].f6⟩ : Ev34) := by unfold backA; rw [if_pos hb]
      rw [← e, hn]
      exact back_loop l hl d (i + 1) (by omega)
    · simp only [if_neg hb]
      have e : backA l[i] = (⟨false, (⟨#[]⟩ : ByteArray), (⟨#[]⟩ : ByteArray), l[i].f1, 0, 0, false⟩ : Ev34) := by unfold backA; rw [if_neg hb]
      rw [← e, hn]
      exact back_loop l hl d (i + 1) (by omega)
theorem evBack (l : List An) (hl : l.length ≤ 1000) : Ev (fun k => cellaretref17_AnsBack.f k l) (l.map backA) := back_loop l hl l.length 0 (by omega)

theorem ansB_size (v : Bool) (text key data : ByteArray) (fl cas : Nat) (wc : Bool) (hf : fl < 4294967296) (hc : cas < 18446744073709551616) (hd : data.size < 18446744073709551616) :
    (ansB v text key data fl cas wc).size ≤ text.size + key.size + data.size + 80 := by
  have h1 := dec_size fl (by omega)
  have h2 := dec_size data.size hd
  have h3 := dec_size cas hc
  unfold ansB
  cases v <;> cases wc <;> simp only [if_true, Bool.false_eq_true, if_false, ByteArray.size_append, vw_size, sp_size, nl_size] <;> omega
theorem bytes_back (x : An) (hn : okN x) (h1 : x.f1.size ≤ 4611686018427387904) (h2 : x.f2.size ≤ 4611686018427387904) (h3 : x.f3.size ≤ 2305843009213693952) :
    reply_Bytes.f (backA x).f0 (backA x).f1 (backA x).f2 (backA x).f3 (backA x).f4 (backA x).f5 (backA x).f6 = some (bytesOf (refB x)) := by
  obtain ⟨a, b, c, d⟩ := hn
  unfold backA refB
  by_cases hb : x.f0 = true
  · simp only [if_pos hb, hb]
    have h := bytes_eq true (⟨#[]⟩ : ByteArray) x.f2 x.f3 x.f4.toNat x.f5.toNat x.f6 (by show 0 ≤ _; omega) h2 h3 (by omega) (by omega)
    rw [Int.toNat_of_nonneg a, Int.toNat_of_nonneg c] at h
    exact h
  · have hb' : x.f0 = false := by simpa using hb
    simp only [if_neg hb, hb']
    exact bytes_eq false x.f1 (⟨#[]⟩ : ByteArray) (⟨#[]⟩ : ByteArray) 0 0 false h1 (by show 0 ≤ _; omega) (by show 0 ≤ _; omega) (by omega) (by omega)
theorem evRef (x : An) (hn : okN x) (h1 : x.f1.size ≤ 4611686018427387904) (h2 : x.f2.size ≤ 4611686018427387904) (h3 : x.f3.size ≤ 2305843009213693952) :
    Ev (fun k => cellaretref18_Bytes.f k x.f0 x.f1 x.f2 x.f3 x.f4 x.f5 x.f6) (refB x) := by
  obtain ⟨a, b, c, d⟩ := hn
  have h := evRefBytes x.f0 x.f1 x.f2 x.f3 x.f4.toNat x.f5.toNat x.f6 h1 h2 h3 (by omega) (by omega)
  rw [Int.toNat_of_nonneg a, Int.toNat_of_nonneg c] at h
  exact h
def allI (l : List An) : List Int := l.flatMap fun x => bytesOf (refB x)
theorem allI_next (l : List An) (i : Nat) (h : i < l.length) : allI (l.take i) ++ bytesOf (refB l[i]) = allI (l.take (i + 1)) := by
  unfold allI
  rw [List.take_succ_eq_append_getElem h, List.flatMap_append]
  simp
theorem allI_len (B : Nat) : ∀ l : List An, (∀ x ∈ l, (refB x).size ≤ B) → (allI l).length ≤ l.length * B
  | [], _ => by simp [allI]
  | x :: l, h => by
    have h1 := allI_len B l (fun y hy => h y (by simp [hy]))
    have h2 := h x (by simp)
    unfold allI at h1 ⊢
    rw [List.flatMap_cons, List.length_append, bytesOf_length, List.length_cons, Nat.add_mul, Nat.one_mul]
    omega
theorem all_loop (l : List An) (hl : l.length ≤ 1000) (B : Nat) (hB : B * 1000 + B < 140737488355328) (hs : ∀ x ∈ l, okN x ∧ (refB x).size ≤ B ∧ x.f1.size ≤ 4611686018427387904 ∧ x.f2.size ≤ 4611686018427387904 ∧ x.f3.size ≤ 2305843009213693952) : ∀ (d i : Nat), i + d = l.length →
    Ev (fun k => reply_All.l0 k (allI (l.take i)) (l.map backA) ((l.map backA).length : Int) (i : Int)) (allI l)
  | 0, i, h => by
    obtain rfl : i = l.length := by omega
    refine Ev.step (fun k => reply_All.l0.eq_2 _ _ _ _ _) ?_
    simp only [List.length_map, if_neg (show ¬ ((l.length : Int) < (l.length : Int)) by omega), List.take_length]
    exact Ev.now _
  | d + 1, i, h => by
    have hi : i < l.length := by omega
    have hx := hs l[i] (List.getElem_mem hi)
    refine Ev.step (fun k => reply_All.l0.eq_2 _ _ _ _ _) ?_
    have hm : i < (l.map backA).length := by rw [List.length_map]; exact hi
    have hlen := allI_len B (l.take i) (fun x hx => (hs x (List.mem_of_mem_take hx)).2.1)
    have hlt : (l.take i).length ≤ 1000 := by rw [List.length_take]; omega
    have hmul : (l.take i).length * B ≤ 1000 * B := Nat.mul_le_mul_right _ hlt
    have e : (l.map backA)[i] = backA l[i] := List.getElem_map ..
    simp only [if_pos (show (i : Int) < ((l.map backA).length : Int) by omega), if_pos (show (0 : Int) ≤ (i : Int) by omega), rdE _ i hm, e, bytes_back l[i] hx.1 hx.2.2.1 hx.2.2.2.1 hx.2.2.2.2, Option.bind_some, wrapN i (by omega)]
    simp only [allI_next l i hi, if_pos (show (allI (l.take i)).length + (bytesOf (refB l[i])).length < 140737488355328 by rw [bytesOf_length]; have := hx.2.1; omega)]
    exact all_loop l hl B hB hs d (i + 1) (by omega)
theorem evAll (l : List An) (hl : l.length ≤ 1000) (B : Nat) (hB : B * 1000 + B < 140737488355328) (hs : ∀ x ∈ l, okN x ∧ (refB x).size ≤ B ∧ x.f1.size ≤ 4611686018427387904 ∧ x.f2.size ≤ 4611686018427387904 ∧ x.f3.size ≤ 2305843009213693952) :
    Ev (fun k => reply_All.f k (l.map backA)) (allI l) := all_loop l hl B hB hs l.length 0 (by omega)
theorem str_bytes (s : ByteArray) : strOfNums (bytesOf s) = s := by
  apply ba_ext
  rw [strOfNums_data]
  unfold bytesOf
  rw [List.map_map]
  have h : ∀ l : List UInt8, l.map ((fun n : Int => UInt8.ofNat n.toNat) ∘ fun b : UInt8 => (b.toNat : Int)) = l := by
    intro l
    induction l with
    | nil => rfl
    | cons x l ih => rw [List.map_cons, ih]; simp
  exact h _
theorem str_app (a b : List Int) : strOfNums (a ++ b) = strOfNums a ++ strOfNums b := by
  apply ba_ext
  rw [ByteArray.data_append, Array.toList_append, strOfNums_data, strOfNums_data, strOfNums_data, List.map_append]
theorem cat_next (l : List An) (i : Nat) (h : i < l.length) : strOfNums (allI (l.take i)) ++ refB l[i] = strOfNums (allI (l.take (i + 1))) := by
  rw [← allI_next l i h, str_app, str_bytes]
theorem ref_small (x : An) (hn : okN x) (hs : smallA x) : (refB x).size ≤ 5080 := by
  obtain ⟨a, b, c, d⟩ := hn
  obtain ⟨h1, h2, h3⟩ := hs
  have := ansB_size x.f0 x.f1 x.f2 x.f3 x.f4.toNat x.f5.toNat x.f6 (by omega) (by omega) (by omega)
  unfold refB
  omega
theorem writes_loop (l : List An) (hl : l.length ≤ 40) (hn : ∀ x ∈ l, okN x) : ∀ (d i : Nat), i + d = l.length → (∀ x ∈ l.take i, smallA x) →
    Ev (fun k => cellaretlaw19_ReplyWrites.l0 k l (strOfNums (allI (l.take i))) (l.map backA) (i : Int)) true
  | 0, i, h, hs => by
    obtain rfl : i = l.length := by omega
    rw [List.take_length] at hs
    refine Ev.step (fun k => cellaretlaw19_ReplyWrites.l0.eq_2 _ _ _ _ _) ?_
    simp only [if_neg (show ¬ ((l.length : Int) < (l.length : Int)) by omega), List.take_length]
    refine Ev.bind (evAll l (by omega) 5080 (by omega) (fun x hx => ?_)) ?_
    · have h2 := hs x hx
      exact ⟨hn x hx, ref_small x (hn x hx) h2, by have := h2.2.2; omega, by have := h2.2.1; omega, by have := h2.1; omega⟩
    · simp only [beq_self_eq_true]
      exact Ev.now _
  | d + 1, i, h, hs => by
    have hi : i < l.length := by omega
    have hm : i < (l.map backA).length := by rw [List.length_map]; exact hi
    have e : (l.map backA)[i] = backA l[i] := List.getElem_map ..
    have hx := hn l[i] (List.getElem_mem hi)
    refine Ev.step (fun k => cellaretlaw19_ReplyWrites.l0.eq_2 _ _ _ _ _) ?_
    simp only [if_pos (show (i : Int) < (l.length : Int) by omega), if_pos (show (0 : Int) ≤ (i : Int) by omega), rdA l i hi]
    have tru : Ev (fun k => cellaretlaw19_ReplyWrites.j1 k l (strOfNums (allI (l.take i))) (l.map backA) (i : Int) true) true := by
      refine Ev.step (fun k => cellaretlaw19_ReplyWrites.j1.eq_2 _ _ _ _ _ _) ?_
      simp only [if_true]
      exact Ev.now _
    by_cases h1 : (l[i].f3.size : Int) > 2000
    · simp only [if_pos h1]; exact tru
    · simp only [if_neg h1]
      by_cases h2 : (l[i].f2.size : Int) > 1000
      · simp only [if_pos h2]; exact tru
      · simp only [if_neg h2]
        by_cases h3 : (l[i].f1.size : Int) > 2000
        · simp only [decide_eq_true h3]; exact tru
        · simp only [decide_eq_false h3]
          refine Ev.step (fun k => cellaretlaw19_ReplyWrites.j1.eq_2 _ _ _ _ _ _) ?_
          simp only [Bool.false_eq_true, if_false, if_pos (show (0 : Int) ≤ (i : Int) by omega), if_pos (show (i : Int) < (l.length : Int) by omega), rdA l i hi]
          refine Ev.bind (evRef l[i] hx (by omega) (by omega) (by omega)) ?_
          simp only [if_pos (show (i : Int) < ((l.map backA).length : Int) by omega), rdE _ i hm, e, bytes_back l[i] hx (by omega) (by omega) (by omega), Option.bind_some, str_bytes, if_true, wrapN i (by omega)]
          have hsm : smallA l[i] := ⟨by omega, by omega, by omega⟩
          have hr := ref_small l[i] hx hsm
          have hlen := allI_len 5080 (l.take i) (fun x hx2 => ref_small x (hn x (List.mem_of_mem_take hx2)) (hs x hx2))
          have hlt : (l.take i).length * 5080 ≤ 40 * 5080 := Nat.mul_le_mul_right _ (by rw [List.length_take]; omega)
          rw [cat_next l i hi]
          simp only [strOfNums_size, if_pos (show (allI (l.take i)).length + (refB l[i]).size ≤ 9223372036854775807 by omega)]
          refine writes_loop l hl hn d (i + 1) (by omega) (fun x hx2 => ?_)
          rw [List.take_succ_eq_append_getElem hi, List.mem_append] at hx2
          rcases hx2 with hx2 | hx2
          · exact hs x hx2
          · rw [List.mem_singleton] at hx2; rw [hx2]; exact hsm
theorem ReplyWrites (l : List An) (hn : ∀ x ∈ l, okN x) : ∃ k, cellaretlaw19_ReplyWrites.f k l = some true := by
  refine Ev.rounds ?_
  unfold cellaretlaw19_ReplyWrites.f
  refine Ev.bind awakeEv ?_
  simp only [if_true]
  by_cases h : (l.length : Int) > 40
  · simp only [if_pos h]
    exact Ev.now _
  · simp only [if_neg h]
    refine Ev.bind (evBack l (by omega)) ?_
    have hw := writes_loop l (by omega) hn l.length 0 (by omega) (fun x hx => by simp at hx)
    exact hw
end Go.Proofs.YtgopcfkofjipjaaDoor.Pure
