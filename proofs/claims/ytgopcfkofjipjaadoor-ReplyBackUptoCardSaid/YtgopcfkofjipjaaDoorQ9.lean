/-
  ReplyBack, plain. Its conditions: numbers of their kinds, texts of at most 2^20 bytes each.
-/
import Derived.Test.YtgopcfkofjipjaaDoorQC
import Derived.Test.YtgopcfkofjipjaaDoorHX30
namespace Go.Proofs.YtgopcfkofjipjaaDoor.Pure
open Go Go.RowKit Go.Proofs.YtgopcfkofjipjaaDoorW.PrintWords Go.Proofs.YtgopcfkofjipjaaDoor.H
set_option linter.unusedSimpArgs false
set_option linter.unusedVariables false

/-- An answer without what its kind has not. -/
def normA (x : An) : An := if x.f0 = true then ⟨true, (⟨#[]⟩ : ByteArray), x.f2, x.f3, x.f4, if x.f6 = true then x.f5 else 0, x.f6⟩ else ⟨false, x.f1, (⟨#[]⟩ : ByteArray), (⟨#[]⟩ : ByteArray), 0, 0, false⟩
theorem norm_norm (x : An) : normA (normA x) = normA x := by
  unfold normA
  by_cases h : x.f0 = true
  · by_cases h6 : x.f6 = true <;> simp [h, h6]
  · simp [h]
theorem norm_fair (x : An) (h : fairP x) : fairP (normA x) := by
  unfold normA
  by_cases h0 : x.f0 = true
  · rw [if_pos h0]
    exact ⟨fun _ => h.1 h0, fun e => by cases e⟩
  · rw [if_neg h0]
    exact ⟨fun e => (by cases e), fun _ => h.2 (by simpa using h0)⟩
theorem norm_bnd (x : An) (h : bndA x) : bndA (normA x) := by
  obtain ⟨⟨n1, n2, n3, n4⟩, h1, h2, h3⟩ := h
  have z : (⟨#[]⟩ : ByteArray).size ≤ 1048576 := by show 0 ≤ _; omega
  unfold normA
  by_cases h0 : x.f0 = true
  · rw [if_pos h0]
    refine ⟨⟨n1, n2, ?_, ?_⟩, z, h2, h3⟩
    · show 0 ≤ (if x.f6 = true then x.f5 else 0)
      split <;> omega
    · show (if x.f6 = true then x.f5 else 0) < _
      split <;> omega
  · rw [if_neg h0]
    exact ⟨⟨by show (0 : Int) ≤ 0; omega, by show (0 : Int) < _; omega, by show (0 : Int) ≤ 0; omega, by show (0 : Int) < _; omega⟩, h1, z, z⟩

/-- What the reference tells of the program's answer. -/
def tellA (y : Ev34) : An := if y.f0 = true then ⟨true, (⟨#[]⟩ : ByteArray), y.f1, y.f2, y.f4, y.f5, y.f6⟩ else ⟨false, y.f3, (⟨#[]⟩ : ByteArray), (⟨#[]⟩ : ByteArray), 0, 0, false⟩
theorem tell_read (x : An) (h : normA x = x) : tellA (readA x) = x := by
  conv => rhs; rw [← h]
  unfold tellA readA normA
  by_cases h0 : x.f0 = true <;> simp [h0]
theorem ans_loop (l : List Ev34) (hl : l.length ≤ 1000) : ∀ (d i : Nat), i + d = l.length →
    Ev (fun k => cellaretref17_Ans.l0 k l ((l.take i).map tellA) (i : Int)) (l.map tellA, true)
  | 0, i, h => by
    refine Ev.step (fun k => cellaretref17_Ans.l0.eq_2 _ _ _ _) ?_
    simp only [if_neg (show ¬ (i : Int) < (l.length : Int) by omega)]
    rw [List.take_of_length_le (by omega)]
    exact Ev.now _
  | d + 1, i, h => by
    have hi : i < l.length := by omega
    have ih := ans_loop l hl d (i + 1) (by omega)
    rw [← take_next l tellA i hi] at ih
    have hlen : ((l.take i).map tellA).length < 1759218604441 := by rw [List.length_map, List.length_take]; omega
    have w := wrapN i (by omega)
    refine Ev.step (fun k => cellaretref17_Ans.l0.eq_2 _ _ _ _) ?_
    simp only [if_pos (show (i : Int) < (l.length : Int) by omega), if_pos (show (0 : Int) ≤ (i : Int) by omega), rdE l i hi, w, if_pos hlen]
    refine ev_if (fun h0 => ?_) (fun h0 => ?_)
    · have e : tellA l[i] = ⟨true, (⟨#[]⟩ : ByteArray), l[i].f1, l[i].f2, l[i].f4, l[i].f5, l[i].f6⟩ := by unfold tellA; rw [if_pos h0]
      rw [e] at ih
      exact ih
    · have e : tellA l[i] = ⟨false, l[i].f3, (⟨#[]⟩ : ByteArray), (⟨#[]⟩ : ByteArray), 0, 0, false⟩ := by unfold tellA; rw [if_neg h0]
      rw [e] at ih
      unfold cellaretref18_Line.f
      simp only [Option.bind_some]
      exact ih
theorem alike_loop (l : List An) (hl : l.length ≤ 1000) : ∀ (d i : Nat), i + d = l.length → Ev (fun k => cellaretref17_Alike.l0 k l l (i : Int)) true
  | 0, i, h => by
    refine Ev.step (fun k => cellaretref17_Alike.l0.eq_2 _ _ _ _) ?_
    simp only [if_neg (show ¬ (i : Int) < (l.length : Int) by omega)]
    exact Ev.now _
  | d + 1, i, h => by
    have w := wrapN i (by omega)
    refine Ev.step (fun k => cellaretref17_Alike.l0.eq_2 _ _ _ _) ?_
    simp only [if_pos (show (i : Int) < (l.length : Int) by omega), if_pos (show (0 : Int) ≤ (i : Int) by omega), beq_self_eq_true, Bool.not_true, Bool.or_self, Bool.false_eq_true, if_false, w]
    exact alike_loop l hl d (i + 1) (by omega)
theorem sameEv (l : List An) (hl : l.length ≤ 1000) (hn : ∀ x ∈ l, normA x = x) : Ev (fun k => cellaretref17_SameAns.f k (l.map readA) l) true := by
  have h1 : Ev (fun k => cellaretref17_Ans.f k (l.map readA)) (l, true) := by
    have := ans_loop (l.map readA) (by rw [List.length_map]; exact hl) (l.map readA).length 0 (by omega)
    have e : (l.map readA).map tellA = l := by
      rw [List.map_map]
      conv => rhs; rw [← List.map_id l]
      exact List.map_congr_left fun x hx => tell_read x (hn x hx)
    rw [e] at this
    exact this
  unfold cellaretref17_SameAns.f
  refine Ev.bind h1 ?_
  simp only [if_true]
  refine Ev.bind (a := true) ?_ (Ev.now _)
  unfold cellaretref17_Alike.f
  simp only [if_true]
  exact alike_loop l hl l.length 0 (by omega)

theorem occ_off10 (s : List UInt8) (j : Nat) (h : s[j + 1]? ≠ some 10) : Lib.occAt s [13, 10] j = false := by
  unfold Lib.occAt
  rcases hd : s.drop j with _ | ⟨c, _ | ⟨c2, t⟩⟩
  · rfl
  · simp [List.isPrefixOf]
  · have hc : s[j + 1]? = some c2 := by
      have := List.getElem?_drop (xs := s) (i := j) (j := 1)
      rw [hd] at this
      simpa using this.symm
    rw [hc] at h
    have h10 : c2 ≠ 10 := fun e => h (by rw [e])
    simp [List.isPrefixOf, Ne.symm h10]
theorem index_no10 (u : List UInt8) (h : ∀ c ∈ u, c ≠ 10) : Lib.index u [13, 10] = -1 :=
  Lib.index_none fun j _ => occ_off10 _ j fun e => h _ (List.mem_of_getElem? e) rfl

theorem back_end (l : List An) (m : ByteArray) (hl : l.length ≤ 30) (hm : m.size ≤ 1048576) (hb : ∀ x ∈ l, bndA x) (hf : ∀ x ∈ l, fairP x ∧ normA x = x) :
    ∀ (d i : Nat), i + d = m.size → (∀ c ∈ m.data.toList.take i, c ≠ 10) → Ev (fun k => cellaretlaw19_ReplyBack.l1 k l m (i : Int)) true
  | 0, i, h, hc => by
    have hml : m.data.toList.length = m.size := Array.length_toList
    rw [List.take_of_length_le (by omega)] at hc
    have hfl := flat_len l hb
    have hfb : (flat l).length ≤ 94374240 := by
      have : l.length * 3145808 ≤ 30 * 3145808 := Nat.mul_le_mul_right _ hl
      omega
    have hp := one_none m.data.toList (by omega) (index_no10 _ hc)
    have hr := read_all l m.data.toList hp (fun x hx => okR_of x (hb x hx) (hf x hx).1) (by rw [List.length_append]; omega) (by omega)
    refine Ev.step (fun k => cellaretlaw19_ReplyBack.l1.eq_2 _ _ _ _) ?_
    simp only [if_neg (show ¬ (i : Int) < (m.size : Int) by omega)]
    refine Ev.bind (evBack l (by omega)) ?_
    refine Ev.bind (evAllF l (by omega) hb) ?_
    have l1 : 0 + (I (flat l)).length < 140737488355328 := by rw [I_len]; omega
    have l2 : (I (flat l)).length + m.size < 140737488355328 := by rw [I_len]; omega
    simp only [Option.bind_some, List.length_nil, List.nil_append, if_pos l1, if_pos l2]
    rw [I_app] at hr
    refine Ev.bind hr ?_
    simp only [I_len, if_true]
    exact Ev.bind (sameEv l (by omega) (fun x hx => (hf x hx).2)) (Ev.now _)
  | d + 1, i, h, hc => by
    have hml : m.data.toList.length = m.size := Array.length_toList
    have hi : i < m.data.toList.length := by omega
    have hbt := bt_list m i hi
    have w : wrap64 ((i : Int) + 1) = ((i + 1 : Nat) : Int) := by rw [w64 _ (by omega) (by omega)]; omega
    refine Ev.step (fun k => cellaretlaw19_ReplyBack.l1.eq_2 _ _ _ _) ?_
    simp only [if_pos (show (i : Int) < (m.size : Int) by omega), if_pos (show (0 : Int) ≤ (i : Int) by omega), hbt, w]
    refine ev_if (fun _ => Ev.now _) (fun h10 => ?_)
    refine back_end l m hl hm hb hf d (i + 1) (by omega) (fun c hm2 => ?_)
    rw [List.take_succ_eq_append_getElem hi] at hm2
    rcases List.mem_append.1 hm2 with hm2 | hm2
    · exact hc c hm2
    · rw [List.mem_singleton.1 hm2]
      exact byte_ne _ 10 (by decide) h10

theorem rd_set (l : List An) (i : Nat) (h : i < l.length) (v : An) : rd_T29 (l.set i v) (i : Int) = v := by
  rw [rdA _ i (by rw [List.length_set]; exact h)]
  exact List.getElem_set_self _
theorem set_set (l : List An) (i : Nat) (u v : An) : (l.set i u).set i v = l.set i v := List.set_set ..
theorem back_step (l : List An) (m : ByteArray) (i : Nat) (hi : i < l.length) (hl : l.length ≤ 30)
    (h : Ev (fun k => cellaretlaw19_ReplyBack.l0 k (l.set i (normA l[i])) m ((i + 1 : Nat) : Int)) true) (b : Bool) (hb : b = (l[i].f0 && !l[i].f6)) :
    Ev (fun k => cellaretlaw19_ReplyBack.j2 k l m (i : Int) b) true := by
  have w := wrapN i (by omega)
  have r := rdA l i hi
  have hlen : 0 + l.length < 1759218604441 := by omega
  have hset : ∀ v : An, (l.set i v).length = l.length := fun v => List.length_set ..
  refine Ev.step (fun k => cellaretlaw19_ReplyBack.j2.eq_2 _ _ _ _ _) ?_
  simp only [Option.bind_some, List.length_nil, List.nil_append, if_pos hlen, if_pos (show (0 : Int) ≤ (i : Int) by omega), if_pos (show (i : Int) < (l.length : Int) by omega), r, Int.toNat_natCast, rd_set l i hi, set_set, hset, w]
  unfold normA at h
  by_cases h0 : l[i].f0 = true
  · simp only [if_pos h0] at h ⊢
    by_cases h6 : l[i].f6 = true
    · have e : b = false := by rw [hb, h0, h6]; rfl
      simp only [if_pos h6] at h
      rw [e]
      simp only [Bool.false_eq_true, if_false, h0, h6]
      rw [h6] at h
      exact h
    · have h6' : l[i].f6 = false := by simpa using h6
      have e : b = true := by rw [hb, h0, h6']; rfl
      simp only [if_neg h6] at h
      rw [e]
      simp only [if_true, h0]
      exact h
  · have h0' : l[i].f0 = false := by simpa using h0
    have e : b = false := by rw [hb, h0']; rfl
    simp only [if_neg h0] at h ⊢
    rw [e]
    unfold cellaretref18_Line.f
    simp only [Bool.false_eq_true, if_false, Option.bind_some]
    exact h
theorem back_loop0 (m : ByteArray) (hm : m.size ≤ 1048576) : ∀ (d i : Nat) (l : List An), i + d = l.length → l.length ≤ 30 → (∀ x ∈ l, bndA x) → (∀ x ∈ l.take i, fairP x ∧ normA x = x) →
    Ev (fun k => cellaretlaw19_ReplyBack.l0 k l m (i : Int)) true
  | 0, i, l, h, hl, hb, hf => by
    rw [List.take_of_length_le (by omega)] at hf
    refine Ev.step (fun k => cellaretlaw19_ReplyBack.l0.eq_2 _ _ _ _) ?_
    simp only [if_neg (show ¬ (i : Int) < (l.length : Int) by omega)]
    exact back_end l m hl hm hb hf m.size 0 (by omega) (by simp)
  | d + 1, i, l, h, hl, hb, hf => by
    have hi : i < l.length := by omega
    have hx := hb l[i] (List.getElem_mem hi)
    obtain ⟨b, g1, g2⟩ := fairEv l[i] (by have := hx.2.1; omega) (by have := hx.2.2.1; omega)
    refine Ev.step (fun k => cellaretlaw19_ReplyBack.l0.eq_2 _ _ _ _) ?_
    simp only [if_pos (show (i : Int) < (l.length : Int) by omega), if_pos (show (0 : Int) ≤ (i : Int) by omega), rdA l i hi]
    refine Ev.bind g1 ?_
    cases b
    · simp only [Bool.false_eq_true, if_false]
      refine Ev.step (fun k => cellaretlaw19_ReplyBack.j1.eq_2 _ _ _ _ _) ?_
      simp only [if_true]
      exact Ev.now _
    · simp only [if_true]
      refine Ev.step (fun k => cellaretlaw19_ReplyBack.j1.eq_2 _ _ _ _ _) ?_
      refine ev_if (fun _ => Ev.now _) (fun _ => ?_)
      simp only [if_pos (show (i : Int) < (l.length : Int) by omega), if_pos (show (0 : Int) ≤ (i : Int) by omega), rdA l i hi]
      have hf' := g2 rfl
      have ih := back_loop0 m hm d (i + 1) (l.set i (normA l[i])) (by rw [List.length_set]; omega) (by rw [List.length_set]; exact hl) (fun x hx2 => by
        rcases List.mem_or_eq_of_mem_set hx2 with hx2 | rfl
        · exact hb x hx2
        · exact norm_bnd _ hx) (fun x hx2 => by
        have hi2 : i < (l.set i (normA l[i])).length := by rw [List.length_set]; exact hi
        rw [List.take_succ_eq_append_getElem hi2, List.getElem_set_self, List.take_set_of_le (by omega)] at hx2
        rcases List.mem_append.1 hx2 with hx2 | hx2
        · exact hf x hx2
        · rw [List.mem_singleton.1 hx2]
          exact ⟨norm_fair _ hf', norm_norm _⟩)
      refine ev_if (fun h0 => ?_) (fun h0 => ?_)
      · exact back_step l m i hi hl ih _ (by rw [h0]; rfl)
      · have h0' : l[i].f0 = false := by simpa using h0
        exact back_step l m i hi hl ih _ (by rw [h0']; rfl)
theorem ReplyBack (l : List An) (hb : ∀ x ∈ l, bndA x) (m : ByteArray) (hm : m.size ≤ 1048576) : ∃ k, cellaretlaw19_ReplyBack.f k l m = some true := by
  refine Ev.rounds ?_
  unfold cellaretlaw19_ReplyBack.f
  refine Ev.bind awakeEv ?_
  simp only [if_true]
  refine ev_if (fun _ => Ev.now _) (fun hl => ?_)
  exact back_loop0 m hm l.length 0 l (by omega) (by omega) hb (by simp)
end Go.Proofs.YtgopcfkofjipjaaDoor.Pure
