/-
  ReplyCut, plain. Its conditions: numbers of their kinds, texts of at most 2^20 bytes each.
-/
import Derived.Test.YtgopcfkofjipjaaDoorQ7
import Derived.Test.YtgopcfkofjipjaaDoorHX27
namespace Go.Proofs.YtgopcfkofjipjaaDoor.Pure
open Go Go.RowKit Go.Proofs.YtgopcfkofjipjaaDoorW.PrintWords Go.Proofs.YtgopcfkofjipjaaDoor.H
set_option linter.unusedSimpArgs false
set_option linter.unusedVariables false

theorem ev_if {α : Type} {c : Prop} [Decidable c] {g h : Nat → Option α} {r : α} (h1 : c → Ev g r) (h2 : ¬ c → Ev h r) : Ev (fun k => if c then g k else h k) r := by
  by_cases hc : c
  · simp only [if_pos hc]; exact h1 hc
  · simp only [if_neg hc]; exact h2 hc
theorem bt_list (s : ByteArray) (i : Nat) (h : i < s.data.toList.length) : bt s (i : Int) = ((s.data.toList[i]).toNat : Int) := by
  have h2 : i < s.size := by rw [Array.length_toList] at h; exact h
  have := bt_at s (i : Int) (by rw [Int.toNat_natCast]; exact h2)
  rw [← this]
  rfl
theorem byte_ne (c : UInt8) (n : Nat) (hn : n < 256) (h : ¬ (c.toNat : Int) = (n : Int)) : c ≠ UInt8.ofNat n := fun e => h (by
  rw [e, UInt8.toNat_ofNat']
  omega)
def okC (v : Bool) (c : UInt8) : Prop := c ≠ 10 ∧ c ≠ 13 ∧ (v = true → c ≠ 32)
theorem fair_loop (t : ByteArray) (v : Bool) (f1 f2 f3 : ByteArray) (f4 f5 : Int) (f6 : Bool) (hs : t.size < 1000000000) : ∀ (d i : Nat), i + d = t.size → (∀ c ∈ t.data.toList.take i, okC v c) →
    ∃ b, Ev (fun k => cellaretlaw19_fair.l0 k t (i : Int) v f1 f2 f3 f4 f5 f6) b ∧ (b = true → (∀ c ∈ t.data.toList, okC v c) ∧ (v = false → ¬ (vwL ++ [32]) <+: t.data.toList))
  | 0, i, h, hc => by
    have hl : t.data.toList.length = t.size := Array.length_toList
    have hall : ∀ c ∈ t.data.toList, okC v c := by
      rw [List.take_of_length_le (by omega)] at hc
      exact hc
    cases v
    · by_cases h6 : (t.size : Int) < 6
      · refine ⟨true, Ev.step (fun k => cellaretlaw19_fair.l0.eq_2 _ _ _ _ _ _ _ _ _ _) ?_, fun _ => ⟨hall, fun _ hp => ?_⟩⟩
        · simp only [if_neg (show ¬ (i : Int) < (t.size : Int) by omega), if_pos h6, Bool.false_eq_true, if_false]
          exact Ev.now _
        · have := hp.length_le
          simp [vwL] at this
          omega
      · refine ⟨((t.extract 0 6).toList != ([86, 65, 76, 85, 69, 32] : List UInt8)), Ev.step (fun k => cellaretlaw19_fair.l0.eq_2 _ _ _ _ _ _ _ _ _ _) ?_, fun hb => ⟨hall, fun _ hp => ?_⟩⟩
        · simp only [if_neg (show ¬ (i : Int) < (t.size : Int) by omega), if_neg h6, Bool.false_eq_true, if_false, if_pos (show (0 : Int) ≤ 6 by decide), if_pos (show (6 : Int) ≤ (t.size : Int) by omega)]
          exact Ev.now _
        · rw [ByteArray.toList_eq] at hb
          have e1 : (t.extract 0 6).data.toList = t.data.toList.take 6 := by simp
          rw [e1] at hb
          obtain ⟨r, hr⟩ := hp
          rw [← hr] at hb
          simp [vwL] at hb
    · refine ⟨true, Ev.step (fun k => cellaretlaw19_fair.l0.eq_2 _ _ _ _ _ _ _ _ _ _) ?_, fun _ => ⟨hall, fun h => by cases h⟩⟩
      simp only [if_neg (show ¬ (i : Int) < (t.size : Int) by omega), if_true]
      exact Ev.now _
  | d + 1, i, h, hc => by
    have hl : t.data.toList.length = t.size := Array.length_toList
    have hi : i < t.data.toList.length := by omega
    have hb := bt_list t i hi
    have w : wrap64 ((i : Int) + 1) = ((i + 1 : Nat) : Int) := by rw [w64 _ (by omega) (by omega)]; omega
    by_cases c1 : ((t.data.toList[i]).toNat : Int) = 10
    · refine ⟨false, Ev.step (fun k => cellaretlaw19_fair.l0.eq_2 _ _ _ _ _ _ _ _ _ _) ?_, fun h => by cases h⟩
      simp only [if_pos (show (i : Int) < (t.size : Int) by omega), if_pos (show (0 : Int) ≤ (i : Int) by omega), hb, if_pos c1]
      exact Ev.now _
    by_cases c2 : ((t.data.toList[i]).toNat : Int) = 13
    · refine ⟨false, Ev.step (fun k => cellaretlaw19_fair.l0.eq_2 _ _ _ _ _ _ _ _ _ _) ?_, fun h => by cases h⟩
      simp only [if_pos (show (i : Int) < (t.size : Int) by omega), if_pos (show (0 : Int) ≤ (i : Int) by omega), hb, if_neg c1, if_pos c2]
      exact Ev.now _
    by_cases c3 : v = true ∧ ((t.data.toList[i]).toNat : Int) = 32
    · refine ⟨false, Ev.step (fun k => cellaretlaw19_fair.l0.eq_2 _ _ _ _ _ _ _ _ _ _) ?_, fun h => by cases h⟩
      simp only [if_pos (show (i : Int) < (t.size : Int) by omega), if_pos (show (0 : Int) ≤ (i : Int) by omega), hb, if_neg c1, if_neg c2, if_pos c3.1, if_pos c3.2]
      exact Ev.now _
    have hok : okC v t.data.toList[i] := ⟨byte_ne _ 10 (by decide) c1, byte_ne _ 13 (by decide) c2, fun hv => byte_ne _ 32 (by decide) fun e => c3 ⟨hv, e⟩⟩
    obtain ⟨b, h1, h2⟩ := fair_loop t v f1 f2 f3 f4 f5 f6 hs d (i + 1) (by omega) (fun c hm => by
      rw [List.take_succ_eq_append_getElem hi] at hm
      rcases List.mem_append.1 hm with hm | hm
      · exact hc c hm
      · rw [List.mem_singleton.1 hm]
        exact hok)
    refine ⟨b, Ev.step (fun k => cellaretlaw19_fair.l0.eq_2 _ _ _ _ _ _ _ _ _ _) ?_, h2⟩
    simp only [if_pos (show (i : Int) < (t.size : Int) by omega), if_pos (show (0 : Int) ≤ (i : Int) by omega), hb, if_neg c1, if_neg c2, w]
    refine ev_if (fun hv => ?_) (fun _ => h1)
    simp only [if_neg (show ¬ ((t.data.toList[i]).toNat : Int) = 32 from fun e => c3 ⟨hv, e⟩)]
    exact h1
theorem fairEv (x : An) (h1 : x.f1.size < 1000000000) (h2 : x.f2.size < 1000000000) : ∃ b, Ev (fun k => cellaretlaw19_fair.f k x.f0 x.f1 x.f2 x.f3 x.f4 x.f5 x.f6) b ∧ (b = true → fairP x) := by
  unfold cellaretlaw19_fair.f fairP
  by_cases hv : x.f0 = true
  · by_cases hk : x.f2.toList = ([] : List UInt8)
    · refine ⟨false, ?_, fun h => by cases h⟩
      simp only [if_pos hv, if_pos hk]
      exact Ev.now _
    · obtain ⟨b, g1, g2⟩ := fair_loop x.f2 x.f0 x.f1 x.f2 x.f3 x.f4 x.f5 x.f6 h2 x.f2.size 0 (by omega) (by simp)
      refine ⟨b, ?_, fun hb => ⟨fun _ => ⟨fun e => hk (by rw [ByteArray.toList_eq]; exact e), fun c hc => ?_⟩, fun hf => by rw [hv] at hf; cases hf⟩⟩
      · simp only [if_pos hv, if_neg hk]
        exact Ev.step (fun k => cellaretlaw19_fair.j0.eq_2 _ _ _ _ _ _ _ _ _) g1
      · have := (g2 hb).1 c hc
        exact ⟨this.1, this.2.1, this.2.2 hv⟩
  · have hv' : x.f0 = false := by simpa using hv
    obtain ⟨b, g1, g2⟩ := fair_loop x.f1 x.f0 x.f1 x.f2 x.f3 x.f4 x.f5 x.f6 h1 x.f1.size 0 (by omega) (by simp)
    refine ⟨b, ?_, fun hb => ⟨fun h => absurd h hv, fun _ => ⟨fun c hc => ?_, (g2 hb).2 hv'⟩⟩⟩
    · simp only [if_neg hv]
      exact Ev.step (fun k => cellaretlaw19_fair.j0.eq_2 _ _ _ _ _ _ _ _ _) g1
    · have := (g2 hb).1 c hc
      exact ⟨this.1, this.2.1⟩

def bndA (x : An) : Prop := okN x ∧ x.f1.size ≤ 1048576 ∧ x.f2.size ≤ 1048576 ∧ x.f3.size ≤ 1048576
theorem ref_bnd (x : An) (h : bndA x) : (refL x).length ≤ 3145808 := by
  obtain ⟨⟨n1, n2, n3, n4⟩, h1, h2, h3⟩ := h
  have := ansB_size x.f0 x.f1 x.f2 x.f3 x.f4.toNat x.f5.toNat x.f6 (by omega) (by omega) (by omega)
  have e : (refL x).length = (refB x).size := by rw [← refB_list]; exact Array.length_toList
  rw [e]
  unfold refB
  omega
theorem flat_len : ∀ l : List An, (∀ x ∈ l, bndA x) → (flat l).length ≤ l.length * 3145808
  | [], _ => by simp [flat]
  | x :: l, h => by
    have h1 := flat_len l (fun y hy => h y (by simp [hy]))
    have h2 := ref_bnd x (h x (by simp))
    rw [flat_cons, List.length_append, List.length_cons, Nat.add_mul]
    omega
theorem okR_of (x : An) (h : bndA x) (hf : fairP x) : okR x := ⟨hf, h.1, by have := h.2.2.2; omega, by have := h.2.2.1; omega⟩
/-- What answers are written as. -/
theorem evAllF (l : List An) (hl : l.length ≤ 40) (hb : ∀ x ∈ l, bndA x) : Ev (fun k => reply_All.f k (l.map backA)) (I (flat l)) := by
  have := evAll l (by omega) 3145808 (by decide) (fun x hx => by
    have h := hb x hx
    have e : (refL x).length = (refB x).size := by rw [← refB_list]; exact Array.length_toList
    have h2 := ref_bnd x h
    obtain ⟨h0, h1, h2', h3⟩ := h
    exact ⟨h0, by omega, by omega, by omega, by omega⟩)
  rw [allI_flat] at this
  exact this

theorem cut_j (l : List An) (c : Int) (hl : l.length ≤ 20) (hx : ∀ x ∈ l, okR x) (hb : ∀ x ∈ l, bndA x) :
    Ev (fun k => cellaretlaw19_ReplyCut.j1 k l c (I (flat l)) (decide (c < 0 ∨ c > ((I (flat l)).length : Int)))) true := by
  refine Ev.step (fun k => cellaretlaw19_ReplyCut.j1.eq_2 _ _ _ _ _) ?_
  have hfl := flat_len l hb
  have hfb : (flat l).length < 4294967281 := by
    have : l.length * 3145808 ≤ 20 * 3145808 := Nat.mul_le_mul_right _ hl
    omega
  by_cases hc : c < 0 ∨ c > ((I (flat l)).length : Int)
  · simp only [decide_eq_true hc, if_true]
    exact Ev.now _
  · simp only [decide_eq_false hc, Bool.false_eq_true, if_false]
    rw [I_len] at hc
    obtain ⟨n, rfl⟩ : ∃ n : Nat, c = (n : Int) := ⟨c.toNat, by omega⟩
    obtain ⟨i, p, hi, hcut, hp⟩ := cut_where l n (by omega)
    have hpe : Ev (fun k => reply_one.f k (I p)) outZ := by
      rcases hp with rfl | ⟨x, hxm, hpp, hne⟩
      · exact one_empty
      · refine one_cut x (hx x hxm) p hpp hne ?_
        have := ref_bnd x (hb x hxm)
        have := hpp.length_le
        omega
    have hsplit : flat l = flat (l.take i) ++ flat (l.drop i) := by rw [← flat_app, List.take_append_drop]
    have hn : n = (flat (l.take i)).length + p.length := by
      have := congrArg List.length hcut
      rw [List.length_take, List.length_append] at this
      omega
    have hlen : (flat l).length = (flat (l.take i)).length + (flat (l.drop i)).length := by rw [hsplit, List.length_append]
    have r1 := read_all (l.take i) p hpe (fun x h => hx x (List.mem_of_mem_take h)) (by rw [← hcut, List.length_take]; omega) (by rw [List.length_take]; omega)
    have r2 := read_all l [] one_empty hx (by rw [List.append_nil]; exact hfb) (by omega)
    have r3 := read_all (l.drop i) [] one_empty (fun x h => hx x (List.mem_of_mem_drop h)) (by rw [List.append_nil]; omega) (by rw [List.length_drop]; omega)
    rw [List.append_nil] at r2 r3
    rw [← hcut] at r1
    have hdrop : (flat l).drop (flat (l.take i)).length = flat (l.drop i) := by rw [hsplit]; exact List.drop_left
    simp only [I_len, Int.toNat_natCast, I_take, if_pos (show (0 : Int) ≤ (n : Int) by omega), if_pos (show (n : Int) ≤ ((flat l).length : Int) by omega)]
    refine Ev.bind r1 ?_
    refine Ev.bind r2 ?_
    have hli : (l.take i).length = i := by rw [List.length_take]; omega
    simp only [List.length_map, if_neg (show ¬ ((flat (l.take i)).length : Int) > (n : Int) by omega), if_true, hli, if_neg (show ¬ (i : Int) > (l.length : Int) by omega), if_pos (show (0 : Int) ≤ ((flat (l.take i)).length : Int) by omega), if_pos (show ((flat (l.take i)).length : Int) ≤ ((flat l).length : Int) by omega), Int.toNat_natCast, I_drop, hdrop]
    refine Ev.bind r3 ?_
    have w1 : wrap64 (((flat l).length : Int) - ((flat (l.take i)).length : Int)) = ((flat (l.drop i)).length : Int) := by rw [w64 _ (by omega) (by omega)]; omega
    have w2 : wrap64 ((i : Int) + ((l.length - i : Nat) : Int)) = (l.length : Int) := by rw [w64 _ (by omega) (by omega)]; omega
    simp only [w1, if_true, List.length_map, List.length_drop, w2, beq_self_eq_true]
    exact Ev.now _
theorem cut_loop (l : List An) (c : Int) (hl : l.length ≤ 20) (hb : ∀ x ∈ l, bndA x) : ∀ (d i : Nat), i + d = l.length → (∀ x ∈ l.take i, fairP x) →
    Ev (fun k => cellaretlaw19_ReplyCut.l0 k l c (i : Int)) true
  | 0, i, h, hf => by
    rw [List.take_of_length_le (by omega)] at hf
    refine Ev.step (fun k => cellaretlaw19_ReplyCut.l0.eq_2 _ _ _ _) ?_
    simp only [if_neg (show ¬ (i : Int) < (l.length : Int) by omega)]
    refine Ev.bind (evBack l (by omega)) ?_
    refine Ev.bind (evAllF l (by omega) hb) ?_
    have hj := cut_j l c hl (fun x hx => okR_of x (hb x hx) (hf x hx)) hb
    by_cases hc : c < 0
    · simp only [if_pos hc]
      rw [decide_eq_true (Or.inl hc)] at hj
      exact hj
    · simp only [if_neg hc]
      have e : decide (c < 0 ∨ c > ((I (flat l)).length : Int)) = decide (c > ((I (flat l)).length : Int)) := by simp [hc]
      rw [e] at hj
      exact hj
  | d + 1, i, h, hf => by
    have hi : i < l.length := by omega
    have hx := hb l[i] (List.getElem_mem hi)
    obtain ⟨b, g1, g2⟩ := fairEv l[i] (by have := hx.2.1; omega) (by have := hx.2.2.1; omega)
    refine Ev.step (fun k => cellaretlaw19_ReplyCut.l0.eq_2 _ _ _ _) ?_
    simp only [if_pos (show (i : Int) < (l.length : Int) by omega), if_pos (show (0 : Int) ≤ (i : Int) by omega), rdA l i hi]
    refine Ev.bind g1 ?_
    cases b
    · simp only [Bool.false_eq_true, if_false]
      exact Ev.now _
    · simp only [if_true]
      refine ev_if (fun _ => Ev.now _) (fun _ => ?_)
      have w : wrap64 ((i : Int) + 1) = ((i + 1 : Nat) : Int) := wrapN i (by omega)
      simp only [w]
      exact cut_loop l c hl hb d (i + 1) (by omega) (fun y hy => by
        rw [List.take_succ_eq_append_getElem hi] at hy
        rcases List.mem_append.1 hy with hy | hy
        · exact hf y hy
        · rw [List.mem_singleton.1 hy]
          exact g2 rfl)
theorem ReplyCut (l : List An) (hb : ∀ x ∈ l, bndA x) (c : Int) : ∃ k, cellaretlaw19_ReplyCut.f k l c = some true := by
  refine Ev.rounds ?_
  unfold cellaretlaw19_ReplyCut.f
  refine Ev.bind awakeEv ?_
  simp only [if_true]
  refine ev_if (fun _ => Ev.now _) (fun hl => ?_)
  exact cut_loop l c (by omega) hb l.length 0 (by omega) (by simp)
end Go.Proofs.YtgopcfkofjipjaaDoor.Pure
