/-
  Fair answers, and the bytes of many, plain. Their conditions: numbers of their kinds, texts of at most 2^20 bytes each.
-/
import Derived.Test.YtgopcfkofjipjaaDoorQ7
import Derived.Test.YtgopcfkofjipjaaDoorHX21
namespace Go.Proofs.YtgopcfkofjipjaaDoor.Pure
open Go Go.RowKit Go.Proofs.YtgopcfkofjipjaaDoorW.PrintWords Go.Proofs.YtgopcfkofjipjaaDoor.H
set_option linter.unusedSimpArgs false
set_option linter.unusedVariables false

theorem ev_if {α : Type} {c : Prop} [Decidable c] {g h : Nat → Option α} {r : α} (h1 : c → Ev g r) (h2 : ¬ c → Ev h r) : Ev (fun k => if c then g k else h k) r := by
  by_cases hc : c
  · simp only [if_pos hc]; exact h1 hc
  · simp only [if_neg hc]; exact h2 hc
theorem bt_list (s : ByteArray) (i : Nat) (h : i < s.data.toList.length) : bt s (i : Int) = ((s.data.toList[i]).toNat : Int) := by
  have h2 : i < s.size := by rw [Array.length_toList] at h; exact h
  have := bt_at s (i : Int) (by rw [Int.toNat_natCast]; exact h2)
  rw [← this]
  rfl
theorem byte_ne (c : UInt8) (n : Nat) (hn : n < 256) (h : ¬ (c.toNat : Int) = (n : Int)) : c ≠ UInt8.ofNat n := fun e => h (by
  rw [e, UInt8.toNat_ofNat']
  omega)
def okC (v : Bool) (c : UInt8) : Prop := c ≠ 10 ∧ c ≠ 13 ∧ (v = true → c ≠ 32)
theorem fair_loop (t : ByteArray) (v : Bool) (f1 f2 f3 : ByteArray) (f4 f5 : Int) (f6 : Bool) (hs : t.size < 1000000000) : ∀ (d i : Nat), i + d = t.size → (∀ c ∈ t.data.toList.take i, okC v c) →
    ∃ b, Ev (fun k => cellaretlaw19_fair.l0 k t (i : Int) v f1 f2 f3 f4 f5 f6) b ∧ (b = true → (∀ c ∈ t.data.toList, okC v c) ∧ (v = false → ¬ (vwL ++ [32]) <+: t.data.toList))
  | 0, i, h, hc => by
    have hl : t.data.toList.length = t.size := Array.length_toList
    have hall : ∀ c ∈ t.data.toList, okC v c := by
      rw [List.take_of_length_le (by omega)] at hc
      exact hc
    cases v
    · by_cases h6 : (t.size : Int) < 6
      · refine ⟨true, Ev.step (fun k => cellaretlaw19_fair.l0.eq_2 _ _ _ _ _ _ _ _ _ _) ?_, fun _ => ⟨hall, fun _ hp => ?_⟩⟩
        · simp only [if_neg (show ¬ (i : Int) < (t.size : Int) by omega), if_pos h6, Bool.false_eq_true, if_false]
          exact Ev.now _
        · have := hp.length_le
          simp [vwL] at this
          omega
      · refine ⟨((t.extract 0 6).toList != ([86, 65, 76, 85, 69, 32] : List UInt8)), Ev.step (fun k => cellaretlaw19_fair.l0.eq_2 _ _ _ _ _ _ _ _ _ _) ?_, fun hb => ⟨hall, fun _ hp => ?_⟩⟩
        · simp only [if_neg (show ¬ (i : Int) < (t.size : Int) by omega), if_neg h6, Bool.false_eq_true, if_false, if_pos (show (0 : Int) ≤ 6 by decide), if_pos (show (6 : Int) ≤ (t.size : Int) by omega)]
          exact Ev.now _
        · rw [ByteArray.toList_eq] at hb
          have e1 : (t.extract 0 6).data.toList = t.data.toList.take 6 := by simp
          rw [e1] at hb
          obtain ⟨r, hr⟩ := hp
          rw [← hr] at hb
          simp [vwL] at hb
    · refine ⟨true, Ev.step (fun k => cellaretlaw19_fair.l0.eq_2 _ _ _ _ _ _ _ _ _ _) ?_, fun _ => ⟨hall, fun h => by cases h⟩⟩
      simp only [if_neg (show ¬ (i : Int) < (t.size : Int) by omega), if_true]
      exact Ev.now _
  | d + 1, i, h, hc => by
    have hl : t.data.toList.length = t.size := Array.length_toList
    have hi : i < t.data.toList.length := by omega
    have hb := bt_list t i hi
    have w : wrap64 ((i : Int) + 1) = ((i + 1 : Nat) : Int) := by rw [w64 _ (by omega) (by omega)]; omega
    by_cases c1 : ((t.data.toList[i]).toNat : Int) = 10
    · refine ⟨false, Ev.step (fun k => cellaretlaw19_fair.l0.eq_2 _ _ _ _ _ _ _ _ _ _) ?_, fun h => by cases h⟩
      simp only [if_pos (show (i : Int) < (t.size : Int) by omega), if_pos (show (0 : Int) ≤ (i : Int) by omega), hb, if_pos c1]
      exact Ev.now _
    by_cases c2 : ((t.data.toList[i]).toNat : Int) = 13
    · refine ⟨false, Ev.step (fun k => cellaretlaw19_fair.l0.eq_2 _ _ _ _ _ _ _ _ _ _) ?_, fun h => by cases h⟩
      simp only [if_pos (show (i : Int) < (t.size : Int) by omega), if_pos (show (0 : Int) ≤ (i : Int) by omega), hb, if_neg c1, if_pos c2]
      exact Ev.now _
    by_cases c3 : v = true ∧ ((t.data.toList[i]).toNat : Int) = 32
    · refine ⟨false, Ev.step (fun k => cellaretlaw19_fair.l0.eq_2 _ _ _ _ _ _ _ _ _ _) ?_, fun h => by cases h⟩
      simp only [if_pos (show (i : Int) < (t.size : Int) by omega), if_pos (show (0 : Int) ≤ (i : Int) by omega), hb, if_neg c1, if_neg c2, if_pos c3.1, if_pos c3.2]
      exact Ev.now _
    have hok : okC v t.data.toList[i] := ⟨byte_ne _ 10 (by decide) c1, byte_ne _ 13 (by decide) c2, fun hv => byte_ne _ 32 (by decide) fun e => c3 ⟨hv, e⟩⟩
    obtain ⟨b, h1, h2⟩ := fair_loop t v f1 f2 f3 f4 f5 f6 hs d (i + 1) (by omega) (fun c hm => by
      rw [List.take_succ_eq_append_getElem hi] at hm
      rcases List.mem_append.1 hm with hm | hm
      · exact hc c hm
      · rw [List.mem_singleton.1 hm]
        exact hok)
    refine ⟨b, Ev.step (fun k => cellaretlaw19_fair.l0.eq_2 _ _ _ _ _ _ _ _ _ _) ?_, h2⟩
    simp only [if_pos (show (i : Int) < (t.size : Int) by omega), if_pos (show (0 : Int) ≤ (i : Int) by omega), hb, if_neg c1, if_neg c2, w]
    refine ev_if (fun hv => ?_) (fun _ => h1)
    simp only [if_neg (show ¬ ((t.data.toList[i]).toNat : Int) = 32 from fun e => c3 ⟨hv, e⟩)]
    exact h1
theorem fairEv (x : An) (h1 : x.f1.size < 1000000000) (h2 : x.f2.size < 1000000000) : ∃ b, Ev (fun k => cellaretlaw19_fair.f k x.f0 x.f1 x.f2 x.f3 x.f4 x.f5 x.f6) b ∧ (b = true → fairP x) := by
  unfold cellaretlaw19_fair.f fairP
  by_cases hv : x.f0 = true
  · by_cases hk : x.f2.toList = ([] : List UInt8)
    · refine ⟨false, ?_, fun h => by cases h⟩
      simp only [if_pos hv, if_pos hk]
      exact Ev.now _
    · obtain ⟨b, g1, g2⟩ := fair_loop x.f2 x.f0 x.f1 x.f2 x.f3 x.f4 x.f5 x.f6 h2 x.f2.size 0 (by omega) (by simp)
      refine ⟨b, ?_, fun hb => ⟨fun _ => ⟨fun e => hk (by rw [ByteArray.toList_eq]; exact e), fun c hc => ?_⟩, fun hf => by rw [hv] at hf; cases hf⟩⟩
      · simp only [if_pos hv, if_neg hk]
        exact Ev.step (fun k => cellaretlaw19_fair.j0.eq_2 _ _ _ _ _ _ _ _ _) g1
      · have := (g2 hb).1 c hc
        exact ⟨this.1, this.2.1, this.2.2 hv⟩
  · have hv' : x.f0 = false := by simpa using hv
    obtain ⟨b, g1, g2⟩ := fair_loop x.f1 x.f0 x.f1 x.f2 x.f3 x.f4 x.f5 x.f6 h1 x.f1.size 0 (by omega) (by simp)
    refine ⟨b, ?_, fun hb => ⟨fun h => absurd h hv, fun _ => ⟨fun c hc => ?_, (g2 hb).2 hv'⟩⟩⟩
    · simp only [if_neg hv]
      exact Ev.step (fun k => cellaretlaw19_fair.j0.eq_2 _ _ _ _ _ _ _ _ _) g1
    · have := (g2 hb).1 c hc
      exact ⟨this.1, this.2.1⟩

def bndA (x : An) : Prop := okN x ∧ x.f1.size ≤ 1048576 ∧ x.f2.size ≤ 1048576 ∧ x.f3.size ≤ 1048576
theorem ref_bnd (x : An) (h : bndA x) : (refL x).length ≤ 3145808 := by
  obtain ⟨⟨n1, n2, n3, n4⟩, h1, h2, h3⟩ := h
  have := ansB_size x.f0 x.f1 x.f2 x.f3 x.f4.toNat x.f5.toNat x.f6 (by omega) (by omega) (by omega)
  have e : (refL x).length = (refB x).size := by rw [← refB_list]; exact Array.length_toList
  rw [e]
  unfold refB
  omega
theorem flat_len : ∀ l : List An, (∀ x ∈ l, bndA x) → (flat l).length ≤ l.length * 3145808
  | [], _ => by simp [flat]
  | x :: l, h => by
    have h1 := flat_len l (fun y hy => h y (by simp [hy]))
    have h2 := ref_bnd x (h x (by simp))
    rw [flat_cons, List.length_append, List.length_cons, Nat.add_mul]
    omega
theorem okR_of (x : An) (h : bndA x) (hf : fairP x) : okR x := ⟨hf, h.1, by have := h.2.2.2; omega, by have := h.2.2.1; omega⟩
/-- What answers are written as. -/
theorem evAllF (l : List An) (hl : l.length ≤ 40) (hb : ∀ x ∈ l, bndA x) : Ev (fun k => reply_All.f k (l.map backA)) (I (flat l)) := by
  have := evAll l (by omega) 3145808 (by decide) (fun x hx => by
    have h := hb x hx
    have e : (refL x).length = (refB x).size := by rw [← refB_list]; exact Array.length_toList
    have h2 := ref_bnd x h
    obtain ⟨h0, h1, h2', h3⟩ := h
    exact ⟨h0, by omega, by omega, by omega, by omega⟩)
  rw [allI_flat] at this
  exact this

end Go.Proofs.YtgopcfkofjipjaaDoor.Pure
