/-
  Answers that are written are read; one that is not whole is not. Its conditions: fair answers, numbers of their kinds, data below 2^31, keys below 2^30, all bytes together below 2^32 - 15.
-/
import Derived.Test.YtgopcfkofjipjaaDoorQ6
namespace Go.Proofs.YtgopcfkofjipjaaDoor.Pure
open Go Go.RowKit Go.Proofs.YtgopcfkofjipjaaDoorW.PrintWords Go.Proofs.YtgopcfkofjipjaaDoor.H
set_option linter.unusedSimpArgs false
set_option linter.unusedVariables false

/-- What is read of an answer. -/
def readA (x : An) : Ev34 := if x.f0 = true then ⟨true, x.f2, x.f3, (⟨#[]⟩ : ByteArray), x.f4, if x.f6 = true then x.f5 else 0, x.f6⟩ else ⟨false, (⟨#[]⟩ : ByteArray), (⟨#[]⟩ : ByteArray), x.f1, 0, 0, false⟩
abbrev Out8 := Bool × ByteArray × ByteArray × ByteArray × Int × Int × Bool × Int
def outA (e : Ev34) (n : Int) : Out8 := (e.f0, e.f1, e.f2, e.f3, e.f4, e.f5, e.f6, n)
def outZ : Out8 := (false, (⟨#[]⟩ : ByteArray), (⟨#[]⟩ : ByteArray), (⟨#[]⟩ : ByteArray), 0, 0, false, 0)
/-- What is asked of an answer here. -/
structure okR (x : An) : Prop where
  fair : fairP x
  nums : okN x
  data : x.f3.size < 2147483640
  key : x.f2.size < 1073741824

theorem cut_none (u : List UInt8) (hl : u.length < 4294967281) (h : Lib.index u [13, 10] = -1) : bytes_Cut.f (I u) [13, 10] = some (I u, [], false) := by
  unfold bytes_Cut.f
  rw [if_pos ⟨by rw [I_len]; exact hl, rfl, I_bytes u, by decide⟩]
  unfold cutF
  have e : Lib.bytesOf ([13, 10] : List Int) = [13, 10] := rfl
  rw [I_back, e, h, if_neg (by decide)]
theorem cut_at (u r : List UInt8) (hl : (u ++ 13 :: 10 :: r).length < 4294967281) (h : ∀ c ∈ u, c ≠ 13) : bytes_Cut.f (I (u ++ 13 :: 10 :: r)) [13, 10] = some (I u, I r, true) := by
  unfold bytes_Cut.f
  rw [if_pos ⟨by rw [I_len]; exact hl, rfl, I_bytes _, by decide⟩]
  unfold cutF
  have e : Lib.bytesOf ([13, 10] : List Int) = [13, 10] := rfl
  rw [I_back, e, index_crlf u r h, if_pos (by omega), Int.toNat_natCast, I_take, I_drop]
  have e1 : (u ++ 13 :: 10 :: r).take u.length = u := List.take_left
  have e2 : (u ++ 13 :: 10 :: r).drop (u.length + 2) = r := by
    rw [show u ++ 13 :: 10 :: r = (u ++ [13, 10]) ++ r by simp, show u.length + 2 = (u ++ [13, 10]).length by simp]
    exact List.drop_left
  rw [e1, e2]
theorem w64 (n : Int) (h0 : 0 ≤ n) (h1 : n < 9223372036854775808) : wrap64 n = n := by unfold wrap64; omega
theorem lit2 : litB.f ([13, 10] : List Int) = some [13, 10] := rfl

theorem one_none (u : List UInt8) (hl : u.length < 4294967281) (h : Lib.index u [13, 10] = -1) : Ev (fun k => reply_one.f k (I u)) outZ := by
  unfold reply_one.f
  rw [lit2]
  simp only [Option.bind_some, cut_none u hl h, Bool.false_eq_true, if_false]
  exact Ev.now _
theorem heading_of (x : An) (h : okR x) (hl : (headL x).length < 4294967281) :
    Ev (fun k => reply_heading.f k (ba (headL x))) (if x.f0 = true then (true, x.f2, (⟨#[]⟩ : ByteArray), (⟨#[]⟩ : ByteArray), x.f4, (if x.f6 = true then x.f5 else 0), x.f6, (x.f3.size : Int), true) else (false, (⟨#[]⟩ : ByteArray), (⟨#[]⟩ : ByteArray), (⟨#[]⟩ : ByteArray), 0, 0, false, 0, false)) := by
  obtain ⟨hf, ⟨n1, n2, n3, n4⟩, hd, hk⟩ := h
  unfold headL at hl ⊢
  by_cases hb : x.f0 = true
  · simp only [if_pos hb] at hl ⊢
    have hk2 : x.f2.data.toList.length < 2147483648 := by
      have : x.f2.data.toList.length = x.f2.size := Array.length_toList
      omega
    have := heading_value x.f2.data.toList x.f4.toNat x.f3.size x.f5.toNat x.f6 (fun c hc => ((hf.1 hb).2 c hc).2.2) (hf.1 hb).1 hk2 (by omega) (by omega) (by omega)
    rw [Int.toNat_of_nonneg n1, Int.toNat_of_nonneg n3, ba_of] at this
    exact this
  · simp only [if_neg hb] at hl ⊢
    exact heading_line _ hl (hf.2 (by simpa using hb)).2
/-- An answer with anything behind. -/
theorem one_whole (x : An) (h : okR x) (r : List UInt8) (hl : (refL x ++ r).length < 4294967281) :
    Ev (fun k => reply_one.f k (I (refL x ++ r))) (outA (readA x) ((refL x).length : Int)) := by
  have hh := heading_of x h (by unfold refL at hl; simp at hl ⊢; omega)
  have h13 := fun c hc => (head13 x h.fair c hc).1
  have e : refL x ++ r = headL x ++ 13 :: 10 :: (tailL x ++ r) := by unfold refL; simp
  have hlen : ((refL x).length : Int) = (headL x).length + 2 + (tailL x).length := by unfold refL; simp; omega
  have hl2 : (headL x ++ 13 :: 10 :: (tailL x ++ r)).length < 4294967281 := by rw [← e]; exact hl
  have hhl : (headL x).length + (tailL x).length + r.length + 2 < 4294967281 := by simp at hl2; omega
  unfold reply_one.f
  rw [lit2, e]
  simp only [Option.bind_some, cut_at _ _ hl2 h13, if_true, I_str, I_len]
  refine Ev.bind hh ?_
  by_cases hb : x.f0 = true
  · simp only [if_pos hb, if_true]
    have ht : tailL x = x.f3.data.toList ++ [13, 10] := by unfold tailL; rw [if_pos hb]
    have hd : x.f3.data.toList.length = x.f3.size := Array.length_toList
    have hs := h.data
    have hht : (tailL x).length = x.f3.size + 2 := by rw [ht]; simp
    have w1 : wrap64 ((x.f3.size : Int) + 2) = ((x.f3.size + 2 : Nat) : Int) := by rw [w64 _ (by omega) (by omega)]; omega
    have w2 : wrap64 (wrap64 (wrap64 (((headL x).length : Int) + 2) + (x.f3.size : Int)) + 2) = ((refL x).length : Int) := by
      rw [hlen, w64 (((headL x).length : Int) + 2) (by omega) (by omega), w64 (((headL x).length : Int) + 2 + (x.f3.size : Int)) (by omega) (by omega), w64 _ (by omega) (by omega)]
      omega
    have t1 : ((tailL x ++ r).take (x.f3.size + 2)).drop x.f3.size = [13, 10] := by
      rw [List.take_append_of_le_length (by omega), List.take_of_length_le (by omega), ht, ← hd, List.drop_left]
    have t2 : (tailL x ++ r).take x.f3.size = x.f3.data.toList := by
      rw [ht, ← hd, List.append_assoc, List.take_left]
    rw [w1, w2]
    simp only [Int.toNat_natCast, I_take, I_drop, t1, t2, I_str, ba_of]
    rw [if_neg (by rw [List.length_append]; omega), if_pos (by omega), if_pos (by omega), if_pos (by rw [List.length_append]; omega), if_pos (by rw [ByteArray.toList_eq, ba_toList]), if_pos (by rw [List.length_append]; omega)]
    unfold outA readA
    simp only [if_pos hb]
    exact Ev.now _
  · simp only [if_neg hb, Bool.false_eq_true, if_false]
    have ht : (tailL x).length = 0 := by unfold tailL; rw [if_neg hb]; rfl
    have w2 : wrap64 (((headL x).length : Int) + 2) = ((refL x).length : Int) := by rw [hlen, w64 _ (by omega) (by omega)]; omega
    have hx : ba (headL x) = x.f1 := by unfold headL; rw [if_neg hb, ba_of]
    rw [w2, hx]
    unfold event_Line.f
    simp only [Option.bind_some]
    unfold outA readA
    simp only [if_neg hb]
    exact Ev.now _
/-- The first line is whole, the data are not. -/
theorem one_short (x : An) (h : okR x) (hb : x.f0 = true) (d : List UInt8) (hd : d.length < x.f3.size + 2) (hl : (headL x ++ 13 :: 10 :: d).length < 4294967281) :
    Ev (fun k => reply_one.f k (I (headL x ++ 13 :: 10 :: d))) outZ := by
  have hh := heading_of x h (by simp at hl ⊢; omega)
  have h13 := fun c hc => (head13 x h.fair c hc).1
  have hs := h.data
  have w1 : wrap64 ((x.f3.size : Int) + 2) = ((x.f3.size + 2 : Nat) : Int) := by rw [w64 _ (by omega) (by omega)]; omega
  unfold reply_one.f
  rw [lit2]
  simp only [Option.bind_some, cut_at _ _ hl h13, if_true, I_str, I_len]
  refine Ev.bind hh ?_
  simp only [if_pos hb, if_true, w1]
  rw [if_pos (by omega)]
  exact Ev.now _
theorem prefix_split {α : Type} (a b p : List α) (h : p <+: a ++ b) : p <+: a ∨ ∃ q, p = a ++ q ∧ q <+: b := by
  rcases List.prefix_or_prefix_of_prefix h (List.prefix_append a b) with h1 | ⟨q, rfl⟩
  · exact .inl h1
  · exact .inr ⟨q, rfl, (List.prefix_append_right_inj a).1 h⟩
/-- One that is not whole. -/
theorem one_cut (x : An) (h : okR x) (p : List UInt8) (hp : p <+: refL x) (hne : p ≠ refL x) (hl : p.length < 4294967281) : Ev (fun k => reply_one.f k (I p)) outZ := by
  have h13 := fun c hc => (head13 x h.fair c hc).1
  unfold refL at hp
  rcases prefix_split _ _ _ hp with h1 | ⟨q, rfl, hq⟩
  · exact one_none p hl (index_open p (fun c hc => h13 c (h1.subset hc))).1
  · rcases q with _ | ⟨a, q⟩
    · rw [List.append_nil] at hl ⊢
      exact one_none _ hl (index_open _ h13).1
    · obtain ⟨ea, hq1⟩ := List.cons_prefix_cons.1 hq
      subst ea
      clear hq
      rcases q with _ | ⟨b, q⟩
      · exact one_none _ hl (index_open _ h13).2
      · obtain ⟨eb, hq⟩ := List.cons_prefix_cons.1 hq1
        subst eb
        clear hq1
        unfold refL at hne
        have hq2 : q ≠ tailL x := fun e => hne (by rw [e])
        unfold tailL at hq hq2
        by_cases hb : x.f0 = true
        · rw [if_pos hb] at hq hq2
          refine one_short x h hb q ?_ hl
          have hd : x.f3.data.toList.length = x.f3.size := Array.length_toList
          have hle := hq.length_le
          simp only [List.length_append, List.length_cons, List.length_nil] at hle
          rcases Nat.lt_or_ge q.length (x.f3.size + 2) with hlt | hge
          · exact hlt
          · exact absurd (hq.eq_of_length (by simp; omega)) hq2
        · rw [if_neg hb] at hq hq2
          exact absurd (List.prefix_nil.1 hq) hq2

/-! Read. -/
def flat (l : List An) : List UInt8 := l.flatMap refL
theorem flat_cons (x : An) (l : List An) : flat (x :: l) = refL x ++ flat l := rfl
theorem flat_app (a b : List An) : flat (a ++ b) = flat a ++ flat b := List.flatMap_append
theorem allI_flat (l : List An) : allI l = I (flat l) := by
  induction l with
  | nil => rfl
  | cons x l ih =>
    have : allI (x :: l) = bytesOf (refB x) ++ allI l := rfl
    rw [this, ih, flat_cons, I_app, refI]
theorem ref_pos (x : An) : 2 ≤ (refL x).length := by unfold refL; simp; omega
theorem read_loop (p : List UInt8) (hp : Ev (fun k => reply_one.f k (I p)) outZ) : ∀ (l : List An) (b : List UInt8) (acc : List Ev34),
    (∀ x ∈ l, okR x) → (b ++ (flat l ++ p)).length < 4294967281 → acc.length + l.length < 1000000 →
    Ev (fun k => reply_Read.l0 k (I (b ++ (flat l ++ p))) acc (b.length : Int)) (acc ++ l.map readA, ((b ++ flat l).length : Int))
  | [], b, acc, _, hl, _ => by
    refine Ev.step (fun k => reply_Read.l0.eq_2 _ _ _ _) ?_
    have hle : (b.length : Int) ≤ ((I (b ++ (flat [] ++ p))).length : Int) := by rw [I_len, List.length_append]; omega
    have hdr : (I (b ++ (flat [] ++ p))).drop ((b.length : Int)).toNat = I (flat [] ++ p) := by rw [Int.toNat_natCast, I_drop, List.drop_left]
    simp only [if_pos (show (0 : Int) ≤ (b.length : Int) by omega), if_pos hle, hdr]
    have e : flat [] ++ p = p := rfl
    rw [e]
    refine Ev.bind hp ?_
    unfold outZ
    simp only [if_true, List.map_nil, List.append_nil]
    have e2 : b ++ flat [] = b := List.append_nil b
    rw [e2]
    exact Ev.now _
  | x :: l, b, acc, hx, hl, ha => by
    have hlb := hl
    rw [flat_cons, List.append_assoc] at hlb
    have h1 := one_whole x (hx x (by simp)) (flat l ++ p) (by rw [List.length_append] at hlb; omega)
    have hpos := ref_pos x
    refine Ev.step (fun k => reply_Read.l0.eq_2 _ _ _ _) ?_
    have hle : (b.length : Int) ≤ ((I (b ++ (flat (x :: l) ++ p))).length : Int) := by rw [I_len, List.length_append]; omega
    have hdr : (I (b ++ (flat (x :: l) ++ p))).drop ((b.length : Int)).toNat = I (flat (x :: l) ++ p) := by rw [Int.toNat_natCast, I_drop, List.drop_left]
    simp only [if_pos (show (0 : Int) ≤ (b.length : Int) by omega), if_pos hle, hdr]
    have e : flat (x :: l) ++ p = refL x ++ (flat l ++ p) := by rw [flat_cons, List.append_assoc]
    rw [e]
    refine Ev.bind h1 ?_
    unfold outA
    simp only [if_neg (show ¬ ((refL x).length : Int) = 0 by omega), if_pos (show acc.length < 1759218604441 by simp only [List.length_cons] at ha; omega)]
    have hlr : (b ++ (refL x ++ (flat l ++ p))).length < 4294967281 := hlb
    have w : wrap64 ((b.length : Int) + ((refL x).length : Int)) = ((b ++ refL x).length : Int) := by
      rw [List.length_append] at hlr ⊢
      rw [List.length_append] at hlr
      unfold wrap64
      omega
    have e3 : b ++ (refL x ++ (flat l ++ p)) = (b ++ refL x) ++ (flat l ++ p) := (List.append_assoc _ _ _).symm
    simp only [w, e3]
    have ih := read_loop p hp l (b ++ refL x) (acc ++ [readA x]) (fun y hy => hx y (by simp [hy])) (by rw [List.append_assoc]; exact hlr) (by simp only [List.length_append, List.length_cons, List.length_nil] at ha ⊢; omega)
    rw [flat_cons, ← List.append_assoc b]
    rw [List.map_cons]
    rw [List.append_assoc acc] at ih
    exact ih
theorem one_empty : Ev (fun k => reply_one.f k (I [])) outZ := one_none [] (by decide) (by decide)
theorem read_all (l : List An) (p : List UInt8) (hp : Ev (fun k => reply_one.f k (I p)) outZ) (hx : ∀ x ∈ l, okR x) (hl : (flat l ++ p).length < 4294967281) (hn : l.length < 1000000) :
    Ev (fun k => reply_Read.f k (I (flat l ++ p))) (l.map readA, ((flat l).length : Int)) := by
  have := read_loop p hp l [] [] hx hl (by simpa using hn)
  exact this
/-- Where answers' bytes are cut. -/
theorem cut_where : ∀ (l : List An) (c : Nat), c ≤ (flat l).length → ∃ i p, i ≤ l.length ∧ (flat l).take c = flat (l.take i) ++ p ∧ (p = [] ∨ ∃ x ∈ l, p <+: refL x ∧ p ≠ refL x)
  | [], c, h => ⟨0, [], Nat.le_refl _, by simp [flat], .inl rfl⟩
  | x :: l, c, h => by
    rcases Nat.lt_or_ge c (refL x).length with hlt | hge
    · refine ⟨0, (refL x).take c, by omega, ?_, .inr ⟨x, by simp, List.take_prefix _ _, fun e => ?_⟩⟩
      · rw [flat_cons, List.take_append_of_le_length (by omega)]
        rfl
      · have := congrArg List.length e
        rw [List.length_take] at this
        omega
    · rw [flat_cons, List.length_append] at h
      obtain ⟨i, p, hi, he, hp⟩ := cut_where l (c - (refL x).length) (by omega)
      refine ⟨i + 1, p, by simp only [List.length_cons]; omega, ?_, ?_⟩
      · rw [flat_cons, List.take_append, List.take_of_length_le hge, he, List.take_succ_cons, flat_cons, List.append_assoc]
      · rcases hp with hp | ⟨y, hy, hp⟩
        · exact .inl hp
        · exact .inr ⟨y, by simp [hy], hp⟩
end Go.Proofs.YtgopcfkofjipjaaDoor.Pure
