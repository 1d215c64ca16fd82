/-
  Reading an answer that is written: its first line, the answer itself, and what is told of one that is not whole. Its conditions: a fair answer, numbers of their kinds, sizes below 2^31.
-/
import Derived.Test.YtgopcfkofjipjaaDoorQ2
import Derived.Test.YtgopcfkofjipjaaDoorL1
import Derived.Test.YtgopcfkofjipjaaDoorHX15
namespace Go.Proofs.YtgopcfkofjipjaaDoor.Pure
open Go Go.RowKit Go.Proofs.YtgopcfkofjipjaaDoorW.PrintWords Go.Proofs.YtgopcfkofjipjaaDoor.H
set_option linter.unusedSimpArgs false
set_option linter.unusedVariables false

def I (l : List UInt8) : List Int := l.map fun b => (b.toNat : Int)
theorem I_app (a b : List UInt8) : I (a ++ b) = I a ++ I b := List.map_append
theorem I_len (l : List UInt8) : (I l).length = l.length := List.length_map _
theorem I_take (l : List UInt8) (n : Nat) : (I l).take n = I (l.take n) := List.map_take.symm
theorem I_drop (l : List UInt8) (n : Nat) : (I l).drop n = I (l.drop n) := List.map_drop.symm
theorem I_bytes (l : List UInt8) : byteList (I l) = true := by
  unfold byteList I
  rw [List.all_map, List.all_eq_true]
  intro c _
  have := c.toNat_lt
  simp only [Function.comp_apply, Bool.and_eq_true, decide_eq_true_eq]
  omega
theorem I_back (l : List UInt8) : Lib.bytesOf (I l) = l := by
  unfold Lib.bytesOf I
  rw [List.map_map]
  conv => rhs; rw [← List.map_id l]
  apply List.map_congr_left
  intro c _
  show UInt8.ofNat ((c.toNat : Int).toNat) = c
  rw [Int.toNat_natCast]
  exact UInt8.ofNat_toNat
theorem I_of (s : ByteArray) : bytesOf s = I s.data.toList := rfl
theorem I_str (l : List UInt8) : strOfNums (I l) = ba l := by
  have := str_bytes (ba l)
  rw [I_of, ba_toList] at this
  exact this
theorem ba_size (l : List UInt8) : (ba l).size = l.length := by simp [ba, ByteArray.size]

/-! The bytes, in two parts. -/
def vwL : List UInt8 := [86, 65, 76, 85, 69]
def headV (key : List UInt8) (fl n cas : Nat) (wc : Bool) : List UInt8 :=
  vwL ++ 32 :: (key ++ 32 :: (Lib.decDigits fl ++ 32 :: (Lib.decDigits n ++ if wc = true then 32 :: Lib.decDigits cas else [])))
def headL (x : An) : List UInt8 := if x.f0 = true then headV x.f2.data.toList x.f4.toNat x.f3.size x.f5.toNat x.f6 else x.f1.data.toList
def tailL (x : An) : List UInt8 := if x.f0 = true then x.f3.data.toList ++ [13, 10] else []
def refL (x : An) : List UInt8 := headL x ++ 13 :: 10 :: tailL x
theorem vw_list : vw.data.toList = vwL ++ [32] := rfl
theorem spl : sp.data.toList = [32] := rfl
theorem nll : nl.data.toList = [13, 10] := rfl
theorem app_list (a b : ByteArray) : (a ++ b).data.toList = a.data.toList ++ b.data.toList := by rw [ByteArray.data_append, Array.toList_append]
theorem refB_list (x : An) : (refB x).data.toList = refL x := by
  unfold refB refL headL tailL headV ansB
  cases x.f0
  · simp only [Bool.false_eq_true, if_false, app_list, nll]
  · simp only [if_true]
    cases x.f6 <;> simp only [Bool.false_eq_true, if_false, if_true, app_list, nll, spl, vw_list, ba_toList, List.append_assoc, List.cons_append, List.nil_append, List.append_nil]
theorem refI (x : An) : bytesOf (refB x) = I (refL x) := by rw [I_of, refB_list]

/-- Is an answer one that is read as itself? -/
def fairP (x : An) : Prop :=
  (x.f0 = true → x.f2.data.toList ≠ [] ∧ ∀ c ∈ x.f2.data.toList, c ≠ 10 ∧ c ≠ 13 ∧ c ≠ 32) ∧
  (x.f0 = false → (∀ c ∈ x.f1.data.toList, c ≠ 10 ∧ c ≠ 13) ∧ ¬ (vwL ++ [32]) <+: x.f1.data.toList)

theorem dec_mem (n : Nat) : ∀ c ∈ Lib.decDigits n, 48 ≤ c.toNat ∧ c.toNat ≤ 57 := by
  induction n using Nat.strongRecOn with
  | _ n ih =>
    intro c hc
    rw [Lib.decDigits] at hc
    split at hc
    · rename_i h
      obtain rfl := List.mem_singleton.1 hc
      simp only [UInt8.toNat_ofNat']
      omega
    · rename_i h
      rcases List.mem_append.1 hc with hc | hc
      · exact ih (n / 10) (by omega) c hc
      · obtain rfl := List.mem_singleton.1 hc
        simp only [UInt8.toNat_ofNat']
        omega
theorem dec_ne (n : Nat) (z : UInt8) (hz : z.toNat < 48) : ∀ c ∈ Lib.decDigits n, c ≠ z := fun c hc e => by
  have := dec_mem n c hc
  rw [e] at this
  omega
theorem head13 (x : An) (hf : fairP x) : ∀ c ∈ headL x, c ≠ 13 ∧ c ≠ 10 := by
  intro c hc
  unfold headL at hc
  split at hc
  · rename_i h
    have hk := (hf.1 h).2
    have d10 := fun n => dec_ne n 10 (by decide)
    have d13 := fun n => dec_ne n 13 (by decide)
    unfold headV at hc
    simp only [List.mem_append, List.mem_cons] at hc
    rcases hc with hc | rfl | hc | rfl | hc | rfl | hc | hc
    · unfold vwL at hc
      simp only [List.mem_cons, List.not_mem_nil, or_false] at hc
      rcases hc with rfl | rfl | rfl | rfl | rfl <;> decide
    · decide
    · exact ⟨(hk c hc).2.1, (hk c hc).1⟩
    · decide
    · exact ⟨d13 _ c hc, d10 _ c hc⟩
    · decide
    · exact ⟨d13 _ c hc, d10 _ c hc⟩
    · split at hc
      · rcases List.mem_cons.1 hc with rfl | hc
        · decide
        · exact ⟨d13 _ c hc, d10 _ c hc⟩
      · simp at hc
  · rename_i h
    have h := (hf.2 (by simpa using h)).1 c hc
    exact ⟨h.2, h.1⟩

/-! A first line is read. -/
theorem split_eq (l : List UInt8) (h : l.length < 4294967281) : strings_Split.f (ba l) (⟨#[32]⟩ : ByteArray) = some ((L.pc [] l).map ba) := by
  unfold strings_Split.f
  rw [if_pos ⟨by rw [ba_size]; omega, by decide⟩]
  have := L.split_pc l.length (ba l) (by rw [ba_size]; omega)
  rw [ba_toList] at this
  exact congrArg some this
theorem prefix_eq (l : List UInt8) : strings_HasPrefix.f (ba l) (⟨#[86, 65, 76, 85, 69, 32]⟩ : ByteArray) = some (decide ((vwL ++ [32]) <+: l)) := by
  unfold strings_HasPrefix.f stringslite_HasPrefix.f
  have e6 : (⟨#[86, 65, 76, 85, 69, 32]⟩ : ByteArray).size = 6 := rfl
  rw [e6, ba_size]
  by_cases h : (l.length : Int) ≥ ((6 : Nat) : Int)
  · rw [if_pos h, if_pos (by omega), if_pos h, Option.bind_some]
    congr 1
    rw [ByteArray.toList_eq, ByteArray.toList_eq]
    have e1 : ((ba l).extract 0 (((6 : Nat) : Int)).toNat).data.toList = l.take 6 := by simp [ba]
    have e2 : (⟨#[86, 65, 76, 85, 69, 32]⟩ : ByteArray).data.toList = vwL ++ [32] := rfl
    rw [e1, e2]
    by_cases hp : (vwL ++ [32]) <+: l
    · rw [decide_eq_true hp]
      obtain ⟨t, rfl⟩ := hp
      rfl
    · rw [decide_eq_false hp]
      simp only [beq_eq_false_iff_ne, ne_eq]
      intro e
      exact hp ⟨l.drop 6, by rw [← e, List.take_append_drop]⟩
  · rw [if_neg h, Option.bind_some]
    congr 1
    refine (decide_eq_false fun hp => ?_).symm
    have := hp.length_le
    simp [vwL] at this
    omega
theorem number_eq (n : Nat) (m : Int) (h : n < 18446744073709551616) (hm : (n : Int) ≤ m) : reply_number.f (ba (Lib.decDigits n)) m = some ((n : Int), true) := by
  unfold reply_number.f
  have := dec_size n h
  rw [if_pos (by omega), ba_toList]
  unfold numR
  rw [parse_dec n h]
  simp [hm]
theorem heading_line (l : List UInt8) (hl : l.length < 4294967281) (h : ¬ (vwL ++ [32]) <+: l) :
    Ev (fun k => reply_heading.f k (ba l)) (false, (⟨#[]⟩ : ByteArray), (⟨#[]⟩ : ByteArray), (⟨#[]⟩ : ByteArray), 0, 0, false, 0, false) := by
  unfold reply_heading.f
  rw [split_eq l hl, prefix_eq, decide_eq_false h]
  simp only [Option.bind_some, Bool.false_eq_true, if_false]
  refine Ev.step (fun k => reply_heading.j0.eq_2 _ _ _) ?_
  simp only [if_true]
  exact Ev.now _
theorem pieces (key : List UInt8) (fl n cas : Nat) (wc : Bool) (hk : ∀ c ∈ key, c ≠ 32) :
    L.pc [] (headV key fl n cas wc) = [vwL, key, Lib.decDigits fl, Lib.decDigits n] ++ (if wc = true then [Lib.decDigits cas] else []) := by
  have d := fun n => dec_ne n 32 (by decide)
  unfold headV
  rw [L.pc_hit vwL _ [] (by unfold vwL; decide), L.pc_hit key _ [] hk, L.pc_hit _ _ [] (d fl)]
  cases wc
  · simp only [Bool.false_eq_true, if_false, List.append_nil, List.nil_append, List.cons_append]
    rw [L.pc_none _ [] (d n), List.nil_append]
  · simp only [if_true, List.nil_append, List.cons_append]
    rw [L.pc_hit _ _ [] (d n), L.pc_none _ [] (d cas), List.nil_append, List.nil_append]
theorem heading_value (key : List UInt8) (fl n cas : Nat) (wc : Bool) (hk : ∀ c ∈ key, c ≠ 32) (hk0 : key ≠ []) (hkl : key.length < 2147483648) (hfl : fl < 4294967296) (hn : n < 2147483648) (hc : cas < 18446744073709551616) :
    Ev (fun k => reply_heading.f k (ba (headV key fl n cas wc))) (true, ba key, (⟨#[]⟩ : ByteArray), (⟨#[]⟩ : ByteArray), (fl : Int), (if wc = true then (cas : Int) else 0), wc, (n : Int), true) := by
  have s1 := dec_size fl (by omega)
  have s2 := dec_size n (by omega)
  have s3 := dec_size cas hc
  rw [ba_size] at s1 s2 s3
  have hl : (headV key fl n cas wc).length < 4294967281 := by
    unfold headV vwL
    cases wc <;> simp <;> omega
  have hp : (vwL ++ [32]) <+: headV key fl n cas wc := ⟨_, by unfold headV; rw [List.append_assoc, List.singleton_append]⟩
  have hmod : (fl : Int) % 4294967296 = (fl : Int) := by omega
  have hw : wrap64 (n : Int) = (n : Int) := by unfold wrap64; omega
  have nf := number_eq fl 4294967295 (by omega) (by omega)
  have nn := number_eq n 2147483647 (by omega) (by omega)
  have nc := number_eq cas 18446744073709551615 hc (by omega)
  have hkb : ((ba key).toList == ([] : List UInt8)) = false := by
    rw [ByteArray.toList_eq, ba_toList]
    simpa using hk0
  unfold reply_heading.f
  rw [split_eq _ hl, prefix_eq, decide_eq_true hp, pieces key fl n cas wc hk]
  cases wc
  · have r1 : rdOf ByteArray.empty [ba vwL, ba key, ba (Lib.decDigits fl), ba (Lib.decDigits n)] 1 = ba key := rfl
    have r2 : rdOf ByteArray.empty [ba vwL, ba key, ba (Lib.decDigits fl), ba (Lib.decDigits n)] 2 = ba (Lib.decDigits fl) := rfl
    have r3 : rdOf ByteArray.empty [ba vwL, ba key, ba (Lib.decDigits fl), ba (Lib.decDigits n)] 3 = ba (Lib.decDigits n) := rfl
    have ll : (([ba vwL, ba key, ba (Lib.decDigits fl), ba (Lib.decDigits n)] : List ByteArray).length : Int) = 4 := rfl
    simp only [Bool.false_eq_true, if_false, if_true, Option.bind_some, List.append_nil, List.map_cons, List.map_nil, r1, ll, hkb, show (1 : Int) < 4 by decide]
    refine Ev.step (fun k => reply_heading.j0.eq_2 _ _ _) ?_
    simp only [Bool.false_eq_true, if_false, if_true, Option.bind_some, r1, r2, r3, ll, nf, nn, hmod, hw, show (1 : Int) < 4 by decide, show (2 : Int) < 4 by decide, show (3 : Int) < 4 by decide, show ¬ (4 : Int) = 5 by decide, show ((4 : Int) == 5) = false by decide]
    exact Ev.now _
  · have r1 : rdOf ByteArray.empty [ba vwL, ba key, ba (Lib.decDigits fl), ba (Lib.decDigits n), ba (Lib.decDigits cas)] 1 = ba key := rfl
    have r2 : rdOf ByteArray.empty [ba vwL, ba key, ba (Lib.decDigits fl), ba (Lib.decDigits n), ba (Lib.decDigits cas)] 2 = ba (Lib.decDigits fl) := rfl
    have r3 : rdOf ByteArray.empty [ba vwL, ba key, ba (Lib.decDigits fl), ba (Lib.decDigits n), ba (Lib.decDigits cas)] 3 = ba (Lib.decDigits n) := rfl
    have r4 : rdOf ByteArray.empty [ba vwL, ba key, ba (Lib.decDigits fl), ba (Lib.decDigits n), ba (Lib.decDigits cas)] 4 = ba (Lib.decDigits cas) := rfl
    have ll : (([ba vwL, ba key, ba (Lib.decDigits fl), ba (Lib.decDigits n), ba (Lib.decDigits cas)] : List ByteArray).length : Int) = 5 := rfl
    simp only [if_true, Option.bind_some, List.cons_append, List.nil_append, List.map_cons, List.map_nil, r1, ll, hkb, show (1 : Int) < 5 by decide, show ¬ (5 : Int) = 4 by decide, if_false]
    refine Ev.step (fun k => reply_heading.j0.eq_2 _ _ _) ?_
    simp only [Bool.false_eq_true, if_false, if_true, Option.bind_some, r1, r2, r3, r4, ll, nf, nn, nc, hmod, hw, show (1 : Int) < 5 by decide, show (2 : Int) < 5 by decide, show (3 : Int) < 5 by decide, show (4 : Int) < 5 by decide, show ((5 : Int) == 5) = true by decide]
    exact Ev.now _
end Go.Proofs.YtgopcfkofjipjaaDoor.Pure
