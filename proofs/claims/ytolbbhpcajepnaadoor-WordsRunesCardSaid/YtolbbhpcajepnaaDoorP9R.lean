/-
  WordsShown and WordsRunes, plain. Their conditions: the statements' own.
-/
import Derived.Test.YtolbbhpcajepnaaDoorP9A
import Derived.Test.YtolbbhpcajepnaaDoorHX21
namespace Go.Proofs.YtolbbhpcajepnaaDoor.Pure
open Go Go.RowKit Go.Proofs.YtolbbhpcajepnaaDoorW.PrintWords Go.Proofs.YtolbbhpcajepnaaDoor.H Go.Proofs.YtolbbhpcajepnaaDoor.L
set_option linter.unusedSimpArgs false
set_option linter.unusedVariables false

/-! The reference's Shown. -/
theorem text_digit (d : Nat) (h : d < 8) : Ev (fun k => cellaretref1_Text.f k (d : Int)) (ba [UInt8.ofNat (48 + d)]) := by
  have := evRefText d (by omega)
  rw [Lib.decDigits, dif_pos (by omega)] at this
  exact this
theorem and7u : ∀ x : Fin 256, Go.bits .and .u8 ((x.val : Nat) : Int) 7 = ((x.val % 8 : Nat) : Int) := by
  intro x
  rw [u8_and7 (x := ((x.val : Nat) : Int)) (by omega) (by omega)]; omega
theorem oct_take2 (l : List UInt8) (i : Nat) (h : i < l.length) : oct (l.take (i + 1)) = oct (l.take i) ++ octB (l[i]'h) := oct_take l i h
theorem refOct_loop (s out : ByteArray) (n : Nat) (hn : n ≤ s.size) (hs : out.size + 4 * s.size < 140737488355328) {r : ByteArray}
    (hr : Ev (fun k => cellaretref1_Shown.l0 k (s.extract n s.size) (out ++ ba (oct (s.data.toList.take n)))) r) : ∀ (d i : Nat), i + d = n →
    Ev (fun k => cellaretref1_Shown.l1 k s (out ++ ba (oct (s.data.toList.take i))) (n : Int) (i : Int)) r
  | 0, i, hi => by
    refine Ev.step (fun k => cellaretref1_Shown.l1.eq_2 _ _ _ _ _) ?_
    obtain rfl : i = n := by omega
    simp only [if_neg (show ¬ (i : Int) < (i : Int) by omega), if_pos (show (0 : Int) ≤ (i : Int) by omega), if_pos (show (i : Int) ≤ (s.size : Int) by omega), Int.toNat_natCast]
    exact hr
  | d + 1, i, hi => by
    refine Ev.step (fun k => cellaretref1_Shown.l1.eq_2 _ _ _ _ _) ?_
    have hlt : i < s.size := by omega
    have hb := by_lt s i
    have hl := len_eq s
    have hx : (out ++ ba (oct (s.data.toList.take i))).size = out.size + 4 * i := by
      rw [ByteArray.size_append]
      have : (ba (oct (s.data.toList.take i))).size = (oct (s.data.toList.take i)).length := by simp [ba, ByteArray.size]
      rw [this, oct_len, List.length_take]
      omega
    generalize hX : out ++ ba (oct (s.data.toList.take i)) = X at *
    have z0 : (⟨#[92]⟩ : ByteArray).size = 1 := rfl
    have z1 : ∀ c : UInt8, (ba [c]).size = 1 := fun _ => rfl
    simp only [if_pos (show (i : Int) < (n : Int) by omega), if_pos (show X.size + 1 ≤ 9223372036854775807 by omega), if_pos (show (0 : Int) ≤ (i : Int) by omega), if_pos (show (i : Int) < (s.size : Int) by omega), bt_by s i hlt]
    have e0 : IntKind.u64.wrap ((by_ s i : Int) / 64) = ((by_ s i / 64 % 8 : Nat) : Int) := by rw [u64w _ (by omega) (by omega)]; omega
    have e1 : IntKind.u64.wrap (Go.bits .and .u8 ((by_ s i : Int) / 8) 7) = ((by_ s i / 8 % 8 : Nat) : Int) := by
      have := and7u ⟨by_ s i / 8, by omega⟩
      rw [show (((⟨by_ s i / 8, by omega⟩ : Fin 256).val : Nat) : Int) = (by_ s i : Int) / 8 by simp] at this
      rw [this, u64w _ (by omega) (by omega)]
    have e2 : IntKind.u64.wrap (Go.bits .and .u8 (by_ s i : Int) 7) = ((by_ s i % 8 : Nat) : Int) := by
      rw [and7u ⟨by_ s i, hb⟩, u64w _ (by omega) (by omega)]
    simp only [e0, e1, e2, wrap_next (show (0 : Int) ≤ (i : Int) by omega) (by omega)]
    refine Ev.bind (text_digit _ (by omega)) ?_
    simp only [ByteArray.size_append, z0, z1, if_pos (show X.size + 1 + 1 ≤ 9223372036854775807 by omega)]
    refine Ev.bind (text_digit _ (by omega)) ?_
    simp only [ByteArray.size_append, z0, z1, if_pos (show X.size + 1 + 1 + 1 ≤ 9223372036854775807 by omega)]
    refine Ev.bind (text_digit _ (by omega)) ?_
    simp only [ByteArray.size_append, z0, z1, if_pos (show X.size + 1 + 1 + 1 + 1 ≤ 9223372036854775807 by omega)]
    have ih := refOct_loop s out n hn hs hr d (i + 1) (by omega)
    have ex : X ++ (⟨#[92]⟩ : ByteArray) ++ ba [UInt8.ofNat (48 + by_ s i / 64 % 8)] ++ ba [UInt8.ofNat (48 + by_ s i / 8 % 8)] ++ ba [UInt8.ofNat (48 + by_ s i % 8)] = out ++ ba (oct (s.data.toList.take (i + 1))) := by
      apply ba_ext
      rw [ba_app, ba_app, ba_app, ByteArray.data_append, Array.toList_append, ← hX, ba_app, ba_app, oct_take _ i (by omega)]
      have : (s.data.toList[i]'(by omega)).toNat = by_ s i := by
        unfold by_
        rw [List.getD_eq_getElem?_getD, List.getElem?_eq_getElem (by omega)]
        rfl
      unfold octB
      rw [this]
      simp
    rw [ex]
    exact ih
theorem refShown_loop : ∀ (m : Nat) (s out : ByteArray), s.size ≤ m → out.size + 4 * s.size < 140737488355328 →
    Ev (fun k => cellaretref1_Shown.l0 k s out) (out ++ ba ((rs s.data.toList).flatMap shR))
  | m, s, out, hm, hs => by
    refine Ev.step (fun k => cellaretref1_Shown.l0.eq_2 _ _ _) ?_
    by_cases h : 0 < s.size
    · simp only [if_pos (show (s.size : Int) > 0 by omega)]
      refine Ev.bind (evRune1 s h (by omega)) ?_
      have hw := wide_pos s.data.toList
      have hf := fits s h
      have hl := len_eq s
      obtain ⟨m, rfl⟩ : ∃ n, m = n + 1 := ⟨m - 1, by omega⟩
      have hcs := cut_size s h
      have hne := ne_of s h
      rw [rs_cons _ hne, List.flatMap_cons, shR_eq]
      generalize hr : ((okL s.data.toList, (Lib.decodeL s.data.toList).1, s.data.toList.take (Lib.decodeL s.data.toList).2) : Bool × Nat × List UInt8) = R
      have hR2 : R.2.2 = s.data.toList.take (Lib.decodeL s.data.toList).2 := by rw [← hr]
      -- as it is
      have plainWay : Ev (fun k => cellaretref1_Shown.j1 k s out ((Lib.decodeL s.data.toList).2 : Int) true) (out ++ ba (R.2.2 ++ (rs (s.data.toList.drop (Lib.decodeL s.data.toList).2)).flatMap shR)) := by
        refine Ev.step (fun k => cellaretref1_Shown.j1.eq_2 _ _ _ _ _) ?_
        have hx : (s.extract 0 (Lib.decodeL s.data.toList).2).size = (Lib.decodeL s.data.toList).2 := by rw [ByteArray.size_extract]; omega
        simp only [if_true, if_pos (show (0 : Int) ≤ ((Lib.decodeL s.data.toList).2 : Int) by omega), if_pos (show ((Lib.decodeL s.data.toList).2 : Int) ≤ (s.size : Int) by omega), Int.toNat_natCast, hx, if_pos (show out.size + (Lib.decodeL s.data.toList).2 ≤ 9223372036854775807 by omega)]
        have ih := refShown_loop m (s.extract (Lib.decodeL s.data.toList).2 s.size) (out ++ s.extract 0 (Lib.decodeL s.data.toList).2) (by omega) (by rw [ByteArray.size_append, hx, hcs]; omega)
        rw [Lib.extract_to_end] at ih
        have ex : out ++ s.extract 0 (Lib.decodeL s.data.toList).2 ++ ba ((rs (s.data.toList.drop (Lib.decodeL s.data.toList).2)).flatMap shR) = out ++ ba (R.2.2 ++ (rs (s.data.toList.drop (Lib.decodeL s.data.toList).2)).flatMap shR) := by
          apply ba_ext
          rw [ba_app, ba_app, ByteArray.data_append, Array.toList_append, Lib.extract_data, hR2]
          simp
        rw [ex] at ih
        exact ih
      -- in octal digits
      have octWay : Ev (fun k => cellaretref1_Shown.j1 k s out ((Lib.decodeL s.data.toList).2 : Int) false) (out ++ ba (oct R.2.2 ++ (rs (s.data.toList.drop (Lib.decodeL s.data.toList).2)).flatMap shR)) := by
        refine Ev.step (fun k => cellaretref1_Shown.j1.eq_2 _ _ _ _ _) ?_
        simp only [Bool.false_eq_true, if_false]
        have hx : (ba (oct (s.data.toList.take (Lib.decodeL s.data.toList).2))).size = 4 * (Lib.decodeL s.data.toList).2 := by
          have : (ba (oct (s.data.toList.take (Lib.decodeL s.data.toList).2))).size = (oct (s.data.toList.take (Lib.decodeL s.data.toList).2)).length := by simp [ba, ByteArray.size]
          rw [this, oct_len, List.length_take]; omega
        have ih := refShown_loop m (s.extract (Lib.decodeL s.data.toList).2 s.size) (out ++ ba (oct (s.data.toList.take (Lib.decodeL s.data.toList).2))) (by omega) (by rw [ByteArray.size_append, hx, hcs]; omega)
        rw [Lib.extract_to_end] at ih
        have ex : out ++ ba (oct (s.data.toList.take (Lib.decodeL s.data.toList).2)) ++ ba ((rs (s.data.toList.drop (Lib.decodeL s.data.toList).2)).flatMap shR) = out ++ ba (oct R.2.2 ++ (rs (s.data.toList.drop (Lib.decodeL s.data.toList).2)).flatMap shR) := by
          apply ba_ext
          rw [ba_app, ba_app, ba_app, hR2, List.append_assoc]
        rw [ex] at ih
        have h0 := refOct_loop s out (Lib.decodeL s.data.toList).2 hf hs ih (Lib.decodeL s.data.toList).2 0 (Nat.zero_add _)
        have e0 : out ++ ba (oct (s.data.toList.take 0)) = out := by
          apply ba_ext
          rw [ba_app]
          simp [oct]
        rw [e0] at h0
        exact h0
      simp only [runeR_2]
      by_cases h1 : (runeR s.data.toList).1 ≤ 32
      · simp only [if_neg (show ¬ (runeR s.data.toList).1 > 32 by omega)]
        have hp : plainR R = false := by
          rw [← hr]
          unfold runeR at h1
          by_cases hk : okL s.data.toList = true
          · rw [if_pos hk] at h1
            unfold plainR
            rw [decide_eq_false (show ¬ 32 < (Lib.decodeL s.data.toList).1 by simp at h1; omega)]
            simp
          · have : okL s.data.toList = false := by simpa using hk
            unfold plainR
            rw [this]; rfl
        rw [hp, if_neg (by simp)]
        exact octWay
      · obtain ⟨hk, e1⟩ := runeR_1 _ h1
        rw [e1] at h1
        simp only [e1]
        have hpl : plainR R = (decide (32 < (Lib.decodeL s.data.toList).1) && ((Lib.decodeL s.data.toList).1 != 127 && ((Lib.decodeL s.data.toList).1 != 34 && (Lib.decodeL s.data.toList).1 != 92))) := by
          rw [← hr]; unfold plainR; rw [hk, Bool.true_and]
        rw [hpl]
        generalize (Lib.decodeL s.data.toList).1 = c at h1
        simp only [if_pos (show (c : Int) > 32 by omega)]
        rw [decide_eq_true (show 32 < c by omega), Bool.true_and]
        by_cases c1 : c = 127
        · simp only [if_pos (show (c : Int) = 127 by omega)]
          rw [c1, if_neg (by simp)]
          exact octWay
        · simp only [if_neg (show ¬ (c : Int) = 127 by omega)]
          rw [bne_iff_ne.2 c1, Bool.true_and]
          by_cases c2 : c = 34
          · simp only [if_pos (show (c : Int) = 34 by omega)]
            rw [c2, if_neg (by simp)]
            exact octWay
          · simp only [if_neg (show ¬ (c : Int) = 34 by omega)]
            rw [bne_iff_ne.2 c2, Bool.true_and]
            by_cases c3 : c = 92
            · rw [c3, if_neg (by simp)]
              exact octWay
            · rw [show ((c : Int) != 92) = true from bne_iff_ne.2 (by omega), if_pos (bne_iff_ne.2 c3)]
              exact plainWay
    · simp only [if_neg (show ¬ (s.size : Int) > 0 by omega)]
      have e : s.data.toList = [] := List.eq_nil_of_length_eq_zero (by rw [len_eq]; omega)
      rw [e, rs_nil]
      have e0 : out ++ ba (([] : List (Bool × Nat × List UInt8)).flatMap shR) = out := by
        apply ba_ext
        rw [ba_app]
        simp
      rw [e0]
      exact Ev.now _
theorem evRefShown (s : ByteArray) (hs : s.size ≤ 3000) : Ev (fun k => cellaretref1_Shown.f k s) (ba (shownF s)) := by
  have h := refShown_loop s.size s ⟨#[]⟩ (Nat.le_refl _) (by show 0 + _ < _; omega)
  have e0 : (⟨#[]⟩ : ByteArray) ++ ba ((rs s.data.toList).flatMap shR) = ba (shownF s) := by
    apply ba_ext
    rw [ba_app, ba_toList, shownF_eq]
    rfl
  rw [e0] at h
  exact h
theorem WordsRunes : cellaretlaw2_WordsRunes.Pure := by
  intro s hs
  apply Ev.rounds
  refine Ev.bind awakeEv ?_
  simp only [if_true]
  by_cases h : (s.size : Int) > 3000
  · simp only [if_pos h]; exact Ev.now _
  · have e1 : words_Runes.f s = some ((Lib.runeCount s : Int), okAll s) := by unfold words_Runes.f; rw [if_pos hs]
    simp only [if_neg h, e1, words_Key.f, shown_is s (by omega), Option.bind_some]
    refine Ev.bind (evRefRunes s (by omega)) ?_
    simp only [if_true, beq_self_eq_true]
    refine Ev.bind (evRefKey s (by omega)) ?_
    simp only [if_true, beq_self_eq_true]
    refine Ev.bind (evRefShown s (by omega)) ?_
    simpa using Ev.now _
end Go.Proofs.YtolbbhpcajepnaaDoor.Pure
