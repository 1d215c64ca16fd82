/-
  WordsCounted, WordsKeys and WordsJoined, plain. Their conditions: the statements' own.
-/
import Derived.Test.YtolbbhpcajepnaaDoorPA
import Derived.Test.YtolbbhpcajepnaaDoorHX31
import Derived.Test.YtolbbhpcajepnaaDoorHX29
import Derived.Test.YtolbbhpcajepnaaDoorHX30
namespace Go.Proofs.YtolbbhpcajepnaaDoor.Pure
open Go Go.RowKit Go.Proofs.YtolbbhpcajepnaaDoorW.PrintWords Go.Proofs.YtolbbhpcajepnaaDoor.H Go.Proofs.YtolbbhpcajepnaaDoor.L
set_option linter.unusedSimpArgs false
set_option linter.unusedVariables false

theorem app_list (a b : ByteArray) : (a ++ b).data.toList = a.data.toList ++ b.data.toList := by rw [ByteArray.data_append, Array.toList_append]
theorem runes_is (s : ByteArray) (h : s.size ≤ 140737488351232) : words_Runes.f s = some ((Lib.runeCount s : Int), okAll s) := by unfold words_Runes.f; rw [if_pos h]
theorem WordsCounted : cellaretlaw2_WordsCounted.Pure := by
  intro a b ha hb
  apply Ev.rounds
  refine Ev.bind awakeEv ?_
  simp only [if_true]
  by_cases h1 : (a.size : Int) > 500
  · simp only [if_pos h1]
    refine Ev.step (fun k => cellaretlaw2_WordsCounted.j0.eq_2 _ _ _ _) ?_
    simp only [if_true]; exact Ev.now _
  · simp only [if_neg h1]
    refine Ev.step (fun k => cellaretlaw2_WordsCounted.j0.eq_2 _ _ _ _) ?_
    by_cases h2 : (b.size : Int) > 500
    · simp only [decide_eq_true h2, if_true]; exact Ev.now _
    · have hs : (a ++ b).size = a.size + b.size := ByteArray.size_append
      simp only [decide_eq_false h2, Bool.false_eq_true, if_false, runes_is a ha, runes_is b hb, runes_is (a ++ b) (by omega), Option.bind_some, if_pos (show a.size + b.size ≤ 9223372036854775807 by omega)]
      by_cases o1 : okAll a = true
      · by_cases o2 : okAll b = true
        · have e := okAll_eq a
          rw [o1] at e
          have hr := rs_app b.data.toList a.data.toList.length a.data.toList (Nat.le_refl _) e.symm
          have c1 := runeCount_eq (a ++ b)
          have c2 := okAll_eq (a ++ b)
          have e2 := okAll_eq b
          rw [o2] at e2
          rw [app_list, hr] at c1 c2
          rw [List.length_append, ← runeCount_eq, ← runeCount_eq] at c1
          rw [List.all_append, ← e, ← e2] at c2
          have l1 := Lib.runeCount_le a
          have l2 := Lib.runeCount_le b
          simp only [o1, o2, c2, c1, if_true, Bool.and_self]
          rw [show (((Lib.runeCount a + Lib.runeCount b : Nat) : Int) == wrap64 ((Lib.runeCount a : Int) + (Lib.runeCount b : Int))) = true by rw [beq_iff_eq]; unfold wrap64; omega]
          exact Ev.now _
        · simp only [o1, if_true, if_neg o2]; exact Ev.now _
      · simp only [if_neg o1]; exact Ev.now _

theorem keyOk_ok (r : Bool × Nat × List UInt8) (h : keyOk r = true) : r.1 = true := by
  unfold keyOk at h
  simp only [Bool.and_eq_true] at h
  exact h.1.1.1.1
theorem all_ok (l : List (Bool × Nat × List UInt8)) (h : l.all keyOk = true) : l.all (fun r => r.1) = true := by
  rw [List.all_eq_true] at h ⊢
  exact fun r hr => keyOk_ok r (h r hr)
theorem key_parts (s : ByteArray) (h : keyF s = true) : 1 ≤ s.size ∧ s.size ≤ 250 ∧ (rs s.data.toList).all keyOk = true := by
  rw [keyF_eq] at h
  simp only [Bool.and_eq_true, Bool.not_eq_true', decide_eq_false_iff_not] at h
  exact ⟨by omega, by omega, h.2⟩
theorem dec_lone {n b0 b1 b2 b3 : Nat} (h0 : 128 ≤ b0) (h1 : b1 / 64 ≠ 2) : Lib.decodeN n b0 b1 b2 b3 = (65533, 1) := by
  unfold Lib.decodeN
  rw [if_neg (by omega), if_neg (by omega), if_neg (by omega), if_neg (by omega)]
/-- A key begins with no byte that goes on. -/
theorem head_not_cont (l : List UInt8) (e : l ≠ []) (h : okL l = true) : (l.getD 0 0).toNat / 64 ≠ 2 := by
  intro hc
  unfold okL at h
  rw [Lib.decodeL_N] at h
  have : Lib.decodeN l.length (l.getD 0 0).toNat (l.getD 1 0).toNat (l.getD 2 0).toNat (l.getD 3 0).toNat = (65533, 1) := by
    unfold Lib.decodeN
    rw [if_neg (by omega), if_neg (by omega), if_neg (by omega), if_neg (by omega)]
  rw [this] at h
  simp at h
theorem bad_rune (c : UInt8) (l : List UInt8) (hl : l = [] ∨ okL l = true) (hc : c.toNat ≤ 32 ∨ c.toNat = 127 ∨ 128 ≤ c.toNat) : (rs (c :: l)).all keyOk = false := by
  rw [rs_cons (c :: l) (by simp), List.all_cons]
  have : keyOk (okL (c :: l), (Lib.decodeL (c :: l)).1, (c :: l).take (Lib.decodeL (c :: l)).2) = false := by
    have hd := Lib.decodeL_N (c :: l)
    rw [show (c :: l).getD 0 0 = c from rfl, show (c :: l).getD 1 0 = l.getD 0 0 from rfl] at hd
    by_cases h1 : c.toNat < 128
    · rw [decN_1 h1] at hd
      unfold keyOk
      rw [hd]
      rcases hc with hc | hc | hc
      · simp [show ¬ 32 < c.toNat by omega]
      · simp [hc]
      · omega
    · have hcont : (l.getD 0 0).toNat / 64 ≠ 2 := by
        rcases hl with rfl | hl
        · decide
        · by_cases e : l = []
          · subst e; decide
          · exact head_not_cont l e hl
      rw [dec_lone (by omega) hcont] at hd
      unfold keyOk okL
      rw [hd]
      simp
  rw [this, Bool.false_and]
theorem key_join (a b : ByteArray) (ha : keyF a = true) (hb : keyF b = true) (h : a.size + b.size ≤ 250) : keyF (a ++ b) = true := by
  obtain ⟨a1, a2, a3⟩ := key_parts a ha
  obtain ⟨b1, b2, b3⟩ := key_parts b hb
  rw [keyF_eq, app_list, rs_app b.data.toList _ a.data.toList (Nat.le_refl _) (all_ok _ a3), List.all_append, a3, b3]
  have hs : (a ++ b).size = a.size + b.size := ByteArray.size_append
  rw [decide_eq_false (by omega), decide_eq_false (by omega)]
  rfl
theorem key_bad (a b : ByteArray) (c : UInt8) (ha : keyF a = true) (hb : keyF b = true) (hc : c.toNat ≤ 32 ∨ c.toNat = 127 ∨ 128 ≤ c.toNat) (m : ByteArray) (hm : m.data.toList = [c]) : keyF (a ++ m ++ b) = false := by
  obtain ⟨a1, a2, a3⟩ := key_parts a ha
  obtain ⟨b1, b2, b3⟩ := key_parts b hb
  have hbne : b.data.toList ≠ [] := by intro e; have := len_eq b; rw [e] at this; simp at this; omega
  have hok : okL b.data.toList = true := by
    have := all_ok _ b3
    rw [rs_cons _ hbne, List.all_cons, Bool.and_eq_true] at this
    exact this.1
  rw [keyF_eq, app_list, app_list, hm, List.append_assoc, List.singleton_append, rs_app _ _ a.data.toList (Nat.le_refl _) (all_ok _ a3), List.all_append, bad_rune c _ (.inr hok) hc]
  simp
theorem one_num (x : Int) (h0 : 0 ≤ x) (h1 : x < 256) : (strOfNums [x]).data.toList = [UInt8.ofNat x.toNat] ∧ (UInt8.ofNat x.toNat).toNat = x.toNat := by
  refine ⟨rfl, ?_⟩
  rw [UInt8.toNat_ofNat', Nat.mod_eq_of_lt (by omega)]
theorem u8_of {n : Int} (h : (Lit.int .u8 n).wf = true) : 0 ≤ n ∧ n < 256 := by
  have e1 : IntKind.u8.min = 0 := rfl
  have e2 : IntKind.u8.max = 255 := rfl
  simp [Lit.wf, e1, e2] at h
  omega
theorem WordsKeys : cellaretlaw2_WordsKeys.Pure := by
  intro a b x ha hb hx0
  obtain ⟨hx, hx1⟩ := u8_of hx0
  obtain ⟨hm, hmn⟩ := one_num x hx hx1
  have hms : (strOfNums [x]).size = 1 := by rw [← len_eq, hm]; rfl
  apply Ev.rounds
  refine Ev.bind awakeEv ?_
  simp only [if_true, words_Key.f, Option.bind_some]
  by_cases k1 : keyF a = true
  · simp only [if_pos k1]
    refine Ev.step (fun k => cellaretlaw2_WordsKeys.j0.eq_2 _ _ _ _ _) ?_
    by_cases k2 : keyF b = true
    · obtain ⟨a1, a2, a3⟩ := key_parts a k1
      obtain ⟨b1, b2, b3⟩ := key_parts b k2
      have hs : (a ++ b).size = a.size + b.size := ByteArray.size_append
      have hw : wrap64 ((a.size : Int) + (b.size : Int)) = (a.size : Int) + (b.size : Int) := by unfold wrap64; omega
      simp only [k2, Bool.not_true, Bool.false_eq_true, if_false, hw, if_pos (show a.size + b.size ≤ 9223372036854775807 by omega), words_Key.f, Option.bind_some]
      by_cases c1 : a.size + b.size > 250
      · simp only [if_pos (show (a.size : Int) + (b.size : Int) > 250 by omega)]
        have : keyF (a ++ b) = false := by rw [keyF_eq, hs]; simp [c1]
        rw [this]
        exact Ev.now _
      · have hj := key_join a b k1 k2 (by omega)
        have hsm : (a ++ strOfNums [x]).size = a.size + 1 := by rw [ByteArray.size_append, hms]
        simp only [if_neg (show ¬ (a.size : Int) + (b.size : Int) > 250 by omega), hj, if_true, hms, hsm, if_pos (show a.size + 1 ≤ 9223372036854775807 by omega), if_pos (show a.size + 1 + b.size ≤ 9223372036854775807 by omega)]
        by_cases x1 : x ≤ 32
        · simp only [if_pos x1, key_bad a b _ k1 k2 (.inl (by omega)) _ hm]
          exact Ev.now _
        · simp only [if_neg x1]
          by_cases x2 : x = 127
          · simp only [if_pos x2, key_bad a b _ k1 k2 (.inr (.inl (by omega))) _ hm]
            exact Ev.now _
          · simp only [if_neg x2]
            by_cases x3 : x ≥ 128
            · simp only [if_pos x3, key_bad a b _ k1 k2 (.inr (.inr (by omega))) _ hm]
              exact Ev.now _
            · simp only [if_neg x3]
              exact Ev.now _
    · have : keyF b = false := by simpa using k2
      simp only [this, Bool.not_false, if_true]
      exact Ev.now _
  · simp only [if_neg k1]
    refine Ev.step (fun k => cellaretlaw2_WordsKeys.j0.eq_2 _ _ _ _ _) ?_
    simp only [if_true]
    exact Ev.now _

theorem joined_loop (xs ys : List ByteArray) (hlen : xs.length + ys.length < 1000000) : ∀ (d i : Nat), i + d = xs.length + ys.length →
    Ev (fun k => cellaretlaw2_WordsJoined.l0 k xs ys (xs ++ ys) (i : Int)) true
  | 0, i, hi => by
    refine Ev.step (fun k => cellaretlaw2_WordsJoined.l0.eq_2 _ _ _ _ _) ?_
    simp only [List.length_append, if_neg (show ¬ (i : Int) < ((xs.length + ys.length : Nat) : Int) by omega)]
    exact Ev.now _
  | d + 1, i, hi => by
    refine Ev.step (fun k => cellaretlaw2_WordsJoined.l0.eq_2 _ _ _ _ _) ?_
    have hlt : i < (xs ++ ys).length := by rw [List.length_append]; omega
    have ih := joined_loop xs ys hlen d (i + 1) (by omega)
    simp only [if_pos (show (i : Int) < ((xs ++ ys).length : Int) by omega), if_pos (show (0 : Int) ≤ (i : Int) by omega), wrap_next (show (0 : Int) ≤ (i : Int) by omega) (by omega), rdOf_at ByteArray.empty (xs ++ ys) i hlt]
    by_cases h1 : i < xs.length
    · simp only [if_pos (show (i : Int) < (xs.length : Int) by omega), if_neg (show ¬ (i : Int) ≥ (xs.length : Int) by omega), rdOf_at ByteArray.empty xs i h1, List.getElem_append_left h1, if_true]
      exact ih
    · have hw : wrap64 ((i : Int) - (xs.length : Int)) = ((i - xs.length : Nat) : Int) := by unfold wrap64; omega
      simp only [if_neg (show ¬ (i : Int) < (xs.length : Int) by omega), if_pos (show (i : Int) ≥ (xs.length : Int) by omega), hw, if_pos (show (0 : Int) ≤ ((i - xs.length : Nat) : Int) by omega), if_pos (show ((i - xs.length : Nat) : Int) < (ys.length : Int) by omega), rdOf_at ByteArray.empty ys (i - xs.length) (by omega), List.getElem_append_right (show xs.length ≤ i by omega), if_true]
      exact ih
theorem WordsJoined : cellaretlaw2_WordsJoined.Pure := by
  intro a b ha hb
  apply Ev.rounds
  refine Ev.bind awakeEv ?_
  simp only [if_true]
  by_cases h1 : (a.size : Int) > 500
  · simp only [if_pos h1]
    refine Ev.step (fun k => cellaretlaw2_WordsJoined.j0.eq_2 _ _ _ _) ?_
    simp only [if_true]; exact Ev.now _
  · simp only [if_neg h1]
    refine Ev.step (fun k => cellaretlaw2_WordsJoined.j0.eq_2 _ _ _ _) ?_
    by_cases h2 : (b.size : Int) > 500
    · simp only [decide_eq_true h2, if_true]; exact Ev.now _
    · have hs : (a ++ (⟨#[32]⟩ : ByteArray)).size = a.size + 1 := by rw [ByteArray.size_append]; rfl
      simp only [decide_eq_false h2, Bool.false_eq_true, if_false]
      refine Ev.bind (evSplit a (by omega)) (Ev.bind (evSplit b (by omega)) ?_)
      simp only [hs, if_pos (show a.size + 1 ≤ 9223372036854775807 by omega), if_pos (show a.size + 1 + b.size ≤ 9223372036854775807 by omega)]
      have he := evSplit ((a ++ (⟨#[32]⟩ : ByteArray)) ++ b) (by rw [ByteArray.size_append, hs]; omega)
      rw [app_list, app_list, List.append_assoc, show (⟨#[32]⟩ : ByteArray).data.toList ++ b.data.toList = 32 :: b.data.toList from rfl, wl_app, List.map_append] at he
      refine Ev.bind he ?_
      have la := wl_len a.data.toList []
      have lb := wl_len b.data.toList []
      rw [len_eq] at la lb
      simp only [List.length_nil] at la lb
      have hw : wrap64 ((((wl [] a.data.toList).map ba).length : Int) + (((wl [] b.data.toList).map ba).length : Int)) = ((((wl [] a.data.toList).map ba).length : Int) + (((wl [] b.data.toList).map ba).length : Int)) := by
        rw [List.length_map, List.length_map]; unfold wrap64; omega
      rw [hw, List.length_append]
      simp only [show (((((wl [] a.data.toList).map ba).length + ((wl [] b.data.toList).map ba).length : Nat) : Int) = (((wl [] a.data.toList).map ba).length : Int) + (((wl [] b.data.toList).map ba).length : Int)) = True from eq_true (by omega), if_true]
      exact joined_loop _ _ (by rw [List.length_map, List.length_map]; omega) _ 0 (Nat.zero_add _)
end Go.Proofs.YtolbbhpcajepnaaDoor.Pure
