/-
  WordsSplits, plain: the layer's split and the reference's are the same words; put together by single blanks they are split the same. Its condition: the statement's own.
-/
import Derived.Test.YtolbbhpcajepnaaDoorPA
import Derived.Test.YtolbbhpcajepnaaDoorHX23
namespace Go.Proofs.YtolbbhpcajepnaaDoor.Pure
open Go Go.RowKit Go.Proofs.YtolbbhpcajepnaaDoorW.PrintWords Go.Proofs.YtolbbhpcajepnaaDoor.H Go.Proofs.YtolbbhpcajepnaaDoor.L
set_option linter.unusedSimpArgs false
set_option linter.unusedVariables false

theorem bt_get (s : ByteArray) (i : Nat) (h : i < s.size) : bt s (i : Int) = ((s[i]'h).toNat : Int) := by
  unfold bt
  rw [dif_pos (by simpa using h)]
  rfl
theorem drop_get (s : ByteArray) (i : Nat) (h : i < s.size) : s.data.toList.drop i = (s[i]'h) :: s.data.toList.drop (i + 1) := by
  have hl : s.data.toList.length = s.size := Array.length_toList
  rw [List.drop_eq_getElem_cons (by omega)]
  rfl
theorem u8_32 (c : UInt8) : ((c.toNat : Int) = 32) ↔ c = 32 := by
  constructor
  · intro e
    exact UInt8.toNat_inj.1 (show c.toNat = 32 by omega)
  · rintro rfl
    rfl
theorem one_byte (s : ByteArray) (i : Nat) (h : i < s.size) : (s.extract i (i + 1)).data.toList = [s[i]'h] := by
  rw [Lib.extract_data, drop_get s i h]
  simp

theorem refSplit_loop (s : ByteArray) (hs : s.size < 4000000000) : ∀ (d i : Nat) (out : List ByteArray) (w : ByteArray), i + d = s.size → out.length ≤ i → w.size ≤ i →
    Ev (fun k => cellaretref1_Split.l0 k s out w (i : Int)) (out ++ (wl w.data.toList (s.data.toList.drop i)).map ba)
  | 0, i, out, w, hi, ho, hw => by
    refine Ev.step (fun k => cellaretref1_Split.l0.eq_2 _ _ _ _ _) ?_
    have hl : s.data.toList.length = s.size := Array.length_toList
    simp only [if_neg (show ¬ ((i : Int) < (s.size : Int)) by omega)]
    rw [List.drop_of_length_le (by omega)]
    by_cases he : w.toList = []
    · simp only [if_pos he]
      rw [tl] at he
      simpa [wl, he] using Ev.now _
    · simp only [if_neg he, if_pos (show out.length < 8796093022208 by omega)]
      rw [tl] at he
      simpa [wl, he, ba_of] using Ev.now _
  | d + 1, i, out, w, hi, ho, hw => by
    have hlt : i < s.size := by omega
    refine Ev.step (fun k => cellaretref1_Split.l0.eq_2 _ _ _ _ _) ?_
    simp only [if_pos (show (i : Int) < (s.size : Int) by omega), if_pos (show (0 : Int) ≤ (i : Int) by omega), wrap_next (show (0 : Int) ≤ (i : Int) by omega) (by omega), bt_get s i hlt]
    rw [drop_get s i hlt]
    by_cases hc : s[i]'hlt = 32
    · simp only [if_pos ((u8_32 (s[i]'hlt)).2 hc)]
      by_cases he : w.toList = []
      · simp only [if_pos he]
        have h := refSplit_loop s hs d (i + 1) out w (by omega) (by omega) (by omega)
        rw [tl] at he
        simp only [wl, if_pos hc, if_pos he]
        rw [he] at h
        exact h
      · simp only [if_neg he, if_pos (show out.length < 8796093022208 by omega)]
        have h := refSplit_loop s hs d (i + 1) (out ++ [w]) ⟨#[]⟩ (by omega) (by simp; omega) (by show 0 ≤ _; omega)
        rw [tl] at he
        simp only [wl, if_pos hc, if_neg he, List.map_cons, ba_of]
        rw [List.append_assoc, List.singleton_append] at h
        exact h
    · simp only [if_neg (fun e => hc ((u8_32 (s[i]'hlt)).1 e)), if_pos (show (i : Int) ≤ (i : Int) + 1 by omega), if_pos (show (i : Int) + 1 ≤ (s.size : Int) by omega)]
      have ex : s.extract (i : Int).toNat ((i : Int) + 1).toNat = s.extract i (i + 1) := by rw [show ((i : Int) + 1).toNat = i + 1 by omega, Int.toNat_natCast]
      have exs : (s.extract i (i + 1)).size = 1 := by rw [ByteArray.size_extract]; omega
      simp only [ex, exs, if_pos (show w.size + 1 ≤ 9223372036854775807 by omega)]
      have h := refSplit_loop s hs d (i + 1) out (w ++ s.extract i (i + 1)) (by omega) (by omega) (by rw [ByteArray.size_append, exs]; omega)
      have hd : (w ++ s.extract i (i + 1)).data.toList = w.data.toList ++ [s[i]'hlt] := by rw [ByteArray.data_append, Array.toList_append, one_byte s i hlt]
      rw [hd] at h
      simp only [wl, if_neg hc]
      exact h
theorem evRefSplit (s : ByteArray) (hs : s.size < 4000000000) : Ev (fun k => cellaretref1_Split.f k s) ((wl [] s.data.toList).map ba) := by
  unfold cellaretref1_Split.f
  simp only [Nat.zero_le, if_true]
  exact refSplit_loop s hs _ 0 [] ⟨#[]⟩ (Nat.zero_add _) (Nat.le_refl _) (Nat.le_refl _)

/-- What the loop of WordsSplits puts together: the first i words. -/
theorem join_snoc : ∀ (ws : List (List UInt8)) (w : List UInt8), joinW (ws ++ [w]) = if ws = [] then w else joinW ws ++ 32 :: w
  | [], w => rfl
  | [v], w => rfl
  | v :: u :: r, w => by
    have h := join_snoc (u :: r) w
    simp only [List.cons_append, joinW] at h ⊢
    rw [h]
    simp
theorem join_len : ∀ (ws : List (List UInt8)), (joinW ws).length ≤ ws.length + (ws.map List.length).sum
  | [] => by simp [joinW]
  | [v] => by simp [joinW]
  | v :: u :: r => by
    have h := join_len (u :: r)
    simp [joinW] at h ⊢
    omega
theorem wl_sum (l : List UInt8) : ∀ acc, ((wl acc l).map List.length).sum ≤ acc.length + l.length := by
  induction l with
  | nil => intro acc; by_cases e : acc = [] <;> simp [wl, e]
  | cons c r ih =>
    intro acc
    by_cases hc : c = 32
    · have := ih []
      by_cases e : acc = [] <;> simp [wl, hc, e] at this ⊢ <;> omega
    · have := ih (acc ++ [c])
      simp [wl, hc] at this ⊢; omega

theorem mem_sum : ∀ (ws : List (List UInt8)) (w : List UInt8), w ∈ ws → w.length ≤ (ws.map List.length).sum
  | v :: r, w, h => by
    rcases List.mem_cons.1 h with rfl | h
    · simp
    · have := mem_sum r w h
      simp; omega
theorem splits_loop (ws : List (List UInt8)) (hok : ∀ w ∈ ws, w ≠ [] ∧ ∀ c ∈ w, c ≠ 32) (hlen : ws.length ≤ 3000) (hsum : (ws.map List.length).sum ≤ 3000) : ∀ (d i : Nat) (t : ByteArray), i + d = ws.length → t.data.toList = joinW (ws.take i) →
    Ev (fun k => cellaretlaw2_WordsSplits.l0 k (ws.map ba) (ws.map ba) t (i : Int)) true
  | 0, i, t, hi, ht => by
    refine Ev.step (fun k => cellaretlaw2_WordsSplits.l0.eq_2 _ _ _ _ _) ?_
    simp only [if_neg (show ¬ ((i : Int) < ((ws.map ba).length : Int)) by rw [List.length_map]; omega)]
    rw [List.take_of_length_le (by omega)] at ht
    have hl : t.data.toList.length = t.size := Array.length_toList
    have hj := join_len ws
    rw [← ht, hl] at hj
    have h := evSplit t (by omega)
    rw [ht, wl_join ws hok] at h
    refine Ev.bind h ?_
    simpa using Ev.now _
  | d + 1, i, t, hi, ht => by
    have hlt : i < ws.length := by omega
    have hlm : i < (ws.map ba).length := by rw [List.length_map]; exact hlt
    have hl : t.data.toList.length = t.size := Array.length_toList
    have hj := join_len (ws.take i)
    have hsm : ((ws.take i).map List.length).sum ≤ 3000 := by
      have h1 : (ws.map List.length).sum = ((ws.take i).map List.length).sum + ((ws.drop i).map List.length).sum := by
        rw [← List.sum_append, ← List.map_append, List.take_append_drop]
      omega
    have htl := List.length_take_le i ws
    rw [← ht, hl] at hj
    have hw : (ws.map ba)[i]'hlm = ba ws[i] := by simp
    have hws : (ba ws[i]).size ≤ 3000 := by
      have h1 := mem_sum ws ws[i] (List.getElem_mem _)
      have h2 : (ba ws[i]).size = ws[i].length := by simp [ba, ByteArray.size]
      rw [h2]
      omega
    refine Ev.step (fun k => cellaretlaw2_WordsSplits.l0.eq_2 _ _ _ _ _) ?_
    simp only [if_pos (show (i : Int) < ((ws.map ba).length : Int) by omega), if_pos (show (0 : Int) ≤ (i : Int) by omega), rdOf_at ByteArray.empty _ i hlm, hw, if_true]
    have hne := (hok ws[i] (List.getElem_mem _)).1
    rw [show ((ba ws[i]).toList == ([] : List UInt8)) = false by rw [tl_ba]; simpa using hne]
    refine Ev.step (fun k => cellaretlaw2_WordsSplits.j1.eq_2 _ _ _ _ _ _) ?_
    simp only [if_neg (show ¬ (false = true) by simp), if_pos (show (0 : Int) ≤ (i : Int) by omega), if_pos (show (i : Int) < ((ws.map ba).length : Int) by omega), rdOf_at ByteArray.empty _ i hlm, hw, wrap_next (show (0 : Int) ≤ (i : Int) by omega) (by omega)]
    have hsnoc : joinW (ws.take (i + 1)) = if ws.take i = [] then ws[i] else joinW (ws.take i) ++ 32 :: ws[i] := by
      rw [List.take_succ_eq_append_getElem hlt, join_snoc]
    by_cases h0 : i = 0
    · subst h0
      simp only [if_neg (show ¬ (((0 : Nat) : Int) > 0) by omega), if_pos (show t.size + (ba ws[0]).size ≤ 9223372036854775807 by omega)]
      refine splits_loop ws hok hlen hsum d 1 _ (by omega) ?_
      rw [ByteArray.data_append, Array.toList_append, ba_toList, hsnoc, ht]
      simp [joinW]
    · have hx : (t ++ (⟨#[32]⟩ : ByteArray)).size = t.size + 1 := by rw [ByteArray.size_append]; rfl
      simp only [if_pos (show (i : Int) > 0 by omega), if_pos (show t.size + 1 ≤ 9223372036854775807 by omega), hx, if_pos (show t.size + 1 + (ba ws[i]).size ≤ 9223372036854775807 by omega)]
      refine splits_loop ws hok hlen hsum d (i + 1) _ (by omega) ?_
      rw [ByteArray.data_append, ByteArray.data_append, Array.toList_append, Array.toList_append, ba_toList, hsnoc, ht, if_neg (by
        intro e
        have hl2 : (ws.take i).length = i := by rw [List.length_take]; omega
        rw [e] at hl2
        simp at hl2
        omega)]
      simp
theorem WordsSplits : cellaretlaw2_WordsSplits.Pure := by
  intro s hs
  apply Ev.rounds
  refine Ev.bind awakeEv ?_
  simp only [if_true]
  by_cases h : (s.size : Int) > 3000
  · simp only [if_pos h]; exact Ev.now _
  · simp only [if_neg h]
    refine Ev.bind (evSplit s (by omega)) (Ev.bind (evRefSplit s (by omega)) ?_)
    simp only [if_true]
    have hl : s.data.toList.length = s.size := Array.length_toList
    have h1 := wl_len s.data.toList []
    have h2 := wl_sum s.data.toList []
    exact splits_loop _ (wl_ok _ [] (by simp)) (by simp at h1; omega) (by simp at h2 ⊢; omega) _ 0 ⟨#[]⟩ (Nat.zero_add _) rfl
end Go.Proofs.YtolbbhpcajepnaaDoor.Pure
