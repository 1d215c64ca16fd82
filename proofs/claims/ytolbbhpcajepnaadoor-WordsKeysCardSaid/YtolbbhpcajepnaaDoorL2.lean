/-
  Plain laws on texts, rune by rune: the list of a text's runes; the functions of chapter 2 told by it; texts put together. No program, no condition.
-/
import Derived.Test.YtolbbhpcajepnaaDoorU8
import Derived.Test.YtolbbhpcajepnaaDoorG6
namespace Go.Proofs.YtolbbhpcajepnaaDoor.L
open Go Go.Proofs.YtolbbhpcajepnaaDoor.H
set_option linter.unusedSimpArgs false
set_option linter.unusedVariables false

/-- Is the rune that l begins with well formed? -/
def okL (l : List UInt8) : Bool := (Lib.decodeL l).1 != 65533 || decide (1 < (Lib.decodeL l).2)
/-- A text's runes: well formed or not, the number, the bytes. -/
def rsF : Nat → List UInt8 → List (Bool × Nat × List UInt8)
  | 0, _ => []
  | f + 1, l => if l = [] then [] else (okL l, (Lib.decodeL l).1, l.take (Lib.decodeL l).2) :: rsF f (l.drop (Lib.decodeL l).2)
def rs (l : List UInt8) : List (Bool × Nat × List UInt8) := rsF l.length l

theorem wide_pos (l : List UInt8) : 1 ≤ (Lib.decodeL l).2 := by
  rw [Lib.decodeL_N]
  rcases Lib.decodeN_shape l.length (l.getD 0 0).toNat (l.getD 1 0).toNat (l.getD 2 0).toNat (l.getD 3 0).toNat with ⟨c, e⟩ | ⟨c1, c2, c3, cv, e⟩ | ⟨c1, c2, c3, c4, cv, cs, e⟩ | ⟨c1, c2, c3, c4, c5, cv, cw, e⟩ | e
  all_goals rw [e]; simp
theorem rsF_fuel : ∀ (f : Nat) (l : List UInt8), l.length ≤ f → rsF f l = rs l
  | f, l, h => by
    unfold rs
    induction f using Nat.strongRecOn generalizing l with
    | _ f ih =>
      by_cases e : l = []
      · subst e; cases f <;> simp [rsF]
      · have hp := List.length_pos_iff.2 e
        have hw := wide_pos l
        obtain ⟨g, rfl⟩ : ∃ g, f = g + 1 := ⟨f - 1, by omega⟩
        obtain ⟨m, hm⟩ : ∃ m, l.length = m + 1 := ⟨l.length - 1, by omega⟩
        have hd : (l.drop (Lib.decodeL l).2).length ≤ m := by rw [List.length_drop]; omega
        rw [hm]
        simp only [rsF, if_neg e]
        rw [ih g (by omega) _ (by omega)]
        by_cases hmg : m < g + 1
        · rw [ih m hmg _ hd]
        · omega
theorem rs_nil : rs [] = [] := rfl
theorem rs_cons (l : List UInt8) (e : l ≠ []) : rs l = (okL l, (Lib.decodeL l).1, l.take (Lib.decodeL l).2) :: rs (l.drop (Lib.decodeL l).2) := by
  have hp := List.length_pos_iff.2 e
  have hw := wide_pos l
  obtain ⟨m, hm⟩ : ∃ m, l.length = m + 1 := ⟨l.length - 1, by omega⟩
  have h : rs l = rsF (m + 1) l := by rw [rsF_fuel _ _ (by omega)]
  rw [h]
  simp only [rsF, if_neg e]
  rw [rsF_fuel _ _ (by rw [List.length_drop]; omega)]

/-! The walks' functions, told by the runes. -/
theorem len_eq (s : ByteArray) : s.data.toList.length = s.size := Array.length_toList
theorem drop_ne (s : ByteArray) (pos : Nat) : pos < s.size ↔ s.data.toList.drop pos ≠ [] := by
  have := U8.drop_len s pos
  constructor
  · intro h e; rw [e] at this; simp at this; omega
  · intro h
    have := List.length_pos_iff.2 h
    omega
theorem okAt_eq (s : ByteArray) (pos : Nat) : okAt s pos = okL (s.data.toList.drop pos) := by unfold okAt okL; rw [Lib.decodeL_drop]
def keyOk (r : Bool × Nat × List UInt8) : Bool := r.1 && decide (32 < r.2.1) && !(decide (127 ≤ r.2.1) && decide (r.2.1 ≤ 160)) && r.2.1 != 8232 && r.2.1 != 8233
def shR (r : Bool × Nat × List UInt8) : List UInt8 := if r.1 && (decide (32 < r.2.1) && (r.2.1 != 127 && (r.2.1 != 34 && r.2.1 != 92))) then r.2.2 else oct r.2.2
theorem count_rs (s : ByteArray) : ∀ f pos, Lib.runeCountFrom s f pos = (rsF f (s.data.toList.drop pos)).length
  | 0, _ => rfl
  | f + 1, pos => by
    unfold Lib.runeCountFrom
    by_cases h : pos < s.size
    · rw [if_pos h, count_rs s f, rsF, if_neg ((drop_ne s pos).1 h), Lib.decodeL_drop, List.drop_drop, List.length_cons]
      omega
    · rw [if_neg h, rsF, if_pos (Classical.not_not.1 (fun e => h ((drop_ne s pos).2 e)))]
      rfl
theorem ok_rs (s : ByteArray) : ∀ f pos, okFrom s f pos = (rsF f (s.data.toList.drop pos)).all (fun r => r.1)
  | 0, _ => rfl
  | f + 1, pos => by
    unfold okFrom
    by_cases h : pos < s.size
    · rw [if_pos h, ok_rs s f, rsF, if_neg ((drop_ne s pos).1 h), Lib.decodeL_drop, List.drop_drop, List.all_cons, okAt_eq]
    · rw [if_neg h, rsF, if_pos (Classical.not_not.1 (fun e => h ((drop_ne s pos).2 e)))]
      rfl
theorem key_rs (s : ByteArray) : ∀ f pos, keyFrom s f pos = (rsF f (s.data.toList.drop pos)).all keyOk
  | 0, _ => rfl
  | f + 1, pos => by
    unfold keyFrom
    by_cases h : pos < s.size
    · rw [if_pos h, key_rs s f, rsF, if_neg ((drop_ne s pos).1 h), Lib.decodeL_drop, List.drop_drop, List.all_cons]
      congr 1
      unfold keyAt keyOk
      rw [okAt_eq]
    · rw [if_neg h, rsF, if_pos (Classical.not_not.1 (fun e => h ((drop_ne s pos).2 e)))]
      rfl
theorem piece_eq (s : ByteArray) (pos : Nat) : (piece s pos).data.toList = (s.data.toList.drop pos).take (Utf8.decode s pos).2 := by
  unfold piece
  rw [Lib.extract_data]
  congr 1
  omega
theorem shown_rs (s : ByteArray) : ∀ f pos, shownFrom s f pos = (rsF f (s.data.toList.drop pos)).flatMap shR
  | 0, _ => rfl
  | f + 1, pos => by
    unfold shownFrom
    by_cases h : pos < s.size
    · rw [if_pos h, shown_rs s f, rsF, if_neg ((drop_ne s pos).1 h), Lib.decodeL_drop, List.drop_drop, List.flatMap_cons]
      congr 1
      unfold plainAt shR
      rw [okAt_eq, piece_eq]
    · rw [if_neg h, rsF, if_pos (Classical.not_not.1 (fun e => h ((drop_ne s pos).2 e)))]
      rfl
theorem runeCount_eq (s : ByteArray) : Lib.runeCount s = (rs s.data.toList).length := by
  unfold Lib.runeCount rs
  rw [count_rs, List.drop_zero, len_eq]
theorem okAll_eq (s : ByteArray) : okAll s = (rs s.data.toList).all (fun r => r.1) := by
  unfold okAll rs
  rw [ok_rs, List.drop_zero, len_eq]
theorem keyF_eq (s : ByteArray) : keyF s = (!(decide (s.size < 1)) && !(decide (250 < s.size)) && (rs s.data.toList).all keyOk) := by
  unfold keyF rs
  rw [key_rs, List.drop_zero, len_eq]
theorem shownF_eq (s : ByteArray) : shownF s = (rs s.data.toList).flatMap shR := by
  unfold shownF rs
  rw [shown_rs, List.drop_zero, len_eq]

/-! Texts put together. -/
theorem decN_1 {n b0 b1 b2 b3 : Nat} (h : b0 < 128) : Lib.decodeN n b0 b1 b2 b3 = (b0, 1) := by unfold Lib.decodeN; rw [if_pos h]
theorem decN_2 {n b0 b1 b2 b3 : Nat} (h0 : b0 / 32 = 6) (h1 : 1 < n) (h2 : b1 / 64 = 2) (h3 : 128 ≤ b0 % 32 * 64 + b1 % 64) : Lib.decodeN n b0 b1 b2 b3 = (b0 % 32 * 64 + b1 % 64, 2) := by
  unfold Lib.decodeN; rw [if_neg (by omega), if_pos (by omega), if_pos (by omega)]
theorem decN_3 {n b0 b1 b2 b3 : Nat} (h0 : b0 / 16 = 14) (h1 : 2 < n) (h2 : b1 / 64 = 2) (h3 : b2 / 64 = 2) (h4 : 2048 ≤ b0 % 16 * 4096 + b1 % 64 * 64 + b2 % 64) (h5 : b0 % 16 * 4096 + b1 % 64 * 64 + b2 % 64 < 55296 ∨ 57344 ≤ b0 % 16 * 4096 + b1 % 64 * 64 + b2 % 64) :
    Lib.decodeN n b0 b1 b2 b3 = (b0 % 16 * 4096 + b1 % 64 * 64 + b2 % 64, 3) := by
  unfold Lib.decodeN; rw [if_neg (by omega), if_neg (by omega), if_pos (by omega), if_pos (by omega)]
theorem decN_4 {n b0 b1 b2 b3 : Nat} (h0 : b0 / 8 = 30) (h1 : 3 < n) (h2 : b1 / 64 = 2) (h3 : b2 / 64 = 2) (h4 : b3 / 64 = 2) (h5 : 65536 ≤ b0 % 8 * 262144 + b1 % 64 * 4096 + b2 % 64 * 64 + b3 % 64) (h6 : b0 % 8 * 262144 + b1 % 64 * 4096 + b2 % 64 * 64 + b3 % 64 ≤ 1114111) :
    Lib.decodeN n b0 b1 b2 b3 = (b0 % 8 * 262144 + b1 % 64 * 4096 + b2 % 64 * 64 + b3 % 64, 4) := by
  unfold Lib.decodeN; rw [if_neg (by omega), if_neg (by omega), if_neg (by omega), if_pos (by omega), if_pos (by omega)]
theorem getD_app (l r : List UInt8) (i : Nat) (h : i < l.length) : (l ++ r).getD i 0 = l.getD i 0 := by
  rw [List.getD_eq_getElem?_getD, List.getD_eq_getElem?_getD, List.getElem?_append_left h]
/-- A well formed rune is read alike, whatever stands behind it. -/
theorem dec_app (l r : List UInt8) (e : l ≠ []) (h : okL l = true) : Lib.decodeL (l ++ r) = Lib.decodeL l := by
  have hp := List.length_pos_iff.2 e
  unfold okL at h
  rw [Lib.decodeL_N] at h ⊢
  rw [Lib.decodeL_N l]
  rw [List.length_append, getD_app l r 0 hp]
  rcases Lib.decodeN_shape l.length (l.getD 0 0).toNat (l.getD 1 0).toNat (l.getD 2 0).toNat (l.getD 3 0).toNat with ⟨c, e⟩ | ⟨c1, c2, c3, cv, e⟩ | ⟨c1, c2, c3, c4, cv, cs, e⟩ | ⟨c1, c2, c3, c4, c5, cv, cw, e⟩ | e
  · rw [e, decN_1 c]
  · rw [e, getD_app l r 1 c2, decN_2 c1 (by omega) c3 cv]
  · rw [e, getD_app l r 1 (by omega), getD_app l r 2 (by omega), decN_3 c1 (by omega) c3 c4 cv cs]
  · rw [e, getD_app l r 1 (by omega), getD_app l r 2 (by omega), getD_app l r 3 (by omega), decN_4 c1 (by omega) c3 c4 c5 cv cw]
  · rw [e] at h
    simp at h
theorem rs_app (r : List UInt8) : ∀ (n : Nat) (l : List UInt8), l.length ≤ n → (rs l).all (fun x => x.1) = true → rs (l ++ r) = rs l ++ rs r
  | n, l, hn, h => by
    by_cases e : l = []
    · subst e; rfl
    · have hp := List.length_pos_iff.2 e
      have hw := wide_pos l
      have hle := Lib.decodeL_le l e
      obtain ⟨m, rfl⟩ : ∃ m, n = m + 1 := ⟨n - 1, by omega⟩
      rw [rs_cons l e, List.all_cons, Bool.and_eq_true] at h
      have hd := dec_app l r e h.1
      have hk : okL (l ++ r) = okL l := by unfold okL; rw [hd]
      rw [rs_cons (l ++ r) (by simp [e]), rs_cons l e, hk, hd, List.take_append_of_le_length hle, List.drop_append_of_le_length hle, rs_app r m _ (by rw [List.length_drop]; omega) h.2]
      rfl
end Go.Proofs.YtolbbhpcajepnaaDoor.L
