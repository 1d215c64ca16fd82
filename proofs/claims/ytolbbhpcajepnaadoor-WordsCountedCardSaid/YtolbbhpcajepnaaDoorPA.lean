/-
  The plain parts of the words laws: words between blanks, runs of bytes, the reference answers. Their conditions: the statements' own.
-/
import Derived.Lib.SplitLaws
import Derived.Lib.CutLaws
import Derived.Lib.CountLaws
import Derived.Lib.IndexLaws
import Derived.Lib.IndexBytes
import Derived.Test.YtolbbhpcajepnaaDoorU8
import Derived.Test.YtolbbhpcajepnaaDoorG6
import Derived.Test.YtolbbhpcajepnaaDoorHX9
import Derived.Test.YtolbbhpcajepnaaDoorHX22
import Derived.Test.YtolbbhpcajepnaaDoorHX16
import Derived.Test.YtolbbhpcajepnaaDoorHX17
import Derived.Test.YtolbbhpcajepnaaDoorHX18
import Derived.Laws.BitsLemmas
import Derived.Lib.ItoaNum
import Derived.Test.YtolbbhpcajepnaaDoorHX14
namespace Go.Proofs.YtolbbhpcajepnaaDoor.Pure
open Go Go.RowKit Go.Proofs.YtolbbhpcajepnaaDoorW.PrintWords Go.Proofs.YtolbbhpcajepnaaDoor.H
set_option linter.unusedSimpArgs false
set_option linter.unusedVariables false
set_option maxRecDepth 100000
theorem text120 : words_Text.f 120 = some ⟨#[49, 50, 48]⟩ := by
  unfold words_Text.f strconv_FormatUint.f
  rw [if_pos (by omega), show Int.toNat 120 = 120 from rfl, Lib.decDigits, dif_neg (by omega), Lib.decDigits, dif_neg (by omega), Lib.decDigits, dif_pos (by omega)]
  rfl
theorem split1 : words_Split.f 50 ⟨#[103, 101, 116, 32, 32, 97, 32, 98, 32]⟩ = some [⟨#[103, 101, 116]⟩, ⟨#[97]⟩, ⟨#[98]⟩] := by kernel_rfl
theorem num007 : words_Number.f ⟨#[48, 48, 55]⟩ = some (7, true) := by kernel_rfl
theorem signed5 : words_Signed.f 50 ⟨#[45, 53]⟩ = some (-5, true) := by kernel_rfl
theorem runesA : words_Runes.f ⟨#[97, 255]⟩ = some (2, false) := by kernel_rfl
theorem keyA : words_Key.f ⟨#[97]⟩ = some true := by kernel_rfl
theorem keyAB : words_Key.f ⟨#[97, 32, 98]⟩ = some false := by kernel_rfl
theorem shownAB : words_Shown.f ⟨#[97, 32, 98]⟩ = some ⟨#[97, 92, 48, 52, 48, 98]⟩ := by kernel_rfl
theorem awake50 : cellaretlaw2_awake.f 50 = some true := by
  unfold cellaretlaw2_awake.f
  rw [split1, num007, signed5, runesA, keyA, keyAB, text120, shownAB]
  kernel_rfl
theorem awakeEv : Ev (fun k => cellaretlaw2_awake.f k) true := Ev.of cellaretlaw2_awake.mono awake50
end Go.Proofs.YtolbbhpcajepnaaDoor.Pure

namespace Go.Proofs.YtolbbhpcajepnaaDoor.L
open Go
set_option linter.unusedSimpArgs false
set_option linter.unusedVariables false

/-- The words of a line, acc ahead of it. -/
def wl (acc : List UInt8) : List UInt8 → List (List UInt8)
  | [] => if acc = [] then [] else [acc]
  | c :: r => if c = 32 then (if acc = [] then wl [] r else acc :: wl [] r) else wl (acc ++ [c]) r
/-- The pieces between blanks. -/
def pc (acc : List UInt8) : List UInt8 → List (List UInt8)
  | [] => [acc]
  | c :: r => if c = 32 then acc :: pc [] r else pc (acc ++ [c]) r

theorem wl_pc (l : List UInt8) : ∀ acc, wl acc l = (pc acc l).filter (fun w => w ≠ []) := by
  induction l with
  | nil => intro acc; by_cases h : acc = [] <;> simp [wl, pc, h]
  | cons c r ih =>
    intro acc
    by_cases hc : c = 32
    · by_cases h : acc = [] <;> simp [wl, pc, h, hc, ih]
    · simp [wl, pc, hc, ih]

theorem pc_none (l : List UInt8) : ∀ acc, (∀ c ∈ l, c ≠ 32) → pc acc l = [acc ++ l] := by
  induction l with
  | nil => intro acc _; simp [pc]
  | cons c r ih =>
    intro acc h
    have hc : c ≠ 32 := h c (by simp)
    simp only [pc, if_neg hc]
    rw [ih _ (fun d hd => h d (by simp [hd]))]
    simp
theorem pc_hit (l r : List UInt8) : ∀ acc, (∀ c ∈ l, c ≠ 32) → pc acc (l ++ 32 :: r) = (acc ++ l) :: pc [] r := by
  induction l with
  | nil => intro acc _; simp [pc]
  | cons c l ih =>
    intro acc h
    have hc : c ≠ 32 := h c (by simp)
    simp only [List.cons_append, pc, if_neg hc]
    rw [ih _ (fun d hd => h d (by simp [hd]))]
    simp
theorem wl_word (l : List UInt8) : ∀ acc, (∀ c ∈ l, c ≠ 32) → wl acc l = if acc ++ l = [] then [] else [acc ++ l] := by
  intro acc h
  rw [wl_pc, pc_none l acc h]
  by_cases e : acc ++ l = [] <;> simp [e]
theorem wl_app (l r : List UInt8) : ∀ acc, wl acc (l ++ 32 :: r) = wl acc l ++ wl [] r := by
  induction l with
  | nil => intro acc; by_cases h : acc = [] <;> simp [wl, h]
  | cons c l ih =>
    intro acc
    by_cases hc : c = 32
    · by_cases h : acc = [] <;> simp [wl, h, hc, ih]
    · simp [wl, hc, ih]
/-- Each word is one: not empty, without a blank. -/
theorem wl_ok (l : List UInt8) : ∀ acc, (∀ c ∈ acc, c ≠ 32) → ∀ w ∈ wl acc l, w ≠ [] ∧ ∀ c ∈ w, c ≠ 32 := by
  induction l with
  | nil =>
    intro acc h w hw
    by_cases e : acc = []
    · simp [wl, e] at hw
    · simp [wl, e] at hw; subst hw; exact ⟨e, h⟩
  | cons c r ih =>
    intro acc h w hw
    by_cases hc : c = 32
    · by_cases e : acc = []
      · simp only [wl, if_pos hc, if_pos e] at hw
        exact ih [] (by simp) w hw
      · simp only [wl, if_pos hc, if_neg e] at hw
        rcases List.mem_cons.1 hw with rfl | hw
        · exact ⟨e, h⟩
        · exact ih [] (by simp) w hw
    · simp only [wl, if_neg hc] at hw
      refine ih _ (fun d hd => ?_) w hw
      rcases List.mem_append.1 hd with hd | hd
      · exact h d hd
      · simp at hd; subst hd; exact hc
/-- Words put together by single blanks. -/
def joinW : List (List UInt8) → List UInt8
  | [] => []
  | [w] => w
  | w :: v :: r => w ++ 32 :: joinW (v :: r)
theorem wl_join : ∀ ws : List (List UInt8), (∀ w ∈ ws, w ≠ [] ∧ ∀ c ∈ w, c ≠ 32) → wl [] (joinW ws) = ws
  | [], _ => rfl
  | [w], h => by
    obtain ⟨h1, h2⟩ := h w (by simp)
    rw [joinW, wl_word w [] h2]
    simp [h1]
  | w :: v :: r, h => by
    obtain ⟨h1, h2⟩ := h w (by simp)
    rw [joinW, wl_app, wl_word w [] h2, wl_join (v :: r) (fun u hu => h u (by simp [hu]))]
    simp [h1]
theorem wl_len (l : List UInt8) : ∀ acc, (wl acc l).length ≤ acc.length + l.length := by
  induction l with
  | nil =>
    intro acc
    by_cases e : acc = []
    · simp [wl, e]
    · have := List.length_pos_iff.2 e
      simp [wl, e]; omega
  | cons c r ih =>
    intro acc
    by_cases hc : c = 32
    · by_cases e : acc = []
      · have := ih []
        simp [wl, hc, e] at this ⊢; omega
      · have := ih []
        have h1 := List.length_pos_iff.2 e
        simp [wl, hc, e] at this ⊢; omega
    · have := ih (acc ++ [c])
      simp [wl, hc] at this ⊢; omega
theorem pc_len (l : List UInt8) : ∀ acc, (pc acc l).length ≤ 1 + l.length := by
  induction l with
  | nil => intro acc; simp [pc]
  | cons c r ih =>
    intro acc
    by_cases hc : c = 32
    · have := ih []; simp [pc, hc]; omega
    · have := ih (acc ++ [c]); simp [pc, hc]; omega

/-! The library's split at a blank is these pieces. -/
def ba (l : List UInt8) : ByteArray := ⟨l.toArray⟩
theorem ba_toList (l : List UInt8) : (ba l).data.toList = l := by simp [ba]
theorem ba_of (s : ByteArray) : ba s.data.toList = s := by cases s; simp [ba]
def sp : ByteArray := ⟨#[32]⟩
theorem sp_list : sp.data.toList = [32] := rfl
theorem index_sp (s : ByteArray) : Lib.indexB s sp = Lib.indexByte s.data.toList 32 := Lib.index_one _ _
theorem split_pc : ∀ (n : Nat) (s : ByteArray), s.size ≤ n → Lib.splitB sp 0 (Lib.countB s sp) s = (pc [] s.data.toList).map ba
  | n, s, hn => by
    rcases Lib.indexB_cases s sp with hix | ⟨i, hix, hroom⟩
    · rw [Lib.countB_miss s sp hix, Lib.splitB_zero, pc_none]
      · simp [ba_of]
      · intro c hc e
        rw [index_sp] at hix
        obtain ⟨k, hk, hck⟩ := List.getElem_of_mem hc
        exact Lib.indexByte_none hix k (by rw [List.getElem?_eq_getElem hk, hck, e])
    · have hsz : sp.size = 1 := rfl
      rw [hsz] at hroom
      rw [Lib.countB_hit s sp i (by rw [hsz]; omega) hix, Nat.add_comm 1, Lib.splitB_hit sp 0 _ s i hix, hsz]
      have hl : s.data.toList.length = s.size := Array.length_toList
      obtain ⟨m, rfl⟩ : ∃ m, n = m + 1 := ⟨n - 1, by omega⟩
      rw [split_pc m (s.extract (i + 1) s.size) (by rw [ByteArray.size_extract]; omega)]
      rw [index_sp] at hix
      obtain ⟨h1, h2⟩ := Lib.indexByte_some hix
      have hdec : s.data.toList = s.data.toList.take i ++ 32 :: s.data.toList.drop (i + 1) := by
        have hi : i < s.data.toList.length := by omega
        rw [List.getElem?_eq_getElem hi] at h1
        rw [← Option.some.inj h1, ← List.drop_eq_getElem_cons hi, List.take_append_drop]
      have h3 : pc [] s.data.toList = s.data.toList.take i :: pc [] (s.data.toList.drop (i + 1)) := by
        conv => lhs; rw [hdec]
        rw [pc_hit]
        · simp
        · intro c hc e
          obtain ⟨k, hk, hck⟩ := List.getElem_of_mem hc
          rw [List.length_take] at hk
          rw [List.getElem_take] at hck
          exact h2 k (by omega) (by rw [List.getElem?_eq_getElem (by omega), hck, e])
      rw [h3, List.map_cons]
      congr 1
      · rw [← ba_of (s.extract 0 (i + 0)), Lib.extract_data]
        simp
      · congr 2
        rw [Lib.extract_to_end]
end Go.Proofs.YtolbbhpcajepnaaDoor.L

namespace Go.Proofs.YtolbbhpcajepnaaDoor.L
open Go Go.Proofs.YtolbbhpcajepnaaDoor.H
set_option linter.unusedSimpArgs false
set_option linter.unusedVariables false

/-- Is the rune that l begins with well formed? -/
def okL (l : List UInt8) : Bool := (Lib.decodeL l).1 != 65533 || decide (1 < (Lib.decodeL l).2)
/-- A text's runes: well formed or not, the number, the bytes. -/
def rsF : Nat → List UInt8 → List (Bool × Nat × List UInt8)
  | 0, _ => []
  | f + 1, l => if l = [] then [] else (okL l, (Lib.decodeL l).1, l.take (Lib.decodeL l).2) :: rsF f (l.drop (Lib.decodeL l).2)
def rs (l : List UInt8) : List (Bool × Nat × List UInt8) := rsF l.length l

theorem wide_pos (l : List UInt8) : 1 ≤ (Lib.decodeL l).2 := by
  rw [Lib.decodeL_N]
  rcases Lib.decodeN_shape l.length (l.getD 0 0).toNat (l.getD 1 0).toNat (l.getD 2 0).toNat (l.getD 3 0).toNat with ⟨c, e⟩ | ⟨c1, c2, c3, cv, e⟩ | ⟨c1, c2, c3, c4, cv, cs, e⟩ | ⟨c1, c2, c3, c4, c5, cv, cw, e⟩ | e
  all_goals rw [e]; simp
theorem rsF_fuel : ∀ (f : Nat) (l : List UInt8), l.length ≤ f → rsF f l = rs l
  | f, l, h => by
    unfold rs
    induction f using Nat.strongRecOn generalizing l with
    | _ f ih =>
      by_cases e : l = []
      · subst e; cases f <;> simp [rsF]
      · have hp := List.length_pos_iff.2 e
        have hw := wide_pos l
        obtain ⟨g, rfl⟩ : ∃ g, f = g + 1 := ⟨f - 1, by omega⟩
        obtain ⟨m, hm⟩ : ∃ m, l.length = m + 1 := ⟨l.length - 1, by omega⟩
        have hd : (l.drop (Lib.decodeL l).2).length ≤ m := by rw [List.length_drop]; omega
        rw [hm]
        simp only [rsF, if_neg e]
        rw [ih g (by omega) _ (by omega)]
        by_cases hmg : m < g + 1
        · rw [ih m hmg _ hd]
        · omega
theorem rs_nil : rs [] = [] := rfl
theorem rs_cons (l : List UInt8) (e : l ≠ []) : rs l = (okL l, (Lib.decodeL l).1, l.take (Lib.decodeL l).2) :: rs (l.drop (Lib.decodeL l).2) := by
  have hp := List.length_pos_iff.2 e
  have hw := wide_pos l
  obtain ⟨m, hm⟩ : ∃ m, l.length = m + 1 := ⟨l.length - 1, by omega⟩
  have h : rs l = rsF (m + 1) l := by rw [rsF_fuel _ _ (by omega)]
  rw [h]
  simp only [rsF, if_neg e]
  rw [rsF_fuel _ _ (by rw [List.length_drop]; omega)]

/-! The walks' functions, told by the runes. -/
theorem len_eq (s : ByteArray) : s.data.toList.length = s.size := Array.length_toList
theorem drop_ne (s : ByteArray) (pos : Nat) : pos < s.size ↔ s.data.toList.drop pos ≠ [] := by
  have := U8.drop_len s pos
  constructor
  · intro h e; rw [e] at this; simp at this; omega
  · intro h
    have := List.length_pos_iff.2 h
    omega
theorem okAt_eq (s : ByteArray) (pos : Nat) : okAt s pos = okL (s.data.toList.drop pos) := by unfold okAt okL; rw [Lib.decodeL_drop]
def keyOk (r : Bool × Nat × List UInt8) : Bool := r.1 && decide (32 < r.2.1) && !(decide (127 ≤ r.2.1) && decide (r.2.1 ≤ 160)) && r.2.1 != 8232 && r.2.1 != 8233
def shR (r : Bool × Nat × List UInt8) : List UInt8 := if r.1 && (decide (32 < r.2.1) && (r.2.1 != 127 && (r.2.1 != 34 && r.2.1 != 92))) then r.2.2 else oct r.2.2
theorem count_rs (s : ByteArray) : ∀ f pos, Lib.runeCountFrom s f pos = (rsF f (s.data.toList.drop pos)).length
  | 0, _ => rfl
  | f + 1, pos => by
    unfold Lib.runeCountFrom
    by_cases h : pos < s.size
    · rw [if_pos h, count_rs s f, rsF, if_neg ((drop_ne s pos).1 h), Lib.decodeL_drop, List.drop_drop, List.length_cons]
      omega
    · rw [if_neg h, rsF, if_pos (Classical.not_not.1 (fun e => h ((drop_ne s pos).2 e)))]
      rfl
theorem ok_rs (s : ByteArray) : ∀ f pos, okFrom s f pos = (rsF f (s.data.toList.drop pos)).all (fun r => r.1)
  | 0, _ => rfl
  | f + 1, pos => by
    unfold okFrom
    by_cases h : pos < s.size
    · rw [if_pos h, ok_rs s f, rsF, if_neg ((drop_ne s pos).1 h), Lib.decodeL_drop, List.drop_drop, List.all_cons, okAt_eq]
    · rw [if_neg h, rsF, if_pos (Classical.not_not.1 (fun e => h ((drop_ne s pos).2 e)))]
      rfl
theorem key_rs (s : ByteArray) : ∀ f pos, keyFrom s f pos = (rsF f (s.data.toList.drop pos)).all keyOk
  | 0, _ => rfl
  | f + 1, pos => by
    unfold keyFrom
    by_cases h : pos < s.size
    · rw [if_pos h, key_rs s f, rsF, if_neg ((drop_ne s pos).1 h), Lib.decodeL_drop, List.drop_drop, List.all_cons]
      congr 1
      unfold keyAt keyOk
      rw [okAt_eq]
    · rw [if_neg h, rsF, if_pos (Classical.not_not.1 (fun e => h ((drop_ne s pos).2 e)))]
      rfl
theorem piece_eq (s : ByteArray) (pos : Nat) : (piece s pos).data.toList = (s.data.toList.drop pos).take (Utf8.decode s pos).2 := by
  unfold piece
  rw [Lib.extract_data]
  congr 1
  omega
theorem shown_rs (s : ByteArray) : ∀ f pos, shownFrom s f pos = (rsF f (s.data.toList.drop pos)).flatMap shR
  | 0, _ => rfl
  | f + 1, pos => by
    unfold shownFrom
    by_cases h : pos < s.size
    · rw [if_pos h, shown_rs s f, rsF, if_neg ((drop_ne s pos).1 h), Lib.decodeL_drop, List.drop_drop, List.flatMap_cons]
      congr 1
      unfold plainAt shR
      rw [okAt_eq, piece_eq]
    · rw [if_neg h, rsF, if_pos (Classical.not_not.1 (fun e => h ((drop_ne s pos).2 e)))]
      rfl
theorem runeCount_eq (s : ByteArray) : Lib.runeCount s = (rs s.data.toList).length := by
  unfold Lib.runeCount rs
  rw [count_rs, List.drop_zero, len_eq]
theorem okAll_eq (s : ByteArray) : okAll s = (rs s.data.toList).all (fun r => r.1) := by
  unfold okAll rs
  rw [ok_rs, List.drop_zero, len_eq]
theorem keyF_eq (s : ByteArray) : keyF s = (!(decide (s.size < 1)) && !(decide (250 < s.size)) && (rs s.data.toList).all keyOk) := by
  unfold keyF rs
  rw [key_rs, List.drop_zero, len_eq]
theorem shownF_eq (s : ByteArray) : shownF s = (rs s.data.toList).flatMap shR := by
  unfold shownF rs
  rw [shown_rs, List.drop_zero, len_eq]

/-! Texts put together. -/
theorem decN_1 {n b0 b1 b2 b3 : Nat} (h : b0 < 128) : Lib.decodeN n b0 b1 b2 b3 = (b0, 1) := by unfold Lib.decodeN; rw [if_pos h]
theorem decN_2 {n b0 b1 b2 b3 : Nat} (h0 : b0 / 32 = 6) (h1 : 1 < n) (h2 : b1 / 64 = 2) (h3 : 128 ≤ b0 % 32 * 64 + b1 % 64) : Lib.decodeN n b0 b1 b2 b3 = (b0 % 32 * 64 + b1 % 64, 2) := by
  unfold Lib.decodeN; rw [if_neg (by omega), if_pos (by omega), if_pos (by omega)]
theorem decN_3 {n b0 b1 b2 b3 : Nat} (h0 : b0 / 16 = 14) (h1 : 2 < n) (h2 : b1 / 64 = 2) (h3 : b2 / 64 = 2) (h4 : 2048 ≤ b0 % 16 * 4096 + b1 % 64 * 64 + b2 % 64) (h5 : b0 % 16 * 4096 + b1 % 64 * 64 + b2 % 64 < 55296 ∨ 57344 ≤ b0 % 16 * 4096 + b1 % 64 * 64 + b2 % 64) :
    Lib.decodeN n b0 b1 b2 b3 = (b0 % 16 * 4096 + b1 % 64 * 64 + b2 % 64, 3) := by
  unfold Lib.decodeN; rw [if_neg (by omega), if_neg (by omega), if_pos (by omega), if_pos (by omega)]
theorem decN_4 {n b0 b1 b2 b3 : Nat} (h0 : b0 / 8 = 30) (h1 : 3 < n) (h2 : b1 / 64 = 2) (h3 : b2 / 64 = 2) (h4 : b3 / 64 = 2) (h5 : 65536 ≤ b0 % 8 * 262144 + b1 % 64 * 4096 + b2 % 64 * 64 + b3 % 64) (h6 : b0 % 8 * 262144 + b1 % 64 * 4096 + b2 % 64 * 64 + b3 % 64 ≤ 1114111) :
    Lib.decodeN n b0 b1 b2 b3 = (b0 % 8 * 262144 + b1 % 64 * 4096 + b2 % 64 * 64 + b3 % 64, 4) := by
  unfold Lib.decodeN; rw [if_neg (by omega), if_neg (by omega), if_neg (by omega), if_pos (by omega), if_pos (by omega)]
theorem getD_app (l r : List UInt8) (i : Nat) (h : i < l.length) : (l ++ r).getD i 0 = l.getD i 0 := by
  rw [List.getD_eq_getElem?_getD, List.getD_eq_getElem?_getD, List.getElem?_append_left h]
/-- A well formed rune is read alike, whatever stands behind it. -/
theorem dec_app (l r : List UInt8) (e : l ≠ []) (h : okL l = true) : Lib.decodeL (l ++ r) = Lib.decodeL l := by
  have hp := List.length_pos_iff.2 e
  unfold okL at h
  rw [Lib.decodeL_N] at h ⊢
  rw [Lib.decodeL_N l]
  rw [List.length_append, getD_app l r 0 hp]
  rcases Lib.decodeN_shape l.length (l.getD 0 0).toNat (l.getD 1 0).toNat (l.getD 2 0).toNat (l.getD 3 0).toNat with ⟨c, e⟩ | ⟨c1, c2, c3, cv, e⟩ | ⟨c1, c2, c3, c4, cv, cs, e⟩ | ⟨c1, c2, c3, c4, c5, cv, cw, e⟩ | e
  · rw [e, decN_1 c]
  · rw [e, getD_app l r 1 c2, decN_2 c1 (by omega) c3 cv]
  · rw [e, getD_app l r 1 (by omega), getD_app l r 2 (by omega), decN_3 c1 (by omega) c3 c4 cv cs]
  · rw [e, getD_app l r 1 (by omega), getD_app l r 2 (by omega), getD_app l r 3 (by omega), decN_4 c1 (by omega) c3 c4 c5 cv cw]
  · rw [e] at h
    simp at h
theorem rs_app (r : List UInt8) : ∀ (n : Nat) (l : List UInt8), l.length ≤ n → (rs l).all (fun x => x.1) = true → rs (l ++ r) = rs l ++ rs r
  | n, l, hn, h => by
    by_cases e : l = []
    · subst e; rfl
    · have hp := List.length_pos_iff.2 e
      have hw := wide_pos l
      have hle := Lib.decodeL_le l e
      obtain ⟨m, rfl⟩ : ∃ m, n = m + 1 := ⟨n - 1, by omega⟩
      rw [rs_cons l e, List.all_cons, Bool.and_eq_true] at h
      have hd := dec_app l r e h.1
      have hk : okL (l ++ r) = okL l := by unfold okL; rw [hd]
      rw [rs_cons (l ++ r) (by simp [e]), rs_cons l e, hk, hd, List.take_append_of_le_length hle, List.drop_append_of_le_length hle, rs_app r m _ (by rw [List.length_drop]; omega) h.2]
      rfl
end Go.Proofs.YtolbbhpcajepnaaDoor.L

namespace Go.Proofs.YtolbbhpcajepnaaDoor.Pure
open Go Go.RowKit Go.Proofs.YtolbbhpcajepnaaDoorW.PrintWords Go.Proofs.YtolbbhpcajepnaaDoor.H Go.Proofs.YtolbbhpcajepnaaDoor.L
set_option linter.unusedSimpArgs false
set_option linter.unusedVariables false

theorem wrap_next {i : Int} (h0 : 0 ≤ i) (h : i < 140737488355328) : wrap64 (i + 1) = i + 1 := by unfold wrap64; omega
theorem rdOf_at {α : Type} (d : α) (xs : List α) (i : Nat) (h : i < xs.length) : rdOf d xs (i : Int) = xs[i] := by
  unfold rdOf
  rw [Int.toNat_natCast, List.getD_eq_getElem?_getD, List.getElem?_eq_getElem h]
  rfl
theorem tl (s : ByteArray) : s.toList = s.data.toList := ByteArray.toList_eq s
theorem tl_ba (l : List UInt8) : (ba l).toList = l := by rw [tl, ba_toList]

theorem split_loop (xs : List ByteArray) (hxs : xs.length < 8000000000000) : ∀ (d i : Nat) (out : List ByteArray), i + d = xs.length → out.length ≤ i →
    Ev (fun k => words_Split.l0 k out xs (xs.length : Int) (i : Int)) (out ++ (xs.drop i).filter (fun s => decide (s.toList ≠ [])))
  | 0, i, out, hi, ho => by
    refine Ev.step (fun k => words_Split.l0.eq_2 _ _ _ _ _) ?_
    simp only [if_neg (show ¬ ((i : Int) < (xs.length : Int)) by omega)]
    rw [List.drop_of_length_le (by omega)]
    simpa using Ev.now _
  | d + 1, i, out, hi, ho => by
    have hlt : i < xs.length := by omega
    refine Ev.step (fun k => words_Split.l0.eq_2 _ _ _ _ _) ?_
    simp only [if_pos (show (i : Int) < (xs.length : Int) by omega), if_pos (show (0 : Int) ≤ (i : Int) by omega), rdOf_at ByteArray.empty xs i hlt, wrap_next (show (0 : Int) ≤ (i : Int) by omega) (by omega)]
    rw [List.drop_eq_getElem_cons hlt]
    by_cases he : xs[i].toList = []
    · simp only [if_pos he]
      have h := split_loop xs hxs d (i + 1) out (by omega) (by omega)
      rw [List.filter_cons, if_neg (by simp [he])]
      exact h
    · simp only [if_neg he, if_pos (show out.length < 8796093022208 by omega)]
      have h := split_loop xs hxs d (i + 1) (out ++ [xs[i]]) (by omega) (by simp; omega)
      rw [List.append_assoc, List.singleton_append] at h
      rw [List.filter_cons, if_pos (by simpa using he)]
      exact h
theorem evSplit (s : ByteArray) (hs : s.size < 4000000000) : Ev (fun k => words_Split.f k s) ((wl [] s.data.toList).map ba) := by
  have hp : strings_Split.f s ⟨#[32]⟩ = some ((pc [] s.data.toList).map ba) := by
    unfold strings_Split.f
    rw [if_pos ⟨by omega, by show 1 ≤ 1; omega⟩]
    exact congrArg some (split_pc s.size s (Nat.le_refl _))
  have hl : s.data.toList.length = s.size := Array.length_toList
  have hlen : ((pc [] s.data.toList).map ba).length < 8000000000000 := by
    have := pc_len s.data.toList []
    rw [List.length_map]; omega
  have h := split_loop _ hlen _ 0 [] (Nat.zero_add _) (Nat.le_refl _)
  unfold words_Split.f
  simp only [hp, Option.bind_some]
  rw [wl_pc]
  refine Ev.congr (fun k => rfl) ?_
  have e : ([] : List ByteArray) ++ (((pc [] s.data.toList).map ba).drop 0).filter (fun s => decide (s.toList ≠ [])) = ((pc [] s.data.toList).filter (fun w => decide (w ≠ []))).map ba := by
    rw [List.nil_append, List.drop_zero, List.filter_map]
    congr 1
    apply List.filter_congr
    intro w _
    simp [tl_ba]
  rw [e] at h
  exact h
end Go.Proofs.YtolbbhpcajepnaaDoor.Pure

namespace Go.Proofs.YtolbbhpcajepnaaDoor.Pure
open Go Go.RowKit Go.Proofs.YtolbbhpcajepnaaDoorW.PrintWords Go.Proofs.YtolbbhpcajepnaaDoor.H Go.Proofs.YtolbbhpcajepnaaDoor.L
set_option linter.unusedSimpArgs false
set_option linter.unusedVariables false

/-- A byte of a text, 0 behind its end. -/
def by_ (s : ByteArray) (i : Nat) : Nat := (s.data.toList.getD i 0).toNat
theorem by_lt (s : ByteArray) (i : Nat) : by_ s i < 256 := (s.data.toList.getD i 0).toNat_lt
theorem bt_by (s : ByteArray) (i : Nat) (h : i < s.size) : bt s (i : Int) = (by_ s i : Int) := by
  unfold bt by_
  rw [dif_pos (by simpa using h), List.getD_eq_getElem?_getD, List.getElem?_eq_getElem (by rw [len_eq]; exact h)]
  rfl
theorem and192 : ∀ x : Fin 256, (Go.bits .and .u8 ((x.val : Nat) : Int) 192 = 128) ↔ x.val / 64 = 2 := by
  intro x
  have h : Go.bits .and .u8 ((x.val : Nat) : Int) 192 = ((x.val / 64 * 64 : Nat) : Int) := by
    revert x; decide +kernel
  rw [h]; omega
theorem and63 (x : Nat) (h : x < 256) : Go.bits .and .u8 (x : Int) 63 = ((x % 64 : Nat) : Int) := by rw [u8_and63 (x := (x : Int)) (by omega) (by omega)]; omega
theorem wraps_i64 (n : Int) (h₀ : 0 ≤ n) (h₁ : n < 2 ^ 62) : IntKind.i64.wrap n = n := by rw [IntKind.wrap_i64]; omega
theorem and31 (x : Nat) (h : x < 256) : Go.bits .and .i64 (x : Int) 31 = ((x % 32 : Nat) : Int) := by
  have := bits_mask .i64 62 (by decide) wraps_i64 5 (by decide) (x : Int) (by omega) (by omega)
  rw [show ((2 : Int) ^ 5 - 1) = 31 from rfl] at this
  rw [this]; omega
theorem and15 (x : Nat) (h : x < 256) : Go.bits .and .i64 (x : Int) 15 = ((x % 16 : Nat) : Int) := by
  have := bits_mask .i64 62 (by decide) wraps_i64 4 (by decide) (x : Int) (by omega) (by omega)
  rw [show ((2 : Int) ^ 4 - 1) = 15 from rfl] at this
  rw [this]; omega
theorem and7 (x : Nat) (h : x < 256) : Go.bits .and .i64 (x : Int) 7 = ((x % 8 : Nat) : Int) := by
  have := bits_mask .i64 62 (by decide) wraps_i64 3 (by decide) (x : Int) (by omega) (by omega)
  rw [show ((2 : Int) ^ 3 - 1) = 7 from rfl] at this
  rw [this]; omega
theorem or64 (v b : Nat) (hv : v < 1048576) (hb : b < 64) : Go.bits .or .i64 (wrap64 ((v : Int) * 64)) (wrap64 (b : Int)) = ((v * 64 + b : Nat) : Int) := by
  rw [show wrap64 ((v : Int) * 64) = (v : Int) * 64 by unfold wrap64; omega, show wrap64 (b : Int) = (b : Int) by unfold wrap64; omega]
  have := bits_join .i64 62 (by decide) wraps_i64 6 ((v : Int) * 64) (b : Int) (by omega) (by omega) (by omega) (by omega) (by omega) (by omega)
  rw [this]; omega

def finR (v n lo : Nat) : Int × Int := if v < lo ∨ 1114111 < v ∨ (55296 ≤ v ∧ v < 57344) then (-1, 1) else ((v : Int), (n : Int))
theorem l0_end (s : ByteArray) (n lo v i : Nat) (h : ¬ i < n) : Ev (fun k => cellaretref1_rune1.l0 k s (n : Int) (lo : Int) (v : Int) (i : Int)) (finR v n lo) := by
  refine Ev.step (fun k => cellaretref1_rune1.l0.eq_2 _ _ _ _ _ _) ?_
  simp only [if_neg (show ¬ (i : Int) < (n : Int) by omega)]
  unfold finR
  by_cases h1 : v < lo
  · simp only [if_pos (show (v : Int) < (lo : Int) by omega), if_pos (show v < lo ∨ 1114111 < v ∨ (55296 ≤ v ∧ v < 57344) from .inl h1)]; exact Ev.now _
  · simp only [if_neg (show ¬ (v : Int) < (lo : Int) by omega)]
    by_cases h2 : 1114111 < v
    · simp only [if_pos (show (v : Int) > 1114111 by omega), if_pos (show v < lo ∨ 1114111 < v ∨ (55296 ≤ v ∧ v < 57344) from .inr (.inl h2))]; exact Ev.now _
    · simp only [if_neg (show ¬ (v : Int) > 1114111 by omega)]
      by_cases h3 : 55296 ≤ v
      · simp only [if_pos (show (v : Int) ≥ 55296 by omega)]
        by_cases h4 : v < 57344
        · simp only [if_pos (show (v : Int) < 57344 by omega), if_pos (show v < lo ∨ 1114111 < v ∨ (55296 ≤ v ∧ v < 57344) from .inr (.inr ⟨h3, h4⟩))]; exact Ev.now _
        · simp only [if_neg (show ¬ (v : Int) < 57344 by omega), if_neg (show ¬ (v < lo ∨ 1114111 < v ∨ (55296 ≤ v ∧ v < 57344)) by omega)]; exact Ev.now _
      · simp only [if_neg (show ¬ (v : Int) ≥ 55296 by omega), if_neg (show ¬ (v < lo ∨ 1114111 < v ∨ (55296 ≤ v ∧ v < 57344)) by omega)]; exact Ev.now _
theorem l0_bad (s : ByteArray) (n lo v i : Nat) (h : i < n) (hs : i < s.size) (hc : by_ s i / 64 ≠ 2) : Ev (fun k => cellaretref1_rune1.l0 k s (n : Int) (lo : Int) (v : Int) (i : Int)) (-1, 1) := by
  refine Ev.step (fun k => cellaretref1_rune1.l0.eq_2 _ _ _ _ _ _) ?_
  simp only [if_pos (show (i : Int) < (n : Int) by omega), if_pos (show (0 : Int) ≤ (i : Int) by omega), if_pos (show (i : Int) < (s.size : Int) by omega), bt_by s i hs, if_neg (fun e => hc ((and192 ⟨by_ s i, by_lt s i⟩).1 e))]
  exact Ev.now _
theorem l0_step (s : ByteArray) (n lo v i : Nat) (h : i < n) (hs : i < s.size) (hz : s.size < 140737488355328) (hv : v < 1048576) (hc : by_ s i / 64 = 2) {r : Int × Int}
    (hr : Ev (fun k => cellaretref1_rune1.l0 k s (n : Int) (lo : Int) ((v * 64 + by_ s i % 64 : Nat) : Int) ((i + 1 : Nat) : Int)) r) : Ev (fun k => cellaretref1_rune1.l0 k s (n : Int) (lo : Int) (v : Int) (i : Int)) r := by
  refine Ev.step (fun k => cellaretref1_rune1.l0.eq_2 _ _ _ _ _ _) ?_
  simp only [if_pos (show (i : Int) < (n : Int) by omega), if_pos (show (0 : Int) ≤ (i : Int) by omega), if_pos (show (i : Int) < (s.size : Int) by omega), bt_by s i hs, if_pos ((and192 ⟨by_ s i, by_lt s i⟩).2 hc), and63 _ (by_lt s i), or64 v (by_ s i % 64) hv (by omega), wrap_next (show (0 : Int) ≤ (i : Int) by omega) (by omega)]
  exact hr
/-- From the second byte on. -/
def tailR (s : ByteArray) (n lo v : Nat) : Int × Int :=
  if s.size < n then (-1, 1)
  else if by_ s 1 / 64 ≠ 2 then (-1, 1)
  else if n = 2 then finR (v * 64 + by_ s 1 % 64) 2 lo
  else if by_ s 2 / 64 ≠ 2 then (-1, 1)
  else if n = 3 then finR ((v * 64 + by_ s 1 % 64) * 64 + by_ s 2 % 64) 3 lo
  else if by_ s 3 / 64 ≠ 2 then (-1, 1)
  else finR (((v * 64 + by_ s 1 % 64) * 64 + by_ s 2 % 64) * 64 + by_ s 3 % 64) 4 lo
theorem evTail (s : ByteArray) (n lo v : Nat) (hn : n = 2 ∨ n = 3 ∨ n = 4) (hv : v < 32) (hz : s.size < 140737488355328) : Ev (fun k => cellaretref1_rune1.j2 k s (n : Int) (lo : Int) (v : Int)) (tailR s n lo v) := by
  refine Ev.step (fun k => cellaretref1_rune1.j2.eq_2 _ _ _ _ _) ?_
  unfold tailR
  by_cases h0 : s.size < n
  · simp only [if_pos (show (s.size : Int) < (n : Int) by omega), if_pos h0]; exact Ev.now _
  · simp only [if_neg (show ¬ (s.size : Int) < (n : Int) by omega), if_neg h0]
    by_cases h1 : by_ s 1 / 64 ≠ 2
    · rw [if_pos h1]; exact l0_bad s n lo v 1 (by omega) (by omega) h1
    · rw [if_neg h1]
      refine l0_step s n lo v 1 (by omega) (by omega) hz (by omega) (by omega) ?_
      by_cases h2 : n = 2
      · rw [if_pos h2]; subst h2; exact l0_end s 2 lo _ 2 (by omega)
      · rw [if_neg h2]
        by_cases h3 : by_ s 2 / 64 ≠ 2
        · rw [if_pos h3]; exact l0_bad s n lo _ 2 (by omega) (by omega) h3
        · rw [if_neg h3]
          refine l0_step s n lo _ 2 (by omega) (by omega) hz (by omega) (by omega) ?_
          by_cases h4 : n = 3
          · rw [if_pos h4]; subst h4; exact l0_end s 3 lo _ 3 (by omega)
          · rw [if_neg h4]
            obtain rfl : n = 4 := by omega
            by_cases h5 : by_ s 3 / 64 ≠ 2
            · rw [if_pos h5]; exact l0_bad s 4 lo _ 3 (by omega) (by omega) h5
            · rw [if_neg h5]
              refine l0_step s 4 lo _ 3 (by omega) (by omega) hz (by omega) (by omega) ?_
              exact l0_end s 4 lo _ 4 (by omega)
def runeR (l : List UInt8) : Int × Int := if okL l = true then (((Lib.decodeL l).1 : Int), ((Lib.decodeL l).2 : Int)) else (-1, 1)
def headR (s : ByteArray) : Int × Int :=
  let b := by_ s 0
  if b < 128 then ((b : Int), 1) else if b < 194 then (-1, 1) else if b < 224 then tailR s 2 128 (b % 32) else if b < 240 then tailR s 3 2048 (b % 16) else if b < 245 then tailR s 4 65536 (b % 8) else (-1, 1)
theorem bad_of {l : List UInt8} {n : Nat} {b0 b1 b2 b3 : Nat} (hd : Lib.decodeL l = Lib.decodeN n b0 b1 b2 b3) (h : Lib.decodeN n b0 b1 b2 b3 = (65533, 1)) : runeR l = (-1, 1) := by
  unfold runeR okL; rw [hd, h]; simp
theorem good_of {l : List UInt8} {n : Nat} {b0 b1 b2 b3 c w : Nat} (hd : Lib.decodeL l = Lib.decodeN n b0 b1 b2 b3) (h : Lib.decodeN n b0 b1 b2 b3 = (c, w)) (hw : c ≠ 65533 ∨ 1 < w) : runeR l = ((c : Int), (w : Int)) := by
  unfold runeR okL
  rw [hd, h, if_pos]
  rcases hw with hw | hw
  · simp [hw]
  · simp [hw]
theorem headR_eq (s : ByteArray) (h : 0 < s.size) : headR s = runeR s.data.toList := by
  have hd : Lib.decodeL s.data.toList = Lib.decodeN s.size (by_ s 0) (by_ s 1) (by_ s 2) (by_ s 3) := by rw [Lib.decodeL_N, len_eq]; rfl
  have k0 := by_lt s 0; have k1 := by_lt s 1; have k2 := by_lt s 2; have k3 := by_lt s 3
  have bad : Lib.decodeN s.size (by_ s 0) (by_ s 1) (by_ s 2) (by_ s 3) = (65533, 1) → runeR s.data.toList = (-1, 1) := bad_of hd
  unfold headR
  generalize hb0 : by_ s 0 = b0 at *
  generalize hb1 : by_ s 1 = b1 at *
  generalize hb2 : by_ s 2 = b2 at *
  generalize hb3 : by_ s 3 = b3 at *
  dsimp only
  by_cases h1 : b0 < 128
  · rw [if_pos h1, good_of hd (decN_1 h1) (.inl (by omega))]; rfl
  · rw [if_neg h1]
    by_cases h2 : b0 < 194
    · rw [if_pos h2, bad (by unfold Lib.decodeN; repeat' split
                             all_goals first | rfl | (exfalso; omega))]
    · rw [if_neg h2]
      by_cases h3 : b0 < 224
      · rw [if_pos h3]
        unfold tailR
        rw [hb1, hb2, hb3]
        by_cases c1 : s.size < 2
        · rw [if_pos c1, bad (by unfold Lib.decodeN; repeat' split
                                 all_goals first | rfl | (exfalso; omega))]
        · rw [if_neg c1]
          by_cases c2 : b1 / 64 ≠ 2
          · rw [if_pos c2, bad (by unfold Lib.decodeN; repeat' split
                                   all_goals first | rfl | (exfalso; omega))]
          · rw [if_neg c2, if_pos rfl, good_of hd (decN_2 (by omega) (by omega) (by omega) (by omega)) (.inr (by omega))]
            unfold finR
            rw [if_neg (by omega)]
      · rw [if_neg h3]
        by_cases h4 : b0 < 240
        · rw [if_pos h4]
          unfold tailR
          rw [hb1, hb2, hb3]
          by_cases c1 : s.size < 3
          · rw [if_pos c1, bad (by unfold Lib.decodeN; repeat' split
                                   all_goals first | rfl | (exfalso; omega))]
          · rw [if_neg c1]
            by_cases c2 : b1 / 64 ≠ 2
            · rw [if_pos c2, bad (by unfold Lib.decodeN; repeat' split
                                     all_goals first | rfl | (exfalso; omega))]
            · rw [if_neg c2, if_neg (by omega)]
              by_cases c3 : b2 / 64 ≠ 2
              · rw [if_pos c3, bad (by unfold Lib.decodeN; repeat' split
                                       all_goals first | rfl | (exfalso; omega))]
              · rw [if_neg c3, if_pos rfl]
                unfold finR
                by_cases c4 : (b0 % 16 * 64 + b1 % 64) * 64 + b2 % 64 < 2048 ∨ 1114111 < (b0 % 16 * 64 + b1 % 64) * 64 + b2 % 64 ∨ (55296 ≤ (b0 % 16 * 64 + b1 % 64) * 64 + b2 % 64 ∧ (b0 % 16 * 64 + b1 % 64) * 64 + b2 % 64 < 57344)
                · rw [if_pos c4, bad (by unfold Lib.decodeN; repeat' split
                                         all_goals first | rfl | (exfalso; omega))]
                · rw [if_neg c4, good_of hd (decN_3 (by omega) (by omega) (by omega) (by omega) (by omega) (by omega)) (.inr (by omega))]
                  rw [show (b0 % 16 * 64 + b1 % 64) * 64 + b2 % 64 = b0 % 16 * 4096 + b1 % 64 * 64 + b2 % 64 by omega]
        · rw [if_neg h4]
          by_cases h5 : b0 < 245
          · rw [if_pos h5]
            unfold tailR
            rw [hb1, hb2, hb3]
            by_cases c1 : s.size < 4
            · rw [if_pos c1, bad (by unfold Lib.decodeN; repeat' split
                                     all_goals first | rfl | (exfalso; omega))]
            · rw [if_neg c1]
              by_cases c2 : b1 / 64 ≠ 2
              · rw [if_pos c2, bad (by unfold Lib.decodeN; repeat' split
                                       all_goals first | rfl | (exfalso; omega))]
              · rw [if_neg c2, if_neg (by omega)]
                by_cases c3 : b2 / 64 ≠ 2
                · rw [if_pos c3, bad (by unfold Lib.decodeN; repeat' split
                                         all_goals first | rfl | (exfalso; omega))]
                · rw [if_neg c3, if_neg (by omega)]
                  by_cases c4 : b3 / 64 ≠ 2
                  · rw [if_pos c4, bad (by unfold Lib.decodeN; repeat' split
                                           all_goals first | rfl | (exfalso; omega))]
                  · rw [if_neg c4]
                    unfold finR
                    by_cases c5 : ((b0 % 8 * 64 + b1 % 64) * 64 + b2 % 64) * 64 + b3 % 64 < 65536 ∨ 1114111 < ((b0 % 8 * 64 + b1 % 64) * 64 + b2 % 64) * 64 + b3 % 64 ∨ (55296 ≤ ((b0 % 8 * 64 + b1 % 64) * 64 + b2 % 64) * 64 + b3 % 64 ∧ ((b0 % 8 * 64 + b1 % 64) * 64 + b2 % 64) * 64 + b3 % 64 < 57344)
                    · rw [if_pos c5, bad (by unfold Lib.decodeN; repeat' split
                                             all_goals first | rfl | (exfalso; omega))]
                    · rw [if_neg c5, good_of hd (decN_4 (by omega) (by omega) (by omega) (by omega) (by omega) (by omega) (by omega)) (.inr (by omega))]
                      rw [show ((b0 % 8 * 64 + b1 % 64) * 64 + b2 % 64) * 64 + b3 % 64 = b0 % 8 * 262144 + b1 % 64 * 4096 + b2 % 64 * 64 + b3 % 64 by omega]
          · rw [if_neg h5, bad (by unfold Lib.decodeN; repeat' split
                                   all_goals first | rfl | (exfalso; omega))]
theorem evRune1 (s : ByteArray) (h : 0 < s.size) (hz : s.size < 140737488355328) : Ev (fun k => cellaretref1_rune1.f k s) (runeR s.data.toList) := by
  rw [← headR_eq s h]
  unfold cellaretref1_rune1.f headR
  have hb := by_lt s 0
  have e0 : bt s 0 = (by_ s 0 : Int) := bt_by s 0 h
  simp only [if_pos (show (0 : Int) < (s.size : Int) by omega), e0, show wrap64 (by_ s 0 : Int) = (by_ s 0 : Int) by unfold wrap64; omega]
  by_cases h1 : by_ s 0 < 128
  · simp only [if_pos (show (by_ s 0 : Int) < 128 by omega), if_pos h1]; exact Ev.now _
  · simp only [if_neg (show ¬ (by_ s 0 : Int) < 128 by omega), if_neg h1]
    by_cases h2 : by_ s 0 < 194
    · simp only [if_neg (show ¬ (by_ s 0 : Int) ≥ 194 by omega), if_pos h2]
      refine Ev.step (fun k => cellaretref1_rune1.j0.eq_2 _ _ _ _) ?_
      simp only [Bool.false_eq_true, if_false, if_neg (show ¬ (by_ s 0 : Int) ≥ 224 by omega)]
      refine Ev.step (fun k => cellaretref1_rune1.j1.eq_2 _ _ _ _) ?_
      simp only [Bool.false_eq_true, if_false, if_neg (show ¬ (by_ s 0 : Int) ≥ 240 by omega)]
      exact Ev.now _
    · simp only [if_pos (show (by_ s 0 : Int) ≥ 194 by omega), if_neg h2]
      by_cases h3 : by_ s 0 < 224
      · simp only [decide_eq_true (show (by_ s 0 : Int) < 224 by omega), if_pos h3]
        refine Ev.step (fun k => cellaretref1_rune1.j0.eq_2 _ _ _ _) ?_
        simp only [if_true, and31 _ hb]
        exact evTail s 2 128 _ (by omega) (by omega) hz
      · simp only [decide_eq_false (show ¬ (by_ s 0 : Int) < 224 by omega), if_neg h3]
        refine Ev.step (fun k => cellaretref1_rune1.j0.eq_2 _ _ _ _) ?_
        simp only [Bool.false_eq_true, if_false, if_pos (show (by_ s 0 : Int) ≥ 224 by omega)]
        by_cases h4 : by_ s 0 < 240
        · simp only [decide_eq_true (show (by_ s 0 : Int) < 240 by omega), if_pos h4]
          refine Ev.step (fun k => cellaretref1_rune1.j1.eq_2 _ _ _ _) ?_
          simp only [if_true, and15 _ hb]
          exact evTail s 3 2048 _ (by omega) (by omega) hz
        · simp only [decide_eq_false (show ¬ (by_ s 0 : Int) < 240 by omega), if_neg h4]
          refine Ev.step (fun k => cellaretref1_rune1.j1.eq_2 _ _ _ _) ?_
          simp only [Bool.false_eq_true, if_false, if_pos (show (by_ s 0 : Int) ≥ 240 by omega)]
          by_cases h5 : by_ s 0 < 245
          · simp only [if_pos (show (by_ s 0 : Int) < 245 by omega), if_pos h5, and7 _ hb]
            exact evTail s 4 65536 _ (by omega) (by omega) hz
          · simp only [if_neg (show ¬ (by_ s 0 : Int) < 245 by omega), if_neg h5]
            exact Ev.now _
end Go.Proofs.YtolbbhpcajepnaaDoor.Pure

namespace Go.Proofs.YtolbbhpcajepnaaDoor.Pure
open Go Go.RowKit Go.Proofs.YtolbbhpcajepnaaDoorW.PrintWords Go.Proofs.YtolbbhpcajepnaaDoor.H Go.Proofs.YtolbbhpcajepnaaDoor.L
set_option linter.unusedSimpArgs false
set_option linter.unusedVariables false

theorem runeR_2 (l : List UInt8) : (runeR l).2 = ((Lib.decodeL l).2 : Int) := by
  unfold runeR
  by_cases h : okL l = true
  · rw [if_pos h]
  · rw [if_neg h]
    have := wide_pos l
    simp [okL] at h
    show (1 : Int) = _
    omega
theorem runeR_ok (l : List UInt8) : decide ((runeR l).1 ≥ 0) = okL l := by
  unfold runeR
  by_cases h : okL l = true
  · rw [if_pos h, h]; simp
  · rw [if_neg h]
    have : okL l = false := by simpa using h
    rw [this]; rfl
theorem cut_size (s : ByteArray) (h : 0 < s.size) : (s.extract (Lib.decodeL s.data.toList).2 s.size).size = s.size - (Lib.decodeL s.data.toList).2 := by
  rw [ByteArray.size_extract]; omega
theorem ne_of (s : ByteArray) (h : 0 < s.size) : s.data.toList ≠ [] := by
  intro e; have := len_eq s; rw [e] at this; simp at this; omega
theorem fits (s : ByteArray) (h : 0 < s.size) : (Lib.decodeL s.data.toList).2 ≤ s.size := by
  have := Lib.decodeL_le s.data.toList (ne_of s h)
  rw [len_eq] at this; exact this

theorem runes_loop : ∀ (n : Nat) (s : ByteArray) (c : Nat) (ok : Bool), s.size ≤ n → c + s.size < 140737488355328 →
    Ev (fun k => cellaretref1_Runes.l0 k s (c : Int) ok) (((c + (rs s.data.toList).length : Nat) : Int), ok && (rs s.data.toList).all (fun r => r.1))
  | n, s, c, ok, hn, hc => by
    refine Ev.step (fun k => cellaretref1_Runes.l0.eq_2 _ _ _ _) ?_
    by_cases h : 0 < s.size
    · simp only [if_pos (show (s.size : Int) > 0 by omega)]
      refine Ev.bind (evRune1 s h (by omega)) ?_
      have hw := wide_pos s.data.toList
      have hf := fits s h
      simp only [runeR_2, runeR_ok, if_pos (show (0 : Int) ≤ ((Lib.decodeL s.data.toList).2 : Int) by omega), if_pos (show ((Lib.decodeL s.data.toList).2 : Int) ≤ (s.size : Int) by omega), Int.toNat_natCast, wrap_next (show (0 : Int) ≤ (c : Int) by omega) (by omega)]
      obtain ⟨m, rfl⟩ : ∃ m, n = m + 1 := ⟨n - 1, by omega⟩
      have hs := cut_size s h
      have ih := fun o => runes_loop m (s.extract (Lib.decodeL s.data.toList).2 s.size) (c + 1) o (by omega) (by omega)
      rw [Lib.extract_to_end] at ih
      rw [rs_cons _ (ne_of s h), List.length_cons, List.all_cons]
      rw [show c + ((rs (s.data.toList.drop (Lib.decodeL s.data.toList).2)).length + 1) = c + 1 + (rs (s.data.toList.drop (Lib.decodeL s.data.toList).2)).length by omega]
      cases ok with
      | true =>
        simp only [if_true]
        rw [Bool.true_and]
        exact ih (okL s.data.toList)
      | false =>
        simp only [Bool.false_eq_true, if_false]
        rw [Bool.false_and]
        exact ih false
    · simp only [if_neg (show ¬ (s.size : Int) > 0 by omega)]
      have e : s.data.toList = [] := List.eq_nil_of_length_eq_zero (by rw [len_eq]; omega)
      rw [e, rs_nil]
      simpa using Ev.now _
theorem evRefRunes (s : ByteArray) (hs : s.size < 140737488355328) : Ev (fun k => cellaretref1_Runes.f k s) ((Lib.runeCount s : Int), okAll s) := by
  have h := runes_loop s.size s 0 true (Nat.le_refl _) (by omega)
  rw [Bool.true_and, Nat.zero_add] at h
  rw [runeCount_eq, okAll_eq]
  exact h

theorem keyOk_bad (l : List UInt8) (h : (runeR l).1 ≤ 32) : keyOk (okL l, (Lib.decodeL l).1, l.take (Lib.decodeL l).2) = false := by
  unfold runeR at h
  by_cases hk : okL l = true
  · rw [if_pos hk] at h
    simp only [keyOk, hk, Bool.true_and, decide_eq_false (show ¬ 32 < (Lib.decodeL l).1 by simp at h; omega), Bool.false_and]
  · have : okL l = false := by simpa using hk
    simp [keyOk, this]
theorem runeR_1 (l : List UInt8) (h : ¬ (runeR l).1 ≤ 32) : okL l = true ∧ (runeR l).1 = ((Lib.decodeL l).1 : Int) := by
  unfold runeR at h ⊢
  by_cases hk : okL l = true
  · rw [if_pos hk]; exact ⟨hk, rfl⟩
  · rw [if_neg hk] at h
    exact absurd (by decide) h
theorem key_loop : ∀ (n : Nat) (s : ByteArray), s.size ≤ n → s.size < 140737488355328 →
    Ev (fun k => cellaretref1_Key.l0 k s) ((rs s.data.toList).all keyOk)
  | n, s, hn, hc => by
    refine Ev.step (fun k => cellaretref1_Key.l0.eq_2 _ _) ?_
    by_cases h : 0 < s.size
    · simp only [if_pos (show (s.size : Int) > 0 by omega)]
      refine Ev.bind (evRune1 s h (by omega)) ?_
      have hw := wide_pos s.data.toList
      have hf := fits s h
      obtain ⟨m, rfl⟩ : ∃ m, n = m + 1 := ⟨n - 1, by omega⟩
      have hs := cut_size s h
      have ih := key_loop m (s.extract (Lib.decodeL s.data.toList).2 s.size) (by omega) (by omega)
      rw [Lib.extract_to_end] at ih
      rw [rs_cons _ (ne_of s h), List.all_cons]
      by_cases h1 : (runeR s.data.toList).1 ≤ 32
      · simp only [if_pos h1]
        rw [keyOk_bad _ h1, Bool.false_and]
        exact Ev.now _
      · obtain ⟨hk, e1⟩ := runeR_1 _ h1
        simp only [runeR_2, e1, if_pos (show (0 : Int) ≤ ((Lib.decodeL s.data.toList).2 : Int) by omega), if_pos (show ((Lib.decodeL s.data.toList).2 : Int) ≤ (s.size : Int) by omega), Int.toNat_natCast]
        rw [e1] at h1
        generalize hr : (Lib.decodeL s.data.toList).1 = r at *
        have hK : ∀ x, keyOk (true, r, x) = (decide (32 < r) && !(decide (127 ≤ r) && decide (r ≤ 160)) && r != 8232 && r != 8233) := fun _ => by simp [keyOk]
        rw [hk, hK]
        simp only [if_neg (show ¬ (r : Int) ≤ 32 by omega)]
        by_cases h2 : 127 ≤ r
        · simp only [if_pos (show (r : Int) ≥ 127 by omega)]
          by_cases h3 : r ≤ 160
          · simp only [if_pos (show (r : Int) ≤ 160 by omega)]
            simpa [h2, h3] using Ev.now _
          · simp only [if_neg (show ¬ (r : Int) ≤ 160 by omega)]
            by_cases h4 : r = 8232
            · simp only [if_pos (show (r : Int) = 8232 by omega)]
              simpa [h4] using Ev.now _
            · simp only [if_neg (show ¬ (r : Int) = 8232 by omega)]
              by_cases h5 : r = 8233
              · simp only [if_pos (show (r : Int) = 8233 by omega)]
                simpa [h5] using Ev.now _
              · simp only [if_neg (show ¬ (r : Int) = 8233 by omega)]
                simpa [h2, h3, bne_iff_ne.2 h4, bne_iff_ne.2 h5, show 32 < r by omega] using ih
        · simp only [if_neg (show ¬ (r : Int) ≥ 127 by omega), if_neg (show ¬ (r : Int) = 8232 by omega), if_neg (show ¬ (r : Int) = 8233 by omega)]
          simpa [h2, show 32 < r by omega, bne_iff_ne.2 (show r ≠ 8232 by omega), bne_iff_ne.2 (show r ≠ 8233 by omega)] using ih
    · simp only [if_neg (show ¬ (s.size : Int) > 0 by omega)]
      have e : s.data.toList = [] := List.eq_nil_of_length_eq_zero (by rw [len_eq]; omega)
      rw [e, rs_nil]
      exact Ev.now _
theorem evRefKey (s : ByteArray) (hs : s.size < 140737488355328) : Ev (fun k => cellaretref1_Key.f k s) (keyF s) := by
  rw [keyF_eq]
  unfold cellaretref1_Key.f
  by_cases h1 : s.size < 1
  · simp only [if_pos (show (s.size : Int) < 1 by omega)]
    refine Ev.step (fun k => cellaretref1_Key.j0.eq_2 _ _ _) ?_
    simpa [h1] using Ev.now _
  · simp only [if_neg (show ¬ (s.size : Int) < 1 by omega)]
    refine Ev.step (fun k => cellaretref1_Key.j0.eq_2 _ _ _) ?_
    by_cases h2 : 250 < s.size
    · simp only [decide_eq_true (show (s.size : Int) > 250 by omega), if_true]
      simpa [h1, h2] using Ev.now _
    · simp only [decide_eq_false (show ¬ (s.size : Int) > 250 by omega), Bool.false_eq_true, if_false]
      have h := key_loop s.size s (Nat.le_refl _) hs
      simpa [h1, h2] using h
end Go.Proofs.YtolbbhpcajepnaaDoor.Pure
