/-
  The law's own walk, its plain statement and its row: the law holds. Its condition: none beside the given row's own.
-/
import Derived.Lib.SplitLaws
import Derived.Lib.CutLaws
import Derived.Lib.CountLaws
import Derived.Lib.IndexLaws
import Derived.Lib.IndexBytes
import Derived.Test.YtfbhlbchmenloaaDoorM0
import Derived.Test.YtfbhlbchmenloaaDoorM2
import Derived.Test.YtfbhlbchmenloaaDoorM3
import Derived.Test.YtfbhlbchmenloaaDoorM4
import Derived.Laws.BitsLemmas
import Derived.ShutString
import Derived.ChangeOld
import Derived.Below
import Derived.SizedLaws
section
namespace Go.Proofs.YtfbhlbchmenloaaDoor.L
open Go
set_option linter.unusedSimpArgs false
set_option linter.unusedVariables false

/-- The words of a line, acc ahead of it. -/
def wl (acc : List UInt8) : List UInt8 → List (List UInt8)
  | [] => if acc = [] then [] else [acc]
  | c :: r => if c = 32 then (if acc = [] then wl [] r else acc :: wl [] r) else wl (acc ++ [c]) r
/-- The pieces between blanks. -/
def pc (acc : List UInt8) : List UInt8 → List (List UInt8)
  | [] => [acc]
  | c :: r => if c = 32 then acc :: pc [] r else pc (acc ++ [c]) r

theorem wl_pc (l : List UInt8) : ∀ acc, wl acc l = (pc acc l).filter (fun w => w ≠ []) := by
  induction l with
  | nil => intro acc; by_cases h : acc = [] <;> simp [wl, pc, h]
  | cons c r ih =>
    intro acc
    by_cases hc : c = 32
    · by_cases h : acc = [] <;> simp [wl, pc, h, hc, ih]
    · simp [wl, pc, hc, ih]

theorem pc_none (l : List UInt8) : ∀ acc, (∀ c ∈ l, c ≠ 32) → pc acc l = [acc ++ l] := by
  induction l with
  | nil => intro acc _; simp [pc]
  | cons c r ih =>
    intro acc h
    have hc : c ≠ 32 := h c (by simp)
    simp only [pc, if_neg hc]
    rw [ih _ (fun d hd => h d (by simp [hd]))]
    simp
theorem pc_hit (l r : List UInt8) : ∀ acc, (∀ c ∈ l, c ≠ 32) → pc acc (l ++ 32 :: r) = (acc ++ l) :: pc [] r := by
  induction l with
  | nil => intro acc _; simp [pc]
  | cons c l ih =>
    intro acc h
    have hc : c ≠ 32 := h c (by simp)
    simp only [List.cons_append, pc, if_neg hc]
    rw [ih _ (fun d hd => h d (by simp [hd]))]
    simp
theorem wl_word (l : List UInt8) : ∀ acc, (∀ c ∈ l, c ≠ 32) → wl acc l = if acc ++ l = [] then [] else [acc ++ l] := by
  intro acc h
  rw [wl_pc, pc_none l acc h]
  by_cases e : acc ++ l = [] <;> simp [e]
theorem wl_app (l r : List UInt8) : ∀ acc, wl acc (l ++ 32 :: r) = wl acc l ++ wl [] r := by
  induction l with
  | nil => intro acc; by_cases h : acc = [] <;> simp [wl, h]
  | cons c l ih =>
    intro acc
    by_cases hc : c = 32
    · by_cases h : acc = [] <;> simp [wl, h, hc, ih]
    · simp [wl, hc, ih]
/-- Each word is one: not empty, without a blank. -/
theorem wl_ok (l : List UInt8) : ∀ acc, (∀ c ∈ acc, c ≠ 32) → ∀ w ∈ wl acc l, w ≠ [] ∧ ∀ c ∈ w, c ≠ 32 := by
  induction l with
  | nil =>
    intro acc h w hw
    by_cases e : acc = []
    · simp [wl, e] at hw
    · simp [wl, e] at hw; subst hw; exact ⟨e, h⟩
  | cons c r ih =>
    intro acc h w hw
    by_cases hc : c = 32
    · by_cases e : acc = []
      · simp only [wl, if_pos hc, if_pos e] at hw
        exact ih [] (by simp) w hw
      · simp only [wl, if_pos hc, if_neg e] at hw
        rcases List.mem_cons.1 hw with rfl | hw
        · exact ⟨e, h⟩
        · exact ih [] (by simp) w hw
    · simp only [wl, if_neg hc] at hw
      refine ih _ (fun d hd => ?_) w hw
      rcases List.mem_append.1 hd with hd | hd
      · exact h d hd
      · simp at hd; subst hd; exact hc
/-- Words put together by single blanks. -/
def joinW : List (List UInt8) → List UInt8
  | [] => []
  | [w] => w
  | w :: v :: r => w ++ 32 :: joinW (v :: r)
theorem wl_join : ∀ ws : List (List UInt8), (∀ w ∈ ws, w ≠ [] ∧ ∀ c ∈ w, c ≠ 32) → wl [] (joinW ws) = ws
  | [], _ => rfl
  | [w], h => by
    obtain ⟨h1, h2⟩ := h w (by simp)
    rw [joinW, wl_word w [] h2]
    simp [h1]
  | w :: v :: r, h => by
    obtain ⟨h1, h2⟩ := h w (by simp)
    rw [joinW, wl_app, wl_word w [] h2, wl_join (v :: r) (fun u hu => h u (by simp [hu]))]
    simp [h1]
theorem wl_len (l : List UInt8) : ∀ acc, (wl acc l).length ≤ acc.length + l.length := by
  induction l with
  | nil =>
    intro acc
    by_cases e : acc = []
    · simp [wl, e]
    · have := List.length_pos_iff.2 e
      simp [wl, e]; omega
  | cons c r ih =>
    intro acc
    by_cases hc : c = 32
    · by_cases e : acc = []
      · have := ih []
        simp [wl, hc, e] at this ⊢; omega
      · have := ih []
        have h1 := List.length_pos_iff.2 e
        simp [wl, hc, e] at this ⊢; omega
    · have := ih (acc ++ [c])
      simp [wl, hc] at this ⊢; omega
theorem pc_len (l : List UInt8) : ∀ acc, (pc acc l).length ≤ 1 + l.length := by
  induction l with
  | nil => intro acc; simp [pc]
  | cons c r ih =>
    intro acc
    by_cases hc : c = 32
    · have := ih []; simp [pc, hc]; omega
    · have := ih (acc ++ [c]); simp [pc, hc]; omega

/-! The library's split at a blank is these pieces. -/
def ba (l : List UInt8) : ByteArray := ⟨l.toArray⟩
theorem ba_toList (l : List UInt8) : (ba l).data.toList = l := by simp [ba]
theorem ba_of (s : ByteArray) : ba s.data.toList = s := by cases s; simp [ba]
def sp : ByteArray := ⟨#[32]⟩
theorem sp_list : sp.data.toList = [32] := rfl
theorem index_sp (s : ByteArray) : Lib.indexB s sp = Lib.indexByte s.data.toList 32 := Lib.index_one _ _
theorem split_pc : ∀ (n : Nat) (s : ByteArray), s.size ≤ n → Lib.splitB sp 0 (Lib.countB s sp) s = (pc [] s.data.toList).map ba
  | n, s, hn => by
    rcases Lib.indexB_cases s sp with hix | ⟨i, hix, hroom⟩
    · rw [Lib.countB_miss s sp hix, Lib.splitB_zero, pc_none]
      · simp [ba_of]
      · intro c hc e
        rw [index_sp] at hix
        obtain ⟨k, hk, hck⟩ := List.getElem_of_mem hc
        exact Lib.indexByte_none hix k (by rw [List.getElem?_eq_getElem hk, hck, e])
    · have hsz : sp.size = 1 := rfl
      rw [hsz] at hroom
      rw [Lib.countB_hit s sp i (by rw [hsz]; omega) hix, Nat.add_comm 1, Lib.splitB_hit sp 0 _ s i hix, hsz]
      have hl : s.data.toList.length = s.size := Array.length_toList
      obtain ⟨m, rfl⟩ : ∃ m, n = m + 1 := ⟨n - 1, by omega⟩
      rw [split_pc m (s.extract (i + 1) s.size) (by rw [ByteArray.size_extract]; omega)]
      rw [index_sp] at hix
      obtain ⟨h1, h2⟩ := Lib.indexByte_some hix
      have hdec : s.data.toList = s.data.toList.take i ++ 32 :: s.data.toList.drop (i + 1) := by
        have hi : i < s.data.toList.length := by omega
        rw [List.getElem?_eq_getElem hi] at h1
        rw [← Option.some.inj h1, ← List.drop_eq_getElem_cons hi, List.take_append_drop]
      have h3 : pc [] s.data.toList = s.data.toList.take i :: pc [] (s.data.toList.drop (i + 1)) := by
        conv => lhs; rw [hdec]
        rw [pc_hit]
        · simp
        · intro c hc e
          obtain ⟨k, hk, hck⟩ := List.getElem_of_mem hc
          rw [List.length_take] at hk
          rw [List.getElem_take] at hck
          exact h2 k (by omega) (by rw [List.getElem?_eq_getElem (by omega), hck, e])
      rw [h3, List.map_cons]
      congr 1
      · rw [← ba_of (s.extract 0 (i + 0)), Lib.extract_data]
        simp
      · congr 2
        rw [Lib.extract_to_end]
theorem len_eq (s : ByteArray) : s.data.toList.length = s.size := Array.length_toList
end Go.Proofs.YtfbhlbchmenloaaDoor.L

namespace Go.Proofs.YtfbhlbchmenloaaDoor.Pure
open Go Go.RowKit Go.Proofs.YtfbhlbchmenloaaDoorW.PrintWords Go.Proofs.YtfbhlbchmenloaaDoor.H Go.Proofs.YtfbhlbchmenloaaDoor.L
set_option linter.unusedSimpArgs false
set_option linter.unusedVariables false

theorem wrap_next {i : Int} (h0 : 0 ≤ i) (h : i < 140737488355328) : wrap64 (i + 1) = i + 1 := by unfold wrap64; omega
theorem rdOf_at {α : Type} (d : α) (xs : List α) (i : Nat) (h : i < xs.length) : rdOf d xs (i : Int) = xs[i] := by
  unfold rdOf
  rw [Int.toNat_natCast, List.getD_eq_getElem?_getD, List.getElem?_eq_getElem h]
  rfl
theorem tl (s : ByteArray) : s.toList = s.data.toList := ByteArray.toList_eq s
theorem tl_ba (l : List UInt8) : (ba l).toList = l := by rw [tl, ba_toList]

theorem split_loop (xs : List ByteArray) (hxs : xs.length < 8000000000000) : ∀ (d i : Nat) (out : List ByteArray), i + d = xs.length → out.length ≤ i →
    Ev (fun k => words_Split.l0 k out xs (xs.length : Int) (i : Int)) (out ++ (xs.drop i).filter (fun s => decide (s.toList ≠ [])))
  | 0, i, out, hi, ho => by
    refine Ev.step (fun k => words_Split.l0.eq_2 _ _ _ _ _) ?_
    simp only [if_neg (show ¬ ((i : Int) < (xs.length : Int)) by omega)]
    rw [List.drop_of_length_le (by omega)]
    simpa using Ev.now _
  | d + 1, i, out, hi, ho => by
    have hlt : i < xs.length := by omega
    refine Ev.step (fun k => words_Split.l0.eq_2 _ _ _ _ _) ?_
    simp only [if_pos (show (i : Int) < (xs.length : Int) by omega), if_pos (show (0 : Int) ≤ (i : Int) by omega), rdOf_at ByteArray.empty xs i hlt, wrap_next (show (0 : Int) ≤ (i : Int) by omega) (by omega)]
    rw [List.drop_eq_getElem_cons hlt]
    by_cases he : xs[i].toList = []
    · simp only [if_pos he]
      have h := split_loop xs hxs d (i + 1) out (by omega) (by omega)
      rw [List.filter_cons, if_neg (by simp [he])]
      exact h
    · simp only [if_neg he, if_pos (show out.length < 8796093022208 by omega)]
      have h := split_loop xs hxs d (i + 1) (out ++ [xs[i]]) (by omega) (by simp; omega)
      rw [List.append_assoc, List.singleton_append] at h
      rw [List.filter_cons, if_pos (by simpa using he)]
      exact h
theorem evSplit (s : ByteArray) (hs : s.size < 4000000000) : Ev (fun k => words_Split.f k s) ((wl [] s.data.toList).map ba) := by
  have hp : strings_Split.f s ⟨#[32]⟩ = some ((pc [] s.data.toList).map ba) := by
    unfold strings_Split.f
    rw [if_pos ⟨by omega, by show 1 ≤ 1; omega⟩]
    exact congrArg some (split_pc s.size s (Nat.le_refl _))
  have hl : s.data.toList.length = s.size := Array.length_toList
  have hlen : ((pc [] s.data.toList).map ba).length < 8000000000000 := by
    have := pc_len s.data.toList []
    rw [List.length_map]; omega
  have h := split_loop _ hlen _ 0 [] (Nat.zero_add _) (Nat.le_refl _)
  unfold words_Split.f
  simp only [hp, Option.bind_some]
  rw [wl_pc]
  refine Ev.congr (fun k => rfl) ?_
  have e : ([] : List ByteArray) ++ (((pc [] s.data.toList).map ba).drop 0).filter (fun s => decide (s.toList ≠ [])) = ((pc [] s.data.toList).filter (fun w => decide (w ≠ []))).map ba := by
    rw [List.nil_append, List.drop_zero, List.filter_map]
    congr 1
    apply List.filter_congr
    intro w _
    simp [tl_ba]
  rw [e] at h
  exact h
def numG (acc : Nat) : List UInt8 → Int × Bool
  | [] => ((acc : Int), true)
  | c :: r => if 48 ≤ c.toNat ∧ c.toNat ≤ 57 then (if 1844674407370955161 < acc ∨ (acc = 1844674407370955161 ∧ 5 < c.toNat - 48) then (0, false) else numG (acc * 10 + (c.toNat - 48)) r) else (0, false)
theorem numG_bad : ∀ (l : List UInt8) (acc : Nat), l.all isDig ≠ true → numG acc l = (0, false)
  | [], acc, h => by simp at h
  | c :: r, acc, h => by
    unfold numG
    by_cases hc : 48 ≤ c.toNat ∧ c.toNat ≤ 57
    · rw [if_pos hc]
      by_cases ho : 1844674407370955161 < acc ∨ (acc = 1844674407370955161 ∧ 5 < c.toNat - 48)
      · rw [if_pos ho]
      · rw [if_neg ho]
        refine numG_bad r _ (fun e => h ?_)
        rw [List.all_cons, e]
        simp [isDig, hc.1, hc.2]
    · rw [if_neg hc]
theorem numG_parse : ∀ (l : List UInt8) (acc : Nat), l.all isDig = true → (match Lib.parseUintM (2 ^ 64 - 1) acc l with | .ok u => ((u : Int), true) | _ => (0, false)) = numG acc l
  | [], acc, _ => rfl
  | c :: r, acc, h => by
    rw [List.all_cons, Bool.and_eq_true] at h
    have hc : 48 ≤ c.toNat ∧ c.toNat ≤ 57 := by have := h.1; simp [isDig] at this; exact this
    unfold numG Lib.parseUintM
    rw [if_pos hc, if_pos hc]
    by_cases h1 : 1844674407370955162 ≤ acc
    · rw [if_pos h1, if_pos (by omega)]
    · rw [if_neg h1]
      by_cases h2 : 2 ^ 64 - 1 < acc * 10 + (c.toNat - 48)
      · rw [if_pos h2, if_pos (by omega)]
      · rw [if_neg h2, if_neg (by omega)]
        exact numG_parse r _ h.2
theorem numF_eq (l : List UInt8) : numF l = if l.length < 1 ∨ 20 < l.length then (0, false) else numG 0 l := by
  unfold numF
  by_cases h : l.length < 1 ∨ 20 < l.length
  · rw [if_pos h, if_pos h]
  · rw [if_neg h, if_neg h]
    by_cases hd : l.all isDig = true
    · rw [if_pos hd]
      unfold Lib.parseUintB
      rw [if_neg (by intro e; rw [e] at h; simp at h)]
      exact numG_parse l 0 hd
    · rw [if_neg hd, numG_bad l 0 hd]
theorem numG_range : ∀ (l : List UInt8) (acc : Nat), acc < 18446744073709551616 → 0 ≤ (numG acc l).1 ∧ (numG acc l).1 < 18446744073709551616
  | [], acc, h => by simp [numG]; omega
  | c :: r, acc, h => by
    unfold numG
    by_cases hc : 48 ≤ c.toNat ∧ c.toNat ≤ 57
    · rw [if_pos hc]
      by_cases ho : 1844674407370955161 < acc ∨ (acc = 1844674407370955161 ∧ 5 < c.toNat - 48)
      · rw [if_pos ho]; simp
      · rw [if_neg ho]; exact numG_range r _ (by omega)
    · rw [if_neg hc]; simp
theorem numF_range (l : List UInt8) : 0 ≤ (numF l).1 ∧ (numF l).1 < 18446744073709551616 := by
  rw [numF_eq]
  by_cases h : l.length < 1 ∨ 20 < l.length
  · rw [if_pos h]; simp
  · rw [if_neg h]; exact numG_range l 0 (by omega)

def negL : List UInt8 → Bool
  | c :: _ => c == 45
  | [] => false
def signF (l : List UInt8) : Int × Bool :=
  if negL l = true then (if (numF (l.drop 1)).2 = true ∧ (numF (l.drop 1)).1 ≤ 9223372036854775808 then (wrap64 (-(wrap64 (numF (l.drop 1)).1)), true) else (0, false))
  else (if (numF l).2 = true ∧ (numF l).1 < 9223372036854775808 then (wrap64 (numF l).1, true) else (0, false))
theorem hasPrefix_minus (s : ByteArray) : strings_HasPrefix.f s ⟨#[45]⟩ = some (negL s.data.toList) := by
  unfold strings_HasPrefix.f stringslite_HasPrefix.f
  have e1 : ((⟨#[45]⟩ : ByteArray).size : Int) = 1 := rfl
  simp only [e1]
  have hl := len_eq s
  by_cases h : 1 ≤ s.size
  · rw [if_pos (by omega), if_pos (by omega), if_pos (by omega), Option.bind_some]
    rw [tl, tl, Lib.extract_data]
    match hm : s.data.toList with
    | [] => rw [hm] at hl; simp at hl; omega
    | c :: r => simp [negL]
  · rw [if_neg (by omega), Option.bind_some]
    have : s.data.toList = [] := List.eq_nil_of_length_eq_zero (by omega)
    rw [this]
    rfl
theorem trimPrefix_minus (s : ByteArray) : strings_TrimPrefix.f s ⟨#[45]⟩ = some (if negL s.data.toList = true then s.extract 1 s.size else s) := by
  have hp := hasPrefix_minus s
  unfold strings_HasPrefix.f at hp
  have hp2 : stringslite_HasPrefix.f s ⟨#[45]⟩ = some (negL s.data.toList) := by
    cases h : stringslite_HasPrefix.f s ⟨#[45]⟩ with
    | none => rw [h] at hp; cases hp
    | some b => rw [h] at hp; exact hp
  unfold strings_TrimPrefix.f stringslite_TrimPrefix.f
  have e1 : ((⟨#[45]⟩ : ByteArray).size : Int) = 1 := rfl
  rw [hp2]
  simp only [Option.bind_some, e1]
  by_cases h : negL s.data.toList = true
  · have hl := len_eq s
    have : 1 ≤ s.size := by
      by_cases h0 : 1 ≤ s.size
      · exact h0
      · have e : s.data.toList = [] := List.eq_nil_of_length_eq_zero (by omega)
        rw [e] at h; cases h
    rw [if_pos h, if_pos h, if_pos (by omega), if_pos (by omega)]
    rfl
  · rw [if_neg h, if_neg h]
    rfl
theorem evSigned (s : ByteArray) : Ev (fun k => words_Signed.f k s) (signF s.data.toList) := by
  unfold words_Signed.f signF words_Number.f
  simp only [trimPrefix_minus, hasPrefix_minus, Option.bind_some]
  by_cases h : negL s.data.toList = true
  · simp only [if_pos h, Lib.extract_to_end]
    by_cases h1 : (numF (s.data.toList.drop 1)).2 = true
    · simp only [if_pos h1]
      refine Ev.step (fun k => words_Signed.j0.eq_2 _ _ _ _) ?_
      by_cases h2 : (numF (s.data.toList.drop 1)).1 ≤ 9223372036854775808
      · simp only [decide_eq_true h2, if_true, if_pos (And.intro h1 h2)]; exact Ev.now _
      · simp only [decide_eq_false h2, Bool.false_eq_true, if_false, hasPrefix_minus, Option.bind_some, if_pos h, if_neg (fun e : _ ∧ _ => h2 e.2)]; exact Ev.now _
    · simp only [if_neg h1, if_neg (fun e : _ ∧ _ => h1 e.1)]; exact Ev.now _
  · simp only [if_neg h]
    by_cases h1 : (numF s.data.toList).2 = true
    · simp only [if_pos h1]
      refine Ev.step (fun k => words_Signed.j0.eq_2 _ _ _ _) ?_
      simp only [Bool.false_eq_true, if_false, hasPrefix_minus, Option.bind_some, if_neg h]
      by_cases h2 : (numF s.data.toList).1 < 9223372036854775808
      · simp only [if_pos h2, if_pos (And.intro h1 h2)]; exact Ev.now _
      · simp only [if_neg h2, if_neg (fun e : _ ∧ _ => h2 e.2)]; exact Ev.now _
    · simp only [if_neg h1, if_neg (fun e : _ ∧ _ => h1 e.1)]; exact Ev.now _
end Go.Proofs.YtfbhlbchmenloaaDoor.Pure
end
section
namespace Go.Proofs.YtfbhlbchmenloaaDoor.Pure
open Go Go.RowKit Go.Proofs.YtfbhlbchmenloaaDoorW.PrintWords Go.Proofs.YtfbhlbchmenloaaDoor.H Go.Proofs.YtfbhlbchmenloaaDoor.L
set_option linter.unusedSimpArgs false
set_option linter.unusedVariables false
theorem ba_ext {a b : ByteArray} (h : a.data.toList = b.data.toList) : a = b := by rw [← ba_of a, ← ba_of b, h]
theorem tl_inj (a b : ByteArray) : a.toList = b.toList ↔ a = b := by
  rw [tl, tl]
  exact ⟨ba_ext, fun h => by rw [h]⟩
theorem beq_tl (a b : ByteArray) (l : List UInt8) (hl : b.toList = l) : (a.toList == l) = decide (a = b) := by
  subst hl
  rw [Bool.eq_iff_iff, beq_iff_eq, decide_eq_true_iff, tl_inj]
theorem eq_tl (a b : ByteArray) (l : List UInt8) (hl : b.toList = l) : (a.toList = l) = (a = b) := by
  subst hl
  rw [tl_inj]
def memB (a : ByteArray) (xs : List ByteArray) : Bool := xs.any fun z => decide (a = z)
def at_ (ws : List ByteArray) (i : Nat) : ByteArray := ws.getD i ByteArray.empty
theorem evIndex (xs : List ByteArray) (a : ByteArray) (hxs : xs.length < 1000000) : ∀ (d i : Nat), i + d = xs.length →
    ∃ r, Ev (fun k => slices_Index_string_string.l0 k xs a (xs.length : Int) (i : Int)) r ∧ decide (r ≥ 0) = memB a (xs.drop i)
  | 0, i, hi => by
    refine ⟨-1, Ev.step (fun k => slices_Index_string_string.l0.eq_2 _ _ _ _ _) ?_, ?_⟩
    · simp only [if_neg (show ¬ (i : Int) < (xs.length : Int) by omega)]; exact Ev.now _
    · rw [List.drop_of_length_le (by omega)]; rfl
  | d + 1, i, hi => by
    have hlt : i < xs.length := by omega
    by_cases he : a = xs[i]
    · refine ⟨(i : Int), Ev.step (fun k => slices_Index_string_string.l0.eq_2 _ _ _ _ _) ?_, ?_⟩
      · simp only [if_pos (show (i : Int) < (xs.length : Int) by omega), if_pos (show (0 : Int) ≤ (i : Int) by omega), rdOf_at ByteArray.empty xs i hlt, tl_inj, if_pos he]; exact Ev.now _
      · rw [List.drop_eq_getElem_cons hlt]
        unfold memB
        rw [List.any_cons, decide_eq_true he, Bool.true_or]
        exact decide_eq_true (by omega)
    · obtain ⟨r, h1, h2⟩ := evIndex xs a hxs d (i + 1) (by omega)
      refine ⟨r, Ev.step (fun k => slices_Index_string_string.l0.eq_2 _ _ _ _ _) ?_, ?_⟩
      · simp only [if_pos (show (i : Int) < (xs.length : Int) by omega), if_pos (show (0 : Int) ≤ (i : Int) by omega), rdOf_at ByteArray.empty xs i hlt, tl_inj, if_neg he, wrap_next (show (0 : Int) ≤ (i : Int) by omega) (by omega)]
        exact h1
      · rw [h2, List.drop_eq_getElem_cons hlt]
        unfold memB
        rw [List.any_cons, decide_eq_false he, Bool.false_or]
theorem evContains (xs : List ByteArray) (a : ByteArray) (hxs : xs.length < 1000000) : Ev (fun k => slices_Contains_string_string.f k xs a) (memB a xs) := by
  obtain ⟨r, h1, h2⟩ := evIndex xs a hxs xs.length 0 (by omega)
  unfold slices_Contains_string_string.f slices_Index_string_string.f
  rw [List.drop_zero] at h2
  rw [← h2]
  exact Ev.bind h1 (Ev.now _)
@[reducible] def noreplyW : ByteArray := ⟨#[110, 111, 114, 101, 112, 108, 121]⟩
@[reducible] def noughtW : ByteArray := ⟨#[48]⟩
def endsR (ws : List ByteArray) (n : Nat) (more : List ByteArray) : Bool × Bool :=
  if ws.length = n then (false, true) else if ws.length = n + 1 ∧ memB (at_ ws n) more = true then (decide (at_ ws n = noreplyW), true) else (false, false)
theorem endsR_len {ws : List ByteArray} {n : Nat} {more : List ByteArray} (h : (endsR ws n more).2 = true) : ws.length = n ∨ ws.length = n + 1 := by
  unfold endsR at h
  by_cases h1 : ws.length = n
  · exact .inl h1
  · rw [if_neg h1] at h
    by_cases h2 : ws.length = n + 1 ∧ memB (at_ ws n) more = true
    · exact .inr h2.1
    · rw [if_neg h2] at h; cases h
theorem rdOf_at_ (ws : List ByteArray) (n : Nat) (h : n < ws.length) : rdOf ByteArray.empty ws (n : Int) = at_ ws n := by
  rw [rdOf_at _ _ _ h]
  unfold at_
  rw [List.getD_eq_getElem?_getD, List.getElem?_eq_getElem h]
  rfl
theorem evEnds (ws : List ByteArray) (n : Nat) (a : Int) (ha : a = (n : Int)) (hn : n < 1000) (more : List ByteArray) (hm : more.length < 1000000) : Ev (fun k => parse_ends.f k ws a more) (endsR ws n more) := by
  subst ha
  unfold parse_ends.f endsR
  have hw : wrap64 ((n : Int) + 1) = ((n + 1 : Nat) : Int) := by unfold wrap64; omega
  by_cases h1 : ws.length = n
  · simp only [h1, if_true]
    exact Ev.now _
  · simp only [if_neg (show ¬ (ws.length : Int) = (n : Int) by omega), if_neg h1, hw]
    by_cases h2 : ws.length = n + 1
    · have e2 : (ws.length = n + 1 ∧ memB (at_ ws n) more = true) = (memB (at_ ws n) more = true) := propext ⟨fun z => z.2, fun z => ⟨h2, z⟩⟩
      simp only [if_pos (show (ws.length : Int) = ((n + 1 : Nat) : Int) by omega), if_pos (show (0 : Int) ≤ (n : Int) by omega), if_pos (show (n : Int) < (ws.length : Int) by omega), rdOf_at_ ws n (by omega), e2]
      refine Ev.bind (evContains more _ hm) ?_
      by_cases h3 : memB (at_ ws n) more = true
      · simp only [if_pos h3]
        rw [beq_tl (at_ ws n) noreplyW _ (tl _)]
        exact Ev.now _
      · simp only [if_neg h3]
        exact Ev.now _
    · simp only [if_neg (show ¬ (ws.length : Int) = ((n + 1 : Nat) : Int) by omega), if_neg (fun e : _ ∧ _ => h2 e.1)]
      exact Ev.now _
@[reducible] def getW : ByteArray := ⟨#[103, 101, 116]⟩
@[reducible] def getsW : ByteArray := ⟨#[103, 101, 116, 115]⟩
@[reducible] def gatW : ByteArray := ⟨#[103, 97, 116]⟩
@[reducible] def gatsW : ByteArray := ⟨#[103, 97, 116, 115]⟩
@[reducible] def setW : ByteArray := ⟨#[115, 101, 116]⟩
@[reducible] def addW : ByteArray := ⟨#[97, 100, 100]⟩
@[reducible] def replaceW : ByteArray := ⟨#[114, 101, 112, 108, 97, 99, 101]⟩
@[reducible] def appendW : ByteArray := ⟨#[97, 112, 112, 101, 110, 100]⟩
@[reducible] def prependW : ByteArray := ⟨#[112, 114, 101, 112, 101, 110, 100]⟩
@[reducible] def casW : ByteArray := ⟨#[99, 97, 115]⟩
@[reducible] def incrW : ByteArray := ⟨#[105, 110, 99, 114]⟩
@[reducible] def decrW : ByteArray := ⟨#[100, 101, 99, 114]⟩
@[reducible] def touchW : ByteArray := ⟨#[116, 111, 117, 99, 104]⟩
@[reducible] def deleteW : ByteArray := ⟨#[100, 101, 108, 101, 116, 101]⟩
@[reducible] def flushW : ByteArray := ⟨#[102, 108, 117, 115, 104, 95, 97, 108, 108]⟩
@[reducible] def versionW : ByteArray := ⟨#[118, 101, 114, 115, 105, 111, 110]⟩
@[reducible] def quitW : ByteArray := ⟨#[113, 117, 105, 116]⟩
@[reducible] def errT : ByteArray := ⟨#[69, 82, 82, 79, 82]⟩
@[reducible] def formT : ByteArray := ⟨#[67, 76, 73, 69, 78, 84, 95, 69, 82, 82, 79, 82, 32, 98, 97, 100, 32, 99, 111, 109, 109, 97, 110, 100, 32, 108, 105, 110, 101, 32, 102, 111, 114, 109, 97, 116]⟩
@[reducible] def deltaT : ByteArray := ⟨#[67, 76, 73, 69, 78, 84, 95, 69, 82, 82, 79, 82, 32, 105, 110, 118, 97, 108, 105, 100, 32, 110, 117, 109, 101, 114, 105, 99, 32, 100, 101, 108, 116, 97, 32, 97, 114, 103, 117, 109, 101, 110, 116]⟩
@[reducible] def timeT : ByteArray := ⟨#[67, 76, 73, 69, 78, 84, 95, 69, 82, 82, 79, 82, 32, 105, 110, 118, 97, 108, 105, 100, 32, 101, 120, 112, 116, 105, 109, 101, 32, 97, 114, 103, 117, 109, 101, 110, 116]⟩
@[reducible] def largeT : ByteArray := ⟨#[83, 69, 82, 86, 69, 82, 95, 69, 82, 82, 79, 82, 32, 111, 98, 106, 101, 99, 116, 32, 116, 111, 111, 32, 108, 97, 114, 103, 101, 32, 102, 111, 114, 32, 99, 97, 99, 104, 101]⟩
def storeP (ws : List ByteArray) (six : Bool) : Cm × Int :=
  let en := endsR ws (if six then 6 else 5) [noreplyW]
  let f := numF (at_ ws 2).data.toList
  let e := signF (at_ ws 3).data.toList
  let s := numF (at_ ws 4).data.toList
  let c := if six then numF (at_ ws 5).data.toList else (0, true)
  if en.2 = false then (.bad errT, -1)
  else if keyF (at_ ws 1) = false then (.bad formT, -1)
  else if f.2 = true ∧ e.2 = true ∧ s.2 = true ∧ c.2 = true ∧ f.1 ≤ 4294967295 ∧ s.1 ≤ 2147483647 then
    (if s.1 > 1024 then (.bad largeT, s.1) else (.store (at_ ws 0) (at_ ws 1) ⟨#[]⟩ (f.1 % 4294967296) e.1 c.1 en.1, s.1))
  else (.bad formT, -1)
theorem evStore2 (ws : List ByteArray) (hl : 5 ≤ ws.length) (q : Bool) (f e s c : Int) (hs : 0 ≤ s) (b : Bool) (hb : b = decide (s > 2147483647)) :
    Ev (fun k => parse_store.j2 k ws q f e s c b) (if s ≤ 2147483647 then (if s > 1024 then (.bad largeT, s) else (.store (at_ ws 0) (at_ ws 1) ⟨#[]⟩ (f % 4294967296) e c q, s)) else (.bad formT, -1)) := by
  refine Ev.step (fun k => parse_store.j2.eq_2 _ _ _ _ _ _ _ _) ?_
  subst hb
  by_cases h : s > 2147483647
  · simp only [decide_eq_true h, if_true, if_neg (show ¬ s ≤ 2147483647 by omega), parse_bad.f, Option.bind_some]; exact Ev.now _
  · have hw : wrap64 s = s := by unfold wrap64; omega
    simp only [decide_eq_false h, Bool.false_eq_true, if_false, if_pos (show s ≤ 2147483647 by omega), hw, if_pos (show 0 < (ws.length : Int) by omega), if_pos (show 1 < (ws.length : Int) by omega)]
    by_cases h1 : s > 1024
    · simp only [if_pos h1]; exact Ev.now _
    · simp only [if_neg h1]; exact Ev.now _
theorem evStore2t (ws : List ByteArray) (q : Bool) (f e s c : Int) : Ev (fun k => parse_store.j2 k ws q f e s c true) (.bad formT, -1) := by
  refine Ev.step (fun k => parse_store.j2.eq_2 _ _ _ _ _ _ _ _) ?_
  simp only [if_true, parse_bad.f, Option.bind_some]; exact Ev.now _
theorem evStore1 (ws : List ByteArray) (hl : 5 ≤ ws.length) (q : Bool) (f e s c : Int × Bool) (hs : 0 ≤ s.1) :
    Ev (fun k => parse_store.j1 k ws q f.1 f.2 e.1 e.2 s.1 s.2 c.1 c.2) (if f.2 = true ∧ e.2 = true ∧ s.2 = true ∧ c.2 = true ∧ f.1 ≤ 4294967295 ∧ s.1 ≤ 2147483647 then
    (if s.1 > 1024 then (.bad largeT, s.1) else (.store (at_ ws 0) (at_ ws 1) ⟨#[]⟩ (f.1 % 4294967296) e.1 c.1 q, s.1)) else (.bad formT, -1)) := by
  refine Ev.step (fun k => parse_store.j1.eq_2 _ _ _ _ _ _ _ _ _ _ _) ?_
  by_cases h1 : f.2 = true
  · by_cases h2 : e.2 = true
    · by_cases h3 : s.2 = true
      · by_cases h4 : c.2 = true
        · by_cases h5 : f.1 > 4294967295
          · simp only [if_pos h1, if_pos h2, if_pos h3, if_pos h4, if_pos h5, if_neg (show ¬ (f.2 = true ∧ e.2 = true ∧ s.2 = true ∧ c.2 = true ∧ f.1 ≤ 4294967295 ∧ s.1 ≤ 2147483647) by omega)]
            exact evStore2t _ _ _ _ _ _
          · simp only [if_pos h1, if_pos h2, if_pos h3, if_pos h4, if_neg h5]
            have h := evStore2 ws hl q f.1 e.1 s.1 c.1 hs _ rfl
            by_cases h6 : s.1 ≤ 2147483647
            · rw [if_pos h6] at h
              rw [if_pos ⟨h1, h2, h3, h4, by omega, h6⟩]
              exact h
            · rw [if_neg h6] at h
              rw [if_neg (fun z => h6 z.2.2.2.2.2)]
              exact h
        · simp only [if_pos h1, if_pos h2, if_pos h3, if_neg h4, if_neg (fun z : _ ∧ _ ∧ _ ∧ _ ∧ _ ∧ _ => h4 z.2.2.2.1)]; exact evStore2t _ _ _ _ _ _
      · simp only [if_pos h1, if_pos h2, if_neg h3, if_neg (fun z : _ ∧ _ ∧ _ ∧ _ ∧ _ ∧ _ => h3 z.2.2.1)]; exact evStore2t _ _ _ _ _ _
    · simp only [if_pos h1, if_neg h2, if_neg (fun z : _ ∧ _ ∧ _ ∧ _ ∧ _ ∧ _ => h2 z.2.1)]; exact evStore2t _ _ _ _ _ _
  · simp only [if_neg h1, if_neg (fun z : _ ∧ _ ∧ _ ∧ _ ∧ _ ∧ _ => h1 z.1)]; exact evStore2t _ _ _ _ _ _
theorem evStore0 (ws : List ByteArray) (six : Bool) (a : Int) (ha : a = if six = true then 6 else 5) : Ev (fun k => parse_store.j0 k ws a) (storeP ws six) := by
  refine Ev.step (fun k => parse_store.j0.eq_2 _ _ _) ?_
  unfold storeP
  refine Ev.bind (evEnds ws (if six = true then 6 else 5) a (by rw [ha]; cases six <;> rfl) (by cases six <;> decide) [noreplyW] (by decide)) ?_
  by_cases hen : (endsR ws (if six = true then 6 else 5) [noreplyW]).2 = true
  · have hl := endsR_len hen
    have hl5 : 5 ≤ ws.length := by cases six <;> simp at hl <;> omega
    simp only [if_pos hen, hen, Bool.true_eq_false, if_false, if_pos (show 1 < (ws.length : Int) by omega), if_pos (show 2 < (ws.length : Int) by omega), if_pos (show 3 < (ws.length : Int) by omega), if_pos (show 4 < (ws.length : Int) by omega), words_Key.f, words_Number.f, Option.bind_some]
    have r1 : rdOf ByteArray.empty ws 1 = at_ ws 1 := rfl
    have r2 : rdOf ByteArray.empty ws 2 = at_ ws 2 := rfl
    have r3 : rdOf ByteArray.empty ws 3 = at_ ws 3 := rfl
    have r4 : rdOf ByteArray.empty ws 4 = at_ ws 4 := rfl
    have r5 : rdOf ByteArray.empty ws 5 = at_ ws 5 := rfl
    simp only [r1, r2, r3, r4, r5]
    by_cases hk : keyF (at_ ws 1) = true
    · simp only [if_pos hk, hk, Bool.true_eq_false, if_false]
      refine Ev.bind (evSigned _) ?_
      cases six with
      | true =>
        simp only [if_true] at ha hl
        subst ha
        simp only [if_true, if_pos (show 5 < (ws.length : Int) by omega)]
        exact evStore1 ws hl5 _ _ _ _ _ (numF_range _).1
      | false =>
        simp only [Bool.false_eq_true, if_false] at ha
        subst ha
        simp only [show ¬ ((5 : Int) = 6) by decide, if_false, Bool.false_eq_true]
        have h := evStore1 ws hl5 (endsR ws 5 [noreplyW]).1 (numF (at_ ws 2).data.toList) (signF (at_ ws 3).data.toList) (numF (at_ ws 4).data.toList) (0, true) (numF_range _).1
        simp only [true_and] at h ⊢
        exact h
    · have hk2 : keyF (at_ ws 1) = false := by simpa using hk
      simp only [hk2, Bool.false_eq_true, if_false, if_true, parse_bad.f, Option.bind_some]
      exact Ev.now _
  · have hen2 := eq_false_of_ne_true hen
    simp only [hen2, Bool.false_eq_true, if_false, if_true, parse_bad.f, Option.bind_some]
    exact Ev.now _
def storeR (ws : List ByteArray) : Cm × Int := storeP ws (decide (at_ ws 0 = casW))
theorem evStore (ws : List ByteArray) (h : 0 < ws.length) : Ev (fun k => parse_store.f k ws) (storeR ws) := by
  unfold parse_store.f storeR
  have r0 : rdOf ByteArray.empty ws 0 = at_ ws 0 := rfl
  simp only [if_pos (show 0 < (ws.length : Int) by omega), r0, eq_tl (at_ ws 0) casW _ (tl _)]
  by_cases hc : at_ ws 0 = casW
  · simp only [if_pos hc, decide_eq_true hc]; exact evStore0 ws true 6 rfl
  · simp only [if_neg hc, decide_eq_false hc]; exact evStore0 ws false 5 rfl
def keyedR (ws : List ByteArray) : Cm × Int :=
  let en := endsR ws 3 [noreplyW]
  if en.2 = false then (.bad errT, -1)
  else if keyF (at_ ws 1) = false then (.bad formT, -1)
  else if at_ ws 0 = touchW then (if (signF (at_ ws 2).data.toList).2 = true then (.touch (at_ ws 1) (signF (at_ ws 2).data.toList).1 en.1, -1) else (.bad timeT, -1))
  else (if (numF (at_ ws 2).data.toList).2 = true then (.arith (at_ ws 1) (numF (at_ ws 2).data.toList).1 (decide (at_ ws 0 = decrW)) en.1, -1) else (.bad deltaT, -1))
theorem evKeyed (ws : List ByteArray) : Ev (fun k => parse_keyed.f k ws) (keyedR ws) := by
  unfold parse_keyed.f keyedR
  refine Ev.bind (evEnds ws 3 3 rfl (by decide) [noreplyW] (by decide)) ?_
  by_cases hen : (endsR ws 3 [noreplyW]).2 = true
  · have hl := endsR_len hen
    have r0 : rdOf ByteArray.empty ws 0 = at_ ws 0 := rfl
    have r1 : rdOf ByteArray.empty ws 1 = at_ ws 1 := rfl
    have r2 : rdOf ByteArray.empty ws 2 = at_ ws 2 := rfl
    simp only [if_pos hen, hen, Bool.true_eq_false, if_false, if_pos (show 0 < (ws.length : Int) by omega), if_pos (show 1 < (ws.length : Int) by omega), if_pos (show 2 < (ws.length : Int) by omega), words_Key.f, words_Number.f, Option.bind_some, r0, r1, r2, eq_tl (at_ ws 0) touchW _ (tl _), beq_tl (at_ ws 0) decrW _ (tl _)]
    by_cases hk : keyF (at_ ws 1) = true
    · simp only [if_pos hk, hk, Bool.true_eq_false, if_false]
      by_cases ht : at_ ws 0 = touchW
      · simp only [if_pos ht]
        refine Ev.bind (evSigned _) ?_
        by_cases hs : (signF (at_ ws 2).data.toList).2 = true
        · simp only [if_pos hs]; exact Ev.now _
        · simp only [if_neg hs, parse_bad.f, Option.bind_some]; exact Ev.now _
      · simp only [if_neg ht]
        by_cases hs : (numF (at_ ws 2).data.toList).2 = true
        · simp only [if_pos hs]; exact Ev.now _
        · simp only [if_neg hs, parse_bad.f, Option.bind_some]; exact Ev.now _
    · have hk2 : keyF (at_ ws 1) = false := by simpa using hk
      simp only [hk2, Bool.false_eq_true, if_false, if_true, parse_bad.f, Option.bind_some]
      exact Ev.now _
  · have hen2 := eq_false_of_ne_true hen
    simp only [hen2, Bool.false_eq_true, if_false, if_true, parse_bad.f, Option.bind_some]
    exact Ev.now _
def deleteR (ws : List ByteArray) : Cm × Int :=
  if (endsR ws 2 [noreplyW, noughtW]).2 = true then (if keyF (at_ ws 1) = true then (.delete (at_ ws 1) (endsR ws 2 [noreplyW, noughtW]).1, -1) else (.bad formT, -1)) else (.bad errT, -1)
def flushR (ws : List ByteArray) : Cm × Int :=
  if (endsR ws 1 [noreplyW, noughtW]).2 = true then (.flush (endsR ws 1 [noreplyW, noughtW]).1, -1) else (.bad errT, -1)
def wordR (ws : List ByteArray) : Cm × Int := if ws.length = 1 then (.word (at_ ws 0), -1) else (.bad errT, -1)
def isStoreW (w : ByteArray) : Prop := w = setW ∨ w = addW ∨ w = replaceW ∨ w = appendW ∨ w = prependW ∨ w = casW
instance (w : ByteArray) : Decidable (isStoreW w) := by unfold isStoreW; infer_instance
def isKeyedW (w : ByteArray) : Prop := w = incrW ∨ w = decrW ∨ w = touchW
instance (w : ByteArray) : Decidable (isKeyedW w) := by unfold isKeyedW; infer_instance
/-- A line that is no Get's. -/
def plainR (ws : List ByteArray) : Cm × Int :=
  if isStoreW (at_ ws 0) then storeR ws else if isKeyedW (at_ ws 0) then keyedR ws else if at_ ws 0 = deleteW then deleteR ws else if at_ ws 0 = flushW then flushR ws
  else if at_ ws 0 = versionW ∨ at_ ws 0 = quitW then wordR ws else (.bad errT, -1)
theorem evOne3 (ws : List ByteArray) (h : 0 < ws.length) (b : Bool) : Ev (fun k => parse_one.j3 k ws b) (if b = true then wordR ws else (.bad errT, -1)) := by
  refine Ev.step (fun k => parse_one.j3.eq_2 _ _ _) ?_
  have r0 : rdOf ByteArray.empty ws 0 = at_ ws 0 := rfl
  unfold wordR
  cases b with
  | true =>
    simp only [if_true, r0, if_pos (show 0 < (ws.length : Int) by omega)]
    by_cases h1 : ws.length = 1
    · simp only [if_pos (show (ws.length : Int) = 1 by omega), if_pos h1]; exact Ev.now _
    · simp only [if_neg (show ¬ (ws.length : Int) = 1 by omega), if_neg h1, parse_bad.f, Option.bind_some]; exact Ev.now _
  | false => simp only [Bool.false_eq_true, if_false, parse_bad.f, Option.bind_some]; exact Ev.now _
theorem evOne2 (ws : List ByteArray) (h : 0 < ws.length) (hs : ¬ isStoreW (at_ ws 0)) (b : Bool) (hb : b = decide (isKeyedW (at_ ws 0))) : Ev (fun k => parse_one.j2 k ws (at_ ws 0) b) (plainR ws) := by
  refine Ev.step (fun k => parse_one.j2.eq_2 _ _ _ _) ?_
  subst hb
  have r1 : rdOf ByteArray.empty ws 1 = at_ ws 1 := rfl
  unfold plainR
  rw [if_neg hs]
  by_cases hk : isKeyedW (at_ ws 0)
  · simp only [if_pos hk, decide_eq_true hk, if_true]
    exact Ev.bind (evKeyed ws) (Ev.now _)
  · simp only [if_neg hk, decide_eq_false hk, Bool.false_eq_true, if_false, eq_tl (at_ ws 0) deleteW _ (tl _), eq_tl (at_ ws 0) flushW _ (tl _), eq_tl (at_ ws 0) versionW _ (tl _), beq_tl (at_ ws 0) versionW _ (tl _), beq_tl (at_ ws 0) quitW _ (tl _)]
    by_cases hd : at_ ws 0 = deleteW
    · simp only [if_pos hd, deleteR]
      refine Ev.bind (evEnds ws 2 2 rfl (by decide) [noreplyW, noughtW] (by decide)) ?_
      by_cases he : (endsR ws 2 [noreplyW, noughtW]).2 = true
      · have hl := endsR_len he
        simp only [if_pos he, if_pos (show 1 < (ws.length : Int) by omega), words_Key.f, Option.bind_some, r1]
        by_cases hk : keyF (at_ ws 1) = true
        · simp only [if_pos hk]; exact Ev.now _
        · simp only [if_neg hk, parse_bad.f, Option.bind_some]; exact Ev.now _
      · simp only [if_neg he, parse_bad.f, Option.bind_some]; exact Ev.now _
    · simp only [if_neg hd]
      by_cases hf : at_ ws 0 = flushW
      · simp only [if_pos hf, flushR]
        refine Ev.bind (evEnds ws 1 1 rfl (by decide) [noreplyW, noughtW] (by decide)) ?_
        by_cases he : (endsR ws 1 [noreplyW, noughtW]).2 = true
        · simp only [if_pos he]; exact Ev.now _
        · simp only [if_neg he, parse_bad.f, Option.bind_some]; exact Ev.now _
      · simp only [if_neg hf]
        by_cases hv : at_ ws 0 = versionW
        · simp only [if_pos hv, if_pos (show at_ ws 0 = versionW ∨ at_ ws 0 = quitW from .inl hv), decide_eq_true hv]
          exact evOne3 ws h true
        · simp only [if_neg hv]
          have h3 := evOne3 ws h (decide (at_ ws 0 = quitW))
          by_cases hq : at_ ws 0 = quitW
          · rw [if_pos (show at_ ws 0 = versionW ∨ at_ ws 0 = quitW from .inr hq)]
            rw [if_pos (decide_eq_true hq)] at h3
            exact h3
          · rw [if_neg (show ¬ (at_ ws 0 = versionW ∨ at_ ws 0 = quitW) from fun z => z.elim hv hq)]
            rw [if_neg (by simpa using hq)] at h3
            exact h3
theorem evOne1 (ws : List ByteArray) (h : 0 < ws.length) (b : Bool) (hb : b = decide (isStoreW (at_ ws 0))) : Ev (fun k => parse_one.j1 k ws (at_ ws 0) b) (plainR ws) := by
  refine Ev.step (fun k => parse_one.j1.eq_2 _ _ _ _) ?_
  subst hb
  by_cases hs : isStoreW (at_ ws 0)
  · simp only [decide_eq_true hs, if_true]
    unfold plainR
    rw [if_pos hs]
    exact Ev.bind (evStore ws h) (Ev.now _)
  · simp only [decide_eq_false hs, Bool.false_eq_true, if_false, eq_tl (at_ ws 0) incrW _ (tl _), eq_tl (at_ ws 0) decrW _ (tl _), beq_tl (at_ ws 0) incrW _ (tl _), beq_tl (at_ ws 0) decrW _ (tl _), beq_tl (at_ ws 0) touchW _ (tl _)]
    by_cases h1 : at_ ws 0 = incrW
    · simp only [if_pos h1]; exact evOne2 ws h hs _ (decide_eq_decide.2 ⟨fun z => .inl z, fun _ => h1⟩)
    · simp only [if_neg h1]
      by_cases h2 : at_ ws 0 = decrW
      · simp only [if_pos h2]; exact evOne2 ws h hs _ (decide_eq_decide.2 ⟨fun z => .inr (.inl z), fun _ => h2⟩)
      · simp only [if_neg h2]; exact evOne2 ws h hs _ (decide_eq_decide.2 ⟨fun z => .inr (.inr z), fun z => z.elim (fun e => absurd e h1) fun z => z.elim (fun e => absurd e h2) id⟩)
theorem evOne0 (ws : List ByteArray) (h : 0 < ws.length) : Ev (fun k => parse_one.j0 k ws (at_ ws 0) false) (plainR ws) := by
  refine Ev.step (fun k => parse_one.j0.eq_2 _ _ _ _) ?_
  simp only [Bool.false_eq_true, if_false, eq_tl (at_ ws 0) setW _ (tl _), eq_tl (at_ ws 0) addW _ (tl _), eq_tl (at_ ws 0) replaceW _ (tl _), eq_tl (at_ ws 0) appendW _ (tl _), eq_tl (at_ ws 0) prependW _ (tl _), beq_tl (at_ ws 0) setW _ (tl _), beq_tl (at_ ws 0) addW _ (tl _), beq_tl (at_ ws 0) replaceW _ (tl _), beq_tl (at_ ws 0) appendW _ (tl _), beq_tl (at_ ws 0) prependW _ (tl _), beq_tl (at_ ws 0) casW _ (tl _)]
  by_cases h1 : at_ ws 0 = setW
  · simp only [if_pos h1]; exact evOne1 ws h _ (decide_eq_decide.2 ⟨fun z => .inl z, fun _ => h1⟩)
  · simp only [if_neg h1]
    by_cases h2 : at_ ws 0 = addW
    · simp only [if_pos h2]; exact evOne1 ws h _ (decide_eq_decide.2 ⟨fun z => .inr (.inl z), fun _ => h2⟩)
    · simp only [if_neg h2]
      by_cases h3 : at_ ws 0 = replaceW
      · simp only [if_pos h3]; exact evOne1 ws h _ (decide_eq_decide.2 ⟨fun z => .inr (.inr (.inl z)), fun _ => h3⟩)
      · simp only [if_neg h3]
        by_cases h4 : at_ ws 0 = appendW
        · simp only [if_pos h4]; exact evOne1 ws h _ (decide_eq_decide.2 ⟨fun z => .inr (.inr (.inr (.inl z))), fun _ => h4⟩)
        · simp only [if_neg h4]
          by_cases h5 : at_ ws 0 = prependW
          · simp only [if_pos h5]; exact evOne1 ws h _ (decide_eq_decide.2 ⟨fun z => .inr (.inr (.inr (.inr (.inl z)))), fun _ => h5⟩)
          · simp only [if_neg h5]; exact evOne1 ws h _ (decide_eq_decide.2 ⟨fun z => .inr (.inr (.inr (.inr (.inr z)))), fun z => z.elim (fun e => absurd e h1) fun z => z.elim (fun e => absurd e h2) fun z => z.elim (fun e => absurd e h3) fun z => z.elim (fun e => absurd e h4) fun z => z.elim (fun e => absurd e h5) id⟩)
/-- What a line's words tell. -/
def lineX (ws : List ByteArray) : Cx × Int :=
  match ws with
  | [] => (.pl (.bad errT), -1)
  | w :: r =>
    if w = getW then (get1 false r, -1) else if w = getsW then (get1 true r, -1)
    else if w = gatW then (match r with | x :: y :: ks => (getX (y :: ks) false true (signF x.data.toList), -1) | _ => (badX, -1))
    else if w = gatsW then (match r with | x :: y :: ks => (getX (y :: ks) true true (signF x.data.toList), -1) | _ => (badX, -1))
    else (.pl (plainR (w :: r)).1, (plainR (w :: r)).2)
theorem evMap {α β : Type} {g : Nat → Option α} {a : α} (f : α → β) (h : Ev g a) : Ev (fun k => (g k).map f) (f a) := by
  obtain ⟨K, hK⟩ := h
  exact ⟨K, fun k hk => by show (g k).map f = _; rw [hK k hk]; rfl⟩
theorem ev_get2 (ca : Bool) (r : List ByteArray) : Ev (fun k => get2 k ca r) (match r with | x :: y :: ks => getX (y :: ks) ca true (signF x.data.toList) | _ => badX) := by
  match r with
  | [] => exact Ev.now _
  | [a] => exact Ev.now _
  | a :: b :: ks => exact evMap (fun sg => getX (b :: ks) ca true sg) (evSigned a)
theorem evPlain (s : ByteArray) (hs : s.size < 4000000000) (ws : List ByteArray) (hws : (wl [] s.data.toList).map ba = ws) (h : 0 < ws.length) (hg : isGet (at_ ws 0) ≠ true) : Ev (fun k => parse_one.f k s) (plainR ws) := by
  unfold parse_one.f
  refine Ev.bind (hws ▸ evSplit s hs) ?_
  unfold isGet at hg
  simp only [ne_eq, Bool.or_eq_true, decide_eq_true_iff, not_or] at hg
  obtain ⟨⟨⟨g1, g2⟩, g3⟩, g4⟩ := hg
  have r0 : rdOf ByteArray.empty ws 0 = at_ ws 0 := rfl
  simp only [if_neg (show ¬ (ws.length : Int) = 0 by omega), if_pos (show 0 < (ws.length : Int) by omega), r0, eq_tl (at_ ws 0) getW _ (tl _), eq_tl (at_ ws 0) getsW _ (tl _), eq_tl (at_ ws 0) gatW _ (tl _), beq_tl (at_ ws 0) gatsW _ (tl _), if_neg g1, if_neg g2, if_neg g3, decide_eq_false g4]
  exact evOne0 ws h
theorem evOneF (s : ByteArray) (hs : s.size < 4000000000) : Ev (fun k => oneF k s) (lineX ((wl [] s.data.toList).map ba)) := by
  generalize hws : (wl [] s.data.toList).map ba = ws
  unfold oneF
  refine Ev.bind (hws ▸ evSplit s hs) ?_
  match ws, hws with
  | [], hws =>
    have hp : Ev (fun k => parse_one.f k s) (Cm.bad errT, (-1 : Int)) := by
      unfold parse_one.f
      refine Ev.bind (hws ▸ evSplit s hs) ?_
      simp only [List.length_nil, Int.natCast_zero, if_true, parse_bad.f, Option.bind_some]
      exact Ev.now _
    exact evMap (fun p : Cm × Int => (Cx.pl p.1, p.2)) hp
  | w :: r, hws =>
    by_cases hg : isGet w = true
    · simp only [if_pos hg, lineX, getLine]
      unfold isGet at hg
      simp only [Bool.or_eq_true, decide_eq_true_iff] at hg
      by_cases g1 : w = getW
      · simp only [if_pos g1]; exact evMap (fun x : Cx => (x, (-1 : Int))) (Ev.now _)
      · simp only [if_neg g1]
        by_cases g2 : w = getsW
        · simp only [if_pos g2]; exact evMap (fun x : Cx => (x, (-1 : Int))) (Ev.now _)
        · simp only [if_neg g2]
          by_cases g3 : w = gatW
          · simp only [if_pos g3]
            have h := evMap (fun x : Cx => (x, (-1 : Int))) (ev_get2 false r)
            match r, h with
            | [], h => exact h
            | [a], h => exact h
            | a :: b :: ks, h => exact h
          · simp only [if_neg g3]
            have g4 : w = gatsW := by
              rcases hg with ((h | h) | h) | h
              · exact absurd h g1
              · exact absurd h g2
              · exact absurd h g3
              · exact h
            simp only [if_pos g4]
            have h := evMap (fun x : Cx => (x, (-1 : Int))) (ev_get2 true r)
            match r, h with
            | [], h => exact h
            | [a], h => exact h
            | a :: b :: ks, h => exact h
    · simp only [if_neg hg, lineX]
      have hg2 := hg
      unfold isGet at hg2
      simp only [Bool.or_eq_true, decide_eq_true_iff, not_or] at hg2
      obtain ⟨⟨⟨g1, g2⟩, g3⟩, g4⟩ := hg2
      rw [if_neg g1, if_neg g2, if_neg g3, if_neg g4]
      exact evMap (fun p : Cm × Int => (Cx.pl p.1, p.2)) (evPlain s hs (w :: r) hws (by simp) hg)
end Go.Proofs.YtfbhlbchmenloaaDoor.Pure
end
section
namespace Go.Proofs.YtfbhlbchmenloaaDoor.Pure
open Go Go.RowKit Go.Proofs.YtfbhlbchmenloaaDoorW.PrintWords Go.Proofs.YtfbhlbchmenloaaDoor.H Go.Proofs.YtfbhlbchmenloaaDoor.L
set_option linter.unusedSimpArgs false
set_option linter.unusedVariables false
/-! Where a byte 10 is. -/
theorem ib_app (c : UInt8) : ∀ l r : List UInt8, Lib.indexByte (l ++ r) c = if Lib.indexByte l c < 0 then (if Lib.indexByte r c < 0 then -1 else l.length + Lib.indexByte r c) else Lib.indexByte l c
  | [], r => by
    have := Lib.indexByte_ge r c
    simp only [List.nil_append, Lib.indexByte, List.length_nil]
    rw [if_pos (by decide)]
    split <;> omega
  | b :: l, r => by
    have ih := ib_app c l r
    have h1 := Lib.indexByte_ge l c
    have h2 := Lib.indexByte_ge r c
    simp only [List.cons_append, Lib.indexByte]
    by_cases hb : (b == c) = true
    · simp [hb]
    · simp only [hb, Bool.false_eq_true, if_false, ih, beq_iff_eq]
      by_cases h3 : Lib.indexByte l c < 0
      · rw [if_pos h3]
        have h3' : Lib.indexByte l c = -1 := by omega
        rw [h3']
        by_cases h4 : Lib.indexByte r c < 0
        · simp [h4]
        · simp only [if_neg h4, List.length_cons]
          simp only [if_true, show ((-1 : Int) < 0) from by decide]
          rw [if_neg (by omega)]
          omega
      · simp only [if_neg h3, if_neg (show ¬ Lib.indexByte l c = -1 by omega)]
        rw [if_neg (by omega)]
theorem ib_lt (c : UInt8) : ∀ l : List UInt8, Lib.indexByte l c < l.length
  | [] => by simp [Lib.indexByte]
  | b :: l => by
    have ih := ib_lt c l
    simp only [Lib.indexByte, List.length_cons]
    split
    · omega
    · split <;> omega
theorem bytesOf_len (b : List Int) : (Lib.bytesOf b).length = b.length := by unfold Lib.bytesOf; rw [List.length_map]
theorem idx_ge (b : List Int) : -1 ≤ idx10 b := Lib.indexByte_ge _ _
theorem idx_lt (b : List Int) : idx10 b < b.length := by
  have := ib_lt 10 (Lib.bytesOf b)
  rw [bytesOf_len] at this
  exact this
theorem idx_app (b l : List Int) : idx10 (b ++ l) = if idx10 b < 0 then (if idx10 l < 0 then -1 else b.length + idx10 l) else idx10 b := by
  unfold idx10
  rw [show Lib.bytesOf (b ++ l) = Lib.bytesOf b ++ Lib.bytesOf l from List.map_append, ib_app, bytesOf_len]
theorem idx_nil : idx10 [] = -1 := rfl
/-! What is passed over. -/
def nrm (ps : PS) : PS := (psPass ps).2
theorem nrm_off {ps : PS} (h : ps.skip = false) : nrm ps = ps := by unfold nrm psPass; rw [if_pos h]
theorem nrm_wait {ps : PS} (h : ps.skip = true) (hi : idx10 ps.b < 0) : nrm ps = { ps with b := [] } := by
  unfold nrm psPass psUse
  rw [if_neg (by rw [h]; decide), if_pos hi, List.drop_length]
theorem nrm_on {ps : PS} (h : ps.skip = true) (hi : ¬ idx10 ps.b < 0) : nrm ps = { ps with b := ps.b.drop ((idx10 ps.b).toNat + 1), skip := false } := by
  unfold nrm psPass psUse
  rw [if_neg (by rw [h]; decide), if_neg hi]
theorem pass_1 (ps : PS) : (psPass ps).1 = !(nrm ps).skip := by
  cases h : ps.skip with
  | false => rw [nrm_off h, h]; unfold psPass; rw [if_pos h]; rfl
  | true =>
    by_cases hi : idx10 ps.b < 0
    · rw [nrm_wait h hi]; unfold psPass; rw [if_neg (by rw [h]; decide), if_pos hi]; simp [h]
    · rw [nrm_on h hi]; unfold psPass; rw [if_neg (by rw [h]; decide), if_neg hi]; rfl
theorem nrm_c (ps : PS) : (nrm ps).c = ps.c ∧ (nrm ps).n = ps.n ∧ (nrm ps).b.length ≤ ps.b.length := by
  cases h : ps.skip with
  | false => rw [nrm_off h]; exact ⟨rfl, rfl, Nat.le_refl _⟩
  | true =>
    by_cases hi : idx10 ps.b < 0
    · rw [nrm_wait h hi]; exact ⟨rfl, rfl, Nat.zero_le _⟩
    · rw [nrm_on h hi]; exact ⟨rfl, rfl, by rw [List.length_drop]; omega⟩
theorem nrm_nrm (ps : PS) : nrm (nrm ps) = nrm ps := by
  cases h : ps.skip with
  | false => rw [nrm_off h, nrm_off h]
  | true =>
    by_cases hi : idx10 ps.b < 0
    · rw [nrm_wait h hi, nrm_wait (by exact h) (show idx10 ([] : List Int) < 0 by decide)]
    · rw [nrm_on h hi]; exact nrm_off rfl
theorem nrm_feed (ps : PS) (l : List Int) : nrm (psFeed ps l) = nrm (psFeed (nrm ps) l) := by
  cases h : ps.skip with
  | false => rw [nrm_off h]
  | true =>
    by_cases hi : idx10 ps.b < 0
    · rw [nrm_wait h hi]
      have ha := idx_app ps.b l
      rw [if_pos hi] at ha
      by_cases hl : idx10 l < 0
      · rw [if_pos hl] at ha
        rw [nrm_wait (ps := psFeed ps l) h (by show idx10 (ps.b ++ l) < 0; omega), nrm_wait (by exact h) (by exact hl)]
        rfl
      · rw [if_neg hl] at ha
        have h0 := idx_ge l
        rw [nrm_on (ps := psFeed ps l) h (by show ¬ idx10 (ps.b ++ l) < 0; omega), nrm_on (by exact h) (by exact hl)]
        unfold psFeed
        simp only [List.nil_append]
        rw [ha, show ((ps.b.length : Int) + idx10 l).toNat + 1 = ps.b.length + ((idx10 l).toNat + 1) by omega, List.drop_append]
        rw [List.drop_of_length_le (by omega), Nat.add_sub_cancel_left, List.nil_append]
    · have ha := idx_app ps.b l
      rw [if_neg hi] at ha
      have hlt := idx_lt ps.b
      rw [nrm_on h hi, nrm_on (ps := psFeed ps l) h (by show ¬ idx10 (ps.b ++ l) < 0; omega)]
      refine Eq.trans ?_ (nrm_off rfl).symm
      unfold psFeed
      simp only [ha]
      rw [List.drop_append_of_le_length (by omega)]
/-! The next command. -/
def lineT (q : PS) : Cx × Int := lineX ((wl [] (strOfNums (lineL q)).data.toList).map ba)
def dataR (ps : PS) : Cx × Bool × PS := (.pl (psData ps ps.n.toNat).1, (psData ps ps.n.toNat).2.1, (psData ps ps.n.toNat).2.2)
def pend (q : PS) : PS := { psUse q ((idx10 q.b).toNat + 1) with c := (match (lineT q).1 with | .pl c => c | _ => .nil), n := (lineT q).2 }
def nextN (q : PS) : Cx × Bool × PS :=
  if q.skip = true then (.pl .nil, false, q)
  else if isNil q.c = true then
    (if idx10 q.b < 0 then (if 2048 < (trimL q.b).length then (.pl (.bad textLong), true, { q with b := [], skip := true }) else (.pl .nil, false, q))
    else if 2048 < (lineL q).length then (.pl (.bad textLong), true, psUse q ((idx10 q.b).toNat + 1))
    else if (lineT q).2 = -1 then ((lineT q).1, true, psUse q ((idx10 q.b).toNat + 1))
    else dataR (pend q))
  else dataR q
def nextR (ps : PS) : Cx × Bool × PS := nextN (nrm ps)
def OkL (p : Cm × Int) : Prop := isNil p.1 = false ∧ (p.2 = -1 ∨ 0 ≤ p.2) ∧ (toD p.1).keys.length ≤ 64
theorem okL_ite {c : Prop} [Decidable c] {a b : Cm × Int} (ha : OkL a) (hb : OkL b) : OkL (if c then a else b) := by split <;> assumption
theorem okL_bad (t : ByteArray) : OkL (.bad t, -1) := ⟨rfl, .inl rfl, by simp [toD]⟩
theorem okL_store (ws : List ByteArray) (six : Bool) : OkL (storeP ws six) := by
  unfold storeP
  refine okL_ite (okL_bad _) (okL_ite (okL_bad _) (okL_ite (okL_ite ⟨rfl, .inr (numF_range _).1, by simp [toD]⟩ ⟨rfl, .inr (numF_range _).1, by simp [toD]⟩) (okL_bad _)))
theorem okL_plain (ws : List ByteArray) : OkL (plainR ws) := by
  unfold plainR
  refine okL_ite (okL_store _ _) (okL_ite ?_ (okL_ite ?_ (okL_ite ?_ (okL_ite ?_ (okL_bad _)))))
  · unfold keyedR
    exact okL_ite (okL_bad _) (okL_ite (okL_bad _) (okL_ite (okL_ite ⟨rfl, .inl rfl, by simp [toD]⟩ (okL_bad _)) (okL_ite ⟨rfl, .inl rfl, by simp [toD]⟩ (okL_bad _))))
  · unfold deleteR
    exact okL_ite (okL_ite ⟨rfl, .inl rfl, by simp [toD]⟩ (okL_bad _)) (okL_bad _)
  · unfold flushR
    exact okL_ite ⟨rfl, .inl rfl, by simp [toD]⟩ (okL_bad _)
  · unfold wordR
    exact okL_ite ⟨rfl, .inl rfl, by simp [toD]⟩ (okL_bad _)
def OkX (p : Cx × Int) : Prop := isNilX p.1 = false ∧ (p.2 = -1 ∨ 0 ≤ p.2 ∧ ∃ c, p.1 = .pl c ∧ isNil c = false) ∧ (toX p.1).keys.length ≤ 64
theorem okX_bad : OkX (badX, -1) := ⟨rfl, .inl rfl, by simp [badX, toX, toD]⟩
theorem okX_get (ks : List ByteArray) (ca t : Bool) (sg : Int × Bool) : OkX (getX ks ca t sg, -1) := by
  unfold getX
  by_cases h : ks.any (fun k => !keyF k) = true ∨ 64 < ks.length
  · rw [if_pos h]; exact ⟨rfl, .inl rfl, by simp [toX, toD]⟩
  · rw [if_neg h]
    have h2 : ¬ 64 < ks.length := fun z => h (.inr z)
    match sg with
    | (e, true) => exact ⟨rfl, .inl rfl, by simp only [toX, Go.Proofs.YtfbhlbchmenloaaDoor.H.getD]; omega⟩
    | (_, false) => exact ⟨rfl, .inl rfl, by simp [toX, toD]⟩
theorem okX_get1 (ca : Bool) (r : List ByteArray) : OkX (get1 ca r, -1) := by
  unfold get1
  split
  · exact okX_bad
  · exact okX_get _ _ _ _
theorem okX_line (ws : List ByteArray) : OkX (lineX ws) := by
  unfold lineX
  match ws with
  | [] => exact okX_bad
  | w :: r =>
    have hp := okL_plain (w :: r)
    simp only
    by_cases g1 : w = getW
    · rw [if_pos g1]; exact okX_get1 _ _
    · rw [if_neg g1]
      by_cases g2 : w = getsW
      · rw [if_pos g2]; exact okX_get1 _ _
      · rw [if_neg g2]
        by_cases g3 : w = gatW
        · rw [if_pos g3]
          match r with
          | [] => exact okX_bad
          | [a] => exact okX_bad
          | a :: b :: ks => exact okX_get _ _ _ _
        · rw [if_neg g3]
          by_cases g4 : w = gatsW
          · rw [if_pos g4]
            match r with
            | [] => exact okX_bad
            | [a] => exact okX_bad
            | a :: b :: ks => exact okX_get _ _ _ _
          · rw [if_neg g4]
            exact ⟨hp.1, hp.2.1.imp id (fun h => ⟨h, _, rfl, hp.1⟩), hp.2.2⟩
/-- A command that waits has a length. -/
def Inv (ps : PS) : Prop := isNil ps.c = false → 0 ≤ ps.n
theorem Inv.nrm {ps : PS} (h : Inv ps) : Inv (nrm ps) := by
  obtain ⟨h1, h2, _⟩ := nrm_c ps
  unfold Inv
  rw [h1, h2]
  exact h
theorem Inv.feed {ps : PS} (h : Inv ps) (l : List Int) : Inv (psFeed ps l) := h
theorem pend_ok (q : PS) (h : ¬ (lineT q).2 = -1) : 0 ≤ (pend q).n ∧ isNil (pend q).c = false ∧ (pend q).skip = q.skip := by
  obtain ⟨h1, h2, _⟩ := okX_line ((wl [] (strOfNums (lineL q)).data.toList).map ba)
  rcases h2 with h2 | ⟨h2, c, hc, hn⟩
  · exact absurd h2 h
  · refine ⟨h2, ?_, rfl⟩
    unfold pend lineT
    rw [hc]
    exact hn
theorem data_some {ps : PS} (h : 0 ≤ ps.n) : dataX ps = some (dataR ps) := by unfold dataX dataR; rw [if_pos h]
theorem next_is (ps : PS) (hI : Inv ps) (x : Cx) (n : Int) (hx : needsLine ps = true → (x, n) = lineT (nrm ps)) : psNext ps x n = some (nextR ps) := by
  have hN := hI.nrm
  unfold psNext nextR nextN
  rw [pass_1]
  show (if (!(nrm ps).skip) = false then some (Cx.pl .nil, false, nrm ps) else if isNil (nrm ps).c = true then (if (psLine (nrm ps) x n).2.1 = false ∨ isNilX (psLine (nrm ps) x n).1 = false then some (psLine (nrm ps) x n) else dataX (psLine (nrm ps) x n).2.2) else dataX (nrm ps)) = _
  have hx : ¬ idx10 (nrm ps).b < 0 → ¬ 2048 < (lineL (nrm ps)).length → (x, n) = lineT (nrm ps) := fun h1 h2 => hx (by
    unfold needsLine
    rw [show (psPass ps).2 = nrm ps from rfl]
    simp [h1, h2])
  generalize nrm ps = q at *
  cases hs : q.skip with
  | true => simp
  | false =>
    simp only [Bool.not_false, Bool.true_eq_false, if_false, Bool.false_eq_true]
    by_cases hc : isNil q.c = true
    · simp only [if_pos hc]
      unfold psLine
      by_cases h1 : idx10 q.b < 0
      · simp only [if_pos h1]
        by_cases h2 : 2048 < (trimL q.b).length
        · simp only [if_pos h2]
          rw [if_pos (.inr rfl)]
          unfold psUse
          rw [List.drop_length]
        · simp only [if_neg h2, true_or, if_true]
      · simp only [if_neg h1]
        by_cases h2 : 2048 < (lineL q).length
        · simp only [if_pos h2]
          rw [if_pos (.inr rfl)]
        · simp only [if_neg h2]
          have hxn := hx h1 h2
          have e1 : x = (lineT q).1 := by rw [← hxn]
          have e2 : n = (lineT q).2 := by rw [← hxn]
          subst e1 e2
          obtain ⟨h3, _⟩ := okX_line ((wl [] (strOfNums (lineL q)).data.toList).map ba)
          by_cases h4 : (lineT q).2 = -1
          · simp only [if_pos h4]
            rw [if_pos (.inr h3)]
          · simp only [if_neg h4, Bool.true_eq_false, isNilX, isNil, or_self, if_false]
            exact data_some (pend_ok q h4).1
    · simp only [if_neg hc]
      exact data_some (hN (by simpa using hc))
theorem sos_size (b : List Int) : (strOfNums b).size = b.length := by unfold strOfNums; simp [ByteArray.size]
theorem evNext (ps : PS) (hI : Inv ps) : Ev (fun k => parse_Next.f k ps) (outP (toX (nextR ps).1) (nextR ps).2.1 (nextR ps).2.2) := by
  unfold parse_Next.f
  by_cases h : needsLine ps = true
  · simp only [if_pos h]
    have hz : (lineL (psPass ps).2).length ≤ 2048 := by
      unfold needsLine at h
      simp at h
      omega
    refine Ev.bind (a := lineT (nrm ps)) (evOneF (strOfNums (lineL (psPass ps).2)) (by rw [sos_size]; omega)) ?_
    have e := next_is ps hI (lineT (nrm ps)).1 (lineT (nrm ps)).2 (fun _ => rfl)
    simp only [e]
    exact Ev.now _
  · simp only [if_neg h, Option.bind_some]
    rw [next_is ps hI _ _ (fun e => absurd e h)]
    exact Ev.now _
/-! What is fed later. -/
theorem end_app (b l : List Int) (n : Nat) (h : ¬ psEnd b n < 0) : psEnd (b ++ l) n = psEnd b n := by
  have hn : n < b.length := by
    unfold psEnd at h
    by_cases z : b.length ≤ n
    · rw [if_pos z] at h; omega
    · omega
  have g0 : (b ++ l).getD n 0 = b.getD n 0 := by rw [List.getD_eq_getElem?_getD, List.getD_eq_getElem?_getD, List.getElem?_append_left hn]
  unfold psEnd at h ⊢
  rw [if_neg (by omega)] at h
  rw [if_neg (by rw [List.length_append]; omega), if_neg (show ¬ b.length ≤ n by omega), g0]
  by_cases h1 : b.getD n 0 = 10
  · rw [if_pos h1, if_pos h1]
  · rw [if_neg h1] at h ⊢
    rw [if_neg h1]
    by_cases h2 : b.getD n 0 ≠ 13
    · rw [if_pos h2, if_pos h2]
    · rw [if_neg h2] at h ⊢
      rw [if_neg h2]
      by_cases h3 : b.length - n = 1
      · rw [if_pos h3] at h; omega
      · have g1 : (b ++ l).getD (n + 1) 0 = b.getD (n + 1) 0 := by rw [List.getD_eq_getElem?_getD, List.getD_eq_getElem?_getD, List.getElem?_append_left (by omega)]
        rw [if_neg h3, if_neg (by rw [List.length_append]; omega), g1]
theorem data_feed (st : PS) (l : List Int) (h : (dataR st).2.1 = true) : (dataR (psFeed st l)) = ((dataR st).1, true, psFeed (dataR st).2.2 l) := by
  unfold dataR at h ⊢
  have hnn : (psFeed st l).n = st.n := rfl
  rw [hnn]
  generalize st.n.toNat = n at *
  unfold psData at h ⊢
  by_cases h1 : psEnd st.b n < 0
  · rw [if_pos h1] at h; cases h
  · have he := end_app st.b l n h1
    have hle := psEnd_le st.b n h1
    rw [show (psFeed st l).b = st.b ++ l from rfl, he, if_neg h1, if_neg h1]
    by_cases h2 : psEnd st.b n = 0
    · rw [if_pos h2, if_pos h2]
      simp only [psFeed]
      rw [List.drop_append_of_le_length (by omega)]
    · rw [if_neg h2, if_neg h2]
      simp only [psFeed]
      rw [List.drop_append_of_le_length (by omega), List.take_append_of_le_length (by omega)]
theorem data_wait (st : PS) (h : (dataR st).2.1 = false) : (dataR st).2.2 = st := by
  unfold dataR psData at h ⊢
  by_cases h1 : psEnd st.b st.n.toNat < 0
  · simp only [if_pos h1]
  · simp only [if_neg h1] at h
    by_cases h2 : psEnd st.b st.n.toNat = 0
    · simp only [if_pos h2] at h; cases h
    · simp only [if_neg h2] at h; cases h
theorem trim_app (b l : List Int) (h : 2048 < (trimL b).length) : 2048 < (trimL (b ++ l)).length := by
  have hb := trimL_len b
  by_cases hl : l = []
  · rw [hl, List.append_nil]; exact h
  · have : 0 < l.length := List.length_pos_iff.2 hl
    have hlen : (b ++ l).length = b.length + l.length := List.length_append
    unfold trimL
    split
    · rw [List.length_take]; omega
    · omega
theorem line_feed {q : PS} (l : List Int) (hi : ¬ idx10 q.b < 0) : idx10 (psFeed q l).b = idx10 q.b ∧ lineL (psFeed q l) = lineL q ∧ psUse (psFeed q l) ((idx10 q.b).toNat + 1) = psFeed (psUse q ((idx10 q.b).toNat + 1)) l := by
  have ha := idx_app q.b l
  rw [if_neg hi] at ha
  have hlt := idx_lt q.b
  refine ⟨ha, ?_, ?_⟩
  · unfold lineL
    rw [show (psFeed q l).b = q.b ++ l from rfl, ha, List.take_append_of_le_length (by omega)]
  · unfold psUse psFeed
    simp only
    rw [List.drop_append_of_le_length (by omega)]
theorem next_feed (ps : PS) (l : List Int) :
    ((nextR ps).2.1 = true → (nextR (psFeed ps l)).1 = (nextR ps).1 ∧ (nextR (psFeed ps l)).2.1 = true ∧ nrm (nextR (psFeed ps l)).2.2 = nrm (psFeed (nextR ps).2.2 l))
    ∧ ((nextR ps).2.1 = false → nextR (psFeed ps l) = nextR (psFeed (nextR ps).2.2 l)) := by
  unfold nextR
  rw [nrm_feed ps l]
  have hid := nrm_nrm ps
  generalize nrm ps = q at *
  cases hs : q.skip with
  | true =>
    have e : nextN q = (.pl .nil, false, q) := by unfold nextN; rw [if_pos hs]
    rw [e]
    exact ⟨(fun h => by cases h), fun _ => rfl⟩
  | false =>
    rw [nrm_off (ps := psFeed q l) hs]
    have hsf : (psFeed q l).skip = true ↔ False := by show q.skip = true ↔ False; rw [hs]; simp
    have hq : ¬ q.skip = true := by rw [hs]; decide
    by_cases hc : isNil q.c = true
    · by_cases h1 : idx10 q.b < 0
      · by_cases h2 : 2048 < (trimL q.b).length
        · have e : nextN q = (.pl (.bad textLong), true, { q with b := [], skip := true }) := by unfold nextN; rw [if_neg hq, if_pos hc, if_pos h1, if_pos h2]
          rw [e]
          refine ⟨fun _ => ?_, (fun h => by cases h)⟩
          have ha := idx_app q.b l
          rw [if_pos h1] at ha
          by_cases hl : idx10 l < 0
          · rw [if_pos hl] at ha
            have e2 : nextN (psFeed q l) = (.pl (.bad textLong), true, { psFeed q l with b := [], skip := true }) := by
              unfold nextN
              rw [if_neg (show ¬ (psFeed q l).skip = true from hq), if_pos (show isNil (psFeed q l).c = true from hc), if_pos (show idx10 (psFeed q l).b < 0 by show idx10 (q.b ++ l) < 0; omega), if_pos (show 2048 < (trimL (psFeed q l).b).length from trim_app _ _ h2)]
            rw [e2]
            refine ⟨rfl, rfl, ?_⟩
            rw [nrm_wait rfl (show idx10 ([] : List Int) < 0 by decide), nrm_wait rfl (by exact hl)]
            rfl
          · rw [if_neg hl] at ha
            have h0 := idx_ge l
            have hll := idx_lt l
            have e3 : lineL (psFeed q l) = trimL (q.b ++ l.take (idx10 l).toNat) := by
              unfold lineL
              rw [show (psFeed q l).b = q.b ++ l from rfl, ha, show ((q.b.length : Int) + idx10 l).toNat = q.b.length + (idx10 l).toNat by omega, List.take_append]
              rw [List.take_of_length_le (by omega), Nat.add_sub_cancel_left]
            have e2 : nextN (psFeed q l) = (.pl (.bad textLong), true, psUse (psFeed q l) ((idx10 (psFeed q l).b).toNat + 1)) := by
              unfold nextN
              rw [if_neg (show ¬ (psFeed q l).skip = true from hq), if_pos (show isNil (psFeed q l).c = true from hc), if_neg (show ¬ idx10 (psFeed q l).b < 0 by show ¬ idx10 (q.b ++ l) < 0; omega), if_pos (by rw [e3]; exact trim_app _ _ h2)]
            rw [e2]
            refine ⟨rfl, rfl, ?_⟩
            rw [nrm_off (by exact hs), nrm_on rfl (by exact hl)]
            unfold psUse psFeed
            simp only [List.nil_append]
            rw [ha, show ((q.b.length : Int) + idx10 l).toNat + 1 = q.b.length + ((idx10 l).toNat + 1) by omega, List.drop_append]
            rw [List.drop_of_length_le (by omega), Nat.add_sub_cancel_left, List.nil_append, hs]
        · have e : nextN q = (.pl .nil, false, q) := by unfold nextN; rw [if_neg hq, if_pos hc, if_pos h1, if_neg h2]
          rw [e]
          exact ⟨(fun h => by cases h), fun _ => by rw [nrm_off (ps := psFeed q l) hs]⟩
      · obtain ⟨f1, f2, f3⟩ := line_feed l h1
        have f4 : lineT (psFeed q l) = lineT q := by unfold lineT; rw [f2]
        by_cases h2 : 2048 < (lineL q).length
        · have e : nextN q = (.pl (.bad textLong), true, psUse q ((idx10 q.b).toNat + 1)) := by unfold nextN; rw [if_neg hq, if_pos hc, if_neg h1, if_pos h2]
          have e2 : nextN (psFeed q l) = (.pl (.bad textLong), true, psUse (psFeed q l) ((idx10 q.b).toNat + 1)) := by
            unfold nextN
            rw [if_neg (show ¬ (psFeed q l).skip = true from hq), if_pos (show isNil (psFeed q l).c = true from hc), f1, if_neg h1, f2, if_pos h2]
          rw [e, e2]
          refine ⟨fun _ => ⟨rfl, rfl, ?_⟩, (fun h => by cases h)⟩
          rw [f3]
        · by_cases h3 : (lineT q).2 = -1
          · have e : nextN q = ((lineT q).1, true, psUse q ((idx10 q.b).toNat + 1)) := by unfold nextN; rw [if_neg hq, if_pos hc, if_neg h1, if_neg h2, if_pos h3]
            have e2 : nextN (psFeed q l) = ((lineT q).1, true, psUse (psFeed q l) ((idx10 q.b).toNat + 1)) := by
              unfold nextN
              rw [if_neg (show ¬ (psFeed q l).skip = true from hq), if_pos (show isNil (psFeed q l).c = true from hc), f1, if_neg h1, f2, if_neg h2, f4, if_pos h3]
            rw [e, e2]
            refine ⟨fun _ => ⟨rfl, rfl, ?_⟩, (fun h => by cases h)⟩
            rw [f3]
          · have e : nextN q = dataR (pend q) := by unfold nextN; rw [if_neg hq, if_pos hc, if_neg h1, if_neg h2, if_neg h3]
            have e4 : pend (psFeed q l) = psFeed (pend q) l := by
              unfold pend
              rw [f1, f3, f4]
              rfl
            have e2 : nextN (psFeed q l) = dataR (psFeed (pend q) l) := by
              unfold nextN
              rw [if_neg (show ¬ (psFeed q l).skip = true from hq), if_pos (show isNil (psFeed q l).c = true from hc), f1, if_neg h1, f2, if_neg h2, f4, if_neg h3, e4]
            rw [e, e2]
            obtain ⟨p1, p2, p3⟩ := pend_ok q h3
            refine ⟨fun h => ?_, fun h => ?_⟩
            · rw [data_feed _ _ h]; exact ⟨rfl, rfl, rfl⟩
            · rw [data_wait _ h, nrm_off (ps := psFeed (pend q) l) (by exact p3.trans hs)]
              unfold nextN
              rw [if_neg (show ¬ (psFeed (pend q) l).skip = true from by rw [show (psFeed (pend q) l).skip = q.skip from p3]; exact hq), if_neg (show ¬ isNil (psFeed (pend q) l).c = true from by rw [show (psFeed (pend q) l).c = (pend q).c from rfl, p2]; decide)]
    · have e : nextN q = dataR q := by unfold nextN; rw [if_neg hq, if_neg hc]
      have e2 : nextN (psFeed q l) = dataR (psFeed q l) := by
        unfold nextN
        rw [if_neg (show ¬ (psFeed q l).skip = true from hq), if_neg (show ¬ isNil (psFeed q l).c = true from hc)]
      rw [e, e2]
      refine ⟨fun h => ?_, fun h => ?_⟩
      · rw [data_feed _ _ h]; exact ⟨rfl, rfl, rfl⟩
      · rw [data_wait _ h, nrm_off (ps := psFeed q l) hs, e2]
/-! All that is told till nothing more comes. -/
def Drain : PS → List Cx → PS → Prop
  | ps, [], p => (nextR ps).2.1 = false ∧ (nextR ps).2.2 = p
  | ps, y :: ys, p => (nextR ps).2.1 = true ∧ (nextR ps).1 = y ∧ Drain (nextR ps).2.2 ys p
theorem drain_one : ∀ (ys zs : List Cx) (ps p q : PS), Drain ps ys p → Drain ps zs q → ys = zs ∧ p = q
  | [], [], ps, p, q, h1, h2 => ⟨rfl, h1.2.symm.trans h2.2⟩
  | [], z :: zs, ps, p, q, h1, h2 => by have := h1.1.symm.trans h2.1; cases this
  | y :: ys, [], ps, p, q, h1, h2 => by have := h1.1.symm.trans h2.1; cases this
  | y :: ys, z :: zs, ps, p, q, h1, h2 => by
    obtain ⟨h3, h4⟩ := drain_one ys zs _ p q h1.2.2 h2.2.2
    exact ⟨by rw [h3, ← h1.2.1, ← h2.2.1], h4⟩
theorem drain_nrm {ps ps' : PS} (h : nrm ps = nrm ps') : ∀ {ys : List Cx} {p : PS}, Drain ps ys p → Drain ps' ys p
  | [], p, hd => by
    have e : nextR ps = nextR ps' := by unfold nextR; rw [h]
    have hd : (nextR ps).2.1 = false ∧ (nextR ps).2.2 = p := hd
    rw [e] at hd
    exact hd
  | y :: ys, p, hd => by
    have e : nextR ps = nextR ps' := by unfold nextR; rw [h]
    have hd : (nextR ps).2.1 = true ∧ (nextR ps).1 = y ∧ Drain (nextR ps).2.2 ys p := hd
    rw [e] at hd
    exact hd
theorem drain_feed (l : List Int) : ∀ (ys zs : List Cx) (ps p q : PS), Drain ps ys p → Drain (psFeed p l) zs q → Drain (psFeed ps l) (ys ++ zs) q
  | [], zs, ps, p, q, h1, h2 => by
    have e := (next_feed ps l).2 h1.1
    rw [show (nextR ps).2.2 = p from h1.2] at e
    rw [List.nil_append]
    match zs, h2 with
    | [], h2 =>
      have h2 : (nextR (psFeed p l)).2.1 = false ∧ (nextR (psFeed p l)).2.2 = q := h2
      rw [← e] at h2
      exact h2
    | z :: zs, h2 =>
      have h2 : (nextR (psFeed p l)).2.1 = true ∧ (nextR (psFeed p l)).1 = z ∧ Drain (nextR (psFeed p l)).2.2 zs q := h2
      rw [← e] at h2
      exact h2
  | y :: ys, zs, ps, p, q, h1, h2 => by
    obtain ⟨f1, f2, f3⟩ := (next_feed ps l).1 h1.1
    refine ⟨f2, f1.trans h1.2.1, drain_nrm f3.symm (drain_feed l ys zs _ p q h1.2.2 h2)⟩
/-! It ends. -/
def mu (ps : PS) : Nat := ps.b.length + (if isNil ps.c = true then 0 else 1)
theorem data_less (st : PS) (h : (dataR st).2.1 = true) : isNil (dataR st).2.2.c = true ∧ (dataR st).2.2.b.length ≤ st.b.length := by
  unfold dataR psData at h ⊢
  by_cases h1 : psEnd st.b st.n.toNat < 0
  · simp only [if_pos h1] at h; cases h
  · simp only [if_neg h1]
    by_cases h2 : psEnd st.b st.n.toNat = 0
    · simp only [if_pos h2]; exact ⟨rfl, by rw [List.length_drop]; omega⟩
    · simp only [if_neg h2]; exact ⟨rfl, by rw [List.length_drop]; omega⟩
theorem next_less (ps : PS) (h : (nextR ps).2.1 = true) : isNil (nextR ps).2.2.c = true ∧ (nextR ps).2.2.b.length < mu ps := by
  obtain ⟨c1, c2, c3⟩ := nrm_c ps
  have hm : (nrm ps).b.length + (if isNil (nrm ps).c = true then 0 else 1) ≤ mu ps := by unfold mu; rw [c1]; omega
  unfold nextR at h ⊢
  generalize nrm ps = q at *
  unfold nextN at h ⊢
  have hlt := idx_lt q.b
  by_cases hs : q.skip = true
  · simp only [if_pos hs] at h; cases h
  · simp only [if_neg hs] at h ⊢
    by_cases hc : isNil q.c = true
    · simp only [if_pos hc] at h ⊢ hm
      by_cases h1 : idx10 q.b < 0
      · simp only [if_pos h1] at h ⊢
        by_cases h2 : 2048 < (trimL q.b).length
        · simp only [if_pos h2]
          have := trimL_len q.b
          exact ⟨hc, by show ([] : List Int).length < _; rw [List.length_nil]; omega⟩
        · simp only [if_neg h2] at h; cases h
      · simp only [if_neg h1] at h ⊢
        have hu : (psUse q ((idx10 q.b).toNat + 1)).b.length < q.b.length := by show (q.b.drop _).length < _; rw [List.length_drop]; omega
        by_cases h2 : 2048 < (lineL q).length
        · simp only [if_pos h2]; exact ⟨hc, by omega⟩
        · simp only [if_neg h2] at h ⊢
          by_cases h3 : (lineT q).2 = -1
          · simp only [if_pos h3]; exact ⟨hc, by omega⟩
          · simp only [if_neg h3] at h ⊢
            obtain ⟨d1, d2⟩ := data_less _ h
            refine ⟨d1, ?_⟩
            have : (pend q).b = (psUse q ((idx10 q.b).toNat + 1)).b := rfl
            rw [this] at d2
            omega
    · simp only [if_neg hc] at h ⊢ hm
      obtain ⟨d1, d2⟩ := data_less _ h
      exact ⟨d1, by omega⟩
theorem drain_some : ∀ (f : Nat) (ps : PS), mu ps < f → ∃ ys p, Drain ps ys p ∧ ys.length ≤ mu ps
  | 0, ps, h => by omega
  | f + 1, ps, h => by
    cases hb : (nextR ps).2.1 with
    | false => exact ⟨[], _, ⟨hb, rfl⟩, Nat.zero_le _⟩
    | true =>
      obtain ⟨l1, l2⟩ := next_less ps hb
      have hm : mu (nextR ps).2.2 = (nextR ps).2.2.b.length := by unfold mu; rw [if_pos l1]; omega
      obtain ⟨ys, p, h1, h2⟩ := drain_some f (nextR ps).2.2 (by omega)
      exact ⟨_ :: ys, p, ⟨hb, rfl, h1⟩, by rw [List.length_cons]; omega⟩
/-! What stays true. -/
theorem data_inv (st : PS) (hI : 0 ≤ st.n) : Inv (dataR st).2.2 := by
  intro h
  unfold dataR psData at h ⊢
  by_cases h1 : psEnd st.b st.n.toNat < 0
  · simp only [if_pos h1]; exact hI
  · simp only [if_neg h1] at h ⊢
    by_cases h2 : psEnd st.b st.n.toNat = 0
    · simp only [if_pos h2]; exact hI
    · simp only [if_neg h2]; exact hI
theorem next_inv (ps : PS) (hI : Inv ps) : Inv (nextR ps).2.2 := by
  have hN := hI.nrm
  unfold nextR
  generalize nrm ps = q at *
  unfold nextN
  by_cases hs : q.skip = true
  · rw [if_pos hs]; exact hN
  · rw [if_neg hs]
    by_cases hc : isNil q.c = true
    · rw [if_pos hc]
      by_cases h1 : idx10 q.b < 0
      · rw [if_pos h1]
        by_cases h2 : 2048 < (trimL q.b).length
        · rw [if_pos h2]; exact hN
        · rw [if_neg h2]; exact hN
      · rw [if_neg h1]
        by_cases h2 : 2048 < (lineL q).length
        · rw [if_pos h2]; exact hN
        · rw [if_neg h2]
          by_cases h3 : (lineT q).2 = -1
          · rw [if_pos h3]; exact hN
          · rw [if_neg h3]; exact data_inv _ (pend_ok q h3).1
    · rw [if_neg hc]; exact data_inv _ (hN (by simpa using hc))
theorem next_keys (ps : PS) : (toX (nextR ps).1).keys.length ≤ 64 := by
  have hp : ∀ c : Cm, (toX (.pl c)).keys.length ≤ 64 := fun c => by cases c <;> simp [toX, toD]
  unfold nextR
  generalize nrm ps = q at *
  unfold nextN
  by_cases hs : q.skip = true
  · rw [if_pos hs]; exact hp _
  · rw [if_neg hs]
    by_cases hc : isNil q.c = true
    · rw [if_pos hc]
      by_cases h1 : idx10 q.b < 0
      · rw [if_pos h1]
        by_cases h2 : 2048 < (trimL q.b).length
        · rw [if_pos h2]; exact hp _
        · rw [if_neg h2]; exact hp _
      · rw [if_neg h1]
        by_cases h2 : 2048 < (lineL q).length
        · rw [if_pos h2]; exact hp _
        · rw [if_neg h2]
          by_cases h3 : (lineT q).2 = -1
          · rw [if_pos h3]; exact (okX_line _).2.2
          · rw [if_neg h3]; exact hp _
    · rw [if_neg hc]; exact hp _
end Go.Proofs.YtfbhlbchmenloaaDoor.Pure
end
section
namespace Go.Proofs.YtfbhlbchmenloaaDoor.Pure
open Go Go.RowKit Go.Proofs.YtfbhlbchmenloaaDoorW.PrintWords Go.Proofs.YtfbhlbchmenloaaDoor.H Go.Proofs.YtfbhlbchmenloaaDoor.L
set_option linter.unusedSimpArgs false
set_option linter.unusedVariables false
theorem cmd_is (d : Cd) (hk : d.keys.length ≤ 64) : cellaretref17_Cmd.f d.what d.verb d.keys d.data d.flags d.exp d.cas d.by_ d.withCas d.withTouch d.down d.quiet = some (d.what, d.verb, d.keys, d.data, d.flags, d.exp, d.cas, d.by_, d.withCas, d.withTouch, d.down, d.quiet) := by
  unfold cellaretref17_Cmd.f
  simp only [Option.bind_some, List.nil_append, List.length_nil, Nat.zero_add, if_pos (show d.keys.length < 8796093022208 by omega)]
  by_cases h : (d.keys.length : Int) = 0
  · rw [if_pos h, List.eq_nil_of_length_eq_zero (show d.keys.length = 0 by omega)]
  · rw [if_neg h]
theorem same_loop (d : Cd) (hk : d.keys.length < 1000000) : ∀ (m i : Nat), i + m = d.keys.length →
    Ev (fun k => cellaretref17_SameCmd.l0 k (i : Int) d.what d.verb d.keys d.data d.flags d.exp d.cas d.by_ d.withCas d.withTouch d.down d.quiet d.what d.verb d.keys d.data d.flags d.exp d.cas d.by_ d.withCas d.withTouch d.down d.quiet) true
  | 0, i, hi => by
    refine Ev.step (fun k => cellaretref17_SameCmd.l0.eq_2 _ _ _ _ _ _ _ _ _ _ _ _ _ _ _ _ _ _ _ _ _ _ _ _ _ _) ?_
    simp only [if_neg (show ¬ (i : Int) < (d.keys.length : Int) by omega), if_true, beq_self_eq_true]
    exact Ev.now _
  | m + 1, i, hi => by
    refine Ev.step (fun k => cellaretref17_SameCmd.l0.eq_2 _ _ _ _ _ _ _ _ _ _ _ _ _ _ _ _ _ _ _ _ _ _ _ _ _ _) ?_
    have hw : wrap64 ((i : Int) + 1) = ((i + 1 : Nat) : Int) := by unfold wrap64; omega
    simp only [if_pos (show (i : Int) < (d.keys.length : Int) by omega), if_pos (show (0 : Int) ≤ (i : Int) by omega), if_true, hw]
    exact same_loop d hk m (i + 1) (by omega)
theorem evSame (d : Cd) (hk : d.keys.length < 1000000) : Ev (fun k => cellaretref17_SameCmd.f k d.what d.verb d.keys d.data d.flags d.exp d.cas d.by_ d.withCas d.withTouch d.down d.quiet d.what d.verb d.keys d.data d.flags d.exp d.cas d.by_ d.withCas d.withTouch d.down d.quiet) true := by
  unfold cellaretref17_SameCmd.f
  simp only [if_true]
  exact same_loop d hk d.keys.length 0 (by omega)
theorem and4095 (z : Int) : ∃ m : Nat, Go.bits .and .i64 z 4095 = (m : Int) := by
  have h : (BitVec.ofInt 64 z).toNat &&& 4095 < 2 ^ 12 := Nat.and_lt_two_pow _ (by decide)
  refine ⟨(BitVec.ofInt 64 z).toNat &&& 4095, ?_⟩
  show IntKind.i64.wrap (((BitVec.ofInt 64 z &&& BitVec.ofInt 64 4095).toNat : Nat) : Int) = _
  rw [BitVec.toNat_and, show (BitVec.ofInt 64 4095).toNat = 4095 from by decide, IntKind.wrap_i64]
  omega
theorem awake60 : cellaretlaw18_awake.f 60 = some true := by kernel_rfl
theorem awakeEv : Ev (fun k => cellaretlaw18_awake.f k) true := Ev.of cellaretlaw18_awake.mono awake60
end Go.Proofs.YtfbhlbchmenloaaDoor.Pure
end
section
namespace Go.Proofs.YtfbhlbchmenloaaDoor.H
open Go.RowKit Go.Proofs.YtfbhlbchmenloaaDoorW.PrintWords Go.Proofs.YtfbhlbchmenloaaDoorW.PrintLast Go.Proofs.YtfbhlbchmenloaaDoorW.PrintMore
attribute [local go_sem] max2_int min2_int max_two min_two max_three min_three max_four min_four   -- for this text's walks alone
set_option linter.unusedVariables false
set_option linter.unusedSimpArgs false

/-! ### cellaretlaw18_ParseEdge: function 5 -/
mutual
def cellaretlaw18_ParseEdge.j0 : Nat → Int → Bool → Bool → Option (Bool)
  | 0, _, _, _ => none
  | k + 1, x0, x1, x19 => if x19 = true then (some true) else (if 0 ≤ x0 then (if (x0 : Int).toNat ≤ 281474976710656 then (cellaretlaw18_ParseEdge.l0 k x0 x1 (List.replicate (x0 : Int).toNat 0) 0) else (none)) else (none))
def cellaretlaw18_ParseEdge.l0 : Nat → Int → Bool → List Int → Int → Option (Bool)
  | 0, _, _, _, _ => none
  | k + 1, x0, x1, x5, x6 => if x6 < x0 then (if 0 ≤ x6 then (if x6 < (x5.length : Int) then (cellaretlaw18_ParseEdge.l0 k x0 x1 (x5.set (x6 : Int).toNat 120) (wrap64 (x6 + 1))) else (none)) else (none)) else (if x1 = true then (if x5.length < 140737488355328 then (cellaretlaw18_ParseEdge.j2 k x0 (x5 ++ [13])) else (none)) else (cellaretlaw18_ParseEdge.j2 k x0 x5))
def cellaretlaw18_ParseEdge.j2 : Nat → Int → List Int → Option (Bool)
  | 0, _, _ => none
  | k + 1, x0, x5 => (parse_New.f).bind fun t438 => ((parse_Feed.f t438 x5).bind fun t440 => ((parse_Next.f k t440).bind fun bt441 => (if x0 > 2048 then (if bt441.2.2.2.2.2.2.2.2.2.2.2.2.1 = true then ((cellaretref17_Is.f bt441.1 bt441.2.1 bt441.2.2.1 bt441.2.2.2.1 bt441.2.2.2.2.1 bt441.2.2.2.2.2.1 bt441.2.2.2.2.2.2.1 bt441.2.2.2.2.2.2.2.1 bt441.2.2.2.2.2.2.2.2.1 bt441.2.2.2.2.2.2.2.2.2.1 bt441.2.2.2.2.2.2.2.2.2.2.1 bt441.2.2.2.2.2.2.2.2.2.2.2.1 (⟨#[98, 97, 100]⟩ : ByteArray) (⟨#[67, 76, 73, 69, 78, 84, 95, 69, 82, 82, 79, 82, 32, 108, 105, 110, 101, 32, 116, 111, 111, 32, 108, 111, 110, 103]⟩ : ByteArray)).bind fun t458 => (some t458)) else (some false)) else ((parse_Feed.f bt441.2.2.2.2.2.2.2.2.2.2.2.2.2 (([10] : List Int))).bind fun t462 => ((parse_Next.f k t462).bind fun bt463 => (if bt441.2.2.2.2.2.2.2.2.2.2.2.2.1 = true then (some false) else (if bt463.2.2.2.2.2.2.2.2.2.2.2.2.1 = true then ((cellaretref17_Is.f bt463.1 bt463.2.1 bt463.2.2.1 bt463.2.2.2.1 bt463.2.2.2.2.1 bt463.2.2.2.2.2.1 bt463.2.2.2.2.2.2.1 bt463.2.2.2.2.2.2.2.1 bt463.2.2.2.2.2.2.2.2.1 bt463.2.2.2.2.2.2.2.2.2.1 bt463.2.2.2.2.2.2.2.2.2.2.1 bt463.2.2.2.2.2.2.2.2.2.2.2.1 (⟨#[98, 97, 100]⟩ : ByteArray) (⟨#[69, 82, 82, 79, 82]⟩ : ByteArray)).bind fun t480 => (if t480 = true then ((parse_Waits.f bt463.2.2.2.2.2.2.2.2.2.2.2.2.2).bind fun bt481 => (some (bt481.1 == 0))) else (some false))) else (some false))))))))
end
def cellaretlaw18_ParseEdge.f (k : Nat) (a0 : Int) (a1 : Bool) : Option (Bool) := (cellaretlaw18_awake.f k).bind fun t430 => (if t430 = true then (if a0 < 2000 then (cellaretlaw18_ParseEdge.j0 k a0 a1 true) else (cellaretlaw18_ParseEdge.j0 k a0 a1 (decide (a0 > 2100)))) else (some false))
theorem cellaretlaw18_ParseEdge.mono_l : ∀ k, (∀ y0 y1 y2, LeO (cellaretlaw18_ParseEdge.j0 k y0 y1 y2) (cellaretlaw18_ParseEdge.j0 (k + 1) y0 y1 y2)) ∧ (∀ y0 y1 y2 y3, LeO (cellaretlaw18_ParseEdge.l0 k y0 y1 y2 y3) (cellaretlaw18_ParseEdge.l0 (k + 1) y0 y1 y2 y3)) ∧ (∀ y0 y1, LeO (cellaretlaw18_ParseEdge.j2 k y0 y1) (cellaretlaw18_ParseEdge.j2 (k + 1) y0 y1))
  | 0 => ⟨fun _ _ _ r h => by simp [cellaretlaw18_ParseEdge.j0] at h, fun _ _ _ _ r h => by simp [cellaretlaw18_ParseEdge.l0] at h, fun _ _ r h => by simp [cellaretlaw18_ParseEdge.j2] at h⟩
  | k + 1 => by
    obtain ⟨ih0, ih1, ih2⟩ := cellaretlaw18_ParseEdge.mono_l k
    refine ⟨?_, ?_, ?_⟩
    · intro y0 y1 y2
      unfold cellaretlaw18_ParseEdge.j0
      repeat' first
      | (with_reducible exact ih0 _ _ _)
      | (with_reducible exact ih1 _ _ _ _)
      | (with_reducible exact ih2 _ _)
      | (with_reducible exact cellaretlaw18_awake.mono _)
      | (with_reducible exact parse_Next.mono _ _)
      | (with_reducible exact LeO.refl _)
      | (with_reducible exact LeO.none _)
      | (with_reducible refine LeO.ite ?_ ?_)
      | (with_reducible refine LeO.bind ?_ (fun _ => ?_))
      | exact ih0 _ _ _
      | exact ih1 _ _ _ _
      | exact ih2 _ _
      | exact cellaretlaw18_awake.mono _
      | exact parse_Next.mono _ _
      | exact LeO.none _
      | refine LeO.ite ?_ ?_
      | refine LeO.bind ?_ (fun _ => ?_)
    · intro y0 y1 y2 y3
      unfold cellaretlaw18_ParseEdge.l0
      repeat' first
      | (with_reducible exact ih0 _ _ _)
      | (with_reducible exact ih1 _ _ _ _)
      | (with_reducible exact ih2 _ _)
      | (with_reducible exact cellaretlaw18_awake.mono _)
      | (with_reducible exact parse_Next.mono _ _)
      | (with_reducible exact LeO.refl _)
      | (with_reducible exact LeO.none _)
      | (with_reducible refine LeO.ite ?_ ?_)
      | (with_reducible refine LeO.bind ?_ (fun _ => ?_))
      | exact ih0 _ _ _
      | exact ih1 _ _ _ _
      | exact ih2 _ _
      | exact cellaretlaw18_awake.mono _
      | exact parse_Next.mono _ _
      | exact LeO.none _
      | refine LeO.ite ?_ ?_
      | refine LeO.bind ?_ (fun _ => ?_)
    · intro y0 y1
      unfold cellaretlaw18_ParseEdge.j2
      repeat' first
      | (with_reducible exact ih0 _ _ _)
      | (with_reducible exact ih1 _ _ _ _)
      | (with_reducible exact ih2 _ _)
      | (with_reducible exact cellaretlaw18_awake.mono _)
      | (with_reducible exact parse_Next.mono _ _)
      | (with_reducible exact LeO.refl _)
      | (with_reducible exact LeO.none _)
      | (with_reducible refine LeO.ite ?_ ?_)
      | (with_reducible refine LeO.bind ?_ (fun _ => ?_))
      | exact ih0 _ _ _
      | exact ih1 _ _ _ _
      | exact ih2 _ _
      | exact cellaretlaw18_awake.mono _
      | exact parse_Next.mono _ _
      | exact LeO.none _
      | refine LeO.ite ?_ ?_
      | refine LeO.bind ?_ (fun _ => ?_)
theorem cellaretlaw18_ParseEdge.mono : ∀ a0 a1 k, LeO (cellaretlaw18_ParseEdge.f k a0 a1) (cellaretlaw18_ParseEdge.f (k + 1) a0 a1) := by
  intro a0 a1 k
  obtain ⟨ih0, ih1, ih2⟩ := cellaretlaw18_ParseEdge.mono_l k
  unfold cellaretlaw18_ParseEdge.f
  repeat' first
      | (with_reducible exact ih0 _ _ _)
      | (with_reducible exact ih1 _ _ _ _)
      | (with_reducible exact ih2 _ _)
      | (with_reducible exact cellaretlaw18_awake.mono _)
      | (with_reducible exact parse_Next.mono _ _)
      | (with_reducible exact LeO.refl _)
      | (with_reducible exact LeO.none _)
      | (with_reducible refine LeO.ite ?_ ?_)
      | (with_reducible refine LeO.bind ?_ (fun _ => ?_))
      | exact ih0 _ _ _
      | exact ih1 _ _ _ _
      | exact ih2 _ _
      | exact cellaretlaw18_awake.mono _
      | exact parse_Next.mono _ _
      | exact LeO.none _
      | refine LeO.ite ?_ ?_
      | refine LeO.bind ?_ (fun _ => ?_)
theorem bBhy12 {B : Nat} {w W : World} (h : Below B w W := by repeat (first | (with_reducible first | exact HB.out | apply wA | apply wN | apply wD | refine below_set ?_ (IsS49.ge qA.out) | refine below_set ?_ qR.out | refine below_set ?_ qAA.out) | exact HB.out)) : Below B w W := h
theorem sS0hy12 {w0 W : World} {g : Nat} {ps : PS} (h : IsS49 w0 W g ps := by repeat (first | (with_reducible first | exact qA.out | apply sA | apply sN | apply sD | refine sF ?_ qD.out (by repeat (first | exact tO qB.out | apply tS | apply tA | apply tN | apply tD)) _ | refine sF ?_ qh.out (by repeat (first | exact tO qT.out | apply tS | apply tA | apply tN | apply tD)) _) | exact qA.out)) : IsS49 w0 W g ps := h
set_option maxHeartbeats 8000000 in
set_option maxRecDepth 100000 in
theorem cellaretlaw18_ParseEdge.calls (k : Nat) (a0 : Int) (a1 : Bool) (r : Bool) (hr_ : r = true) (w : World) (HLD : LaidA w) (h : cellaretlaw18_ParseEdge.f k a0 a1 = some r) :
  Calls Tryd.prog 5 #[.int .i64 a0, .bool a1] w fun e w' => e = .returned (.bool r) ∧ Below w.heap.size w w' := by
 have hu27 := Tryd.underlying27
 have HB := M0 (Below.refl w.heap.size w)
 have H : ((cellaretlaw18_awake.f k).bind fun qAB => (if qAB = true then (if a0 < 2000 then (cellaretlaw18_ParseEdge.j0 k a0 a1 true) else (cellaretlaw18_ParseEdge.j0 k a0 a1 (decide (a0 > 2100)))) else (some false))) = some r := h
 clear h
 replace H := Option.bind_eq_some_iff.mp H
 obtain ⟨qAB, A30, H⟩ := H
 replace H : (if qAB = true then (if a0 < 2000 then (cellaretlaw18_ParseEdge.j0 k a0 a1 true) else (cellaretlaw18_ParseEdge.j0 k a0 a1 (decide (a0 > 2100)))) else (some false)) = some r := H
 have A3 := M0 A30
 clear A30
 by_cases c4 : qAB = true
 ·subst c4
  have H1 : (if a0 < 2000 then (cellaretlaw18_ParseEdge.j0 k a0 a1 true) else (cellaretlaw18_ParseEdge.j0 k a0 a1 (decide (a0 > 2100)))) = some r := by rw [if_pos rfl] at H; exact H
  clear H
  have H := H1
  clear H1
  have HC5 := M0 H
  clear H
  go_enter Tryd.func5, Tryd.ntmps5
  go_upto_region 3 with (first | ((with_reducible refine gate_callee (f := 6) rfl ?_); refine goesL_ (some 12) rfl rfl Tryd.func6 (by kernel_rfl) rfl #[] rfl (by (try simp only [List.map_toArray, List.map_cons, List.map_nil]); first | done | rfl | (simp only [List.length_drop, List.length_take]; rfl)) ?_; (with_reducible refine (cellaretlaw18_awake.calls k  true rfl _ ?side1 A3.out).mono ?_); (case side1 => exact HLD.below bBhy12); rintro e w6 ⟨rfl, hb⟩; refine ⟨_, rfl, ?_⟩; (first | have n0_ := M0 (below_step bBhy12 hb) | have n0_ := M0 True.intro); clear HB; have HB := n0_; clear n0_; (try clear hb); (try clear hb2); (try clear hk); (try clear hi)))
  (try simp only [Act.put, List.setIfInBounds_toArray, List.set_cons_zero, List.set_cons_succ])
  go_cut [19] (fun v19 wc => ∃ (kq : Nat) (x19_4 : Bool), v19 = .bool x19_4 ∧ Aside0 (cellaretlaw18_ParseEdge.j0 kq a0 a1 x19_4 = some r) ∧ Aside0 (kq ≤ k) ∧ Aside0 (Below w.heap.size w wc))
  case first =>
   have H := HC5.out
   clear HC5
   by_cases c7 : a0 < 2000
   ·rw [if_pos c7] at H
    have c7b0 : decide (a0 < 2000) = true := decide_eq_true c7
    clear c7
    (first | rw [c7b0] | (simp only [i64_w, i32_w]; rw [c7b0]) | skip)
    have H' := M0 H
    clear H
    go_wp2
    go_meet
    case rel => exact ⟨_, (true), (by first | rfl | (simp; done) | (simp [*]; done)), H', ⟨by first | omega | exact Nat.le_refl _⟩, ⟨bBhy12⟩⟩
   ·rw [if_neg c7] at H
    have c7b0 : decide (a0 < 2000) = false := decide_eq_false c7
    clear c7
    (first | rw [c7b0] | (simp only [i64_w, i32_w]; rw [c7b0]) | skip)
    have H' := M0 H
    clear H
    go_wp2
    go_meet
    case rel => exact ⟨_, (decide (a0 > 2100)), (by first | rfl | (simp; done) | (simp [*]; done)), H', ⟨by first | omega | exact Nat.le_refl _⟩, ⟨bBhy12⟩⟩
  case rest =>
   clear HC5
   try clear p2
   try clear c4
   try clear c5
   try clear c6
   try clear c7
   try clear c7b0
   obtain ⟨kq, x19_4, rfl, HA, HJ4, HB⟩ := hcut
   cases kq with
   | zero => exact absurd HA.out (by simp [cellaretlaw18_ParseEdge.j0])
   | succ kj4 =>
    have H := HA.out
    clear HA
    simp only [cellaretlaw18_ParseEdge.j0] at H
    by_cases c8 : x19_4 = true
    ·subst c8
     have H1 : (some true) = some r := by rw [if_pos rfl] at H; exact H
     clear H
     have H := H1
     clear H1
     obtain rfl := Option.some.inj H
     go_wp2
     go_ret
     exact ⟨by first | rfl | (simp [errW_none, errW_some] <;> rfl) | (simp [*, errW_none, errW_some] <;> rfl), bBhy12⟩
    ·replace c8 := Bool.eq_false_iff.mpr c8
     subst c8
     have H1 : (if 0 ≤ a0 then (if (a0 : Int).toNat ≤ 281474976710656 then (cellaretlaw18_ParseEdge.l0 kj4 a0 a1 (List.replicate (a0 : Int).toNat 0) 0) else (none)) else (none)) = some r := by rw [if_neg (show ¬ (false = true) by decide)] at H; exact H
     clear H
     have H := H1
     clear H1
     by_cases c9 : 0 ≤ a0
     ·rw [if_pos c9] at H
      have c9b0 := eq_true c9
      have c9b1 : decide (0 ≤ a0) = true := decide_eq_true c9
      clear c9
      by_cases c10 : (a0 : Int).toNat ≤ 281474976710656
      ·rw [if_pos c10] at H
       have c10b0 := eq_true c10
       have c10b1 : decide ((a0 : Int).toNat ≤ 281474976710656) = true := decide_eq_true c10
       clear c10
       obtain ⟨y431, hy431⟩ : ∃ y_ : List Int, y_ = (List.replicate (a0 : Int).toNat 0) := ⟨_, rfl⟩
       replace H : (cellaretlaw18_ParseEdge.l0 kj4 a0 a1 y431 0) = some r := by first | (rw [hy431]; with_reducible exact H) | (have H2_ := (Option.bind_some _ _).symm.trans H; rw [hy431]; with_reducible exact H2_) | (have H2_ := (Option.bind_some _ _).symm.trans H; with_reducible exact H2_) | with_reducible exact H | (rw [hy431]; exact H) | exact H
       have qAE := M0 hy431
       clear hy431
       have H' := M0 H
       clear H
       go_wp2_with (first | ((with_reducible refine gate_dst (N := 21) rfl ?_); refine Kd.R_make (Kd.int .u8) _ 5 rfl (N := 21) rfl 38 _ _ rfl a0 rfl rfl Tryd.underlying38 (.int .u8 0) 1 info5 rfl (by decide) (by omega) 0 (ok := fun _ => True) (okp := fun _ => True) rfl (fun _ hk => hk) trivial (of_decide_eq_true (by first | (with_reducible assumption) | assumption)) (Nat.le_trans (Nat.mul_le_mul_right _ (of_decide_eq_true (by first | (with_reducible assumption) | assumption) : a0.toNat ≤ 281474976710656)) (by omega)) (Below.refl _ _) (Nat.le_refl _) ?_; intro v432 w11 ho12 hb hg_ hnew_; clear hg_ hnew_; (first | rw [← qAE.out] at ho12 | (simp only [Int.reduceToNat] at ho12; rw [← qAE.out] at ho12)); (first | have n0_ := M0 (Kd.R_lower ho12 (below_size bBhy12)) | have n0_ := M0 True.intro); (first | have n1_ := M0 (below_step bBhy12 hb) | have n1_ := M0 True.intro); clear HB; have qAK := n0_; have HB := n1_; clear n0_ n1_; clear hb ho12))
       go_loopg [6] kj4 (fun kq v6 w' => ∃ (x5_2 : List Int) (x6_2 : Int), v6 = .int .i64 x6_2 ∧ Aside0 (cellaretlaw18_ParseEdge.l0 kq a0 a1 x5_2 x6_2 = some r) ∧ Aside0 (kq ≤ kj4) ∧ Aside0 (Kd.R (Kd.int .u8) 5 w' w.heap.size (fun _ => True) v432 x5_2) ∧ Aside0 (Below w.heap.size w w'))
       case atStart => exact ⟨(y431), (0), (by first | rfl | (simp; done) | (simp [*]; done)), H', ⟨Nat.le_refl _⟩, ⟨by (with_reducible repeat (first | apply rA | apply rN | apply rD)); exact qAK.out⟩, ⟨bBhy12⟩⟩
       case round =>
        clear H'
        try clear c1
        try clear p2
        try clear c4
        try clear c5
        try clear c6
        try clear c7
        try clear c7b0
        try clear c8
        try clear c9
        try clear c9b0
        try clear c9b1
        try clear c10
        try clear c10b0
        try clear c10b1
        try clear p2
        obtain ⟨x5_2, x6_2, rfl, HA, HK2, HO_5, HB⟩ := hrel
        cases gk with
        | zero => exact absurd HA.out (by simp [cellaretlaw18_ParseEdge.l0])
        | succ k2 =>
         have H := HA.out
         clear HA
         simp only [cellaretlaw18_ParseEdge.l0] at H
         by_cases c13 : x6_2 < a0
         ·rw [if_pos c13] at H
          have c13b0 : decide (x6_2 < a0) = true := decide_eq_true c13
          clear c13
          by_cases c14 : 0 ≤ x6_2
          ·rw [if_pos c14] at H
           have c14b0 : decide (0 ≤ x6_2) = true := decide_eq_true c14
           clear c14
           by_cases c15 : x6_2 < (x5_2.length : Int)
           ·rw [if_pos c15] at H
            have c15b0 : decide (x6_2 < (x5_2.length : Int)) = true := decide_eq_true c15
            clear c15
            obtain ⟨y434, hy434⟩ : ∃ y_ : List Int, y_ = (x5_2.set (x6_2 : Int).toNat 120) := ⟨_, rfl⟩
            replace H : (cellaretlaw18_ParseEdge.l0 k2 a0 a1 y434 (wrap64 (x6_2 + 1))) = some r := by first | (rw [hy434]; with_reducible exact H) | (have H2_ := (Option.bind_some _ _).symm.trans H; rw [hy434]; with_reducible exact H2_) | (have H2_ := (Option.bind_some _ _).symm.trans H; with_reducible exact H2_) | with_reducible exact H | (rw [hy434]; exact H) | exact H
            have qAL := M0 hy434
            clear hy434
            have H' := M0 H
            clear H
            have p16 : 0 ≤ (x6_2 : Int) := of_decide_eq_true (by first | (with_reducible assumption) | assumption)
            have q16 : (x6_2 : Int) < ((x5_2.length : Int) : Int) := of_decide_eq_true (by first | (with_reducible assumption) | assumption)
            obtain ⟨go16, qAP, qAG, qAH, gl16, cl16, HG16⟩ := Kd.R_form HO_5.out (by omega)
            (first | cases qAG | (injection qAG with ea_ en_ ec_; (first | subst ea_ | (injection ea_ with ea_; subst ea_)); subst ec_; clear en_))
            have GB16 := M0 qAH
            have GG16 := M0 HG16
            clear qAH gl16 HG16
            obtain ⟨qAI, hf16_0⟩ := Kd.R_celln 0 HO_5.out (x6_2 : Int) p16 q16
            replace p16 := eq_true p16
            replace q16 := eq_true q16
            have HP17 := Kd.R_putg HO_5.out (x6_2 : Int) 120
            go_wp2_with (first | ((with_reducible refine gate_store (t := 5) (p := 29) rfl ?_); refine store_event (t := 5) (p := 29) (v := ?vo_w18) (w1 := (wr.setCell ⟨go16, (x6_2 : Int).toNat, none⟩ (.int .u8 120))) ?hg ?ho ?hn ?hr ?_; (case ho => rfl); (case hg => rfl); (case hn => rfl); (case hr => first | (go_simp; done) | (go_simp; rfl)); intro w18 hw; have hg : wr.grownBy w18 (some go16) := (by rw [hw]; exact HP17.2); have hp_ : Kd.R (Kd.int .u8) 5 w18 w.heap.size (fun _ => True) (.slice (some ⟨go16, 0, none⟩) x5_2.length qAP) y434 := (by rw [hw, qAL.out]; exact HP17.1); clear HP17; (first | have n0_ := M0 (hp_) | have n0_ := M0 True.intro); (first | have n1_ := M0 ((by rw [hw]; exact below_set (HB.out) GB16.out : Below w.heap.size w w18)) | have n1_ := M0 True.intro); clear HO_5; clear HB; have HO_5 := n0_; have HB := n1_; clear n0_ n1_; clear hg hw hp_))
            go_roundg k2
            case measure => have := HJ4.out; have := HK2.out; omega
            case rel => exact ⟨(y434), (wrap64 (x6_2 + 1)), (by first | rfl | (simp; done) | (simp [*]; done)), H', ⟨by have := HJ4.out; have := HK2.out; omega⟩, ⟨by (with_reducible repeat (first | apply rA | apply rN | apply rD)); exact HO_5.out⟩, ⟨bBhy12⟩⟩
           ·rw [if_neg c15] at H
            exact absurd H (by simp)
          ·rw [if_neg c14] at H
           exact absurd H (by simp)
         ·rw [if_neg c13] at H
          have c13b0 : decide (x6_2 < a0) = false := decide_eq_false c13
          clear c13
          have HC19 := M0 H
          clear H
          go_upto_if 30 with (fail)
          go_cut [5] (fun v5 wc => ∃ (kq : Nat) (x5_18 : List Int), Aside0 (cellaretlaw18_ParseEdge.j2 kq a0 x5_18 = some r) ∧ Aside0 (kq ≤ k2) ∧ Aside0 (Kd.R (Kd.int .u8) 5 wc w.heap.size (fun _ => True) v5 x5_18) ∧ Aside0 (Below w.heap.size w wc))
          case first =>
           have H := HC19.out
           clear HC19
           by_cases c20 : a1 = true
           ·subst c20
            have H1 : (if x5_2.length < 140737488355328 then (cellaretlaw18_ParseEdge.j2 k2 a0 (x5_2 ++ [13])) else (none)) = some r := by rw [if_pos rfl] at H; exact H
            clear H
            have H := H1
            clear H1
            by_cases c21 : x5_2.length < 140737488355328
            ·rw [if_pos c21] at H
             have qAM := M0 c21
             clear c21
             obtain ⟨y435, hy435⟩ : ∃ y_ : List Int, y_ = (x5_2 ++ [13]) := ⟨_, rfl⟩
             replace H : (cellaretlaw18_ParseEdge.j2 k2 a0 y435) = some r := by first | (rw [hy435]; with_reducible exact H) | (have H2_ := (Option.bind_some _ _).symm.trans H; rw [hy435]; with_reducible exact H2_) | (have H2_ := (Option.bind_some _ _).symm.trans H; with_reducible exact H2_) | with_reducible exact H | (rw [hy435]; exact H) | exact H
             have qAN := M0 hy435
             clear hy435
             have H' := M0 H
             clear H
             go_wp2_with (first | ((with_reducible refine gate_builtin (b := .append) (xs := #[.tmp 31, .tmp 32]) rfl ?_); at_builtin; refine Kd.R_append (Kd.int .u8) (w0 := w) w.heap.size rfl (.tmp 31) (.tmp 32) 38 5 (.int .u8 0) 1 rfl Tryd.underlying38 info5 rfl (by decide) (by omega) v432 x5_2 13 [.int .u8 13] (fun _ => True) (fun _ => False) rfl rfl ?aP (fun _ hk => hk.elim) ?aF ?aO ?aB ?aS ?aL ?_; (case aP => exact rfl); (case aB => exact bBhy12); (case aF => exact (fun _ _ => trivial)); (case aO => exact (by (with_reducible repeat (first | apply rA | apply rN | apply rD)); exact HO_5.out)); (case aS => exact (below_size bBhy12)); (case aL => have := qAM.out; omega); intro v436 w22 ho hb hg hat; rw [← qAN.out] at ho; (first | have n0_ := M0 (hb) | have n0_ := M0 True.intro); (first | have n1_ := M0 (ho) | have n1_ := M0 True.intro); clear HB; clear HO_5; have HB := n0_; have qAO := n1_; clear n0_ n1_; clear ho hb hg hat))
             go_meet
             case rel => exact ⟨_, (y435), H', ⟨by have := HJ4.out; have := HK2.out; first | omega | exact Nat.le_refl _⟩, ⟨by (with_reducible repeat (first | apply rA | apply rN | apply rD)); exact qAO.out⟩, ⟨bBhy12⟩⟩
            ·rw [if_neg c21] at H
             exact absurd H (by simp)
           ·replace c20 := Bool.eq_false_iff.mpr c20
            subst c20
            have H1 : (cellaretlaw18_ParseEdge.j2 k2 a0 x5_2) = some r := by rw [if_neg (show ¬ (false = true) by decide)] at H; exact H
            clear H
            have H := H1
            clear H1
            have H' := M0 H
            clear H
            go_wp2
            go_meet
            case rel => exact ⟨_, (x5_2), H', ⟨by have := HJ4.out; have := HK2.out; first | omega | exact Nat.le_refl _⟩, ⟨by (with_reducible repeat (first | apply rA | apply rN | apply rD)); exact HO_5.out⟩, ⟨bBhy12⟩⟩
          case rest =>
           clear HC19
           try clear c1
           try clear p1
           try clear q1
           try clear hx1
           try clear c2
           try clear p2
           try clear c4
           try clear c5
           try clear c6
           try clear p6
           try clear c7
           try clear c7b0
           try clear c8
           try clear c9
           try clear c9b0
           try clear c9b1
           try clear c10
           try clear c10b0
           try clear c10b1
           try clear c13
           try clear c13b0
           try clear c14
           try clear c14b0
           try clear c15
           try clear c15b0
           try clear p16
           try clear q16
           try clear qCF
           try clear hf16
           try clear c20
           try clear c21
           try clear qAI
           try clear p16
           try clear p2
           try clear q16
           obtain ⟨kq, x5_18, HA, HJ18, HO_5, HB⟩ := hcut
           cases kq with
           | zero => exact absurd HA.out (by simp [cellaretlaw18_ParseEdge.j2])
           | succ kj18 =>
            have H := HA.out
            clear HA
            simp only [cellaretlaw18_ParseEdge.j2] at H
            replace H := Option.bind_eq_some_iff.mp H
            obtain ⟨qw, A230, H⟩ := H
            replace H : ((parse_Feed.f qw x5_18).bind fun qv => ((parse_Next.f kj18 qv).bind fun bt441 => (if a0 > 2048 then (if bt441.2.2.2.2.2.2.2.2.2.2.2.2.1 = true then ((cellaretref17_Is.f bt441.1 bt441.2.1 bt441.2.2.1 bt441.2.2.2.1 bt441.2.2.2.2.1 bt441.2.2.2.2.2.1 bt441.2.2.2.2.2.2.1 bt441.2.2.2.2.2.2.2.1 bt441.2.2.2.2.2.2.2.2.1 bt441.2.2.2.2.2.2.2.2.2.1 bt441.2.2.2.2.2.2.2.2.2.2.1 bt441.2.2.2.2.2.2.2.2.2.2.2.1 (⟨#[98, 97, 100]⟩ : ByteArray) (⟨#[67, 76, 73, 69, 78, 84, 95, 69, 82, 82, 79, 82, 32, 108, 105, 110, 101, 32, 116, 111, 111, 32, 108, 111, 110, 103]⟩ : ByteArray)).bind fun qu => (some qu)) else (some false)) else ((parse_Feed.f bt441.2.2.2.2.2.2.2.2.2.2.2.2.2 (([10] : List Int))).bind fun qo => ((parse_Next.f kj18 qo).bind fun bt463 => (if bt441.2.2.2.2.2.2.2.2.2.2.2.2.1 = true then (some false) else (if bt463.2.2.2.2.2.2.2.2.2.2.2.2.1 = true then ((cellaretref17_Is.f bt463.1 bt463.2.1 bt463.2.2.1 bt463.2.2.2.1 bt463.2.2.2.2.1 bt463.2.2.2.2.2.1 bt463.2.2.2.2.2.2.1 bt463.2.2.2.2.2.2.2.1 bt463.2.2.2.2.2.2.2.2.1 bt463.2.2.2.2.2.2.2.2.2.1 bt463.2.2.2.2.2.2.2.2.2.2.1 bt463.2.2.2.2.2.2.2.2.2.2.2.1 (⟨#[98, 97, 100]⟩ : ByteArray) (⟨#[69, 82, 82, 79, 82]⟩ : ByteArray)).bind fun qd => (if qd = true then ((parse_Waits.f bt463.2.2.2.2.2.2.2.2.2.2.2.2.2).bind fun bt481 => (some (bt481.1 == 0))) else (some false))) else (some false)))))))) = some r := H
            have A23 := M0 A230
            clear A230
            replace H := Option.bind_eq_some_iff.mp H
            obtain ⟨qv, A240, H⟩ := H
            replace H : ((parse_Next.f kj18 qv).bind fun bt441 => (if a0 > 2048 then (if bt441.2.2.2.2.2.2.2.2.2.2.2.2.1 = true then ((cellaretref17_Is.f bt441.1 bt441.2.1 bt441.2.2.1 bt441.2.2.2.1 bt441.2.2.2.2.1 bt441.2.2.2.2.2.1 bt441.2.2.2.2.2.2.1 bt441.2.2.2.2.2.2.2.1 bt441.2.2.2.2.2.2.2.2.1 bt441.2.2.2.2.2.2.2.2.2.1 bt441.2.2.2.2.2.2.2.2.2.2.1 bt441.2.2.2.2.2.2.2.2.2.2.2.1 (⟨#[98, 97, 100]⟩ : ByteArray) (⟨#[67, 76, 73, 69, 78, 84, 95, 69, 82, 82, 79, 82, 32, 108, 105, 110, 101, 32, 116, 111, 111, 32, 108, 111, 110, 103]⟩ : ByteArray)).bind fun qu => (some qu)) else (some false)) else ((parse_Feed.f bt441.2.2.2.2.2.2.2.2.2.2.2.2.2 (([10] : List Int))).bind fun qo => ((parse_Next.f kj18 qo).bind fun bt463 => (if bt441.2.2.2.2.2.2.2.2.2.2.2.2.1 = true then (some false) else (if bt463.2.2.2.2.2.2.2.2.2.2.2.2.1 = true then ((cellaretref17_Is.f bt463.1 bt463.2.1 bt463.2.2.1 bt463.2.2.2.1 bt463.2.2.2.2.1 bt463.2.2.2.2.2.1 bt463.2.2.2.2.2.2.1 bt463.2.2.2.2.2.2.2.1 bt463.2.2.2.2.2.2.2.2.1 bt463.2.2.2.2.2.2.2.2.2.1 bt463.2.2.2.2.2.2.2.2.2.2.1 bt463.2.2.2.2.2.2.2.2.2.2.2.1 (⟨#[98, 97, 100]⟩ : ByteArray) (⟨#[69, 82, 82, 79, 82]⟩ : ByteArray)).bind fun qd => (if qd = true then ((parse_Waits.f bt463.2.2.2.2.2.2.2.2.2.2.2.2.2).bind fun bt481 => (some (bt481.1 == 0))) else (some false))) else (some false))))))) = some r := H
            have A24 := M0 A240
            clear A240
            replace H := Option.bind_eq_some_iff.mp H
            obtain ⟨⟨qE, qF, qG, qI, qJ, qK, qL, qN, qO, qP, qQ, qX, qx, qp⟩, A250, H⟩ := H
            replace H : (if a0 > 2048 then (if qx = true then ((cellaretref17_Is.f qE qF qG qI qJ qK qL qN qO qP qQ qX (⟨#[98, 97, 100]⟩ : ByteArray) (⟨#[67, 76, 73, 69, 78, 84, 95, 69, 82, 82, 79, 82, 32, 108, 105, 110, 101, 32, 116, 111, 111, 32, 108, 111, 110, 103]⟩ : ByteArray)).bind fun qu => (some qu)) else (some false)) else ((parse_Feed.f qp (([10] : List Int))).bind fun qo => ((parse_Next.f kj18 qo).bind fun bt463 => (if qx = true then (some false) else (if bt463.2.2.2.2.2.2.2.2.2.2.2.2.1 = true then ((cellaretref17_Is.f bt463.1 bt463.2.1 bt463.2.2.1 bt463.2.2.2.1 bt463.2.2.2.2.1 bt463.2.2.2.2.2.1 bt463.2.2.2.2.2.2.1 bt463.2.2.2.2.2.2.2.1 bt463.2.2.2.2.2.2.2.2.1 bt463.2.2.2.2.2.2.2.2.2.1 bt463.2.2.2.2.2.2.2.2.2.2.1 bt463.2.2.2.2.2.2.2.2.2.2.2.1 (⟨#[98, 97, 100]⟩ : ByteArray) (⟨#[69, 82, 82, 79, 82]⟩ : ByteArray)).bind fun qd => (if qd = true then ((parse_Waits.f bt463.2.2.2.2.2.2.2.2.2.2.2.2.2).bind fun bt481 => (some (bt481.1 == 0))) else (some false))) else (some false)))))) = some r := H
            have A25 := M0 A250
            clear A250
            by_cases c26 : a0 > 2048
            ·rw [if_pos c26] at H
             have c26b0 : decide (2048 < a0) = true := decide_eq_true c26
             clear c26
             by_cases c27 : qx = true
             ·subst c27
              have H1 : ((cellaretref17_Is.f qE qF qG qI qJ qK qL qN qO qP qQ qX (⟨#[98, 97, 100]⟩ : ByteArray) (⟨#[67, 76, 73, 69, 78, 84, 95, 69, 82, 82, 79, 82, 32, 108, 105, 110, 101, 32, 116, 111, 111, 32, 108, 111, 110, 103]⟩ : ByteArray)).bind fun qu => (some qu)) = some r := by rw [if_pos rfl] at H; exact H
              clear H
              have H := H1
              clear H1
              replace H := Option.bind_eq_some_iff.mp H
              obtain ⟨qu, A280, H⟩ := H
              replace H : (some qu) = some r := H
              have A28 := M0 A280
              clear A280
              obtain rfl := Option.some.inj H
              go_wp2_with (first | ((with_reducible refine gate_callee (f := 11) rfl ?_); refine goesL_ (some 34) rfl rfl Tryd.func11 (by kernel_rfl) rfl #[] rfl (by (try simp only [List.map_toArray, List.map_cons, List.map_nil]); first | done | rfl | (simp only [List.length_drop, List.length_take]; rfl)) ?_; (with_reducible refine (parse_New.calls  qw w _ ?side1 ?side2 A23.out).mono ?_); (case side1 => exact bBhy12); (case side2 => exact HLD.below bBhy12); rintro e w29 ⟨g439, rfl, hi, hb, hb2⟩; refine ⟨_, rfl, ?_⟩; (first | have n0_ := M0 (Kd.R_below (by (with_reducible repeat (first | apply rA | apply rN | apply rD)); exact HO_5.out) hb2) | have n0_ := M0 True.intro); (first | have n1_ := M0 (hb) | have n1_ := M0 True.intro); (first | have n2_ := M0 (hi) | have n2_ := M0 True.intro); clear HO_5; clear HB; have HO_5 := n0_; have HB := n1_; have qA := n2_; clear n0_ n1_ n2_; (try clear hb); (try clear hb2); (try clear hk); (try clear hi); obtain ⟨qAQ, qAR, qAS⟩ := Kd.R_slice HO_5.out; subst qAS) | ((with_reducible refine gate_callee (f := 12) rfl ?_); refine goesL_ (some 37) rfl rfl Tryd.func12 (by kernel_rfl) rfl #[.pointer (some ⟨g439, 0, none⟩), .slice qAQ x5_18.length qAR] rfl (by (try simp only [List.map_toArray, List.map_cons, List.map_nil]); first | done | rfl | (simp only [List.length_drop, List.length_take]; rfl)) ?_; (with_reducible refine (parse_Feed.calls g439 qw _ _ x5_18 qv w _ ?side1 ?side2 ?side5 ?side3 ?side4 A24.out).mono ?_); (case side1 => exact sS0hy12); (case side2 => exact bBhy12); (case side3 => repeat (first | exact (Kd.R_reads' HO_5.out).2.2 | (with_reducible refine Kd.C_alloc ?_ _) | (with_reducible refine Kd.C_drewN ?_ _) | (with_reducible refine Kd.C_drew ?_))); (case side4 => exact (Kd.R_reads' HO_5.out).2.1); (case side5 => exact HLD.below bBhy12); rintro e w31 ⟨rfl, hi, hb, hk⟩; refine ⟨_, rfl, ?_⟩; (first | have n0_ := M0 (Kd.R_mono (R_keepU (IsS49.apart (show IsS49 w _ g439 qw from sS0hy12) (by (with_reducible repeat (first | apply rA | apply rN | apply rD)); exact HO_5.out) (by decide)) hk (fun _ h => h.2) (by decide)) (fun _ h => h.1)) | have n0_ := M0 True.intro); (first | have n1_ := M0 (hb) | have n1_ := M0 True.intro); (first | have n2_ := M0 (hi) | have n2_ := M0 True.intro); clear HO_5; clear HB; clear qA; have HO_5 := n0_; have HB := n1_; have qA := n2_; clear n0_ n1_ n2_; (try clear hb); (try clear hb2); (try clear hk); (try clear hi)) | ((with_reducible refine gate_callee (f := 13) rfl ?_); refine goesL_ (some 40) rfl rfl Tryd.func13 (by kernel_rfl) rfl #[.pointer (some ⟨g439, 0, none⟩)] rfl (by (try simp only [List.map_toArray, List.map_cons, List.map_nil]); first | done | rfl | (simp only [List.length_drop, List.length_take]; rfl)) ?_; (with_reducible refine (parse_Next.calls kj18 g439 qv qE qF qG qI qJ qK qL qN qO qP qQ qX true qp w _ ?side1 ?side2 ?side3 A25.out).mono ?_); (case side1 => exact sS0hy12); (case side2 => exact bBhy12); (case side3 => exact HLD.below bBhy12); rintro e w32 ⟨v444, rfl, ho0, hi, hb, hk⟩; refine ⟨_, rfl, ?_⟩; (first | have n0_ := M0 (Kd.R_mono (Kd.R_keep (IsS49.apart (show IsS49 w _ g439 qv from sS0hy12) (by (with_reducible repeat (first | apply rA | apply rN | apply rD)); exact HO_5.out) (by decide)) hk (fun _ h => h.2)) (fun _ h => h.1)) | have n0_ := M0 True.intro); (first | have n1_ := M0 (Kd.R_lower ho0 (below_size bBhy12)) | have n1_ := M0 True.intro); (first | have n2_ := M0 (hb) | have n2_ := M0 True.intro); (first | have n3_ := M0 (hi) | have n3_ := M0 True.intro); clear HO_5; clear HB; clear qA; have HO_5 := n0_; have qH := n1_; have HB := n2_; have qA := n3_; clear n0_ n1_ n2_ n3_; (try clear hb); (try clear hb2); (try clear hk); (try clear hi); (try clear ho0)) | ((with_reducible refine gate_dst (N := 8) rfl ?_); refine box_event ?hg (N := 8) ?hd (cs := #[.string (⟨#[]⟩ : ByteArray), .string (⟨#[]⟩ : ByteArray), .slice none 0 0, .string (⟨#[]⟩ : ByteArray), .int .u32 0, .int .i64 0, .int .u64 0, .int .u64 0, .bool false, .bool false, .bool false, .bool false]) (t := 27) ?hr ?_; (case hd => rfl); (case hg => rfl); (case hr => first | (go_simp; done) | (go_simp; rfl)); intro qC hg w33 hbox hb; (first | have n0_ := M0 (Kd.R_below (by (with_reducible repeat (first | apply rA | apply rN | apply rD)); exact HO_5.out) hb) | have n0_ := M0 True.intro); (first | have n1_ := M0 (Kd.R_below (by (with_reducible repeat (first | apply rA | apply rN | apply rD)); exact qH.out) hb) | have n1_ := M0 True.intro); (first | have n2_ := M0 (IsS49.below sS0hy12 hb) | have n2_ := M0 True.intro); (first | have n3_ := M0 (below_step bBhy12 hb) | have n3_ := M0 True.intro); (first | have n4_ := M0 (hbox) | have n4_ := M0 True.intro); (first | have n5_ := M0 ((by rw [hg]; exact (below_size bBhy12) : w.heap.size ≤ qC)) | have n5_ := M0 True.intro); (first | have n6_ := M0 ((by rw [hg]; exact (below_size bBhy12) : w.heap.size ≤ qC)) | have n6_ := M0 True.intro); (first | have n7_ := M0 ((by rw [hg]; exact Nat.ne_of_lt (IsS49.lt (show IsS49 w _ g439 qp from sS0hy12)) : g439 ≠ qC)) | have n7_ := M0 True.intro); (first | have n8_ := M0 ((by rw [hg]; exact Nat.ne_of_gt (IsS49.lt (show IsS49 w _ g439 qp from sS0hy12)) : qC ≠ g439)) | have n8_ := M0 True.intro); clear HO_5; clear qH; clear qA; clear HB; have HO_5 := n0_; have qH := n1_; have qA := n2_; have HB := n3_; have qB := n4_; have GW457 := n5_; have qR := n6_; have qD := n7_; have qn := n8_; clear n0_ n1_ n2_ n3_ n4_ n5_ n6_ n7_ n8_; clear hb hbox hg; have qBx := qn.out; have qBy := qD.out; obtain ⟨qAp, qAq, qAr, qAs, qAt, qAu, qAv, qAw, qAx, qAy, qAT, qAU⟩ := celL qB.out; obtain ⟨qAz, qBA, qBB, qBC, qBD, qBE, qBF, qBG, qBH, qBI, qAV, qAW⟩ := froZ qB.out; obtain ⟨qq, ql, qAX⟩ := Kd.R_slice qH.out; subst qAX) | (go_at_call 8; (with_reducible refine (cellaretref17_Is.calls qE qF _ _ qG qI qJ qK qL qN qO qP qQ qX (⟨#[98, 97, 100]⟩ : ByteArray) (⟨#[67, 76, 73, 69, 78, 84, 95, 69, 82, 82, 79, 82, 32, 108, 105, 110, 101, 32, 116, 111, 111, 32, 108, 111, 110, 103]⟩ : ByteArray) qu _ ?side1 ?side2 A28.out).mono ?_); (case side1 => refine (Kd.R_reads' (e := 9) (base := w.heap.size) (ok := fun k_ => True) (n := qG.length) (c := ql) ?_).2.2; exact (by (with_reducible repeat (first | apply rA | apply rN | apply rD)); exact (Kd.R_mono (R_far12 qC (Kd.R_types qH.out qB.out (by decide)) (.string qE) (.string qF) (.slice qq qG.length ql) (.string qI) (.int .u32 qJ) (.int .i64 qK) (.int .u64 qL) (.int .u64 qN) (.bool qO) (.bool qP) (.bool qQ) (.bool qX)) (fun _ h_ => h_.1)))); (case side2 => exact (Kd.R_reads' qH.out).2.1); rintro e w37 ⟨rfl, hb⟩; (first | have n0_ := M0 (Kd.R_below (by (with_reducible repeat (first | apply rA | apply rN | apply rD)); exact (Kd.R_mono (R_far12 qC (Kd.R_types HO_5.out qB.out (by decide)) (.string qE) (.string qF) (.slice qq qG.length ql) (.string qI) (.int .u32 qJ) (.int .i64 qK) (.int .u64 qL) (.int .u64 qN) (.bool qO) (.bool qP) (.bool qQ) (.bool qX)) (fun _ h_ => h_.1))) hb) | have n0_ := M0 True.intro); (first | have n1_ := M0 (Kd.R_below (by (with_reducible repeat (first | apply rA | apply rN | apply rD)); exact (Kd.R_mono (R_far12 qC (Kd.R_types qH.out qB.out (by decide)) (.string qE) (.string qF) (.slice qq qG.length ql) (.string qI) (.int .u32 qJ) (.int .i64 qK) (.int .u64 qL) (.int .u64 qN) (.bool qO) (.bool qP) (.bool qQ) (.bool qX)) (fun _ h_ => h_.1))) hb) | have n1_ := M0 True.intro); (first | have n2_ := M0 (IsS49.below (show IsS49 w ((((((((((((w33.setCell ⟨qC, 0, none⟩ (.string qE)).setCell ⟨qC, 1, none⟩ (.string qF)).setCell ⟨qC, 2, none⟩ (.slice qq qG.length ql)).setCell ⟨qC, 3, none⟩ (.string qI)).setCell ⟨qC, 4, none⟩ (.int .u32 qJ)).setCell ⟨qC, 5, none⟩ (.int .i64 qK)).setCell ⟨qC, 6, none⟩ (.int .u64 qL)).setCell ⟨qC, 7, none⟩ (.int .u64 qN)).setCell ⟨qC, 8, none⟩ (.bool qO)).setCell ⟨qC, 9, none⟩ (.bool qP)).setCell ⟨qC, 10, none⟩ (.bool qQ)).setCell ⟨qC, 11, none⟩ (.bool qX)) g439 qp from sS0hy12) hb) | have n2_ := M0 True.intro); (first | have n3_ := M0 (blk_below (g := qC) (o := .cells #[.string qE, .string qF, .slice qq qG.length ql, .string qI, .int .u32 qJ, .int .i64 qK, .int .u64 qL, .int .u64 qN, .bool qO, .bool qP, .bool qQ, .bool qX] 27 (0, 0)) (by (with_reducible repeat (first | refine bN ?_ _ | refine bD ?_ | refine bA ?_ _)); refine blk_put (cs := #[.string qE, .string qF, .slice qq qG.length ql, .string qI, .int .u32 qJ, .int .i64 qK, .int .u64 qL, .int .u64 qN, .bool qO, .bool qP, .bool qQ, .bool false]) ?_ 11 _ rfl; (with_reducible repeat (first | refine bN ?_ _ | refine bD ?_ | refine bA ?_ _)); refine blk_put (cs := #[.string qE, .string qF, .slice qq qG.length ql, .string qI, .int .u32 qJ, .int .i64 qK, .int .u64 qL, .int .u64 qN, .bool qO, .bool qP, .bool false, .bool false]) ?_ 10 _ rfl; (with_reducible repeat (first | refine bN ?_ _ | refine bD ?_ | refine bA ?_ _)); refine blk_put (cs := #[.string qE, .string qF, .slice qq qG.length ql, .string qI, .int .u32 qJ, .int .i64 qK, .int .u64 qL, .int .u64 qN, .bool qO, .bool false, .bool false, .bool false]) ?_ 9 _ rfl; (with_reducible repeat (first | refine bN ?_ _ | refine bD ?_ | refine bA ?_ _)); refine blk_put (cs := #[.string qE, .string qF, .slice qq qG.length ql, .string qI, .int .u32 qJ, .int .i64 qK, .int .u64 qL, .int .u64 qN, .bool false, .bool false, .bool false, .bool false]) ?_ 8 _ rfl; (with_reducible repeat (first | refine bN ?_ _ | refine bD ?_ | refine bA ?_ _)); refine blk_put (cs := #[.string qE, .string qF, .slice qq qG.length ql, .string qI, .int .u32 qJ, .int .i64 qK, .int .u64 qL, .int .u64 0, .bool false, .bool false, .bool false, .bool false]) ?_ 7 _ rfl; (with_reducible repeat (first | refine bN ?_ _ | refine bD ?_ | refine bA ?_ _)); refine blk_put (cs := #[.string qE, .string qF, .slice qq qG.length ql, .string qI, .int .u32 qJ, .int .i64 qK, .int .u64 0, .int .u64 0, .bool false, .bool false, .bool false, .bool false]) ?_ 6 _ rfl; (with_reducible repeat (first | refine bN ?_ _ | refine bD ?_ | refine bA ?_ _)); refine blk_put (cs := #[.string qE, .string qF, .slice qq qG.length ql, .string qI, .int .u32 qJ, .int .i64 0, .int .u64 0, .int .u64 0, .bool false, .bool false, .bool false, .bool false]) ?_ 5 _ rfl; (with_reducible repeat (first | refine bN ?_ _ | refine bD ?_ | refine bA ?_ _)); refine blk_put (cs := #[.string qE, .string qF, .slice qq qG.length ql, .string qI, .int .u32 0, .int .i64 0, .int .u64 0, .int .u64 0, .bool false, .bool false, .bool false, .bool false]) ?_ 4 _ rfl; (with_reducible repeat (first | refine bN ?_ _ | refine bD ?_ | refine bA ?_ _)); refine blk_put (cs := #[.string qE, .string qF, .slice qq qG.length ql, .string (⟨#[]⟩ : ByteArray), .int .u32 0, .int .i64 0, .int .u64 0, .int .u64 0, .bool false, .bool false, .bool false, .bool false]) ?_ 3 _ rfl; (with_reducible repeat (first | refine bN ?_ _ | refine bD ?_ | refine bA ?_ _)); refine blk_put (cs := #[.string qE, .string qF, .slice none 0 0, .string (⟨#[]⟩ : ByteArray), .int .u32 0, .int .i64 0, .int .u64 0, .int .u64 0, .bool false, .bool false, .bool false, .bool false]) ?_ 2 _ rfl; (with_reducible repeat (first | refine bN ?_ _ | refine bD ?_ | refine bA ?_ _)); refine blk_put (cs := #[.string qE, .string (⟨#[]⟩ : ByteArray), .slice none 0 0, .string (⟨#[]⟩ : ByteArray), .int .u32 0, .int .i64 0, .int .u64 0, .int .u64 0, .bool false, .bool false, .bool false, .bool false]) ?_ 1 _ rfl; (with_reducible repeat (first | refine bN ?_ _ | refine bD ?_ | refine bA ?_ _)); refine blk_put (cs := #[.string (⟨#[]⟩ : ByteArray), .string (⟨#[]⟩ : ByteArray), .slice none 0 0, .string (⟨#[]⟩ : ByteArray), .int .u32 0, .int .i64 0, .int .u64 0, .int .u64 0, .bool false, .bool false, .bool false, .bool false]) ?_ 0 _ rfl; (with_reducible repeat (first | refine bN ?_ _ | refine bD ?_ | refine bA ?_ _)); exact qB.out) hb) | have n3_ := M0 True.intro); (first | have n4_ := M0 (below_step bBhy12 hb) | have n4_ := M0 True.intro); clear HO_5; clear qH; clear qA; clear qB; clear HB; have HO_5 := n0_; have qH := n1_; have qA := n2_; have qB := n3_; have HB := n4_; clear n0_ n1_ n2_ n3_ n4_; (try clear hb); (try clear hb2); (try clear hk); (try clear hi)))
              go_ret
              exact ⟨by first | rfl | (simp [errW_none, errW_some] <;> rfl) | (simp [*, errW_none, errW_some] <;> rfl), bBhy12⟩
             ·replace c27 := Bool.eq_false_iff.mpr c27
              subst c27
              have H1 : (some false) = some r := by rw [if_neg (show ¬ (false = true) by decide)] at H; exact H
              exact absurd ((Option.some.inj H1).trans hr_) (by decide)
            ·rw [if_neg c26] at H
             have c26b0 : decide (2048 < a0) = false := decide_eq_false c26
             clear c26
             obtain ⟨y459, hy459⟩ : ∃ y_ : List Int, y_ = (([10] : List Int)) := ⟨_, rfl⟩
             replace H : ((parse_Feed.f qp y459).bind fun qo => ((parse_Next.f kj18 qo).bind fun bt463 => (if qx = true then (some false) else (if bt463.2.2.2.2.2.2.2.2.2.2.2.2.1 = true then ((cellaretref17_Is.f bt463.1 bt463.2.1 bt463.2.2.1 bt463.2.2.2.1 bt463.2.2.2.2.1 bt463.2.2.2.2.2.1 bt463.2.2.2.2.2.2.1 bt463.2.2.2.2.2.2.2.1 bt463.2.2.2.2.2.2.2.2.1 bt463.2.2.2.2.2.2.2.2.2.1 bt463.2.2.2.2.2.2.2.2.2.2.1 bt463.2.2.2.2.2.2.2.2.2.2.2.1 (⟨#[98, 97, 100]⟩ : ByteArray) (⟨#[69, 82, 82, 79, 82]⟩ : ByteArray)).bind fun qd => (if qd = true then ((parse_Waits.f bt463.2.2.2.2.2.2.2.2.2.2.2.2.2).bind fun bt481 => (some (bt481.1 == 0))) else (some false))) else (some false))))) = some r := by first | (rw [hy459]; with_reducible exact H) | (have H2_ := (Option.bind_some _ _).symm.trans H; rw [hy459]; with_reducible exact H2_) | (have H2_ := (Option.bind_some _ _).symm.trans H; with_reducible exact H2_) | with_reducible exact H | (rw [hy459]; exact H) | exact H
             have qAF := M0 hy459
             clear hy459
             replace H := Option.bind_eq_some_iff.mp H
             obtain ⟨qo, A460, H⟩ := H
             replace H : ((parse_Next.f kj18 qo).bind fun bt463 => (if qx = true then (some false) else (if bt463.2.2.2.2.2.2.2.2.2.2.2.2.1 = true then ((cellaretref17_Is.f bt463.1 bt463.2.1 bt463.2.2.1 bt463.2.2.2.1 bt463.2.2.2.2.1 bt463.2.2.2.2.2.1 bt463.2.2.2.2.2.2.1 bt463.2.2.2.2.2.2.2.1 bt463.2.2.2.2.2.2.2.2.1 bt463.2.2.2.2.2.2.2.2.2.1 bt463.2.2.2.2.2.2.2.2.2.2.1 bt463.2.2.2.2.2.2.2.2.2.2.2.1 (⟨#[98, 97, 100]⟩ : ByteArray) (⟨#[69, 82, 82, 79, 82]⟩ : ByteArray)).bind fun qd => (if qd = true then ((parse_Waits.f bt463.2.2.2.2.2.2.2.2.2.2.2.2.2).bind fun bt481 => (some (bt481.1 == 0))) else (some false))) else (some false)))) = some r := H
             have A46 := M0 A460
             clear A460
             replace H := Option.bind_eq_some_iff.mp H
             obtain ⟨⟨qS, qU, qV, qa, qb, qc, qe, qg, qj, qm, qr, qt, qAD, qs⟩, A470, H⟩ := H
             replace H : (if qx = true then (some false) else (if qAD = true then ((cellaretref17_Is.f qS qU qV qa qb qc qe qg qj qm qr qt (⟨#[98, 97, 100]⟩ : ByteArray) (⟨#[69, 82, 82, 79, 82]⟩ : ByteArray)).bind fun qd => (if qd = true then ((parse_Waits.f qs).bind fun bt481 => (some (bt481.1 == 0))) else (some false))) else (some false))) = some r := H
             have A47 := M0 A470
             clear A470
             by_cases c48 : qx = true
             ·subst c48
              have H1 : (some false) = some r := by rw [if_pos rfl] at H; exact H
              exact absurd ((Option.some.inj H1).trans hr_) (by decide)
             ·replace c48 := Bool.eq_false_iff.mpr c48
              subst c48
              have H1 : (if qAD = true then ((cellaretref17_Is.f qS qU qV qa qb qc qe qg qj qm qr qt (⟨#[98, 97, 100]⟩ : ByteArray) (⟨#[69, 82, 82, 79, 82]⟩ : ByteArray)).bind fun qd => (if qd = true then ((parse_Waits.f qs).bind fun bt481 => (some (bt481.1 == 0))) else (some false))) else (some false)) = some r := by rw [if_neg (show ¬ (false = true) by decide)] at H; exact H
              clear H
              have H := H1
              clear H1
              by_cases c67 : qAD = true
              ·subst c67
               have H1 : ((cellaretref17_Is.f qS qU qV qa qb qc qe qg qj qm qr qt (⟨#[98, 97, 100]⟩ : ByteArray) (⟨#[69, 82, 82, 79, 82]⟩ : ByteArray)).bind fun qd => (if qd = true then ((parse_Waits.f qs).bind fun bt481 => (some (bt481.1 == 0))) else (some false))) = some r := by rw [if_pos rfl] at H; exact H
               clear H
               have H := H1
               clear H1
               replace H := Option.bind_eq_some_iff.mp H
               obtain ⟨qd, A680, H⟩ := H
               replace H : (if qd = true then ((parse_Waits.f qs).bind fun bt481 => (some (bt481.1 == 0))) else (some false)) = some r := H
               have A68 := M0 A680
               clear A680
               by_cases c69 : qd = true
               ·subst c69
                have H1 : ((parse_Waits.f qs).bind fun bt481 => (some (bt481.1 == 0))) = some r := by rw [if_pos rfl] at H; exact H
                clear H
                have H := H1
                clear H1
                replace H := Option.bind_eq_some_iff.mp H
                obtain ⟨⟨qAJ, qAY⟩, A700, H⟩ := H
                replace H : (some (qAJ == 0)) = some r := H
                have A70 := M0 A700
                clear A700
                obtain rfl := Option.some.inj H
                go_wp2_with (first | ((with_reducible refine gate_callee (f := 11) rfl ?_); refine goesL_ (some 34) rfl rfl Tryd.func11 (by kernel_rfl) rfl #[] rfl (by (try simp only [List.map_toArray, List.map_cons, List.map_nil]); first | done | rfl | (simp only [List.length_drop, List.length_take]; rfl)) ?_; (with_reducible refine (parse_New.calls  qw w _ ?side1 ?side2 A23.out).mono ?_); (case side1 => exact bBhy12); (case side2 => exact HLD.below bBhy12); rintro e w71 ⟨g439, rfl, hi, hb, hb2⟩; refine ⟨_, rfl, ?_⟩; (first | have n0_ := M0 (Kd.R_below (by (with_reducible repeat (first | apply rA | apply rN | apply rD)); exact HO_5.out) hb2) | have n0_ := M0 True.intro); (first | have n1_ := M0 (hb) | have n1_ := M0 True.intro); (first | have n2_ := M0 (hi) | have n2_ := M0 True.intro); clear HO_5; clear HB; have HO_5 := n0_; have HB := n1_; have qA := n2_; clear n0_ n1_ n2_; (try clear hb); (try clear hb2); (try clear hk); (try clear hi); obtain ⟨qAZ, qAa, qAb⟩ := Kd.R_slice HO_5.out; subst qAb) | ((with_reducible refine gate_callee (f := 12) rfl ?_); refine goesL_ (some 37) rfl rfl Tryd.func12 (by kernel_rfl) rfl #[.pointer (some ⟨g439, 0, none⟩), .slice qAZ x5_18.length qAa] rfl (by (try simp only [List.map_toArray, List.map_cons, List.map_nil]); first | done | rfl | (simp only [List.length_drop, List.length_take]; rfl)) ?_; (with_reducible refine (parse_Feed.calls g439 qw _ _ x5_18 qv w _ ?side1 ?side2 ?side5 ?side3 ?side4 A24.out).mono ?_); (case side1 => exact sS0hy12); (case side2 => exact bBhy12); (case side3 => repeat (first | exact (Kd.R_reads' HO_5.out).2.2 | (with_reducible refine Kd.C_alloc ?_ _) | (with_reducible refine Kd.C_drewN ?_ _) | (with_reducible refine Kd.C_drew ?_))); (case side4 => exact (Kd.R_reads' HO_5.out).2.1); (case side5 => exact HLD.below bBhy12); rintro e w73 ⟨rfl, hi, hb, hk⟩; refine ⟨_, rfl, ?_⟩; (first | have n0_ := M0 (Kd.R_mono (R_keepU (IsS49.apart (show IsS49 w _ g439 qw from sS0hy12) (by (with_reducible repeat (first | apply rA | apply rN | apply rD)); exact HO_5.out) (by decide)) hk (fun _ h => h.2) (by decide)) (fun _ h => h.1)) | have n0_ := M0 True.intro); (first | have n1_ := M0 (hb) | have n1_ := M0 True.intro); (first | have n2_ := M0 (hi) | have n2_ := M0 True.intro); clear HO_5; clear HB; clear qA; have HO_5 := n0_; have HB := n1_; have qA := n2_; clear n0_ n1_ n2_; (try clear hb); (try clear hb2); (try clear hk); (try clear hi)) | ((with_reducible refine gate_callee (f := 13) rfl ?_); refine goesL_ (some 40) rfl rfl Tryd.func13 (by kernel_rfl) rfl #[.pointer (some ⟨g439, 0, none⟩)] rfl (by (try simp only [List.map_toArray, List.map_cons, List.map_nil]); first | done | rfl | (simp only [List.length_drop, List.length_take]; rfl)) ?_; (with_reducible refine (parse_Next.calls kj18 g439 qv qE qF qG qI qJ qK qL qN qO qP qQ qX false qp w _ ?side1 ?side2 ?side3 A25.out).mono ?_); (case side1 => exact sS0hy12); (case side2 => exact bBhy12); (case side3 => exact HLD.below bBhy12); rintro e w74 ⟨v444, rfl, ho0, hi, hb, hk⟩; refine ⟨_, rfl, ?_⟩; (first | have n0_ := M0 (Kd.R_mono (Kd.R_keep (IsS49.apart (show IsS49 w _ g439 qv from sS0hy12) (by (with_reducible repeat (first | apply rA | apply rN | apply rD)); exact HO_5.out) (by decide)) hk (fun _ h => h.2)) (fun _ h => h.1)) | have n0_ := M0 True.intro); (first | have n1_ := M0 (Kd.R_lower ho0 (below_size bBhy12)) | have n1_ := M0 True.intro); (first | have n2_ := M0 (hb) | have n2_ := M0 True.intro); (first | have n3_ := M0 (hi) | have n3_ := M0 True.intro); clear HO_5; clear HB; clear qA; have HO_5 := n0_; have qH := n1_; have HB := n2_; have qA := n3_; clear n0_ n1_ n2_ n3_; (try clear hb); (try clear hb2); (try clear hk); (try clear hi); (try clear ho0)) | ((with_reducible refine gate_dst (N := 8) rfl ?_); refine box_event ?hg (N := 8) ?hd (cs := #[.string (⟨#[]⟩ : ByteArray), .string (⟨#[]⟩ : ByteArray), .slice none 0 0, .string (⟨#[]⟩ : ByteArray), .int .u32 0, .int .i64 0, .int .u64 0, .int .u64 0, .bool false, .bool false, .bool false, .bool false]) (t := 27) ?hr ?_; (case hd => rfl); (case hg => rfl); (case hr => first | (go_simp; done) | (go_simp; rfl)); intro qC hg w75 hbox hb; (first | have n0_ := M0 (Kd.R_below (by (with_reducible repeat (first | apply rA | apply rN | apply rD)); exact HO_5.out) hb) | have n0_ := M0 True.intro); (first | have n1_ := M0 (Kd.R_below (by (with_reducible repeat (first | apply rA | apply rN | apply rD)); exact qH.out) hb) | have n1_ := M0 True.intro); (first | have n2_ := M0 (IsS49.below sS0hy12 hb) | have n2_ := M0 True.intro); (first | have n3_ := M0 (below_step bBhy12 hb) | have n3_ := M0 True.intro); (first | have n4_ := M0 (hbox) | have n4_ := M0 True.intro); (first | have n5_ := M0 ((by rw [hg]; exact (below_size bBhy12) : w.heap.size ≤ qC)) | have n5_ := M0 True.intro); (first | have n6_ := M0 ((by rw [hg]; exact (below_size bBhy12) : w.heap.size ≤ qC)) | have n6_ := M0 True.intro); (first | have n7_ := M0 ((by rw [hg]; exact Nat.ne_of_lt (IsS49.lt (show IsS49 w _ g439 qp from sS0hy12)) : g439 ≠ qC)) | have n7_ := M0 True.intro); (first | have n8_ := M0 ((by rw [hg]; exact Nat.ne_of_gt (IsS49.lt (show IsS49 w _ g439 qp from sS0hy12)) : qC ≠ g439)) | have n8_ := M0 True.intro); clear HO_5; clear qH; clear qA; clear HB; have HO_5 := n0_; have qH := n1_; have qA := n2_; have HB := n3_; have qB := n4_; have GW457 := n5_; have qR := n6_; have qD := n7_; have qn := n8_; clear n0_ n1_ n2_ n3_ n4_ n5_ n6_ n7_ n8_; clear hb hbox hg; have qBz := qn.out; have qCA := qD.out; obtain ⟨qBJ, qBK, qBL, qBM, qBN, qBO, qBP, qBQ, qBR, qBS, qAc, qAd⟩ := celL qB.out; obtain ⟨qBT, qBU, qBV, qBW, qBX, qBY, qBZ, qBa, qBb, qBc, qAe, qAf⟩ := froZ qB.out; obtain ⟨qY, qZ, qAg⟩ := Kd.R_slice qH.out; subst qAg) | ((with_reducible refine gate_dst (N := 51) rfl ?_); refine Kd.R_lit (Kd.int .u8) _ 5 ?hg (N := 51) ?hd (xs := ([10] : List Int)) (inner := [.int .u8 10]) (ok := fun _ => True) (okp := fun _ => True) ?hr ?hp (fun _ hk => hk) trivial (Below.refl _ _) (Nat.le_refl _) (by simp) ?_; (case hd => rfl); (case hg => rfl); (case hr => first | (go_simp; done) | (go_simp; rfl)); (case hp => exact (Reps.one (show Kd.M (Kd.int .u8) _ _ _ 10 [.int .u8 10] from rfl) (Reps.none _ _))); intro v460 w79 ho80 hb hg_ hnew_; clear hg_ hnew_; (first | rw [← qAF.out] at ho80 | (simp only [Int.reduceToNat] at ho80; rw [← qAF.out] at ho80)); (first | have n0_ := M0 (Kd.R_elder' (by (with_reducible repeat (first | apply rA | apply rN | apply rD)); exact (Kd.R_mono (R_far12 qC (Kd.R_types HO_5.out qB.out (by decide)) (.string qE) (.string qF) (.slice qY qG.length qZ) (.string qI) (.int .u32 qJ) (.int .i64 qK) (.int .u64 qL) (.int .u64 qN) (.bool qO) (.bool qP) (.bool qQ) (.bool qX)) (fun _ h_ => h_.1))) (Kd.R_base ho80) hb) | have n0_ := M0 True.intro); (first | have n1_ := M0 (Kd.R_below (by (with_reducible repeat (first | apply rA | apply rN | apply rD)); exact (Kd.R_mono (R_far12 qC (Kd.R_types qH.out qB.out (by decide)) (.string qE) (.string qF) (.slice qY qG.length qZ) (.string qI) (.int .u32 qJ) (.int .i64 qK) (.int .u64 qL) (.int .u64 qN) (.bool qO) (.bool qP) (.bool qQ) (.bool qX)) (fun _ h_ => h_.1))) hb) | have n1_ := M0 True.intro); (first | have n2_ := M0 (Kd.R_lower (Kd.R_new' ho80 (Kd.R_lt (by (with_reducible repeat (first | apply rA | apply rN | apply rD)); exact (Kd.R_mono (R_far12 qC (Kd.R_types HO_5.out qB.out (by decide)) (.string qE) (.string qF) (.slice qY qG.length qZ) (.string qI) (.int .u32 qJ) (.int .i64 qK) (.int .u64 qL) (.int .u64 qN) (.bool qO) (.bool qP) (.bool qQ) (.bool qX)) (fun _ h_ => h_.1))))) (below_size bBhy12)) | have n2_ := M0 (Kd.R_lower ho80 (below_size bBhy12)) | have n2_ := M0 True.intro); (first | have n3_ := M0 (IsS49.below (show IsS49 w ((((((((((((w75.setCell ⟨qC, 0, none⟩ (.string qE)).setCell ⟨qC, 1, none⟩ (.string qF)).setCell ⟨qC, 2, none⟩ (.slice qY qG.length qZ)).setCell ⟨qC, 3, none⟩ (.string qI)).setCell ⟨qC, 4, none⟩ (.int .u32 qJ)).setCell ⟨qC, 5, none⟩ (.int .i64 qK)).setCell ⟨qC, 6, none⟩ (.int .u64 qL)).setCell ⟨qC, 7, none⟩ (.int .u64 qN)).setCell ⟨qC, 8, none⟩ (.bool qO)).setCell ⟨qC, 9, none⟩ (.bool qP)).setCell ⟨qC, 10, none⟩ (.bool qQ)).setCell ⟨qC, 11, none⟩ (.bool qX)) g439 qp from sS0hy12) hb) | have n3_ := M0 True.intro); (first | have n4_ := M0 (blk_below (g := qC) (o := .cells #[.string qE, .string qF, .slice qY qG.length qZ, .string qI, .int .u32 qJ, .int .i64 qK, .int .u64 qL, .int .u64 qN, .bool qO, .bool qP, .bool qQ, .bool qX] 27 (0, 0)) (by (with_reducible repeat (first | refine bN ?_ _ | refine bD ?_ | refine bA ?_ _)); refine blk_put (cs := #[.string qE, .string qF, .slice qY qG.length qZ, .string qI, .int .u32 qJ, .int .i64 qK, .int .u64 qL, .int .u64 qN, .bool qO, .bool qP, .bool qQ, .bool false]) ?_ 11 _ rfl; (with_reducible repeat (first | refine bN ?_ _ | refine bD ?_ | refine bA ?_ _)); refine blk_put (cs := #[.string qE, .string qF, .slice qY qG.length qZ, .string qI, .int .u32 qJ, .int .i64 qK, .int .u64 qL, .int .u64 qN, .bool qO, .bool qP, .bool false, .bool false]) ?_ 10 _ rfl; (with_reducible repeat (first | refine bN ?_ _ | refine bD ?_ | refine bA ?_ _)); refine blk_put (cs := #[.string qE, .string qF, .slice qY qG.length qZ, .string qI, .int .u32 qJ, .int .i64 qK, .int .u64 qL, .int .u64 qN, .bool qO, .bool false, .bool false, .bool false]) ?_ 9 _ rfl; (with_reducible repeat (first | refine bN ?_ _ | refine bD ?_ | refine bA ?_ _)); refine blk_put (cs := #[.string qE, .string qF, .slice qY qG.length qZ, .string qI, .int .u32 qJ, .int .i64 qK, .int .u64 qL, .int .u64 qN, .bool false, .bool false, .bool false, .bool false]) ?_ 8 _ rfl; (with_reducible repeat (first | refine bN ?_ _ | refine bD ?_ | refine bA ?_ _)); refine blk_put (cs := #[.string qE, .string qF, .slice qY qG.length qZ, .string qI, .int .u32 qJ, .int .i64 qK, .int .u64 qL, .int .u64 0, .bool false, .bool false, .bool false, .bool false]) ?_ 7 _ rfl; (with_reducible repeat (first | refine bN ?_ _ | refine bD ?_ | refine bA ?_ _)); refine blk_put (cs := #[.string qE, .string qF, .slice qY qG.length qZ, .string qI, .int .u32 qJ, .int .i64 qK, .int .u64 0, .int .u64 0, .bool false, .bool false, .bool false, .bool false]) ?_ 6 _ rfl; (with_reducible repeat (first | refine bN ?_ _ | refine bD ?_ | refine bA ?_ _)); refine blk_put (cs := #[.string qE, .string qF, .slice qY qG.length qZ, .string qI, .int .u32 qJ, .int .i64 0, .int .u64 0, .int .u64 0, .bool false, .bool false, .bool false, .bool false]) ?_ 5 _ rfl; (with_reducible repeat (first | refine bN ?_ _ | refine bD ?_ | refine bA ?_ _)); refine blk_put (cs := #[.string qE, .string qF, .slice qY qG.length qZ, .string qI, .int .u32 0, .int .i64 0, .int .u64 0, .int .u64 0, .bool false, .bool false, .bool false, .bool false]) ?_ 4 _ rfl; (with_reducible repeat (first | refine bN ?_ _ | refine bD ?_ | refine bA ?_ _)); refine blk_put (cs := #[.string qE, .string qF, .slice qY qG.length qZ, .string (⟨#[]⟩ : ByteArray), .int .u32 0, .int .i64 0, .int .u64 0, .int .u64 0, .bool false, .bool false, .bool false, .bool false]) ?_ 3 _ rfl; (with_reducible repeat (first | refine bN ?_ _ | refine bD ?_ | refine bA ?_ _)); refine blk_put (cs := #[.string qE, .string qF, .slice none 0 0, .string (⟨#[]⟩ : ByteArray), .int .u32 0, .int .i64 0, .int .u64 0, .int .u64 0, .bool false, .bool false, .bool false, .bool false]) ?_ 2 _ rfl; (with_reducible repeat (first | refine bN ?_ _ | refine bD ?_ | refine bA ?_ _)); refine blk_put (cs := #[.string qE, .string (⟨#[]⟩ : ByteArray), .slice none 0 0, .string (⟨#[]⟩ : ByteArray), .int .u32 0, .int .i64 0, .int .u64 0, .int .u64 0, .bool false, .bool false, .bool false, .bool false]) ?_ 1 _ rfl; (with_reducible repeat (first | refine bN ?_ _ | refine bD ?_ | refine bA ?_ _)); refine blk_put (cs := #[.string (⟨#[]⟩ : ByteArray), .string (⟨#[]⟩ : ByteArray), .slice none 0 0, .string (⟨#[]⟩ : ByteArray), .int .u32 0, .int .i64 0, .int .u64 0, .int .u64 0, .bool false, .bool false, .bool false, .bool false]) ?_ 0 _ rfl; (with_reducible repeat (first | refine bN ?_ _ | refine bD ?_ | refine bA ?_ _)); exact qB.out) hb) | have n4_ := M0 True.intro); (first | have n5_ := M0 (below_step bBhy12 hb) | have n5_ := M0 True.intro); clear HO_5; clear qH; clear qA; clear qB; clear HB; have HO_5 := n0_; have qH := n1_; have qW := n2_; have qA := n3_; have qB := n4_; have HB := n5_; clear n0_ n1_ n2_ n3_ n4_ n5_; clear hb ho80; obtain ⟨qAh, qAi, qAj⟩ := Kd.R_slice qW.out; subst qAj) | ((with_reducible refine gate_callee (f := 12) rfl ?_); refine goesL_ (some 52) rfl rfl Tryd.func12 (by kernel_rfl) rfl #[.pointer (some ⟨g439, 0, none⟩), .slice qAh y459.length qAi] rfl (by (try simp only [List.map_toArray, List.map_cons, List.map_nil]); first | done | rfl | (simp only [List.length_drop, List.length_take]; rfl)) ?_; (with_reducible refine (parse_Feed.calls g439 qp _ _ y459 qo w _ ?side1 ?side2 ?side5 ?side3 ?side4 A46.out).mono ?_); (case side1 => exact sS0hy12); (case side2 => exact bBhy12); (case side3 => repeat (first | exact (Kd.R_reads' qW.out).2.2 | (with_reducible refine Kd.C_alloc ?_ _) | (with_reducible refine Kd.C_drewN ?_ _) | (with_reducible refine Kd.C_drew ?_))); (case side4 => exact (Kd.R_reads' qW.out).2.1); (case side5 => exact HLD.below bBhy12); rintro e w82 ⟨rfl, hi, hb, hk⟩; refine ⟨_, rfl, ?_⟩; (first | have n0_ := M0 (Kd.R_mono (R_keepU (IsS49.apart (show IsS49 w _ g439 qp from sS0hy12) (by (with_reducible repeat (first | apply rA | apply rN | apply rD)); exact HO_5.out) (by decide)) hk (fun _ h => h.2) (by decide)) (fun _ h => h.1)) | have n0_ := M0 True.intro); (first | have n1_ := M0 (Kd.R_mono (R_keepU (IsS49.apart (show IsS49 w _ g439 qp from sS0hy12) (by (with_reducible repeat (first | apply rA | apply rN | apply rD)); exact qH.out) (by decide)) hk (fun _ h => h.2) (by decide)) (fun _ h => h.1)) | have n1_ := M0 True.intro); (first | have n2_ := M0 (KeepRow.blk hk (g' := qC) (o := .cells #[.string qE, .string qF, .slice qY qG.length qZ, .string qI, .int .u32 qJ, .int .i64 qK, .int .u64 qL, .int .u64 qN, .bool qO, .bool qP, .bool qQ, .bool qX] 27 (0, 0)) (by (with_reducible repeat (first | refine bN ?_ _ | refine bD ?_ | refine bA ?_ _)); exact qB.out) qn.out (by simp)) | have n2_ := M0 True.intro); (first | have n3_ := M0 (Kd.R_mono (R_keepU (IsS49.apart (show IsS49 w _ g439 qp from sS0hy12) (by (with_reducible repeat (first | apply rA | apply rN | apply rD)); exact qW.out) (by decide)) hk (fun _ h => h.2) (by decide)) (fun _ h => h.1)) | have n3_ := M0 True.intro); (first | have n4_ := M0 (hb) | have n4_ := M0 True.intro); (first | have n5_ := M0 (hi) | have n5_ := M0 True.intro); clear HO_5; clear qH; clear qB; clear qW; clear HB; clear qA; have HO_5 := n0_; have qH := n1_; have qB := n2_; have qW := n3_; have HB := n4_; have qA := n5_; clear n0_ n1_ n2_ n3_ n4_ n5_; (try clear hb); (try clear hb2); (try clear hk); (try clear hi)) | ((with_reducible refine gate_callee (f := 13) rfl ?_); refine goesL_ (some 55) rfl rfl Tryd.func13 (by kernel_rfl) rfl #[.pointer (some ⟨g439, 0, none⟩)] rfl (by (try simp only [List.map_toArray, List.map_cons, List.map_nil]); first | done | rfl | (simp only [List.length_drop, List.length_take]; rfl)) ?_; (with_reducible refine (parse_Next.calls kj18 g439 qo qS qU qV qa qb qc qe qg qj qm qr qt true qs w _ ?side1 ?side2 ?side3 A47.out).mono ?_); (case side1 => exact sS0hy12); (case side2 => exact bBhy12); (case side3 => exact HLD.below bBhy12); rintro e w83 ⟨v466, rfl, ho0, hi, hb, hk⟩; refine ⟨_, rfl, ?_⟩; (first | have n0_ := M0 (Kd.R_mono (Kd.R_keep (IsS49.apart (show IsS49 w _ g439 qo from sS0hy12) (by (with_reducible repeat (first | apply rA | apply rN | apply rD)); exact HO_5.out) (by decide)) hk (fun _ h => h.2)) (fun _ h => h.1)) | have n0_ := M0 True.intro); (first | have n1_ := M0 (Kd.R_mono (Kd.R_told (Kd.R_oldK (IsS49.apart (show IsS49 w _ g439 qo from sS0hy12) (by (with_reducible repeat (first | apply rA | apply rN | apply rD)); exact qH.out) (by decide)) hk) (Kd.R_base ho0)) (fun _ h_ => h_.1)) | have n1_ := M0 True.intro); (first | have n2_ := M0 (KeepBut.blk hk (g' := qC) (o := .cells #[.string qE, .string qF, .slice qY qG.length qZ, .string qI, .int .u32 qJ, .int .i64 qK, .int .u64 qL, .int .u64 qN, .bool qO, .bool qP, .bool qQ, .bool qX] 27 (0, 0)) (by (with_reducible repeat (first | refine bN ?_ _ | refine bD ?_ | refine bA ?_ _)); exact qB.out) qn.out (by simp)) | have n2_ := M0 True.intro); (first | have n3_ := M0 (Kd.R_mono (Kd.R_keep (IsS49.apart (show IsS49 w _ g439 qo from sS0hy12) (by (with_reducible repeat (first | apply rA | apply rN | apply rD)); exact qW.out) (by decide)) hk (fun _ h => h.2)) (fun _ h => h.1)) | have n3_ := M0 True.intro); (first | have n4_ := M0 (Kd.R_lower (Kd.R_new' ho0 (Kd.R_lt (by (with_reducible repeat (first | apply rA | apply rN | apply rD)); exact qH.out))) (below_size bBhy12)) | have n4_ := M0 (Kd.R_lower ho0 (below_size bBhy12)) | have n4_ := M0 True.intro); (first | have n5_ := M0 (hb) | have n5_ := M0 True.intro); (first | have n6_ := M0 (hi) | have n6_ := M0 True.intro); clear HO_5; clear qH; clear qB; clear qW; clear HB; clear qA; have HO_5 := n0_; have qH := n1_; have qB := n2_; have qW := n3_; have qk := n4_; have HB := n5_; have qA := n6_; clear n0_ n1_ n2_ n3_ n4_ n5_ n6_; (try clear hb); (try clear hb2); (try clear hk); (try clear hi); (try clear ho0)) | ((with_reducible refine gate_dst (N := 10) rfl ?_); refine box_event ?hg (N := 10) ?hd (cs := #[.string (⟨#[]⟩ : ByteArray), .string (⟨#[]⟩ : ByteArray), .slice none 0 0, .string (⟨#[]⟩ : ByteArray), .int .u32 0, .int .i64 0, .int .u64 0, .int .u64 0, .bool false, .bool false, .bool false, .bool false]) (t := 27) ?hr ?_; (case hd => rfl); (case hg => rfl); (case hr => first | (go_simp; done) | (go_simp; rfl)); intro qM hg w84 hbox hb; (first | have n0_ := M0 (Kd.R_below (by (with_reducible repeat (first | apply rA | apply rN | apply rD)); exact HO_5.out) hb) | have n0_ := M0 True.intro); (first | have n1_ := M0 (Kd.R_below (by (with_reducible repeat (first | apply rA | apply rN | apply rD)); exact qH.out) hb) | have n1_ := M0 True.intro); (first | have n2_ := M0 (Kd.R_below (by (with_reducible repeat (first | apply rA | apply rN | apply rD)); exact qW.out) hb) | have n2_ := M0 True.intro); (first | have n3_ := M0 (Kd.R_below (by (with_reducible repeat (first | apply rA | apply rN | apply rD)); exact qk.out) hb) | have n3_ := M0 True.intro); (first | have n4_ := M0 (IsS49.below sS0hy12 hb) | have n4_ := M0 True.intro); (first | have n5_ := M0 (blk_below (g := qC) (o := .cells #[.string qE, .string qF, .slice qY qG.length qZ, .string qI, .int .u32 qJ, .int .i64 qK, .int .u64 qL, .int .u64 qN, .bool qO, .bool qP, .bool qQ, .bool qX] 27 (0, 0)) (by (with_reducible repeat (first | refine bN ?_ _ | refine bD ?_ | refine bA ?_ _)); exact qB.out) hb) | have n5_ := M0 True.intro); (first | have n6_ := M0 (below_step bBhy12 hb) | have n6_ := M0 True.intro); (first | have n7_ := M0 (hbox) | have n7_ := M0 True.intro); (first | have n8_ := M0 ((by rw [hg]; exact (below_size bBhy12) : w.heap.size ≤ qM)) | have n8_ := M0 True.intro); (first | have n9_ := M0 ((by rw [hg]; exact (below_size bBhy12) : w.heap.size ≤ qM)) | have n9_ := M0 True.intro); (first | have n10_ := M0 ((by rw [hg]; exact Nat.ne_of_lt (blk_lt (g := qC) (o := .cells #[.string qE, .string qF, .slice qY qG.length qZ, .string qI, .int .u32 qJ, .int .i64 qK, .int .u64 qL, .int .u64 qN, .bool qO, .bool qP, .bool qQ, .bool qX] 27 (0, 0)) (by (with_reducible repeat (first | refine bN ?_ _ | refine bD ?_ | refine bA ?_ _)); exact qB.out)) : qC ≠ qM)) | have n10_ := M0 True.intro); (first | have n11_ := M0 ((by rw [hg]; exact Nat.ne_of_gt (blk_lt (g := qC) (o := .cells #[.string qE, .string qF, .slice qY qG.length qZ, .string qI, .int .u32 qJ, .int .i64 qK, .int .u64 qL, .int .u64 qN, .bool qO, .bool qP, .bool qQ, .bool qX] 27 (0, 0)) (by (with_reducible repeat (first | refine bN ?_ _ | refine bD ?_ | refine bA ?_ _)); exact qB.out)) : qM ≠ qC)) | have n11_ := M0 True.intro); (first | have n12_ := M0 ((by rw [hg]; exact Nat.ne_of_lt (IsS49.lt (show IsS49 w _ g439 qs from sS0hy12)) : g439 ≠ qM)) | have n12_ := M0 True.intro); (first | have n13_ := M0 ((by rw [hg]; exact Nat.ne_of_gt (IsS49.lt (show IsS49 w _ g439 qs from sS0hy12)) : qM ≠ g439)) | have n13_ := M0 True.intro); clear HO_5; clear qH; clear qW; clear qk; clear qA; clear qB; clear HB; have HO_5 := n0_; have qH := n1_; have qW := n2_; have qk := n3_; have qA := n4_; have qB := n5_; have HB := n6_; have qT := n7_; have GW479 := n8_; have qAA := n9_; have qy := n10_; have qAC := n11_; have qh := n12_; have qz := n13_; clear n0_ n1_ n2_ n3_ n4_ n5_ n6_ n7_ n8_ n9_ n10_ n11_ n12_ n13_; clear hb hbox hg; have qCB := qAC.out; have qCC := qy.out; have qCD := qz.out; have qCE := qh.out; obtain ⟨qBd, qBe, qBf, qBg, qBh, qBi, qBj, qBk, qBl, qBm, qAk, qAl⟩ := celL qT.out; obtain ⟨qBn, qBo, qBp, qBq, qBr, qBs, qBt, qBu, qBv, qBw, qAm, qAn⟩ := froZ qT.out; obtain ⟨qi, qf, qAo⟩ := Kd.R_slice qk.out; subst qAo) | (go_at_call 8; (with_reducible refine (cellaretref17_Is.calls qS qU _ _ qV qa qb qc qe qg qj qm qr qt (⟨#[98, 97, 100]⟩ : ByteArray) (⟨#[69, 82, 82, 79, 82]⟩ : ByteArray) true _ ?side1 ?side2 A68.out).mono ?_); (case side1 => refine (Kd.R_reads' (e := 9) (base := w.heap.size) (ok := fun k_ => (True ∧ some k_ ≠ (.slice qY qG.length qZ : Value).ownBlock)) (n := qV.length) (c := qf) ?_).2.2; exact (by (with_reducible repeat (first | apply rA | apply rN | apply rD)); exact (Kd.R_mono (R_far12 qM (Kd.R_types qk.out qT.out (by decide)) (.string qS) (.string qU) (.slice qi qV.length qf) (.string qa) (.int .u32 qb) (.int .i64 qc) (.int .u64 qe) (.int .u64 qg) (.bool qj) (.bool qm) (.bool qr) (.bool qt)) (fun _ h_ => h_.1)))); (case side2 => exact (Kd.R_reads' qk.out).2.1); rintro e w89 ⟨rfl, hb⟩; (first | have n0_ := M0 (Kd.R_below (by (with_reducible repeat (first | apply rA | apply rN | apply rD)); exact (Kd.R_mono (R_far12 qM (Kd.R_types HO_5.out qT.out (by decide)) (.string qS) (.string qU) (.slice qi qV.length qf) (.string qa) (.int .u32 qb) (.int .i64 qc) (.int .u64 qe) (.int .u64 qg) (.bool qj) (.bool qm) (.bool qr) (.bool qt)) (fun _ h_ => h_.1))) hb) | have n0_ := M0 True.intro); (first | have n1_ := M0 (Kd.R_below (by (with_reducible repeat (first | apply rA | apply rN | apply rD)); exact (Kd.R_mono (R_far12 qM (Kd.R_types qH.out qT.out (by decide)) (.string qS) (.string qU) (.slice qi qV.length qf) (.string qa) (.int .u32 qb) (.int .i64 qc) (.int .u64 qe) (.int .u64 qg) (.bool qj) (.bool qm) (.bool qr) (.bool qt)) (fun _ h_ => h_.1))) hb) | have n1_ := M0 True.intro); (first | have n2_ := M0 (Kd.R_below (by (with_reducible repeat (first | apply rA | apply rN | apply rD)); exact (Kd.R_mono (R_far12 qM (Kd.R_types qW.out qT.out (by decide)) (.string qS) (.string qU) (.slice qi qV.length qf) (.string qa) (.int .u32 qb) (.int .i64 qc) (.int .u64 qe) (.int .u64 qg) (.bool qj) (.bool qm) (.bool qr) (.bool qt)) (fun _ h_ => h_.1))) hb) | have n2_ := M0 True.intro); (first | have n3_ := M0 (Kd.R_below (by (with_reducible repeat (first | apply rA | apply rN | apply rD)); exact (Kd.R_mono (R_far12 qM (Kd.R_types qk.out qT.out (by decide)) (.string qS) (.string qU) (.slice qi qV.length qf) (.string qa) (.int .u32 qb) (.int .i64 qc) (.int .u64 qe) (.int .u64 qg) (.bool qj) (.bool qm) (.bool qr) (.bool qt)) (fun _ h_ => h_.1))) hb) | have n3_ := M0 True.intro); (first | have n4_ := M0 (IsS49.below (show IsS49 w ((((((((((((w84.setCell ⟨qM, 0, none⟩ (.string qS)).setCell ⟨qM, 1, none⟩ (.string qU)).setCell ⟨qM, 2, none⟩ (.slice qi qV.length qf)).setCell ⟨qM, 3, none⟩ (.string qa)).setCell ⟨qM, 4, none⟩ (.int .u32 qb)).setCell ⟨qM, 5, none⟩ (.int .i64 qc)).setCell ⟨qM, 6, none⟩ (.int .u64 qe)).setCell ⟨qM, 7, none⟩ (.int .u64 qg)).setCell ⟨qM, 8, none⟩ (.bool qj)).setCell ⟨qM, 9, none⟩ (.bool qm)).setCell ⟨qM, 10, none⟩ (.bool qr)).setCell ⟨qM, 11, none⟩ (.bool qt)) g439 qs from sS0hy12) hb) | have n4_ := M0 True.intro); (first | have n5_ := M0 (blk_below (g := qC) (o := .cells #[.string qE, .string qF, .slice qY qG.length qZ, .string qI, .int .u32 qJ, .int .i64 qK, .int .u64 qL, .int .u64 qN, .bool qO, .bool qP, .bool qQ, .bool qX] 27 (0, 0)) (by (with_reducible repeat (first | refine bN ?_ _ | refine bD ?_ | refine bA ?_ _)); refine bF ?_ qy.out; (with_reducible repeat (first | refine bN ?_ _ | refine bD ?_ | refine bA ?_ _)); exact qB.out) hb) | have n5_ := M0 True.intro); (first | have n6_ := M0 (blk_below (g := qM) (o := .cells #[.string qS, .string qU, .slice qi qV.length qf, .string qa, .int .u32 qb, .int .i64 qc, .int .u64 qe, .int .u64 qg, .bool qj, .bool qm, .bool qr, .bool qt] 27 (0, 0)) (by (with_reducible repeat (first | refine bN ?_ _ | refine bD ?_ | refine bA ?_ _)); refine blk_put (cs := #[.string qS, .string qU, .slice qi qV.length qf, .string qa, .int .u32 qb, .int .i64 qc, .int .u64 qe, .int .u64 qg, .bool qj, .bool qm, .bool qr, .bool false]) ?_ 11 _ rfl; (with_reducible repeat (first | refine bN ?_ _ | refine bD ?_ | refine bA ?_ _)); refine blk_put (cs := #[.string qS, .string qU, .slice qi qV.length qf, .string qa, .int .u32 qb, .int .i64 qc, .int .u64 qe, .int .u64 qg, .bool qj, .bool qm, .bool false, .bool false]) ?_ 10 _ rfl; (with_reducible repeat (first | refine bN ?_ _ | refine bD ?_ | refine bA ?_ _)); refine blk_put (cs := #[.string qS, .string qU, .slice qi qV.length qf, .string qa, .int .u32 qb, .int .i64 qc, .int .u64 qe, .int .u64 qg, .bool qj, .bool false, .bool false, .bool false]) ?_ 9 _ rfl; (with_reducible repeat (first | refine bN ?_ _ | refine bD ?_ | refine bA ?_ _)); refine blk_put (cs := #[.string qS, .string qU, .slice qi qV.length qf, .string qa, .int .u32 qb, .int .i64 qc, .int .u64 qe, .int .u64 qg, .bool false, .bool false, .bool false, .bool false]) ?_ 8 _ rfl; (with_reducible repeat (first | refine bN ?_ _ | refine bD ?_ | refine bA ?_ _)); refine blk_put (cs := #[.string qS, .string qU, .slice qi qV.length qf, .string qa, .int .u32 qb, .int .i64 qc, .int .u64 qe, .int .u64 0, .bool false, .bool false, .bool false, .bool false]) ?_ 7 _ rfl; (with_reducible repeat (first | refine bN ?_ _ | refine bD ?_ | refine bA ?_ _)); refine blk_put (cs := #[.string qS, .string qU, .slice qi qV.length qf, .string qa, .int .u32 qb, .int .i64 qc, .int .u64 0, .int .u64 0, .bool false, .bool false, .bool false, .bool false]) ?_ 6 _ rfl; (with_reducible repeat (first | refine bN ?_ _ | refine bD ?_ | refine bA ?_ _)); refine blk_put (cs := #[.string qS, .string qU, .slice qi qV.length qf, .string qa, .int .u32 qb, .int .i64 0, .int .u64 0, .int .u64 0, .bool false, .bool false, .bool false, .bool false]) ?_ 5 _ rfl; (with_reducible repeat (first | refine bN ?_ _ | refine bD ?_ | refine bA ?_ _)); refine blk_put (cs := #[.string qS, .string qU, .slice qi qV.length qf, .string qa, .int .u32 0, .int .i64 0, .int .u64 0, .int .u64 0, .bool false, .bool false, .bool false, .bool false]) ?_ 4 _ rfl; (with_reducible repeat (first | refine bN ?_ _ | refine bD ?_ | refine bA ?_ _)); refine blk_put (cs := #[.string qS, .string qU, .slice qi qV.length qf, .string (⟨#[]⟩ : ByteArray), .int .u32 0, .int .i64 0, .int .u64 0, .int .u64 0, .bool false, .bool false, .bool false, .bool false]) ?_ 3 _ rfl; (with_reducible repeat (first | refine bN ?_ _ | refine bD ?_ | refine bA ?_ _)); refine blk_put (cs := #[.string qS, .string qU, .slice none 0 0, .string (⟨#[]⟩ : ByteArray), .int .u32 0, .int .i64 0, .int .u64 0, .int .u64 0, .bool false, .bool false, .bool false, .bool false]) ?_ 2 _ rfl; (with_reducible repeat (first | refine bN ?_ _ | refine bD ?_ | refine bA ?_ _)); refine blk_put (cs := #[.string qS, .string (⟨#[]⟩ : ByteArray), .slice none 0 0, .string (⟨#[]⟩ : ByteArray), .int .u32 0, .int .i64 0, .int .u64 0, .int .u64 0, .bool false, .bool false, .bool false, .bool false]) ?_ 1 _ rfl; (with_reducible repeat (first | refine bN ?_ _ | refine bD ?_ | refine bA ?_ _)); refine blk_put (cs := #[.string (⟨#[]⟩ : ByteArray), .string (⟨#[]⟩ : ByteArray), .slice none 0 0, .string (⟨#[]⟩ : ByteArray), .int .u32 0, .int .i64 0, .int .u64 0, .int .u64 0, .bool false, .bool false, .bool false, .bool false]) ?_ 0 _ rfl; (with_reducible repeat (first | refine bN ?_ _ | refine bD ?_ | refine bA ?_ _)); exact qT.out) hb) | have n6_ := M0 True.intro); (first | have n7_ := M0 (below_step bBhy12 hb) | have n7_ := M0 True.intro); clear HO_5; clear qH; clear qW; clear qk; clear qA; clear qB; clear qT; clear HB; have HO_5 := n0_; have qH := n1_; have qW := n2_; have qk := n3_; have qA := n4_; have qB := n5_; have qT := n6_; have HB := n7_; clear n0_ n1_ n2_ n3_ n4_ n5_ n6_ n7_; (try clear hb); (try clear hb2); (try clear hk); (try clear hi)) | (go_at_call 14; (with_reducible refine (parse_Waits.calls g439 qs qAJ qAY w _ ?side1 ?side2 ?side3 A70.out).mono ?_); (case side1 => exact sS0hy12); (case side2 => exact bBhy12); (case side3 => exact HLD.below bBhy12); rintro e w90 ⟨rfl, hi, hb, hk⟩; (first | have n0_ := M0 (Kd.R_mono (Kd.R_keep (IsS49.apart (show IsS49 w _ g439 qs from sS0hy12) (by (with_reducible repeat (first | apply rA | apply rN | apply rD)); exact HO_5.out) (by decide)) hk (fun _ h => h.2)) (fun _ h => h.1)) | have n0_ := M0 True.intro); (first | have n1_ := M0 (Kd.R_mono (Kd.R_keep (IsS49.apart (show IsS49 w _ g439 qs from sS0hy12) (by (with_reducible repeat (first | apply rA | apply rN | apply rD)); exact qH.out) (by decide)) hk (fun _ h => h.2)) (fun _ h => h.1)) | have n1_ := M0 True.intro); (first | have n2_ := M0 (KeepBut.blk hk (g' := qC) (o := .cells #[.string qE, .string qF, .slice qY qG.length qZ, .string qI, .int .u32 qJ, .int .i64 qK, .int .u64 qL, .int .u64 qN, .bool qO, .bool qP, .bool qQ, .bool qX] 27 (0, 0)) (by (with_reducible repeat (first | refine bN ?_ _ | refine bD ?_ | refine bA ?_ _)); exact qB.out) qn.out (by simp)) | have n2_ := M0 True.intro); (first | have n3_ := M0 (Kd.R_mono (Kd.R_keep (IsS49.apart (show IsS49 w _ g439 qs from sS0hy12) (by (with_reducible repeat (first | apply rA | apply rN | apply rD)); exact qW.out) (by decide)) hk (fun _ h => h.2)) (fun _ h => h.1)) | have n3_ := M0 True.intro); (first | have n4_ := M0 (Kd.R_mono (Kd.R_keep (IsS49.apart (show IsS49 w _ g439 qs from sS0hy12) (by (with_reducible repeat (first | apply rA | apply rN | apply rD)); exact qk.out) (by decide)) hk (fun _ h => h.2)) (fun _ h => h.1)) | have n4_ := M0 True.intro); (first | have n5_ := M0 (KeepBut.blk hk (g' := qM) (o := .cells #[.string qS, .string qU, .slice qi qV.length qf, .string qa, .int .u32 qb, .int .i64 qc, .int .u64 qe, .int .u64 qg, .bool qj, .bool qm, .bool qr, .bool qt] 27 (0, 0)) (by (with_reducible repeat (first | refine bN ?_ _ | refine bD ?_ | refine bA ?_ _)); exact qT.out) qz.out (by simp)) | have n5_ := M0 True.intro); (first | have n6_ := M0 (hb) | have n6_ := M0 True.intro); (first | have n7_ := M0 (hi) | have n7_ := M0 True.intro); clear HO_5; clear qH; clear qB; clear qW; clear qk; clear qT; clear HB; clear qA; have HO_5 := n0_; have qH := n1_; have qB := n2_; have qW := n3_; have qk := n4_; have qT := n5_; have HB := n6_; have qA := n7_; clear n0_ n1_ n2_ n3_ n4_ n5_ n6_ n7_; (try clear hb); (try clear hb2); (try clear hk); (try clear hi)))
                go_ret
                exact ⟨by first | rfl | (simp [errW_none, errW_some] <;> rfl) | (simp [*, errW_none, errW_some] <;> rfl), bBhy12⟩
               ·replace c69 := Bool.eq_false_iff.mpr c69
                subst c69
                have H1 : (some false) = some r := by rw [if_neg (show ¬ (false = true) by decide)] at H; exact H
                exact absurd ((Option.some.inj H1).trans hr_) (by decide)
              ·replace c67 := Bool.eq_false_iff.mpr c67
               subst c67
               have H1 : (some false) = some r := by rw [if_neg (show ¬ (false = true) by decide)] at H; exact H
               exact absurd ((Option.some.inj H1).trans hr_) (by decide)
      ·rw [if_neg c10] at H
       exact absurd H (by simp)
     ·rw [if_neg c9] at H
      exact absurd H (by simp)
 ·replace c4 := Bool.eq_false_iff.mpr c4
  subst c4
  have H1 : (some false) = some r := by rw [if_neg (show ¬ (false = true) by decide)] at H; exact H
  exact absurd ((Option.some.inj H1).trans hr_) (by decide)
/-- THE ONE PURE STATEMENT of cellaretlaw18_ParseEdge: yours. -/
def cellaretlaw18_ParseEdge.Pure : Prop := ∀ (a0 : Int) (a1 : Bool), (Lit.int .i64 a0).wf = true → ∃ k, cellaretlaw18_ParseEdge.f k a0 a1 = some true
theorem cellaretlaw18_ParseEdge.walk (P : cellaretlaw18_ParseEdge.Pure) (a0 : Int) (a1 : Bool) (w : World) (HLD : LaidA w) (w0 : (Lit.int .i64 a0).wf = true) :
    Calls Tryd.prog 5 #[.int .i64 a0, .bool a1] w fun e w' => e = .returned (.bool true) ∧ Below w.heap.size w w' := by
  obtain ⟨k, h⟩ := P a0 a1 w0
  refine (cellaretlaw18_ParseEdge.calls k a0 a1 true rfl w HLD h).mono ?_
  rintro e w' ⟨rfl, hd⟩
  exact ⟨rfl, hd⟩

end Go.Proofs.YtfbhlbchmenloaaDoor.H
-- thinned
end
section
namespace Go.Proofs.YtfbhlbchmenloaaDoor.Pure
open Go Go.RowKit Go.Proofs.YtfbhlbchmenloaaDoorW.PrintWords Go.Proofs.YtfbhlbchmenloaaDoor.H Go.Proofs.YtfbhlbchmenloaaDoor.L
set_option linter.unusedSimpArgs false
set_option linter.unusedVariables false
theorem suffix_last (l : List Int) (x : Int) : Lib.hasSuffix (Lib.bytesOf (l ++ [x])) [13] = decide (UInt8.ofNat x.toNat = 13) := by
  unfold Lib.hasSuffix Lib.bytesOf
  rw [List.map_append, List.map_cons, List.map_nil]
  unfold List.isSuffixOf
  rw [List.reverse_append, List.reverse_cons, List.reverse_nil, List.nil_append, List.reverse_cons, List.reverse_nil, List.nil_append, List.singleton_append]
  unfold List.isPrefixOf
  rw [List.isPrefixOf]
  rw [Bool.eq_iff_iff]
  simp only [Bool.and_true, beq_iff_eq, decide_eq_true_iff]
  exact ⟨Eq.symm, Eq.symm⟩
theorem trim_cr (l : List Int) : trimL (l ++ [13]) = l := by
  unfold trimL
  rw [suffix_last, if_pos (by decide)]
  simp
theorem trim_not (l : List Int) (x : Int) (h : UInt8.ofNat x.toNat ≠ 13) : trimL (l ++ [x]) = l ++ [x] := by
  unfold trimL
  rw [suffix_last, if_neg (by simpa using h)]
def xs120 (n : Nat) : List Int := List.replicate n 120
def crL (cr : Bool) : List Int := if cr = true then [13] else []
theorem trim_xs (n : Nat) (h : 0 < n) (cr : Bool) : trimL (xs120 n ++ crL cr) = xs120 n := by
  cases cr with
  | true => exact trim_cr _
  | false =>
    unfold crL xs120
    obtain ⟨m, rfl⟩ : ∃ m, n = m + 1 := ⟨n - 1, by omega⟩
    simp only [Bool.false_eq_true, if_false, List.append_nil, List.replicate_succ']
    exact trim_not _ _ (by decide)
theorem idx_none (l : List Int) (h : ∀ x ∈ l, UInt8.ofNat x.toNat ≠ 10) : idx10 l = -1 := by
  unfold idx10 Lib.bytesOf
  induction l with
  | nil => rfl
  | cons a r ih =>
    rw [List.map_cons]
    unfold Lib.indexByte
    rw [if_neg (by simpa using h a (List.mem_cons_self ..)), ih (fun x hx => h x (List.mem_cons_of_mem _ hx))]
    rfl
theorem idx_xs (n : Nat) (cr : Bool) : idx10 (xs120 n ++ crL cr) = -1 := by
  refine idx_none _ (fun x hx => ?_)
  rcases List.mem_append.1 hx with h | h
  · rw [List.eq_of_mem_replicate h]; decide
  · cases cr with
    | true => simp [crL] at h; rw [h]; decide
    | false => simp [crL] at h
def stE (n : Nat) (cr : Bool) : PS := ⟨xs120 n ++ crL cr, false, .nil, 0⟩
theorem next_long (n : Nat) (cr : Bool) (h : 2048 < n) : nextR (stE n cr) = (.pl (.bad textLong), true, { stE n cr with b := [], skip := true }) := by
  unfold nextR
  rw [nrm_off (by rfl)]
  unfold nextN
  have h1 : idx10 (stE n cr).b < 0 := by show idx10 (xs120 n ++ crL cr) < 0; rw [idx_xs]; decide
  have h2 : 2048 < (trimL (stE n cr).b).length := by show 2048 < (trimL (xs120 n ++ crL cr)).length; rw [trim_xs n (by omega)]; unfold xs120; rw [List.length_replicate]; exact h
  rw [if_neg (by show ¬ false = true; decide), if_pos (by rfl), if_pos h1, if_pos h2]
theorem next_wait (n : Nat) (cr : Bool) (h0 : 0 < n) (h : n ≤ 2048) : nextR (stE n cr) = (.pl .nil, false, stE n cr) := by
  unfold nextR
  rw [nrm_off (by rfl)]
  unfold nextN
  have h1 : idx10 (stE n cr).b < 0 := by show idx10 (xs120 n ++ crL cr) < 0; rw [idx_xs]; decide
  have h2 : ¬ 2048 < (trimL (stE n cr).b).length := by show ¬ 2048 < (trimL (xs120 n ++ crL cr)).length; rw [trim_xs n h0]; unfold xs120; rw [List.length_replicate]; omega
  rw [if_neg (by show ¬ false = true; decide), if_pos (by rfl), if_pos h1, if_neg h2]
theorem plain_long (w : ByteArray) (h : 9 < w.size) : lineX [w] = (badX, -1) := by
  have hne : ∀ v : ByteArray, v.size ≤ 9 → ¬ w = v := fun v hv e => by rw [e] at h; omega
  unfold lineX
  simp only
  rw [if_neg (hne _ (by decide)), if_neg (hne _ (by decide)), if_neg (hne _ (by decide)), if_neg (hne _ (by decide))]
  have hp : plainR [w] = (.bad errT, -1) := by
    have e0 : at_ [w] 0 = w := rfl
    have s1 : ¬ isStoreW w := fun z => z.elim (hne _ (by decide)) fun z => z.elim (hne _ (by decide)) fun z => z.elim (hne _ (by decide)) fun z => z.elim (hne _ (by decide)) fun z => z.elim (hne _ (by decide)) (hne _ (by decide))
    have s2 : ¬ isKeyedW w := fun z => z.elim (hne _ (by decide)) fun z => z.elim (hne _ (by decide)) (hne _ (by decide))
    have s3 : ¬ (w = versionW ∨ w = quitW) := fun z => z.elim (hne _ (by decide)) (hne _ (by decide))
    unfold plainR
    rw [e0, if_neg s1, if_neg s2, if_neg (hne _ (by decide)), if_neg (hne _ (by decide)), if_neg s3]
  rw [hp]
  rfl
theorem next_read (n : Nat) (cr : Bool) (h0 : 9 < n) (h : n ≤ 2048) : nextR (psFeed (stE n cr) [10]) = (badX, true, { stE n cr with b := [] }) := by
  unfold nextR
  rw [nrm_off (by rfl)]
  have hb : (psFeed (stE n cr) [10]).b = (xs120 n ++ crL cr) ++ [10] := rfl
  have hi : idx10 (psFeed (stE n cr) [10]).b = (((xs120 n ++ crL cr).length : Nat) : Int) := by
    rw [hb, idx_app, idx_xs, if_pos (by decide), if_neg (by decide), show idx10 [10] = 0 from rfl]
    omega
  have hl : lineL (psFeed (stE n cr) [10]) = xs120 n := by
    unfold lineL
    rw [hi, hb, Int.toNat_natCast, List.take_left, trim_xs n (by omega)]
  have hu : psUse (psFeed (stE n cr) [10]) ((idx10 (psFeed (stE n cr) [10]).b).toNat + 1) = { stE n cr with b := [] } := by
    unfold psUse
    rw [hi, hb, Int.toNat_natCast, List.drop_of_length_le (by simp [List.length_append] <;> omega)]
    rfl
  have ht : lineT (psFeed (stE n cr) [10]) = (badX, -1) := by
    unfold lineT
    rw [hl]
    have hs : (strOfNums (xs120 n)).data.toList = List.replicate n 120 := by
      unfold strOfNums xs120
      simp [List.map_replicate]
    rw [hs, wl_word _ _ (fun c hc => by rw [List.eq_of_mem_replicate hc]; decide), if_neg (by simp; omega)]
    simp only [List.nil_append, List.map_cons, List.map_nil]
    exact plain_long _ (by show 9 < (List.replicate n (120 : UInt8)).toArray.size; simp; exact h0)
  unfold nextN
  rw [if_neg (by show ¬ false = true; decide), if_pos (by rfl), if_neg (by rw [hi]; omega), if_neg (by rw [hl]; unfold xs120; rw [List.length_replicate]; omega), ht, hu]
  rfl
theorem is_bad (t : ByteArray) : cellaretref17_Is.f (toX (.pl (.bad t))).what (toX (.pl (.bad t))).verb (toX (.pl (.bad t))).keys (toX (.pl (.bad t))).data (toX (.pl (.bad t))).flags (toX (.pl (.bad t))).exp (toX (.pl (.bad t))).cas (toX (.pl (.bad t))).by_ (toX (.pl (.bad t))).withCas (toX (.pl (.bad t))).withTouch (toX (.pl (.bad t))).down (toX (.pl (.bad t))).quiet (⟨#[98, 97, 100]⟩ : ByteArray) t = some true := by
  unfold cellaretref17_Is.f
  rw [if_pos (by rfl), if_pos (by rfl)]
  rfl
theorem edge_end (n : Nat) (cr : Bool) (h0 : 2000 ≤ n) (h1 : n ≤ 2100) : Ev (fun k => cellaretlaw18_ParseEdge.j2 k (n : Int) (xs120 n ++ crL cr)) true := by
  refine Ev.step (fun k => cellaretlaw18_ParseEdge.j2.eq_2 _ _ _) ?_
  have hlen : (xs120 n ++ crL cr).length ≤ n + 1 := by
    unfold xs120 crL
    rw [List.length_append, List.length_replicate]
    split <;> simp
  have hfd : parse_Feed.f psNew (xs120 n ++ crL cr) = some (stE n cr) := by unfold parse_Feed.f; rw [if_pos (by show 0 + _ ≤ _; omega)]; rfl
  have hI : Inv (stE n cr) := fun h => by cases h
  simp only [parse_New.f, hfd, Option.bind_some]
  refine Ev.bind (evNext (stE n cr) hI) ?_
  by_cases hn : 2048 < n
  · rw [next_long n cr hn]
    simp only [outP, if_pos (show (n : Int) > 2048 by omega), if_true]
    refine Ev.bind (a := true) ?_ (Ev.now _)
    rw [show (⟨#[67, 76, 73, 69, 78, 84, 95, 69, 82, 82, 79, 82, 32, 108, 105, 110, 101, 32, 116, 111, 111, 32, 108, 111, 110, 103]⟩ : ByteArray) = textLong from rfl, is_bad]
    exact Ev.now _
  · have hf2 : parse_Feed.f (stE n cr) [10] = some (psFeed (stE n cr) [10]) := by unfold parse_Feed.f; rw [if_pos (by show (xs120 n ++ crL cr).length + 1 ≤ _; omega)]
    rw [next_wait n cr (by omega) (by omega)]
    simp only [outP, if_neg (show ¬ (n : Int) > 2048 by omega), hf2, Option.bind_some]
    refine Ev.bind (evNext (psFeed (stE n cr) [10]) (hI.feed _)) ?_
    rw [next_read n cr (by omega) (by omega)]
    simp only [outP, Bool.false_eq_true, if_false, if_true]
    refine Ev.bind (a := true) ?_ ?_
    · have := is_bad errT
      unfold badX
      rw [show (⟨#[69, 82, 82, 79, 82]⟩ : ByteArray) = errT from rfl, this]
      exact Ev.now _
    · simp only [if_true, parse_Waits.f, Option.bind_some]
      exact Ev.now _
theorem set_at (a b c : Int) : ∀ (i m : Nat), (List.replicate i a ++ List.replicate (m + 1) b).set i c = List.replicate i a ++ c :: List.replicate m b
  | 0, m => by simp [List.replicate_succ]
  | i + 1, m => by
    rw [List.replicate_succ, List.cons_append, List.set_cons_succ, set_at a b c i m]
    rfl
theorem edge_loop (n : Nat) (cr : Bool) (h0 : 2000 ≤ n) (h1 : n ≤ 2100) : ∀ (d i : Nat), i + d = n → Ev (fun k => cellaretlaw18_ParseEdge.l0 k (n : Int) cr (List.replicate i 120 ++ List.replicate d 0) (i : Int)) true
  | 0, i, hi => by
    obtain rfl : i = n := by omega
    refine Ev.step (fun k => cellaretlaw18_ParseEdge.l0.eq_2 _ _ _ _ _) ?_
    have h := edge_end i cr h0 h1
    simp only [if_neg (show ¬ (i : Int) < (i : Int) by omega), List.replicate_zero, List.append_nil, List.length_replicate, if_pos (show i < 140737488355328 by omega)]
    cases cr with
    | true => simp only [if_true]; exact h
    | false =>
      simp only [Bool.false_eq_true, if_false]
      unfold crL xs120 at h
      simp only [Bool.false_eq_true, if_false, List.append_nil] at h
      exact h
  | d + 1, i, hi => by
    refine Ev.step (fun k => cellaretlaw18_ParseEdge.l0.eq_2 _ _ _ _ _) ?_
    have hw : wrap64 ((i : Int) + 1) = ((i + 1 : Nat) : Int) := by unfold wrap64; omega
    simp only [if_pos (show (i : Int) < (n : Int) by omega), if_pos (show (0 : Int) ≤ (i : Int) by omega), List.length_append, List.length_replicate, if_pos (show (i : Int) < ((i + (d + 1) : Nat) : Int) by omega), Int.toNat_natCast, set_at, hw]
    have h := edge_loop n cr h0 h1 d (i + 1) (by omega)
    rw [List.replicate_succ', List.append_assoc, List.singleton_append] at h
    exact h
theorem ParseEdge : cellaretlaw18_ParseEdge.Pure := by
  intro n cr hw
  refine Ev.rounds (r := true) ?_
  unfold cellaretlaw18_ParseEdge.f
  refine Ev.bind awakeEv ?_
  simp only [if_true]
  by_cases h : n < 2000
  · simp only [if_pos h]
    refine Ev.step (fun k => cellaretlaw18_ParseEdge.j0.eq_2 _ _ _ _) ?_
    simp only [if_true]
    exact Ev.now _
  · simp only [if_neg h]
    refine Ev.step (fun k => cellaretlaw18_ParseEdge.j0.eq_2 _ _ _ _) ?_
    by_cases h2 : n > 2100
    · simp only [decide_eq_true h2, if_true]
      exact Ev.now _
    · obtain ⟨m, rfl⟩ := Int.eq_ofNat_of_zero_le (show 0 ≤ n by omega)
      simp only [decide_eq_false h2, Bool.false_eq_true, if_false, Int.toNat_natCast, if_pos (show (0 : Int) ≤ (m : Int) by omega), if_pos (show m ≤ 281474976710656 by omega)]
      exact edge_loop m cr (by omega) (by omega) m 0 (by omega)
end Go.Proofs.YtfbhlbchmenloaaDoor.Pure
end
section
namespace Go.Proofs.YtfbhlbchmenloaaDoor.parseEdge
open Go.ChangeShapes Go.WideShapes Go.ChangeAt Go.RowKit Go.Proofs.YtfbhlbchmenloaaDoor.R Go.Proofs.YtfbhlbchmenloaaDoor.H
open Go.ChangeMaps (open_string shut_string)
set_option linter.unusedVariables false
set_option linter.unusedSimpArgs false
set_option maxRecDepth 100000 in
theorem contract (H : Type) (enc : TypeId × Value → H) (W : World) (base : Nat) (args : Array Value) (ds gs : List (DataW H)) (before : List MemPlace)
    (hval0 : ∀ (j : Nat) t v, Tryd.f5.params[j]? = some t → args[j]? = some v → Value.okWide Tryd.prog W .any base t v)
    (hW : DataW.Whole enc Tryd.prog Tryd.f5.params.toList Rows.parseEdgeSpec.vars false W args.toList ds gs before)
    (hsz0 : (DataW.weightsEach Tryd.prog (Tryd.f5.params.toList ++ Rows.parseEdgeSpec.plain.varTypes Tryd.prog) (ds ++ gs)).all (· ≤ reachBytes) = true)
    (HLD : LaidA W) :
    Calls Tryd.prog 5 args W fun e W' => ∃ v, e = .returned v ∧ Rows.parseEdgeSpec.post enc Tryd.prog Tryd.f5 false true false false W args v W' := by
  have hsz := hsz0
  have hval := hval0
  have hW' := hW
  obtain ⟨p, q, hA0, hV, rfl, hfz, hnd⟩ := hW
  have hA : DataW.TrodAll enc Tryd.prog W 0 (fun _ => true) true Tryd.f5.params.toList args.toList ds p := hA0
  rw [Tryd.params5] at hA hval hsz
  obtain ⟨v0, vs0, d0, ds0, p0, q0, hargs, rfl, rfl, h0, r0⟩ := trodAll_cons hA
  obtain ⟨v1, vs1, d1, ds1, p1, q1, rfl, rfl, rfl, h1, r1⟩ := trodAll_cons r0
  obtain ⟨rfl, rfl, rfl⟩ := trodAll_nil r1
  obtain rfl : args = #[v0, v1] := by cases args; simp_all
  obtain ⟨rfl, rfl⟩ := trodVars_none hV
  obtain ⟨a0, rfl, rfl, rfl, w0⟩ := open_int Tryd.underlying3 (hval 0 3 v0 rfl rfl) h0
  obtain ⟨a1, rfl, rfl, rfl⟩ := open_bool Tryd.underlying4 (hval 1 4 v1 rfl rfl) h1
  clear hA0 hval0 hsz0 hsz
  refine (Go.Proofs.YtfbhlbchmenloaaDoor.H.cellaretlaw18_ParseEdge.walk Go.Proofs.YtfbhlbchmenloaaDoor.Pure.ParseEdge a0 a1 W HLD w0).mono fun e W' ⟨he, bel⟩ => ?_
  subst he
  exact ⟨_, rfl, _, _, _, [], _, [], hW', trodAll_mk1 (shut_bool Tryd.underlying4 _), (trodAll_cons_mk (shut_int Tryd.underlying3 w0) (trodAll_cons_mk (shut_bool Tryd.underlying4 _) trodAll_mk0)), rfl, bel.frame _, fun h => by cases h⟩
theorem reads (os : Os) {H : Type} (enc : TypeId × Value → H) : ∃ places, DataW.whole enc Tryd.prog ((laidWorld os).forCall (fun _ _ => 0) ⟨#[], #[.int .i64 0, .bool false], []⟩).memory Tryd.f5.params.toList Rows.parseEdgeSpec.vars false #[Value.int .i64 0, Value.bool false].toList 8 = some ([.lit (.int .i64 0), .lit (.bool false)], [], places) :=
  ⟨[], by kernel_rfl⟩
set_option maxRecDepth 100000 in
theorem lifted (os : Os) (started : os.Started) (H : Type) (enc : TypeId × Value → H) (F : Stop.Interp) :
    ReturnsInHanded {} Tryd.checked os 5 .any ((OpenSpec.ofChange Rows.parseEdgeSpec).preRow enc Tryd.prog Tryd.f5 Rows.parseEdgeRow.domain false Rows.parseEdgeRow.laid) (((OpenSpec.ofChange Rows.parseEdgeSpec).at F).post enc Tryd.prog Tryd.f5 false true false false) := by
  obtain ⟨places, hx⟩ := reads os enc
  refine returnsInHanded_of_row (C := Tryd.checked) (s := OpenSpec.ofChange Rows.parseEdgeSpec) own started (by kernel_rfl) Tryd.func5
    (witness_row_atRef (enc := enc) (C := Tryd.checked) false (laidWorld os) #[.int .i64 0, .bool false] rfl (by kernel_rfl) (by kernel_rfl) (by kernel_rfl)
      (OpenSpec.preRow_of_cond 8 hx (by kernel_rfl) (fun k hk => by cases hk) (by kernel_rfl) (laid_met os _))) ?_
  intro W base args ds gs before hval hW _ _ hsz hL hsh _
  exact contract H enc W base args ds gs before hval hW hsz (laidA_of hL hsh)
theorem said : Rows.ParseEdgeSaid :=
  OpenClaim.holds_of_cond 5 Tryd.f5 rfl rfl rfl rfl rfl rfl rfl ⟨rfl, rfl, rfl, rfl, rfl⟩ rfl rfl rfl rfl rfl (by kernel_rfl) Tryd.func5 (by kernel_rfl)
    (of_decide_eq_true (by kernel_rfl)) (by unfold Func.isWrapper; first | (rw [if_pos (by decide +kernel)]; kernel_rfl) | (rw [if_neg (by decide +kernel)]; exact ⟨rfl, rfl⟩))
    (fun os started H enc _ F => by rw [OpenClaim.pre_eq_preRow]; exact lifted os started H enc F)
theorem plain (f : FuncId) (fn : Func) (hf : Tryd.pinned.checked.prog.funcNamed "cellaret/cellaretlaw18.ParseEdge" = some f) (hfn : Tryd.pinned.checked.prog.funcs[f]? = some fn) :
    true = Tryd.pinned.checked.prog.looks [] ∧ ∀ (j : Nat) t, fn.params[j]? = some t → Tryd.pinned.checked.prog.wantsStandIn t = false := by
  obtain rfl : f = 5 := Option.some.inj ((show Tryd.prog.funcNamed "cellaret/cellaretlaw18.ParseEdge" = some 5 by kernel_rfl).symm.trans hf) |>.symm
  obtain rfl : fn = Tryd.f5 := (Option.some.inj (Tryd.func5.symm.trans hfn)).symm
  refine ⟨by kernel_rfl, fun j t ht => ?_⟩
  rw [Tryd.params5] at ht
  have hm := Array.mem_of_getElem? ht
  have hm2 : t = 3 ∨ t = 4 := by simpa [or_comm, or_assoc] using hm
  rcases hm2 with rfl | rfl
  · exact (show Tryd.prog.wantsStandIn 3 = false by kernel_rfl)
  · exact (show Tryd.prog.wantsStandIn 4 = false by kernel_rfl)
theorem card : Rows.ParseEdgeCardSaid :=
  Claim7.holds_tied_plain_at .later [] _ _ _ _ said (fun _ h => by cases h) (by kernel_rfl) (fun _ h => by cases h) parseEdge_row_tie rfl ⟨rfl, rfl⟩ (by kernel_rfl) rfl plain (by kernel_rfl)
end Go.Proofs.YtfbhlbchmenloaaDoor.parseEdge
namespace Go.Proofs.YtfbhlbchmenloaaDoor
/-- The card, under a short name, for the claim. -/
theorem parseEdge_holds : Rows.ParseEdgeCardSaid := parseEdge.card
end Go.Proofs.YtfbhlbchmenloaaDoor
end
