/-
  Words between single blanks, plain: what strings.Split answers. No condition.
-/
import Derived.Lib.SplitLaws
import Derived.Lib.CutLaws
import Derived.Lib.CountLaws
import Derived.Lib.IndexLaws
import Derived.Lib.IndexBytes
import Derived.Lib.IndexMore
import Derived.Lib.ParseIntBCases
import Derived.Lib.ItoaNum
import Derived.Lib.ItoaMem
namespace Go.Proofs.YtgopcfkofjipjaaDoor.L
open Go
set_option linter.unusedSimpArgs false
set_option linter.unusedVariables false

/-- The words of a line, acc ahead of it. -/
def wl (acc : List UInt8) : List UInt8 → List (List UInt8)
  | [] => if acc = [] then [] else [acc]
  | c :: r => if c = 32 then (if acc = [] then wl [] r else acc :: wl [] r) else wl (acc ++ [c]) r
/-- The pieces between blanks. -/
def pc (acc : List UInt8) : List UInt8 → List (List UInt8)
  | [] => [acc]
  | c :: r => if c = 32 then acc :: pc [] r else pc (acc ++ [c]) r

theorem wl_pc (l : List UInt8) : ∀ acc, wl acc l = (pc acc l).filter (fun w => w ≠ []) := by
  induction l with
  | nil => intro acc; by_cases h : acc = [] <;> simp [wl, pc, h]
  | cons c r ih =>
    intro acc
    by_cases hc : c = 32
    · by_cases h : acc = [] <;> simp [wl, pc, h, hc, ih]
    · simp [wl, pc, hc, ih]

theorem pc_none (l : List UInt8) : ∀ acc, (∀ c ∈ l, c ≠ 32) → pc acc l = [acc ++ l] := by
  induction l with
  | nil => intro acc _; simp [pc]
  | cons c r ih =>
    intro acc h
    have hc : c ≠ 32 := h c (by simp)
    simp only [pc, if_neg hc]
    rw [ih _ (fun d hd => h d (by simp [hd]))]
    simp
theorem pc_hit (l r : List UInt8) : ∀ acc, (∀ c ∈ l, c ≠ 32) → pc acc (l ++ 32 :: r) = (acc ++ l) :: pc [] r := by
  induction l with
  | nil => intro acc _; simp [pc]
  | cons c l ih =>
    intro acc h
    have hc : c ≠ 32 := h c (by simp)
    simp only [List.cons_append, pc, if_neg hc]
    rw [ih _ (fun d hd => h d (by simp [hd]))]
    simp
theorem wl_word (l : List UInt8) : ∀ acc, (∀ c ∈ l, c ≠ 32) → wl acc l = if acc ++ l = [] then [] else [acc ++ l] := by
  intro acc h
  rw [wl_pc, pc_none l acc h]
  by_cases e : acc ++ l = [] <;> simp [e]
theorem wl_app (l r : List UInt8) : ∀ acc, wl acc (l ++ 32 :: r) = wl acc l ++ wl [] r := by
  induction l with
  | nil => intro acc; by_cases h : acc = [] <;> simp [wl, h]
  | cons c l ih =>
    intro acc
    by_cases hc : c = 32
    · by_cases h : acc = [] <;> simp [wl, h, hc, ih]
    · simp [wl, hc, ih]
/-- Each word is one: not empty, without a blank. -/
theorem wl_ok (l : List UInt8) : ∀ acc, (∀ c ∈ acc, c ≠ 32) → ∀ w ∈ wl acc l, w ≠ [] ∧ ∀ c ∈ w, c ≠ 32 := by
  induction l with
  | nil =>
    intro acc h w hw
    by_cases e : acc = []
    · simp [wl, e] at hw
    · simp [wl, e] at hw; subst hw; exact ⟨e, h⟩
  | cons c r ih =>
    intro acc h w hw
    by_cases hc : c = 32
    · by_cases e : acc = []
      · simp only [wl, if_pos hc, if_pos e] at hw
        exact ih [] (by simp) w hw
      · simp only [wl, if_pos hc, if_neg e] at hw
        rcases List.mem_cons.1 hw with rfl | hw
        · exact ⟨e, h⟩
        · exact ih [] (by simp) w hw
    · simp only [wl, if_neg hc] at hw
      refine ih _ (fun d hd => ?_) w hw
      rcases List.mem_append.1 hd with hd | hd
      · exact h d hd
      · simp at hd; subst hd; exact hc
/-- Words put together by single blanks. -/
def joinW : List (List UInt8) → List UInt8
  | [] => []
  | [w] => w
  | w :: v :: r => w ++ 32 :: joinW (v :: r)
theorem wl_join : ∀ ws : List (List UInt8), (∀ w ∈ ws, w ≠ [] ∧ ∀ c ∈ w, c ≠ 32) → wl [] (joinW ws) = ws
  | [], _ => rfl
  | [w], h => by
    obtain ⟨h1, h2⟩ := h w (by simp)
    rw [joinW, wl_word w [] h2]
    simp [h1]
  | w :: v :: r, h => by
    obtain ⟨h1, h2⟩ := h w (by simp)
    rw [joinW, wl_app, wl_word w [] h2, wl_join (v :: r) (fun u hu => h u (by simp [hu]))]
    simp [h1]
theorem wl_len (l : List UInt8) : ∀ acc, (wl acc l).length ≤ acc.length + l.length := by
  induction l with
  | nil =>
    intro acc
    by_cases e : acc = []
    · simp [wl, e]
    · have := List.length_pos_iff.2 e
      simp [wl, e]; omega
  | cons c r ih =>
    intro acc
    by_cases hc : c = 32
    · by_cases e : acc = []
      · have := ih []
        simp [wl, hc, e] at this ⊢; omega
      · have := ih []
        have h1 := List.length_pos_iff.2 e
        simp [wl, hc, e] at this ⊢; omega
    · have := ih (acc ++ [c])
      simp [wl, hc] at this ⊢; omega
theorem pc_len (l : List UInt8) : ∀ acc, (pc acc l).length ≤ 1 + l.length := by
  induction l with
  | nil => intro acc; simp [pc]
  | cons c r ih =>
    intro acc
    by_cases hc : c = 32
    · have := ih []; simp [pc, hc]; omega
    · have := ih (acc ++ [c]); simp [pc, hc]; omega

/-! The library's split at a blank is these pieces. -/
def ba (l : List UInt8) : ByteArray := ⟨l.toArray⟩
theorem ba_toList (l : List UInt8) : (ba l).data.toList = l := by simp [ba]
theorem ba_of (s : ByteArray) : ba s.data.toList = s := by cases s; simp [ba]
def sp : ByteArray := ⟨#[32]⟩
theorem sp_list : sp.data.toList = [32] := rfl
theorem index_sp (s : ByteArray) : Lib.indexB s sp = Lib.indexByte s.data.toList 32 := Lib.index_one _ _
theorem split_pc : ∀ (n : Nat) (s : ByteArray), s.size ≤ n → Lib.splitB sp 0 (Lib.countB s sp) s = (pc [] s.data.toList).map ba
  | n, s, hn => by
    rcases Lib.indexB_cases s sp with hix | ⟨i, hix, hroom⟩
    · rw [Lib.countB_miss s sp hix, Lib.splitB_zero, pc_none]
      · simp [ba_of]
      · intro c hc e
        rw [index_sp] at hix
        obtain ⟨k, hk, hck⟩ := List.getElem_of_mem hc
        exact Lib.indexByte_none hix k (by rw [List.getElem?_eq_getElem hk, hck, e])
    · have hsz : sp.size = 1 := rfl
      rw [hsz] at hroom
      rw [Lib.countB_hit s sp i (by rw [hsz]; omega) hix, Nat.add_comm 1, Lib.splitB_hit sp 0 _ s i hix, hsz]
      have hl : s.data.toList.length = s.size := Array.length_toList
      obtain ⟨m, rfl⟩ : ∃ m, n = m + 1 := ⟨n - 1, by omega⟩
      rw [split_pc m (s.extract (i + 1) s.size) (by rw [ByteArray.size_extract]; omega)]
      rw [index_sp] at hix
      obtain ⟨h1, h2⟩ := Lib.indexByte_some hix
      have hdec : s.data.toList = s.data.toList.take i ++ 32 :: s.data.toList.drop (i + 1) := by
        have hi : i < s.data.toList.length := by omega
        rw [List.getElem?_eq_getElem hi] at h1
        rw [← Option.some.inj h1, ← List.drop_eq_getElem_cons hi, List.take_append_drop]
      have h3 : pc [] s.data.toList = s.data.toList.take i :: pc [] (s.data.toList.drop (i + 1)) := by
        conv => lhs; rw [hdec]
        rw [pc_hit]
        · simp
        · intro c hc e
          obtain ⟨k, hk, hck⟩ := List.getElem_of_mem hc
          rw [List.length_take] at hk
          rw [List.getElem_take] at hck
          exact h2 k (by omega) (by rw [List.getElem?_eq_getElem (by omega), hck, e])
      rw [h3, List.map_cons]
      congr 1
      · rw [← ba_of (s.extract 0 (i + 0)), Lib.extract_data]
        simp
      · congr 2
        rw [Lib.extract_to_end]
end Go.Proofs.YtgopcfkofjipjaaDoor.L
namespace Go.Proofs.YtgopcfkofjipjaaDoor.Pure
open Go
theorem occ_off (s : List UInt8) (j : Nat) (h : s[j]? ≠ some 13) : Lib.occAt s [13, 10] j = false := by
  unfold Lib.occAt
  rcases hd : s.drop j with _ | ⟨c, t⟩
  · rfl
  · have hc : s[j]? = some c := by
      have := List.getElem?_drop (xs := s) (i := j) (j := 0)
      rw [hd] at this
      simpa using this.symm
    rw [hc] at h
    have h13 : c ≠ 13 := fun e => h (by rw [e])
    simp [List.isPrefixOf, Ne.symm h13]
theorem index_crlf (u r : List UInt8) (h : ∀ c ∈ u, c ≠ 13) : Lib.index (u ++ 13 :: 10 :: r) [13, 10] = (u.length : Int) := by
  refine Lib.index_first (by simp) ?_ (fun j hj => occ_off _ j ?_)
  · unfold Lib.occAt
    rw [List.drop_left]
    simp [List.isPrefixOf]
  · rw [List.getElem?_append_left hj, List.getElem?_eq_getElem hj]
    intro e
    exact h _ (List.getElem_mem hj) (Option.some.inj e)
theorem index_open (u : List UInt8) (h : ∀ c ∈ u, c ≠ 13) : Lib.index u [13, 10] = -1 ∧ Lib.index (u ++ [13]) [13, 10] = -1 := by
  refine ⟨Lib.index_none fun j _ => occ_off _ j ?_, Lib.index_none fun j hj => ?_⟩
  · intro e
    exact h _ (List.mem_of_getElem? e) rfl
  · by_cases hl : j < u.length
    · refine occ_off _ j ?_
      rw [List.getElem?_append_left hl]
      intro e
      exact h _ (List.mem_of_getElem? e) rfl
    · unfold Lib.occAt
      have hs : (u ++ [13]).drop j = ([13] : List UInt8).drop (j - u.length) := by rw [List.drop_append, List.drop_eq_nil_of_le (by omega), List.nil_append]
      rw [hs]
      rcases j - u.length with _ | n <;> simp [List.isPrefixOf]
end Go.Proofs.YtgopcfkofjipjaaDoor.Pure
namespace Go.Proofs.YtgopcfkofjipjaaDoor.Pure
open Go
theorem parseM_snoc (c : UInt8) (d : Nat) (hc : c.toNat = 48 + d) (hd : d < 10) (m : Nat) : ∀ (l : List UInt8) (a : Nat), Lib.parseUintM (2 ^ 64 - 1) a l = .ok m → m * 10 + d < 18446744073709551616 → Lib.parseUintM (2 ^ 64 - 1) a (l ++ [c]) = .ok (m * 10 + d)
  | [], a, h, hm => by
    obtain rfl : a = m := by simpa [Lib.parseUintM] using h
    rw [List.nil_append]
    unfold Lib.parseUintM
    rw [if_pos (by omega), if_neg (by omega), if_neg (by omega)]
    simp [Lib.parseUintM, hc]
  | x :: r, a, h, hm => by
    rw [List.cons_append]
    unfold Lib.parseUintM at h ⊢
    by_cases h1 : 48 ≤ x.toNat ∧ x.toNat ≤ 57
    · rw [if_pos h1] at h ⊢
      by_cases h2 : 1844674407370955162 ≤ a
      · rw [if_pos h2] at h; cases h
      · rw [if_neg h2] at h ⊢
        by_cases h3 : 2 ^ 64 - 1 < a * 10 + (x.toNat - 48)
        · rw [if_pos h3] at h; cases h
        · rw [if_neg h3] at h ⊢
          exact parseM_snoc c d hc hd m r _ h hm
    · rw [if_neg h1] at h; cases h
theorem parseM_dec (n : Nat) (h : n < 18446744073709551616) : Lib.parseUintM (2 ^ 64 - 1) 0 (Lib.decDigits n) = .ok n := by
  induction n using Nat.strongRecOn with
  | _ n ih =>
    rw [Lib.decDigits]
    by_cases h1 : n < 10
    · rw [dif_pos h1]
      have := parseM_snoc (UInt8.ofNat (48 + n)) n (by rw [UInt8.toNat_ofNat', Nat.mod_eq_of_lt (by omega)]) h1 0 [] 0 rfl (by omega)
      simpa using this
    · rw [dif_neg h1]
      have := parseM_snoc (UInt8.ofNat (48 + n % 10)) (n % 10) (by rw [UInt8.toNat_ofNat', Nat.mod_eq_of_lt (by omega)]) (by omega) (n / 10) _ 0 (ih (n / 10) (by omega) (by omega)) (by omega)
      rw [this]
      congr 1
      omega
theorem parse_dec (n : Nat) (h : n < 18446744073709551616) : Lib.parseUintB 64 (Lib.decDigits n) = .ok n := by
  unfold Lib.parseUintB
  rw [if_neg (by rw [Lib.decDigits]; split <;> simp)]
  exact parseM_dec n h
end Go.Proofs.YtgopcfkofjipjaaDoor.Pure
