/-
  The bytes of an answer, plain. Their conditions: numbers of their kinds, texts far below 2^62 bytes.
-/
import Derived.Test.YtgopcfkofjipjaaDoorHX16
import Derived.Lib.ItoaNum
import Derived.KernelRfl
namespace Go.Proofs.YtgopcfkofjipjaaDoor.Pure
open Go Go.RowKit Go.Proofs.YtgopcfkofjipjaaDoorW.PrintWords Go.Proofs.YtgopcfkofjipjaaDoor.H
set_option linter.unusedSimpArgs false
set_option linter.unusedVariables false

def ba (l : List UInt8) : ByteArray := ⟨l.toArray⟩
theorem ba_toList (l : List UInt8) : (ba l).data.toList = l := by simp [ba]
theorem ba_of (s : ByteArray) : ba s.data.toList = s := by cases s; simp [ba]
theorem u64w (n : Int) (h0 : 0 ≤ n) (h1 : n < 18446744073709551616) : IntKind.u64.wrap n = n := by rw [IntKind.wrap_u64]; omega
theorem ba_ext {a b : ByteArray} (h : a.data.toList = b.data.toList) : a = b := by rw [← ba_of a, ← ba_of b, h]
theorem dec_size (n : Nat) (h : n < 18446744073709551616) : (ba (Lib.decDigits n)).size ≤ 20 := by
  have : (ba (Lib.decDigits n)).size = (Lib.decDigits n).length := by simp [ba, ByteArray.size]
  rw [this, Lib.decDigits_length]
  by_cases hz : n = 0
  · rw [hz]; decide +kernel
  · have := Lib.numDigits_eq n (by omega) (by omega)
    split at this <;> omega
def vw : ByteArray := ⟨#[86, 65, 76, 85, 69, 32]⟩
def sp : ByteArray := ⟨#[32]⟩
def nl : ByteArray := ⟨#[13, 10]⟩
/-- An answer's bytes. -/
def ansB (v : Bool) (text key data : ByteArray) (fl cas : Nat) (wc : Bool) : ByteArray :=
  if v = true then
    (if wc = true then ((((((((((vw ++ key) ++ sp) ++ ba (Lib.decDigits fl)) ++ sp) ++ ba (Lib.decDigits data.size)) ++ sp) ++ ba (Lib.decDigits cas)) ++ nl) ++ data) ++ nl)
     else ((((((((vw ++ key) ++ sp) ++ ba (Lib.decDigits fl)) ++ sp) ++ ba (Lib.decDigits data.size)) ++ nl) ++ data) ++ nl))
  else text ++ nl
theorem fu_eq (n : Nat) (h : n < 18446744073709551616) : strconv_FormatUint.f (n : Int) 10 = some (ba (Lib.decDigits n)) := by
  unfold strconv_FormatUint.f
  rw [if_pos ⟨rfl, by omega, by omega⟩]
  rfl
theorem it_eq (n : Nat) (h : n ≤ 9223372036854775807) : strconv_Itoa.f (n : Int) = some (ba (Lib.decDigits n)) := by
  unfold strconv_Itoa.f
  rw [if_pos ⟨by omega, by omega⟩]
  rfl
theorem conv_eq (s : ByteArray) (h : s.size ≤ 9223372036854775807) : convB.f s = some (bytesOf s) := by unfold convB.f; rw [if_pos h]
theorem vw_eq : (⟨#[86, 65, 76, 85, 69, 32]⟩ : ByteArray) = vw := rfl
theorem sp_eq : (⟨#[32]⟩ : ByteArray) = sp := rfl
theorem nl_eq : (⟨#[13, 10]⟩ : ByteArray) = nl := rfl
theorem vw_size : vw.size = 6 := rfl
theorem sp_size : sp.size = 1 := rfl
theorem nl_size : nl.size = 2 := rfl
theorem bytes_eq (v : Bool) (text key data : ByteArray) (fl cas : Nat) (wc : Bool) (ht : text.size ≤ 4611686018427387904) (hk : key.size ≤ 4611686018427387904) (hd : data.size ≤ 2305843009213693952) (hf : fl < 4294967296) (hc : cas < 18446744073709551616) :
    reply_Bytes.f v key data text (fl : Int) (cas : Int) wc = some (bytesOf (ansB v text key data fl cas wc)) := by
  have h1 := dec_size fl (by omega)
  have h2 := dec_size data.size (by omega)
  have h3 := dec_size cas hc
  unfold reply_Bytes.f ansB
  cases v
  · rw [if_neg (show ¬ (false = true) by decide), if_neg (show ¬ (false = true) by decide), nl_eq, if_pos (show text.size + 2 ≤ 9223372036854775807 by omega), conv_eq _ (by rw [ByteArray.size_append, nl_size]; omega)]
    rfl
  · rw [if_pos rfl, if_pos rfl, vw_eq, sp_eq, nl_eq, u64w (fl : Int) (by omega) (by omega), fu_eq fl (by omega), it_eq data.size (by omega), fu_eq cas hc]
    simp only [Option.bind_some, ByteArray.size_append, vw_size, sp_size, nl_size]
    cases wc
    · rw [if_neg (show ¬ (false = true) by decide), if_neg (show ¬ (false = true) by decide)]
      repeat rw [if_pos (by omega)]
      rw [conv_eq _ (by simp only [ByteArray.size_append, vw_size, sp_size, nl_size]; omega)]
      rfl
    · rw [if_pos rfl, if_pos rfl]
      repeat rw [if_pos (by omega)]
      rw [conv_eq _ (by simp only [ByteArray.size_append, vw_size, sp_size, nl_size]; omega)]
      simp only [Option.bind_some, ByteArray.append_assoc]
theorem awake50 : cellaretlaw19_awake.f 50 = some true := by kernel_rfl
theorem awakeEv : Ev (fun k => cellaretlaw19_awake.f k) true := Ev.of cellaretlaw19_awake.mono awake50
abbrev An := S29
abbrev Ev34 := S34
def okN (x : An) : Prop := 0 ≤ x.f4 ∧ x.f4 < 4294967296 ∧ 0 ≤ x.f5 ∧ x.f5 < 18446744073709551616
def backA (x : An) : Ev34 := if x.f0 = true then ⟨true, x.f2, x.f3, (⟨#[]⟩ : ByteArray), x.f4, x.f5, x.f6⟩ else ⟨false, (⟨#[]⟩ : ByteArray), (⟨#[]⟩ : ByteArray), x.f1, 0, 0, false⟩
def refB (x : An) : ByteArray := ansB x.f0 x.f1 x.f2 x.f3 x.f4.toNat x.f5.toNat x.f6
theorem wrapN (i : Nat) (h : i < 1000000) : wrap64 ((i : Int) + 1) = ((i + 1 : Nat) : Int) := by unfold wrap64; omega
theorem rdA (l : List An) (i : Nat) (h : i < l.length) : rd_T29 l (i : Int) = l[i] := by
  unfold rd_T29
  rw [Int.toNat_natCast, List.getD_eq_getElem?_getD, List.getElem?_eq_getElem h]
  rfl
theorem rdE (l : List Ev34) (i : Nat) (h : i < l.length) : rd_T34 l (i : Int) = l[i] := by
  unfold rd_T34
  rw [Int.toNat_natCast, List.getD_eq_getElem?_getD, List.getElem?_eq_getElem h]
  rfl
theorem take_next {α β : Type} (l : List α) (f : α → β) (i : Nat) (h : i < l.length) : (l.take i).map f ++ [f l[i]] = (l.take (i + 1)).map f := by
  rw [List.take_succ_eq_append_getElem h, List.map_append]
  rfl
theorem ansB_size (v : Bool) (text key data : ByteArray) (fl cas : Nat) (wc : Bool) (hf : fl < 4294967296) (hc : cas < 18446744073709551616) (hd : data.size < 18446744073709551616) :
    (ansB v text key data fl cas wc).size ≤ text.size + key.size + data.size + 80 := by
  have h1 := dec_size fl (by omega)
  have h2 := dec_size data.size hd
  have h3 := dec_size cas hc
  unfold ansB
  cases v <;> cases wc <;> simp only [if_true, Bool.false_eq_true, if_false, ByteArray.size_append, vw_size, sp_size, nl_size] <;> omega
theorem bytes_back (x : An) (hn : okN x) (h1 : x.f1.size ≤ 4611686018427387904) (h2 : x.f2.size ≤ 4611686018427387904) (h3 : x.f3.size ≤ 2305843009213693952) :
    reply_Bytes.f (backA x).f0 (backA x).f1 (backA x).f2 (backA x).f3 (backA x).f4 (backA x).f5 (backA x).f6 = some (bytesOf (refB x)) := by
  obtain ⟨a, b, c, d⟩ := hn
  unfold backA refB
  by_cases hb : x.f0 = true
  · simp only [if_pos hb, hb]
    have h := bytes_eq true (⟨#[]⟩ : ByteArray) x.f2 x.f3 x.f4.toNat x.f5.toNat x.f6 (by show 0 ≤ _; omega) h2 h3 (by omega) (by omega)
    rw [Int.toNat_of_nonneg a, Int.toNat_of_nonneg c] at h
    exact h
  · have hb' : x.f0 = false := by simpa using hb
    simp only [if_neg hb, hb']
    exact bytes_eq false x.f1 (⟨#[]⟩ : ByteArray) (⟨#[]⟩ : ByteArray) 0 0 false h1 (by show 0 ≤ _; omega) (by show 0 ≤ _; omega) (by omega) (by omega)
def allI (l : List An) : List Int := l.flatMap fun x => bytesOf (refB x)
theorem allI_next (l : List An) (i : Nat) (h : i < l.length) : allI (l.take i) ++ bytesOf (refB l[i]) = allI (l.take (i + 1)) := by
  unfold allI
  rw [List.take_succ_eq_append_getElem h, List.flatMap_append]
  simp
theorem allI_len (B : Nat) : ∀ l : List An, (∀ x ∈ l, (refB x).size ≤ B) → (allI l).length ≤ l.length * B
  | [], _ => by simp [allI]
  | x :: l, h => by
    have h1 := allI_len B l (fun y hy => h y (by simp [hy]))
    have h2 := h x (by simp)
    unfold allI at h1 ⊢
    rw [List.flatMap_cons, List.length_append, bytesOf_length, List.length_cons, Nat.add_mul, Nat.one_mul]
    omega
theorem str_bytes (s : ByteArray) : strOfNums (bytesOf s) = s := by
  apply ba_ext
  rw [strOfNums_data]
  unfold bytesOf
  rw [List.map_map]
  have h : ∀ l : List UInt8, l.map ((fun n : Int => UInt8.ofNat n.toNat) ∘ fun b : UInt8 => (b.toNat : Int)) = l := by
    intro l
    induction l with
    | nil => rfl
    | cons x l ih => rw [List.map_cons, ih]; simp
  exact h _
theorem str_app (a b : List Int) : strOfNums (a ++ b) = strOfNums a ++ strOfNums b := by
  apply ba_ext
  rw [ByteArray.data_append, Array.toList_append, strOfNums_data, strOfNums_data, strOfNums_data, List.map_append]
end Go.Proofs.YtgopcfkofjipjaaDoor.Pure
