/-
  The bytes of an answer, plain: the layer's and the reference's are one and the same. Their conditions: numbers of their kinds, texts far below 2^62 bytes.
-/
import Derived.Test.YtgopcfkofjipjaaDoorHX16
import Derived.Test.YtgopcfkofjipjaaDoorHX19
import Derived.Lib.ItoaNum
import Derived.KernelRfl
namespace Go.Proofs.YtgopcfkofjipjaaDoor.Pure
open Go Go.RowKit Go.Proofs.YtgopcfkofjipjaaDoorW.PrintWords Go.Proofs.YtgopcfkofjipjaaDoor.H
set_option linter.unusedSimpArgs false
set_option linter.unusedVariables false

def ba (l : List UInt8) : ByteArray := ⟨l.toArray⟩
theorem ba_toList (l : List UInt8) : (ba l).data.toList = l := by simp [ba]
theorem ba_of (s : ByteArray) : ba s.data.toList = s := by cases s; simp [ba]
theorem u64w (n : Int) (h0 : 0 ≤ n) (h1 : n < 18446744073709551616) : IntKind.u64.wrap n = n := by rw [IntKind.wrap_u64]; omega
theorem digit_at : ∀ n : Fin 10, (⟨#[48, 49, 50, 51, 52, 53, 54, 55, 56, 57]⟩ : ByteArray).extract n.val (n.val + 1) = ba [UInt8.ofNat (48 + n.val)] := by
  intro n
  match n with
  | 0 => rfl | 1 => rfl | 2 => rfl | 3 => rfl | 4 => rfl | 5 => rfl | 6 => rfl | 7 => rfl | 8 => rfl | 9 => rfl
theorem ba_ext {a b : ByteArray} (h : a.data.toList = b.data.toList) : a = b := by rw [← ba_of a, ← ba_of b, h]
theorem ba_app (a : ByteArray) (x : List UInt8) : (a ++ ba x).data.toList = a.data.toList ++ x := by rw [ByteArray.data_append, Array.toList_append, ba_toList]
theorem evRefText (n : Nat) (h : n < 18446744073709551616) : Ev (fun k => cellaretref1_Text.f k (n : Int)) (ba (Lib.decDigits n)) := by
  induction n using Nat.strongRecOn with
  | _ n ih =>
    refine Ev.step (fun k => cellaretref1_Text.f.eq_2 _ _) ?_
    rw [Lib.decDigits]
    by_cases h1 : n < 10
    · have e1 : (((n : Int) + 1).toNat) = n + 1 := by omega
      simp only [if_pos (show (n : Int) < 10 by omega), if_pos (show (0 : Int) ≤ (n : Int) by omega), u64w ((n : Int) + 1) (by omega) (by omega), if_pos (show (n : Int) ≤ (n : Int) + 1 by omega), if_pos (show (n : Int) + 1 ≤ 10 by omega), e1, Int.toNat_natCast, dif_pos h1]
      rw [digit_at ⟨n, h1⟩]
      exact Ev.now _
    · have e0 : Int.tdiv (n : Int) 10 = ((n / 10 : Nat) : Int) := by rw [Int.tdiv_eq_ediv_of_nonneg (by omega)]; omega
      have e2 : Int.tmod (n : Int) 10 = ((n % 10 : Nat) : Int) := by rw [Int.tmod_eq_emod_of_nonneg (by omega)]; omega
      have e1 : ((((n % 10 : Nat) : Int) + 1).toNat) = n % 10 + 1 := by omega
      simp only [if_neg (show ¬ (n : Int) < 10 by omega), e0, e2, u64w ((n / 10 : Nat) : Int) (by omega) (by omega), dif_neg h1]
      refine Ev.bind (ih (n / 10) (by omega) (by omega)) ?_
      have hd := digit_at ⟨n % 10, by omega⟩
      have hlen : (ba (Lib.decDigits (n / 10))).size ≤ 20 := by
        have : (ba (Lib.decDigits (n / 10))).size = (Lib.decDigits (n / 10)).length := by simp [ba, ByteArray.size]
        rw [this, Lib.decDigits_length]
        by_cases hz : n / 10 = 0
        · rw [hz]; decide +kernel
        · have := Lib.numDigits_eq (n / 10) (by omega) (by omega)
          split at this <;> omega
      have hs1 : (ba [UInt8.ofNat (48 + n % 10)]).size = 1 := rfl
      simp only [u64w (((n % 10 : Nat) : Int) + 1) (by omega) (by omega), if_pos (show (0 : Int) ≤ ((n % 10 : Nat) : Int) by omega), if_pos (show ((n % 10 : Nat) : Int) ≤ ((n % 10 : Nat) : Int) + 1 by omega), if_pos (show ((n % 10 : Nat) : Int) + 1 ≤ 10 by omega), e1, Int.toNat_natCast]
      rw [hd, hs1]
      simp only [if_pos (show (ba (Lib.decDigits (n / 10))).size + 1 ≤ 9223372036854775807 by omega)]
      have hx : ba (Lib.decDigits (n / 10)) ++ ba [UInt8.ofNat (48 + n % 10)] = ba (Lib.decDigits (n / 10) ++ [UInt8.ofNat (48 + n % 10)]) := ba_ext (by rw [ba_app, ba_toList, ba_toList])
      rw [hx]
      exact Ev.now _

theorem dec_size (n : Nat) (h : n < 18446744073709551616) : (ba (Lib.decDigits n)).size ≤ 20 := by
  have : (ba (Lib.decDigits n)).size = (Lib.decDigits n).length := by simp [ba, ByteArray.size]
  rw [this, Lib.decDigits_length]
  by_cases hz : n = 0
  · rw [hz]; decide +kernel
  · have := Lib.numDigits_eq n (by omega) (by omega)
    split at this <;> omega
def vw : ByteArray := ⟨#[86, 65, 76, 85, 69, 32]⟩
def sp : ByteArray := ⟨#[32]⟩
def nl : ByteArray := ⟨#[13, 10]⟩
/-- An answer's bytes. -/
def ansB (v : Bool) (text key data : ByteArray) (fl cas : Nat) (wc : Bool) : ByteArray :=
  if v = true then
    (if wc = true then ((((((((((vw ++ key) ++ sp) ++ ba (Lib.decDigits fl)) ++ sp) ++ ba (Lib.decDigits data.size)) ++ sp) ++ ba (Lib.decDigits cas)) ++ nl) ++ data) ++ nl)
     else ((((((((vw ++ key) ++ sp) ++ ba (Lib.decDigits fl)) ++ sp) ++ ba (Lib.decDigits data.size)) ++ nl) ++ data) ++ nl))
  else text ++ nl
theorem fu_eq (n : Nat) (h : n < 18446744073709551616) : strconv_FormatUint.f (n : Int) 10 = some (ba (Lib.decDigits n)) := by
  unfold strconv_FormatUint.f
  rw [if_pos ⟨rfl, by omega, by omega⟩]
  rfl
theorem it_eq (n : Nat) (h : n ≤ 9223372036854775807) : strconv_Itoa.f (n : Int) = some (ba (Lib.decDigits n)) := by
  unfold strconv_Itoa.f
  rw [if_pos ⟨by omega, by omega⟩]
  rfl
theorem conv_eq (s : ByteArray) (h : s.size ≤ 9223372036854775807) : convB.f s = some (bytesOf s) := by unfold convB.f; rw [if_pos h]
theorem vw_eq : (⟨#[86, 65, 76, 85, 69, 32]⟩ : ByteArray) = vw := rfl
theorem sp_eq : (⟨#[32]⟩ : ByteArray) = sp := rfl
theorem nl_eq : (⟨#[13, 10]⟩ : ByteArray) = nl := rfl
theorem vw_size : vw.size = 6 := rfl
theorem sp_size : sp.size = 1 := rfl
theorem nl_size : nl.size = 2 := rfl
theorem bytes_eq (v : Bool) (text key data : ByteArray) (fl cas : Nat) (wc : Bool) (ht : text.size ≤ 4611686018427387904) (hk : key.size ≤ 4611686018427387904) (hd : data.size ≤ 2305843009213693952) (hf : fl < 4294967296) (hc : cas < 18446744073709551616) :
    reply_Bytes.f v key data text (fl : Int) (cas : Int) wc = some (bytesOf (ansB v text key data fl cas wc)) := by
  have h1 := dec_size fl (by omega)
  have h2 := dec_size data.size (by omega)
  have h3 := dec_size cas hc
  unfold reply_Bytes.f ansB
  cases v
  · rw [if_neg (show ¬ (false = true) by decide), if_neg (show ¬ (false = true) by decide), nl_eq, if_pos (show text.size + 2 ≤ 9223372036854775807 by omega), conv_eq _ (by rw [ByteArray.size_append, nl_size]; omega)]
    rfl
  · rw [if_pos rfl, if_pos rfl, vw_eq, sp_eq, nl_eq, u64w (fl : Int) (by omega) (by omega), fu_eq fl (by omega), it_eq data.size (by omega), fu_eq cas hc]
    simp only [Option.bind_some, ByteArray.size_append, vw_size, sp_size, nl_size]
    cases wc
    · rw [if_neg (show ¬ (false = true) by decide), if_neg (show ¬ (false = true) by decide)]
      repeat rw [if_pos (by omega)]
      rw [conv_eq _ (by simp only [ByteArray.size_append, vw_size, sp_size, nl_size]; omega)]
      rfl
    · rw [if_pos rfl, if_pos rfl]
      repeat rw [if_pos (by omega)]
      rw [conv_eq _ (by simp only [ByteArray.size_append, vw_size, sp_size, nl_size]; omega)]
      simp only [Option.bind_some, ByteArray.append_assoc]
theorem evRefBytes (v : Bool) (text key data : ByteArray) (fl cas : Nat) (wc : Bool) (ht : text.size ≤ 4611686018427387904) (hk : key.size ≤ 4611686018427387904) (hd : data.size ≤ 2305843009213693952) (hf : fl < 4294967296) (hc : cas < 18446744073709551616) :
    Ev (fun k => cellaretref18_Bytes.f k v text key data (fl : Int) (cas : Int) wc) (ansB v text key data fl cas wc) := by
  have h1 := dec_size fl (by omega)
  have h2 := dec_size data.size (by omega)
  have h3 := dec_size cas hc
  obtain ⟨K1, g1⟩ := evRefText fl (by omega)
  obtain ⟨K2, g2⟩ := evRefText data.size (by omega)
  obtain ⟨K3, g3⟩ := evRefText cas hc
  refine ⟨K1 + K2 + K3, fun k hk => ?_⟩
  have t1 : cellaretref1_Text.f k (fl : Int) = some (ba (Lib.decDigits fl)) := g1 k (by omega)
  have t2 : cellaretref1_Text.f k (data.size : Int) = some (ba (Lib.decDigits data.size)) := g2 k (by omega)
  have t3 : cellaretref1_Text.f k (cas : Int) = some (ba (Lib.decDigits cas)) := g3 k (by omega)
  show cellaretref18_Bytes.f k v text key data (fl : Int) (cas : Int) wc = some (ansB v text key data fl cas wc)
  unfold cellaretref18_Bytes.f ansB
  cases v
  · rw [if_neg (show ¬ (false = true) by decide), if_neg (show ¬ (false = true) by decide), nl_eq, if_pos (show text.size + 2 ≤ 9223372036854775807 by omega)]
  · rw [if_pos rfl, if_pos rfl, vw_eq, sp_eq, nl_eq, u64w (fl : Int) (by omega) (by omega), u64w (data.size : Int) (by omega) (by omega), t1, t2, t3]
    simp only [Option.bind_some, ByteArray.size_append, vw_size, sp_size, nl_size]
    cases wc
    · rw [if_neg (show ¬ (false = true) by decide), if_neg (show ¬ (false = true) by decide)]
      repeat rw [if_pos (by omega)]
    · rw [if_pos rfl, if_pos rfl]
      repeat rw [if_pos (by omega)]
theorem awake50 : cellaretlaw19_awake.f 50 = some true := by kernel_rfl
theorem awakeEv : Ev (fun k => cellaretlaw19_awake.f k) true := Ev.of cellaretlaw19_awake.mono awake50
end Go.Proofs.YtgopcfkofjipjaaDoor.Pure
