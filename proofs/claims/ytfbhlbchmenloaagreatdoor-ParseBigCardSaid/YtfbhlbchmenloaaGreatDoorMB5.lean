/-
  The law's own walk, its plain statement and its row: the law holds. Its condition: none beside the given row's own.
-/
import Derived.Test.YtfbhlbchmenloaaGreatDoorMB4
import Derived.Test.YtfbhlbchmenloaaGreatDoorMB0
import Derived.Test.YtfbhlbchmenloaaGreatDoorMB2
import Derived.ShutString
import Derived.ChangeOld
import Derived.Below
import Derived.SizedLaws
section
namespace Go.Proofs.YtfbhlbchmenloaaGreatDoor.O
open Go Go.RowKit Go.Proofs.YtfbhlbchmenloaaGreatDoorW.PrintWords Go.Proofs.YtfbhlbchmenloaaGreatDoorW.PrintLast Go.Proofs.YtfbhlbchmenloaaGreatDoorW.PrintMore Go.Proofs.YtfbhlbchmenloaaGreatDoor.H Go.Proofs.YtfbhlbchmenloaaGreatDoor.L Go.Proofs.YtfbhlbchmenloaaGreatDoor.Pure
set_option linter.unusedVariables false
set_option linter.unusedSimpArgs false
theorem lacks_of {s : ByteArray} {c : UInt8} (h : ∀ j, j < s.size → by_ s j ≠ c.toNat) : Lacks c s := by
 intro x hx e
 subst e
 obtain ⟨j, hj, hx⟩ := List.getElem_of_mem hx
 refine h j (by have := len_eq s; omega) ?_
 unfold by_
 rw [List.getD_eq_getElem?_getD, List.getElem?_eq_getElem hj, hx]
 rfl
theorem conv_is (s : ByteArray) (h : s.size ≤ 9223372036854775807) : convB.f s = some (bytesOf s) := by unfold convB.f; rw [if_pos h]
theorem big_s1 {N : Nat} {D : ByteArray} (hD : D = ba (Lib.decDigits N)) (h1 : 1025 ≤ N) (h2 : N ≤ 3000) : nextR (psFeed psNew (bytesOf (((⟨#[115, 101, 116, 32, 107, 32, 48, 32, 48, 32]⟩ : ByteArray) ++ D) ++ (⟨#[13, 10]⟩ : ByteArray)))) = (.pl .nil, false, ⟨[], false, .bad largeT, (N : Int)⟩) := by
 subst hD
 have e := next_set N (by omega) [] 0
 rw [if_pos (by omega), data_more [] false (.bad largeT) N (Nat.zero_le _)] at e
 have h : psFeed psNew (bytesOf (((⟨#[115, 101, 116, 32, 107, 32, 48, 32, 48, 32]⟩ : ByteArray) ++ ba (Lib.decDigits N)) ++ (⟨#[13, 10]⟩ : ByteArray))) = ⟨bytesOf (setL N) ++ [13, 10], false, .nil, 0⟩ := by
  unfold psFeed psNew
  rw [bytes_app]
  rfl
 rw [h]
 exact e
theorem big_s2 (N : Nat) (Z : List Int) (hZ : Z = List.replicate N 0) : nextR (psFeed ⟨[], false, .bad largeT, (N : Int)⟩ Z) = (.pl .nil, false, ⟨Z, false, .bad largeT, (N : Int)⟩) := by
 unfold psFeed nextR
 rw [nrm_off rfl]
 unfold nextN
 rw [if_neg (by simp), if_neg (by simp [isNil])]
 exact data_more Z false (.bad largeT) N (by rw [hZ, List.length_replicate]; exact Nat.le_refl _)
theorem big_s3 (N : Nat) (Z : List Int) (hZ : Z = List.replicate N 0) (next : ByteArray) : nextR (psFeed ⟨Z, false, .bad largeT, (N : Int)⟩ (bytesOf (((⟨#[13, 10]⟩ : ByteArray) ++ next) ++ (⟨#[13, 10]⟩ : ByteArray)))) = (.pl (.bad largeT), true, ⟨bytesOf next ++ 13 :: 10 :: [], false, .nil, (N : Int)⟩) := by
 have hl : Z.length = N := by rw [hZ, List.length_replicate]
 have e := data_crlf Z (bytesOf next ++ 13 :: 10 :: []) false (.bad largeT)
 rw [hl] at e
 unfold psFeed nextR
 rw [nrm_off rfl]
 unfold nextN
 rw [if_neg (by simp), if_neg (by simp [isNil]), bytes_app, bytes_app, List.append_assoc]
 exact e
def cellaretlaw18_ParseBig.T19 : Bool × List (List Nat × List Nat) := (true, [([], []), ([0], [0]), ([1], [1]), ([2], [2]), ([3, 2], [2, 3]), ([2, 4], [2, 4]), ([5, 2], [5]), ([6], [6]), ([6, 7], [6, 7]), ([8, 6], [8]), ([9], [9]), ([10, 9, 9], [9, 10]), ([9, 11], [9, 11]), ([12, 11], [12]), ([13], [13]), ([14, 13], [13, 14]), ([15, 13, 13], [13, 15]), ([16], [16]), ([17, 16, 16], [16, 17]), ([18], [18]), ([19, 18, 18], [18, 19]), ([18], [18]), ([20, 21, 20, 18], [18, 20, 21]), ([18, 22, 16], [16, 18, 22]), ([16, 23, 13], [13, 16, 23]), ([13, 24], [13, 24]), ([25, 22, 0, 1, 2, 3, 4, 5, 6, 7, 8, 9, 10, 11, 12, 13, 14, 15, 16, 17, 18, 19, 20, 21, 22, 23, 24, 25], [25])])
def cellaretlaw18_ParseBig.B19 : List Nat := [0, 1, 3, 7, 15, 31, 63, 127, 255, 511, 1023, 2047, 4095, 8191, 16383, 32767, 65535, 131071, 262143, 524287, 1048575, 524287, 4194303, 8388607, 16777215, 33554431, 67108863]
theorem cellaretlaw18_ParseBig.tab19 : rtab .any (opsOf Tryz.f6 19) = cellaretlaw18_ParseBig.T19 := by kernel_rfl
theorem cellaretlaw18_ParseBig.bits19 : waitsOk cellaretlaw18_ParseBig.T19.2 cellaretlaw18_ParseBig.B19 = true := by kernel_rfl
set_option maxHeartbeats 4000000 in
set_option maxRecDepth 100000 in
theorem big_walk (n : Int) (next : ByteArray) (w : World) (HLD : LaidA w) : Calls Tryz.prog 6 #[.int .i64 n, .string next] w fun e w' => e = .returned (.bool true) ∧ Below w.heap.size w w' := by
 have HL := Aside0.mk HLD
 have hu29 := Tryz.underlying29
 have hu26 := Tryz.underlying26
 have HB := Aside0.mk (Below.refl w.heap.size w)
 clear HLD
 by_cases h1 : n < 1025
 ·have h1a : (n < 1025) = True := eq_true (h1)
  have h1b : decide (n < 1025) = true := decide_eq_true (h1)
  go_enter Tryz.func6, Tryz.ntmps6
  go_wp2_with fail
  refine (awake_ref HL.out).mono ?_
  rintro e w1 ⟨rfl, hs⟩
  replace HB := Aside0.mk (below_step HB.out hs)
  clear hs
  go_wp2_with fail
  go_ret
  exact ⟨rfl, HB.out⟩
 by_cases h2 : 3000 < n
 ·have h1a : (n < 1025) = False := eq_false (h1)
  have h1b : decide (n < 1025) = false := decide_eq_false (h1)
  have h2a : (3000 < n) = True := eq_true (h2)
  have h2b : decide (3000 < n) = true := decide_eq_true (h2)
  go_enter Tryz.func6, Tryz.ntmps6
  go_wp2_with fail
  refine (awake_ref HL.out).mono ?_
  rintro e w1 ⟨rfl, hs⟩
  replace HB := Aside0.mk (below_step HB.out hs)
  clear hs
  go_wp2_with fail
  go_ret
  exact ⟨rfl, HB.out⟩
 by_cases h3 : 500 < (next.size : Int)
 ·have h1a : (n < 1025) = False := eq_false (h1)
  have h1b : decide (n < 1025) = false := decide_eq_false (h1)
  have h2a : (3000 < n) = False := eq_false (h2)
  have h2b : decide (3000 < n) = false := decide_eq_false (h2)
  have h3a : (500 < (next.size : Int)) = True := eq_true (h3)
  have h3b : decide (500 < (next.size : Int)) = true := decide_eq_true (h3)
  go_enter Tryz.func6, Tryz.ntmps6
  go_wp2_with fail
  refine (awake_ref HL.out).mono ?_
  rintro e w1 ⟨rfl, hs⟩
  replace HB := Aside0.mk (below_step HB.out hs)
  clear hs
  go_wp2_with fail
  go_ret
  exact ⟨rfl, HB.out⟩
 obtain ⟨N, rfl⟩ : ∃ N : Nat, n = (N : Int) := ⟨n.toNat, by omega⟩
 have h1a : ((N : Int) < 1025) = False := eq_false (by omega)
 have h1b : decide ((N : Int) < 1025) = false := decide_eq_false (by omega)
 have h2a : (3000 < (N : Int)) = False := eq_false (by omega)
 have h2b : decide (3000 < (N : Int)) = false := decide_eq_false (by omega)
 have h3a : (500 < (next.size : Int)) = False := eq_false (by omega)
 have h3b : decide (500 < (next.size : Int)) = false := decide_eq_false (by omega)
 go_enter Tryz.func6, Tryz.ntmps6
 go_wp2_with fail
 refine (awake_ref HL.out).mono ?_
 rintro e w1 ⟨rfl, hs⟩
 replace HB := Aside0.mk (below_step HB.out hs)
 clear hs
 go_wp2_with fail
 go_loopg [5] next.size (fun kq v5 w' => ∃ i : Nat, v5 = .int .i64 (i : Int) ∧ Aside0 (i + kq = next.size ∧ ∀ j, j < i → by_ next j ≠ 10 ∧ by_ next j ≠ 13) ∧ Aside0 (Below w.heap.size w w'))
 case atStart => exact ⟨0, rfl, ⟨Nat.zero_add _, fun j hj => absurd hj (Nat.not_lt_zero j)⟩, HB⟩
 case round =>
  obtain ⟨i, rfl, HA, HB⟩ := hrel
  have hA := HA.out.1
  by_cases hi : i < next.size
  ·have i1 : ((i : Int) < (next.size : Int)) = True := eq_true (by omega)
   have i2 : decide ((i : Int) < (next.size : Int)) = true := decide_eq_true (by omega)
   have i3 : ((0 : Int) ≤ (i : Int)) = True := eq_true (by omega)
   have hx := bt_at next (i : Int)
   have hb : ((next[i]'hi).toNat : Int) = (by_ next i : Int) := (bt_get next i hi).symm.trans (bt_by next i hi)
   have hw : wrap64 ((i : Int) + 1) = ((i + 1 : Nat) : Int) := by unfold wrap64; omega
   by_cases ca : by_ next i = 10
   ·have cb : (((next[i]'hi).toNat : Int) == 10) = true := by rw [hb, ca]; rfl
    go_wp2_with fail
    go_ret
    exact ⟨rfl, HB.out⟩
   ·have cb : (((next[i]'hi).toNat : Int) == 10) = false := beq_eq_false_iff_ne.mpr (by rw [hb]; omega)
    by_cases cc : by_ next i = 13
    ·have cd : (((next[i]'hi).toNat : Int) == 13) = true := by rw [hb, cc]; rfl
     go_wp2_with fail
     go_ret
     exact ⟨rfl, HB.out⟩
    ·have cd : (((next[i]'hi).toNat : Int) == 13) = false := beq_eq_false_iff_ne.mpr (by rw [hb]; omega)
     have ce : ((((next[i]'hi).toNat : Int) == 10) || (((next[i]'hi).toNat : Int) == 13)) = false := by rw [cb, cd]; rfl
     clear hb
     go_wp2_with fail
     go_roundg (gk - 1)
     case measure => omega
     case rel => exact ⟨i + 1, rfl, ⟨by omega, fun j hj => by by_cases e : j = i; (subst e; exact ⟨ca, cc⟩); (exact HA.out.2 j (by omega))⟩, HB⟩
  ·have i1 : ((i : Int) < (next.size : Int)) = False := eq_false (by omega)
   have i2 : decide ((i : Int) < (next.size : Int)) = false := decide_eq_false (by omega)
   have l10 : Lacks 10 next := lacks_of fun j hj => (HA.out.2 j (by omega)).1
   have l13 : Lacks 13 next := lacks_of fun j hj => (HA.out.2 j (by omega)).2
   clear HA hA
   have i4 : decide (i < next.size) = false := decide_eq_false hi
   have i5 : (i < next.size) = False := eq_false hi
   go_wp2_with fail
   clear i1 i2 i4 i5 hi
   refine (new_ref HB.out (HL.out.below HB.out)).mono ?_
   rintro e w2 ⟨g, rfl, hi, hb, hs⟩
   replace HB := Aside0.mk hb
   have HI := Aside0.mk hi
   clear hi hb hs
   go_wp2_with fail
   obtain ⟨D, hD⟩ : ∃ D, D = ba (Lib.decDigits N) := ⟨_, rfl⟩
   have HD := Aside0.mk hD
   have hDs : D.size ≤ 20 := by rw [hD]; have h1 := dec_len N (by omega); have e : (ba (Lib.decDigits N)).size = (Lib.decDigits N).length := (by simp [ba, ByteArray.size]); omega
   clear hD
   refine ((by rw [HD.out]; exact signed_ref N (by omega) _ : Calls Tryz.prog 21 #[.int .i64 (N : Int)] w2 fun e w' => e = .returned (.string D) ∧ Below w2.heap.size w2 w')).mono ?_
   rintro e w3 ⟨rfl, hs⟩
   replace HB := Aside0.mk (below_step HB.out hs)
   replace HI := Aside0.mk (HI.out.below hs)
   clear hs
   have s0 : 10 + D.size ≤ 9223372036854775807 := by omega
   have s1 : (10 + D.size ≤ 9223372036854775807) = True := eq_true s0
   have s2 : decide (10 + D.size ≤ 9223372036854775807) = true := decide_eq_true s0
   have s3 : (9223372036854775807 < 10 + D.size) = False := eq_false (Nat.not_lt.2 s0)
   have u0 : 10 + D.size + 2 ≤ 9223372036854775807 := by omega
   have u1 : (10 + D.size + 2 ≤ 9223372036854775807) = True := eq_true u0
   have u2 : decide (10 + D.size + 2 ≤ 9223372036854775807) = true := decide_eq_true u0
   have u3 : (9223372036854775807 < 10 + D.size + 2) = False := eq_false (Nat.not_lt.2 u0)
   have t0 : ((⟨#[115, 101, 116, 32, 107, 32, 48, 32, 48, 32]⟩ : ByteArray) ++ D).size + 2 ≤ 9223372036854775807 := by rw [ByteArray.size_append]; show 10 + D.size + 2 ≤ _; omega
   have t1 : (((⟨#[115, 101, 116, 32, 107, 32, 48, 32, 48, 32]⟩ : ByteArray) ++ D).size + 2 ≤ 9223372036854775807) = True := eq_true t0
   have t2 : decide (((⟨#[115, 101, 116, 32, 107, 32, 48, 32, 48, 32]⟩ : ByteArray) ++ D).size + 2 ≤ 9223372036854775807) = true := decide_eq_true t0
   have t3 : (9223372036854775807 < ((⟨#[115, 101, 116, 32, 107, 32, 48, 32, 48, 32]⟩ : ByteArray) ++ D).size + 2) = False := eq_false (Nat.not_lt.2 t0)
   have hz1 : (((⟨#[115, 101, 116, 32, 107, 32, 48, 32, 48, 32]⟩ : ByteArray) ++ D) ++ (⟨#[13, 10]⟩ : ByteArray)).size ≤ 32 := by rw [ByteArray.size_append, ByteArray.size_append]; show 10 + D.size + 2 ≤ 32; omega
   go_wp2_with ((with_reducible refine gate_dst (N := 52) rfl ?_); (refine conv_event rfl (N := 52) rfl 9 36 5 rfl Tryz.underlying9 Tryz.underlying36 Tryz.underlying5 (((⟨#[115, 101, 116, 32, 107, 32, 48, 32, 48, 32]⟩ : ByteArray) ++ D) ++ (⟨#[13, 10]⟩ : ByteArray)) (bytesOf (((⟨#[115, 101, 116, 32, 107, 32, 48, 32, 48, 32]⟩ : ByteArray) ++ D) ++ (⟨#[13, 10]⟩ : ByteArray))) rfl (conv_is _ (by omega)) ?_); intro v1 w4 ho hs; obtain ⟨A1, c1, ev⟩ := Kd.V_slice ho; subst ev; have HC1 := Aside0.mk (Kd.V_reads' ho); replace HB := Aside0.mk (below_step HB.out hs); replace HI := Aside0.mk (HI.out.below hs); clear ho hs)
   clear s0 s1 s2 s3 u0 u1 u2 u3 t0 t1 t2 t3
   have hD1 := HD.out
   refine (feed_ref HI.out HB.out (HL.out.below HB.out) (HC1.out.2.2) (HC1.out.2.1) (by rw [bytes_len]; show 0 + _ ≤ _; omega)).mono ?_
   rintro e w5 ⟨rfl, hi, hb, hk⟩
   replace HI := Aside0.mk hi
   replace HB := Aside0.mk hb
   clear hi hb hk
   clear HC1
   go_wp2_with fail
   refine (next_ref (Inv.feed (ps := psNew) (fun h => by cases h) _) (big_s1 HD.out (by omega) (by omega)) (toD .nil) (rfl) (false) (rfl) HI.out HB.out (HL.out.below HB.out)).mono ?_
   rintro e w6 ⟨A1, c1, rfl, hr, hi, hb, hk⟩
   replace HI := Aside0.mk hi
   replace HB := Aside0.mk hb
   have HR1 := Aside0.mk hr
   clear hi hb hk hr
   clear HR1 hD1
   dsimp only [cdV, toD]
   obtain ⟨Z, hZ⟩ : ∃ Z : List Int, Z = List.replicate N 0 := ⟨_, rfl⟩
   have HZ := Aside0.mk hZ
   clear hZ
   go_wp2_with ((with_reducible refine gate_dst (N := 61) rfl ?_); refine wpl_var ?_; intro w7 hs hv; replace HB := Aside0.mk (below_step HB.out hs); replace HI := Aside0.mk (HI.out.below hs); clear hs hv; (try (refine gate_guard (by rfl) ?_; dsimp only)); refine Kd.R_make (Kd.int .u8) _ 5 rfl (N := 61) rfl 36 _ _ rfl ((N : Int)) rfl rfl Tryz.underlying36 (.int .u8 0) 1 info5 rfl (by decide) (by omega) 0 (ok := fun _ => True) (okp := fun _ => True) rfl (fun _ hk => hk) trivial (by omega) (Nat.le_trans (Nat.mul_le_mul_right _ (by omega : ((N : Int)).toNat ≤ 281474976710656)) (by omega)) (Below.refl _ _) (Nat.le_refl _) ?_; intro v2 w8 ho hs hg_ hnew_; clear hg_ hnew_; simp only [Int.toNat_natCast] at ho; rw [← HZ.out] at ho; obtain ⟨A2, c2, ev⟩ := Kd.R_slice ho; subst ev; have HC2 := Aside0.mk (Kd.R_reads' ho); replace HB := Aside0.mk (below_step HB.out hs); replace HI := Aside0.mk (HI.out.below hs); clear ho hs)
   refine (feed_ref HI.out HB.out (HL.out.below HB.out) (HC2.out.2.2) (HC2.out.2.1) (by rw [HZ.out, List.length_replicate]; show 0 + N ≤ _; omega)).mono ?_
   rintro e w9 ⟨rfl, hi, hb, hk⟩
   replace HI := Aside0.mk hi
   replace HB := Aside0.mk hb
   clear hi hb hk
   clear HC2
   go_wp2_with fail
   refine (next_ref (Inv.feed (ps := ⟨[], false, .bad largeT, (N : Int)⟩) (fun _ => (by show (0 : Int) ≤ (N : Int); omega)) _) (big_s2 N Z HZ.out) (toD .nil) (rfl) (false) (rfl) HI.out HB.out (HL.out.below HB.out)).mono ?_
   rintro e w10 ⟨A2, c2, rfl, hr, hi, hb, hk⟩
   replace HI := Aside0.mk hi
   replace HB := Aside0.mk hb
   have HR2 := Aside0.mk hr
   clear hi hb hk hr
   clear HR2
   dsimp only [cdV, toD]
   have hns : next.size ≤ 500 := by omega
   have s0 : 2 + next.size ≤ 9223372036854775807 := by omega
   have s1 : (2 + next.size ≤ 9223372036854775807) = True := eq_true s0
   have s2 : decide (2 + next.size ≤ 9223372036854775807) = true := decide_eq_true s0
   have s3 : (9223372036854775807 < 2 + next.size) = False := eq_false (Nat.not_lt.2 s0)
   have u0 : 2 + next.size + 2 ≤ 9223372036854775807 := by omega
   have u1 : (2 + next.size + 2 ≤ 9223372036854775807) = True := eq_true u0
   have u2 : decide (2 + next.size + 2 ≤ 9223372036854775807) = true := decide_eq_true u0
   have u3 : (9223372036854775807 < 2 + next.size + 2) = False := eq_false (Nat.not_lt.2 u0)
   have t0 : ((⟨#[13, 10]⟩ : ByteArray) ++ next).size + 2 ≤ 9223372036854775807 := by rw [ByteArray.size_append]; show 2 + next.size + 2 ≤ _; omega
   have t1 : (((⟨#[13, 10]⟩ : ByteArray) ++ next).size + 2 ≤ 9223372036854775807) = True := eq_true t0
   have t2 : decide (((⟨#[13, 10]⟩ : ByteArray) ++ next).size + 2 ≤ 9223372036854775807) = true := decide_eq_true t0
   have t3 : (9223372036854775807 < ((⟨#[13, 10]⟩ : ByteArray) ++ next).size + 2) = False := eq_false (Nat.not_lt.2 t0)
   have hz2 : (((⟨#[13, 10]⟩ : ByteArray) ++ next) ++ (⟨#[13, 10]⟩ : ByteArray)).size ≤ 504 := by rw [ByteArray.size_append, ByteArray.size_append]; show 2 + next.size + 2 ≤ 504; omega
   go_wp2_with ((with_reducible refine gate_dst (N := 72) rfl ?_); refine wpl_var ?_; intro w11 hs hv; replace HB := Aside0.mk (below_step HB.out hs); replace HI := Aside0.mk (HI.out.below hs); clear hs hv; (refine conv_event rfl (N := 72) rfl 9 36 5 rfl Tryz.underlying9 Tryz.underlying36 Tryz.underlying5 (((⟨#[13, 10]⟩ : ByteArray) ++ next) ++ (⟨#[13, 10]⟩ : ByteArray)) (bytesOf (((⟨#[13, 10]⟩ : ByteArray) ++ next) ++ (⟨#[13, 10]⟩ : ByteArray))) rfl (conv_is _ (by omega)) ?_); intro v3 w12 ho hs; obtain ⟨A3, c3, ev⟩ := Kd.V_slice ho; subst ev; have HC3 := Aside0.mk (Kd.V_reads' ho); replace HB := Aside0.mk (below_step HB.out hs); replace HI := Aside0.mk (HI.out.below hs); clear ho hs)
   clear s0 s1 s2 s3 t0 t1 t2 t3 u0 u1 u2 u3
   refine (feed_ref HI.out HB.out (HL.out.below HB.out) (HC3.out.2.2) (HC3.out.2.1) (by rw [bytes_len]; show Z.length + _ ≤ _; rw [HZ.out, List.length_replicate]; omega)).mono ?_
   rintro e w13 ⟨rfl, hi, hb, hk⟩
   replace HI := Aside0.mk hi
   replace HB := Aside0.mk hb
   clear hi hb hk
   clear HC3
   go_wp2_with fail
   refine (next_ref (Inv.feed (ps := ⟨Z, false, .bad largeT, (N : Int)⟩) (fun _ => (by show (0 : Int) ≤ (N : Int); omega)) _) (big_s3 N Z HZ.out next) (toD (.bad largeT)) (rfl) (true) (rfl) HI.out HB.out (HL.out.below HB.out)).mono ?_
   rintro e w14 ⟨A3, c3, rfl, hr, hi, hb, hk⟩
   replace HI := Aside0.mk hi
   replace HB := Aside0.mk hb
   have HR3 := Aside0.mk hr
   clear hi hb hk hr
   clear HR3
   dsimp only [cdV, toD]
   go_wp2_with fail
   have Vag := Aside0.mk HI.out.lt
   refine calls_var ?_
   intro w15 hs hv
   replace HB := Aside0.mk (below_step HB.out hs)
   replace HI := Aside0.mk (HI.out.below hs)
   have Va := Aside0.mk (hv)
   clear hs hv
   obtain ⟨q, hq⟩ : ∃ q, nextR ⟨bytesOf next ++ 13 :: 10 :: [], false, .nil, (N : Int)⟩ = q := ⟨_, rfl⟩
   obtain ⟨db, hdb⟩ : ∃ d, toX q.1 = d := ⟨_, rfl⟩
   obtain ⟨fb, hfb⟩ : ∃ b, q.2.1 = b := ⟨_, rfl⟩
   have hkb : db.keys.length ≤ 64 := by rw [← hdb, ← hq]; exact next_keys _
   obtain ⟨dc, hdc⟩ : ∃ d, toX (lineX (wordsOf next)).1 = d := ⟨_, rfl⟩
   obtain ⟨kc, hkc⟩ : ∃ k, (lineX (wordsOf next)).2 = k := ⟨_, rfl⟩
   have HQ := Aside0.mk (And.intro hq (And.intro hdb (And.intro hfb (And.intro hdc hkc))))
   clear hq hdb hfb hdc hkc
   refine (next_ref (fun h => by cases h) (HQ.out.1) (db) (HQ.out.2.1) (fb) (HQ.out.2.2.1) HI.out HB.out (HL.out.below HB.out)).mono ?_
   rintro e w16 ⟨A4, c4, rfl, hr, hi, hb, hk⟩
   replace Va := Aside0.mk (KeepBut.blk hk Va.out (Nat.ne_of_gt Vag.out) (by simp))
   replace HI := Aside0.mk hi
   replace HB := Aside0.mk hb
   have HR4 := Aside0.mk hr
   clear hi hb hk hr
   have hl4 := HR4.out.1
   have HCb := Aside0.mk (HR4.out.2)
   clear HR4
   unfold cdV
   go_wp2_with fail
   have Vbg := Aside0.mk HI.out.lt
   refine calls_var ?_
   intro w17 hs hv
   replace HB := Aside0.mk (below_step HB.out hs)
   replace HI := Aside0.mk (HI.out.below hs)
   replace Va := Aside0.mk (blk_below Va.out hs)
   replace HCb := Aside0.mk (Kd.C_below HCb.out hs)
   have Vb := Aside0.mk (hv)
   clear hs hv
   refine (one_tells next _ (by omega) dc kc HQ.out.2.2.2.1 HQ.out.2.2.2.2).mono ?_
   rintro e w18 ⟨A5, c5, rfl, hl5, hC5, hs⟩
   replace HB := Aside0.mk (below_step HB.out hs)
   replace HI := Aside0.mk (HI.out.below hs)
   replace Va := Aside0.mk (blk_below Va.out hs)
   replace HCb := Aside0.mk (Kd.C_below HCb.out hs)
   replace Vb := Aside0.mk (blk_below Vb.out hs)
   have HCc := Aside0.mk (hC5)
   clear hs hC5
   unfold cdV
   go_wp2_with fail
   have Vcg := Aside0.mk HI.out.lt
   refine wp_var ?_
   intro w19 hs hv
   replace HB := Aside0.mk (below_step HB.out hs)
   replace HI := Aside0.mk (HI.out.below hs)
   replace Va := Aside0.mk (blk_below Va.out hs)
   replace HCb := Aside0.mk (Kd.C_below HCb.out hs)
   replace Vb := Aside0.mk (blk_below Vb.out hs)
   replace HCc := Aside0.mk (Kd.C_below HCc.out hs)
   have Vc := Aside0.mk (hv)
   clear hs hv
   obtain ⟨ra0, ra1, ra2, ra3, ra4, ra5, ra6, ra7, ra8, ra9, ra10, ra11⟩ := celL Va.out
   obtain ⟨rb0, rb1, rb2, rb3, rb4, rb5, rb6, rb7, rb8, rb9, rb10, rb11⟩ := celL Vb.out
   obtain ⟨rc0, rc1, rc2, rc3, rc4, rc5, rc6, rc7, rc8, rc9, rc10, rc11⟩ := celL Vc.out
   by_cases hk : 0 ≤ kc
   ·have k1 : ((0 : Int) ≤ kc) = True := eq_true hk
    have k2 : decide ((0 : Int) ≤ kc) = true := decide_eq_true hk
    have k3 : (kc < (0 : Int)) = False := eq_false (by omega)
    have k4 : decide (kc < (0 : Int)) = false := decide_eq_false (by omega)
    have k5 : (kc ≥ (0 : Int)) = True := eq_true hk
    have k6 : decide (kc ≥ (0 : Int)) = true := decide_eq_true hk
    go_wp2_with fail
    clear HI
    clear ra0 ra1 ra2 ra3 ra4 ra5 ra6 ra7 ra8 ra9 ra10 ra11
    clear rb0 rb1 rb2 rb3 rb4 rb5 rb6 rb7 rb8 rb9 rb10 rb11
    clear rc0 rc1 rc2 rc3 rc4 rc5 rc6 rc7 rc8 rc9 rc10 rc11
    refine start_ (n := 27) (S := fun w' => C12 w' (w14.heap.size) (.string ⟨#[98, 97, 100]⟩) (.string largeT) (.slice A3 0 c3) (.string ez) (.int .u32 0) (.int .i64 0) (.int .u64 0) (.int .u64 0) (.bool false) (.bool false) (.bool false) (.bool false)) (ds := []) #[f,f,f,f,f,f,f,f,f,f,f,f,f,f,f,f,f,f,f,f,f,f,f,f,f,f,f] (by kernel_rfl) rfl rfl (celL Va.out) (fun hHeld => ?_)
    refine with_tabW cellaretlaw18_ParseBig.tab19 cellaretlaw18_ParseBig.bits19 (fun HT_ HW_ => ?_)
    replace HB := Aside0.mk (below_drew1 HB.out)
    replace Va := Aside0.mk (blk_drew Va.out)
    replace HCb := Aside0.mk (Kd.C_drew HCb.out)
    replace Vb := Aside0.mk (blk_drew Vb.out)
    replace HCc := Aside0.mk (Kd.C_drew HCc.out)
    replace Vc := Aside0.mk (blk_drew Vc.out)
    refine pure_ (i := 0) (N := some 89) (v := ?_) (a' := ?_) #[t,f,f,f,f,f,f,f,f,f,f,f,f,f,f,f,f,f,f,f,f,f,f,f,f,f,f] rfl rfl (any_of HT_.out (by kernel_rfl)) (fun _ _ _ h => h) (Or.inl ⟨by rfl, ?_⟩) ?_ ?_
    rotate_left
    ·intro w'
     go_simp
     with_reducible rfl
    rotate_left
    ·simp only [Act.put, List.setIfInBounds_toArray, List.set_cons_zero, List.set_cons_succ, i64_w, i32_w]
     rfl
    refine pure_ (i := 1) (N := some 90) (v := ?_) (a' := ?_) #[t,t,f,f,f,f,f,f,f,f,f,f,f,f,f,f,f,f,f,f,f,f,f,f,f,f,f] rfl rfl (any_of HT_.out (by kernel_rfl)) (fun _ _ _ h => h) (Or.inl ⟨by rfl, ?_⟩) ?_ ?_
    rotate_left
    ·intro w'
     go_simp
     with_reducible rfl
    rotate_left
    ·simp only [Act.put, List.setIfInBounds_toArray, List.set_cons_zero, List.set_cons_succ, i64_w, i32_w]
     rfl
    refine pure_ (i := 2) (N := some 91) (v := ?_) (a' := ?_) #[t,t,t,f,f,f,f,f,f,f,f,f,f,f,f,f,f,f,f,f,f,f,f,f,f,f,f] rfl rfl (any_of HT_.out (by kernel_rfl)) (fun _ _ _ h => h) (Or.inl ⟨by rfl, ?_⟩) ?_ ?_
    rotate_left
    ·intro w'
     go_simp
     with_reducible rfl
    rotate_left
    ·simp only [Act.put, List.setIfInBounds_toArray, List.set_cons_zero, List.set_cons_succ, i64_w, i32_w]
     rfl
    refine pure_ (i := 3) (N := some 92) (v := ?_) (a' := ?_) #[t,t,t,t,f,f,f,f,f,f,f,f,f,f,f,f,f,f,f,f,f,f,f,f,f,f,f] rfl rfl (any_of HT_.out (by kernel_rfl)) (fun _ _ _ h => h) (Or.inl ⟨by rfl, ?_⟩) ?_ ?_
    rotate_left
    ·intro w'
     go_simp
     with_reducible rfl
    rotate_left
    ·simp only [Act.put, List.setIfInBounds_toArray, List.set_cons_zero, List.set_cons_succ, i64_w, i32_w]
     rfl
    refine pure_ (i := 4) (N := some 93) (v := ?_) (a' := ?_) #[t,t,t,t,t,f,f,f,f,f,f,f,f,f,f,f,f,f,f,f,f,f,f,f,f,f,f] rfl rfl (any_of HT_.out (by kernel_rfl)) (fun _ _ _ h => h) (Or.inl ⟨by rfl, ?_⟩) ?_ ?_
    rotate_left
    ·intro w'
     go_simp
     with_reducible rfl
    rotate_left
    ·simp only [Act.put, List.setIfInBounds_toArray, List.set_cons_zero, List.set_cons_succ, i64_w, i32_w]
     rfl
    refine pure_ (i := 5) (N := some 94) (v := ?_) (a' := ?_) #[t,t,t,t,t,t,f,f,f,f,f,f,f,f,f,f,f,f,f,f,f,f,f,f,f,f,f] rfl rfl (any_of HT_.out (by kernel_rfl)) (fun _ _ _ h => h) (Or.inl ⟨by rfl, ?_⟩) ?_ ?_
    rotate_left
    ·intro w'
     go_simp
     with_reducible rfl
    rotate_left
    ·simp only [Act.put, List.setIfInBounds_toArray, List.set_cons_zero, List.set_cons_succ, i64_w, i32_w]
     rfl
    refine pure_ (i := 6) (N := some 95) (v := ?_) (a' := ?_) #[t,t,t,t,t,t,t,f,f,f,f,f,f,f,f,f,f,f,f,f,f,f,f,f,f,f,f] rfl rfl (any_of HT_.out (by kernel_rfl)) (fun _ _ _ h => h) (Or.inl ⟨by rfl, ?_⟩) ?_ ?_
    rotate_left
    ·intro w'
     go_simp
     with_reducible rfl
    rotate_left
    ·simp only [Act.put, List.setIfInBounds_toArray, List.set_cons_zero, List.set_cons_succ, i64_w, i32_w]
     rfl
    refine pure_ (i := 7) (N := some 96) (v := ?_) (a' := ?_) #[t,t,t,t,t,t,t,t,f,f,f,f,f,f,f,f,f,f,f,f,f,f,f,f,f,f,f] rfl rfl (any_of HT_.out (by kernel_rfl)) (fun _ _ _ h => h) (Or.inl ⟨by rfl, ?_⟩) ?_ ?_
    rotate_left
    ·intro w'
     go_simp
     with_reducible rfl
    rotate_left
    ·simp only [Act.put, List.setIfInBounds_toArray, List.set_cons_zero, List.set_cons_succ, i64_w, i32_w]
     rfl
    refine pure_ (i := 8) (N := some 97) (v := ?_) (a' := ?_) #[t,t,t,t,t,t,t,t,t,f,f,f,f,f,f,f,f,f,f,f,f,f,f,f,f,f,f] rfl rfl (any_of HT_.out (by kernel_rfl)) (fun _ _ _ h => h) (Or.inl ⟨by rfl, ?_⟩) ?_ ?_
    rotate_left
    ·intro w'
     go_simp
     with_reducible rfl
    rotate_left
    ·simp only [Act.put, List.setIfInBounds_toArray, List.set_cons_zero, List.set_cons_succ, i64_w, i32_w]
     rfl
    refine pure_ (i := 9) (N := some 98) (v := ?_) (a' := ?_) #[t,t,t,t,t,t,t,t,t,t,f,f,f,f,f,f,f,f,f,f,f,f,f,f,f,f,f] rfl rfl (any_of HT_.out (by kernel_rfl)) (fun _ _ _ h => h) (Or.inl ⟨by rfl, ?_⟩) ?_ ?_
    rotate_left
    ·intro w'
     go_simp
     with_reducible rfl
    rotate_left
    ·simp only [Act.put, List.setIfInBounds_toArray, List.set_cons_zero, List.set_cons_succ, i64_w, i32_w]
     rfl
    refine take_ (i := 10) (N := some 99) (v := ?_) (a' := ?_) #[t,t,t,t,t,t,t,t,t,t,t,f,f,f,f,f,f,f,f,f,f,f,f,f,f,f,f] rfl rfl (take_ofW HT_.out HW_.out (by kernel_rfl)) (fun _ _ _ h => h) (Or.inl ⟨by rfl, ?_⟩) hHeld ?_ ?_
    rotate_left
    ·rintro w' ⟨s0, s1, s2, s3, s4, s5, s6, s7, s8, s9, s10, s11⟩
     go_simp
     with_reducible rfl
    rotate_left
    ·simp only [Act.put, List.setIfInBounds_toArray, List.set_cons_zero, List.set_cons_succ, i64_w, i32_w]
     rfl
    refine one_ (i := 11) (N := some 100) #[t,t,t,t,t,t,t,t,t,t,t,t,f,f,f,f,f,f,f,f,f,f,f,f,f,f,f] rfl rfl (one_of HT_.out (by kernel_rfl)) (by decide) (fun K hK => ?_)
    refine goes_ Tryz.func18 (by kernel_rfl) rfl #[.agg #[.string ⟨#[98, 97, 100]⟩, .string largeT, .slice A3 0 c3, .string ez, .int .u32 0, .int .i64 0, .int .u64 0, .int .u64 0, .bool false, .bool false, .bool false, .bool false], .string ⟨#[98, 97, 100]⟩, .string largeT] (by rfl) rfl rfl (by (try simp only [List.map_toArray, List.map_cons, List.map_nil]); first | done | rfl) ?_
    refine (is_ref largeT).mono ?_
    rintro e w20 ⟨rfl, hs⟩
    refine ⟨_, rfl, ?_⟩
    replace HB := Aside0.mk (below_step HB.out hs)
    replace Va := Aside0.mk (blk_below Va.out hs)
    replace HCb := Aside0.mk (Kd.C_below HCb.out hs)
    replace Vb := Aside0.mk (blk_below Vb.out hs)
    replace HCc := Aside0.mk (Kd.C_below HCc.out hs)
    replace Vc := Aside0.mk (blk_below Vc.out hs)
    clear hs
    refine hK.out _ _ (celL Va.out) (fun hHeld => ?_)
    clear hK K
    refine norm_ (a' := ?_) ?_ ?_
    rotate_left
    ·show Act.put _ (some 100) _ = _
     simp only [Act.put, List.setIfInBounds_toArray, List.set_cons_zero, List.set_cons_succ, i64_w, i32_w]
     rfl
    refine pure_ (i := 12) (N := some 101) (v := ?_) (a' := ?_) #[t,t,t,t,t,t,t,t,t,t,t,t,t,f,f,f,f,f,f,f,f,f,f,f,f,f,f] rfl rfl (any_of HT_.out (by kernel_rfl)) (fun _ _ _ h => h) (Or.inl ⟨by rfl, ?_⟩) ?_ ?_
    rotate_left
    ·intro w'
     go_simp
     with_reducible rfl
    rotate_left
    ·simp only [Act.put, List.setIfInBounds_toArray, List.set_cons_zero, List.set_cons_succ, i64_w, i32_w]
     rfl
    refine pure_ (i := 13) (N := some 102) (v := ?_) (a' := ?_) #[t,t,t,t,t,t,t,t,t,t,t,t,t,t,f,f,f,f,f,f,f,f,f,f,f,f,f] rfl rfl (any_of HT_.out (by kernel_rfl)) (fun _ _ _ h => h) (Or.inl ⟨by rfl, ?_⟩) ?_ ?_
    rotate_left
    ·intro w'
     go_simp
     with_reducible rfl
    rotate_left
    ·simp only [Act.put, List.setIfInBounds_toArray, List.set_cons_zero, List.set_cons_succ, i64_w, i32_w]
     rfl
    refine pure_ (i := 14) (N := some 103) (v := ?_) (a' := ?_) #[t,t,t,t,t,t,t,t,t,t,t,t,t,t,t,f,f,f,f,f,f,f,f,f,f,f,f] rfl rfl (any_of HT_.out (by kernel_rfl)) (fun _ _ _ h => h) (Or.inl ⟨by rfl, ?_⟩) ?_ ?_
    rotate_left
    ·intro w'
     go_simp
     with_reducible rfl
    rotate_left
    ·simp only [Act.put, List.setIfInBounds_toArray, List.set_cons_zero, List.set_cons_succ, i64_w, i32_w]
     rfl
    refine pure_ (i := 15) (N := some 104) (v := ?_) (a' := ?_) #[t,t,t,t,t,t,t,t,t,t,t,t,t,t,t,t,f,f,f,f,f,f,f,f,f,f,f] rfl rfl (any_of HT_.out (by kernel_rfl)) (fun _ _ _ h => h) (Or.inl ⟨by rfl, ?_⟩) ?_ ?_
    rotate_left
    ·intro w'
     go_simp
     with_reducible rfl
    rotate_left
    ·simp only [Act.put, List.setIfInBounds_toArray, List.set_cons_zero, List.set_cons_succ, i64_w, i32_w]
     rfl
    refine pure_ (i := 16) (N := some 105) (v := ?_) (a' := ?_) #[t,t,t,t,t,t,t,t,t,t,t,t,t,t,t,t,t,f,f,f,f,f,f,f,f,f,f] rfl rfl (any_of HT_.out (by kernel_rfl)) (fun _ _ _ h => h) (Or.inl ⟨by rfl, ?_⟩) ?_ ?_
    rotate_left
    ·intro w'
     go_simp
     with_reducible rfl
    rotate_left
    ·simp only [Act.put, List.setIfInBounds_toArray, List.set_cons_zero, List.set_cons_succ, i64_w, i32_w]
     rfl
    refine pure_ (i := 17) (N := some 106) (v := undef) (a' := ?_) #[t,t,t,t,t,t,t,t,t,t,t,t,t,t,t,t,t,t,f,f,f,f,f,f,f,f,f] rfl rfl (any_of HT_.out (by kernel_rfl)) (fun _ _ _ h => h) (Or.inr ⟨by rfl, rfl⟩) ?_ ?_
    rotate_left
    ·simp only [Act.put, List.setIfInBounds_toArray, List.set_cons_zero, List.set_cons_succ, i64_w, i32_w]
     rfl
    refine pure_ (i := 18) (N := some 107) (v := undef) (a' := ?_) #[t,t,t,t,t,t,t,t,t,t,t,t,t,t,t,t,t,t,t,f,f,f,f,f,f,f,f] rfl rfl (any_of HT_.out (by kernel_rfl)) (fun _ _ _ h => h) (Or.inr ⟨by rfl, rfl⟩) ?_ ?_
    rotate_left
    ·simp only [Act.put, List.setIfInBounds_toArray, List.set_cons_zero, List.set_cons_succ, i64_w, i32_w]
     rfl
    refine pure_ (i := 19) (N := some 108) (v := undef) (a' := ?_) #[t,t,t,t,t,t,t,t,t,t,t,t,t,t,t,t,t,t,t,t,f,f,f,f,f,f,f] rfl rfl (any_of HT_.out (by kernel_rfl)) (fun _ _ _ h => h) (Or.inr ⟨by rfl, rfl⟩) ?_ ?_
    rotate_left
    ·simp only [Act.put, List.setIfInBounds_toArray, List.set_cons_zero, List.set_cons_succ, i64_w, i32_w]
     rfl
    refine pure_ (i := 20) (N := some 109) (v := undef) (a' := ?_) #[t,t,t,t,t,t,t,t,t,t,t,t,t,t,t,t,t,t,t,t,t,f,f,f,f,f,f] rfl rfl (any_of HT_.out (by kernel_rfl)) (fun _ _ _ h => h) (Or.inr ⟨by rfl, rfl⟩) ?_ ?_
    rotate_left
    ·simp only [Act.put, List.setIfInBounds_toArray, List.set_cons_zero, List.set_cons_succ, i64_w, i32_w]
     rfl
    refine pure_ (i := 21) (N := some 110) (v := undef) (a' := ?_) #[t,t,t,t,t,t,t,t,t,t,t,t,t,t,t,t,t,t,t,t,t,t,f,f,f,f,f] rfl rfl (any_of HT_.out (by kernel_rfl)) (fun _ _ _ h => h) (Or.inr ⟨by rfl, rfl⟩) ?_ ?_
    rotate_left
    ·simp only [Act.put, List.setIfInBounds_toArray, List.set_cons_zero, List.set_cons_succ, i64_w, i32_w]
     rfl
    refine pure_ (i := 22) (N := some 111) (v := undef) (a' := ?_) #[t,t,t,t,t,t,t,t,t,t,t,t,t,t,t,t,t,t,t,t,t,t,t,f,f,f,f] rfl rfl (any_of HT_.out (by kernel_rfl)) (fun _ _ _ h => h) (Or.inr ⟨by rfl, rfl⟩) ?_ ?_
    rotate_left
    ·simp only [Act.put, List.setIfInBounds_toArray, List.set_cons_zero, List.set_cons_succ, i64_w, i32_w]
     rfl
    refine pure_ (i := 23) (N := some 112) (v := undef) (a' := ?_) #[t,t,t,t,t,t,t,t,t,t,t,t,t,t,t,t,t,t,t,t,t,t,t,t,f,f,f] rfl rfl (any_of HT_.out (by kernel_rfl)) (fun _ _ _ h => h) (Or.inr ⟨by rfl, rfl⟩) ?_ ?_
    rotate_left
    ·simp only [Act.put, List.setIfInBounds_toArray, List.set_cons_zero, List.set_cons_succ, i64_w, i32_w]
     rfl
    refine pure_ (i := 24) (N := some 113) (v := ?_) (a' := ?_) #[t,t,t,t,t,t,t,t,t,t,t,t,t,t,t,t,t,t,t,t,t,t,t,t,t,f,f] rfl rfl (any_of HT_.out (by kernel_rfl)) (fun _ _ _ h => h) (Or.inl ⟨by rfl, ?_⟩) ?_ ?_
    rotate_left
    ·intro w'
     go_simp
     with_reducible rfl
    rotate_left
    ·simp only [Act.put, List.setIfInBounds_toArray, List.set_cons_zero, List.set_cons_succ, i64_w, i32_w]
     rfl
    refine pure_ (i := 25) (N := some 114) (v := ?_) (a' := ?_) #[t,t,t,t,t,t,t,t,t,t,t,t,t,t,t,t,t,t,t,t,t,t,t,t,t,t,f] rfl rfl (any_of HT_.out (by kernel_rfl)) (fun _ _ _ h => h) (Or.inl ⟨by rfl, ?_⟩) ?_ ?_
    rotate_left
    ·intro w'
     go_simp
     with_reducible rfl
    rotate_left
    ·simp only [Act.put, List.setIfInBounds_toArray, List.set_cons_zero, List.set_cons_succ, i64_w, i32_w]
     rfl
    refine pure_ (i := 26) (N := some 4) (v := ?_) (a' := ?_) #[t,t,t,t,t,t,t,t,t,t,t,t,t,t,t,t,t,t,t,t,t,t,t,t,t,t,t] rfl rfl (any_of HT_.out (by kernel_rfl)) (fun _ _ _ h => h) (Or.inl ⟨by rfl, ?_⟩) ?_ ?_
    rotate_left
    ·intro w'
     go_simp
     with_reducible rfl
    rotate_left
    ·simp only [Act.put, List.setIfInBounds_toArray, List.set_cons_zero, List.set_cons_succ, i64_w, i32_w]
     rfl
    refine done_ (done_of HT_.out (by kernel_rfl)) ?_
    try go_wp2
    go_ret
    exact ⟨rfl, HB.out⟩
   ·have k1 : ((0 : Int) ≤ kc) = False := eq_false hk
    have k2 : decide ((0 : Int) ≤ kc) = false := decide_eq_false hk
    have e := next_crlf l10 (by omega) [] (N : Int)
    have hk1 : kc = -1 := by have h := (okX_line (wordsOf next)).2.1; rw [HQ.out.2.2.2.2] at h; rcases h with h | h; exact h; exact absurd h.1 hk
    have e1 : (lineX (wordsOf next)).2 = -1 := HQ.out.2.2.2.2.trans hk1
    unfold wordsOf at e1
    rw [if_pos e1] at e
    have e2 := HQ.out.1.symm.trans e
    have hd : db = dc := by rw [← HQ.out.2.2.2.1, ← HQ.out.2.1, e2]; rfl
    have hf : fb = true := by rw [← HQ.out.2.2.1, e2]
    clear e e1 e2 HQ
    subst hf
    obtain rfl := hd
    clear HI
    clear ra0 ra1 ra2 ra3 ra4 ra5 ra6 ra7 ra8 ra9 ra10 ra11
    clear rb0 rb1 rb2 rb3 rb4 rb5 rb6 rb7 rb8 rb9 rb10 rb11
    clear rc0 rc1 rc2 rc3 rc4 rc5 rc6 rc7 rc8 rc9 rc10 rc11
    refine start_ (n := 27) (S := fun w' => C12 w' (w14.heap.size) (.string ⟨#[98, 97, 100]⟩) (.string largeT) (.slice A3 0 c3) (.string ez) (.int .u32 0) (.int .i64 0) (.int .u64 0) (.int .u64 0) (.bool false) (.bool false) (.bool false) (.bool false) ∧ C12 w' (w16.heap.size) (.string db.what) (.string db.verb) (.slice A4 db.keys.length c4) (.string db.data) (.int .u32 db.flags) (.int .i64 db.exp) (.int .u64 db.cas) (.int .u64 db.by_) (.bool db.withCas) (.bool db.withTouch) (.bool db.down) (.bool db.quiet) ∧ C12 w' (w18.heap.size) (.string db.what) (.string db.verb) (.slice A5 db.keys.length c5) (.string db.data) (.int .u32 db.flags) (.int .i64 db.exp) (.int .u64 db.cas) (.int .u64 db.by_) (.bool db.withCas) (.bool db.withTouch) (.bool db.down) (.bool db.quiet)) (ds := []) #[f,f,f,f,f,f,f,f,f,f,f,f,f,f,f,f,f,f,f,f,f,f,f,f,f,f,f] (by kernel_rfl) rfl rfl ⟨celL Va.out, celL Vb.out, celL Vc.out⟩ (fun hHeld => ?_)
    refine with_tabW cellaretlaw18_ParseBig.tab19 cellaretlaw18_ParseBig.bits19 (fun HT_ HW_ => ?_)
    replace HB := Aside0.mk (below_drew1 HB.out)
    replace Va := Aside0.mk (blk_drew Va.out)
    replace HCb := Aside0.mk (Kd.C_drew HCb.out)
    replace Vb := Aside0.mk (blk_drew Vb.out)
    replace HCc := Aside0.mk (Kd.C_drew HCc.out)
    replace Vc := Aside0.mk (blk_drew Vc.out)
    refine pure_ (i := 0) (N := some 89) (v := ?_) (a' := ?_) #[t,f,f,f,f,f,f,f,f,f,f,f,f,f,f,f,f,f,f,f,f,f,f,f,f,f,f] rfl rfl (any_of HT_.out (by kernel_rfl)) (fun _ _ _ h => h) (Or.inl ⟨by rfl, ?_⟩) ?_ ?_
    rotate_left
    ·intro w'
     go_simp
     with_reducible rfl
    rotate_left
    ·simp only [Act.put, List.setIfInBounds_toArray, List.set_cons_zero, List.set_cons_succ, i64_w, i32_w]
     rfl
    refine pure_ (i := 1) (N := some 90) (v := ?_) (a' := ?_) #[t,t,f,f,f,f,f,f,f,f,f,f,f,f,f,f,f,f,f,f,f,f,f,f,f,f,f] rfl rfl (any_of HT_.out (by kernel_rfl)) (fun _ _ _ h => h) (Or.inl ⟨by rfl, ?_⟩) ?_ ?_
    rotate_left
    ·intro w'
     go_simp
     with_reducible rfl
    rotate_left
    ·simp only [Act.put, List.setIfInBounds_toArray, List.set_cons_zero, List.set_cons_succ, i64_w, i32_w]
     rfl
    refine pure_ (i := 2) (N := some 91) (v := ?_) (a' := ?_) #[t,t,t,f,f,f,f,f,f,f,f,f,f,f,f,f,f,f,f,f,f,f,f,f,f,f,f] rfl rfl (any_of HT_.out (by kernel_rfl)) (fun _ _ _ h => h) (Or.inl ⟨by rfl, ?_⟩) ?_ ?_
    rotate_left
    ·intro w'
     go_simp
     with_reducible rfl
    rotate_left
    ·simp only [Act.put, List.setIfInBounds_toArray, List.set_cons_zero, List.set_cons_succ, i64_w, i32_w]
     rfl
    refine pure_ (i := 3) (N := some 92) (v := ?_) (a' := ?_) #[t,t,t,t,f,f,f,f,f,f,f,f,f,f,f,f,f,f,f,f,f,f,f,f,f,f,f] rfl rfl (any_of HT_.out (by kernel_rfl)) (fun _ _ _ h => h) (Or.inl ⟨by rfl, ?_⟩) ?_ ?_
    rotate_left
    ·intro w'
     go_simp
     with_reducible rfl
    rotate_left
    ·simp only [Act.put, List.setIfInBounds_toArray, List.set_cons_zero, List.set_cons_succ, i64_w, i32_w]
     rfl
    refine pure_ (i := 4) (N := some 93) (v := ?_) (a' := ?_) #[t,t,t,t,t,f,f,f,f,f,f,f,f,f,f,f,f,f,f,f,f,f,f,f,f,f,f] rfl rfl (any_of HT_.out (by kernel_rfl)) (fun _ _ _ h => h) (Or.inl ⟨by rfl, ?_⟩) ?_ ?_
    rotate_left
    ·intro w'
     go_simp
     with_reducible rfl
    rotate_left
    ·simp only [Act.put, List.setIfInBounds_toArray, List.set_cons_zero, List.set_cons_succ, i64_w, i32_w]
     rfl
    refine pure_ (i := 5) (N := some 94) (v := ?_) (a' := ?_) #[t,t,t,t,t,t,f,f,f,f,f,f,f,f,f,f,f,f,f,f,f,f,f,f,f,f,f] rfl rfl (any_of HT_.out (by kernel_rfl)) (fun _ _ _ h => h) (Or.inl ⟨by rfl, ?_⟩) ?_ ?_
    rotate_left
    ·intro w'
     go_simp
     with_reducible rfl
    rotate_left
    ·simp only [Act.put, List.setIfInBounds_toArray, List.set_cons_zero, List.set_cons_succ, i64_w, i32_w]
     rfl
    refine pure_ (i := 6) (N := some 95) (v := ?_) (a' := ?_) #[t,t,t,t,t,t,t,f,f,f,f,f,f,f,f,f,f,f,f,f,f,f,f,f,f,f,f] rfl rfl (any_of HT_.out (by kernel_rfl)) (fun _ _ _ h => h) (Or.inl ⟨by rfl, ?_⟩) ?_ ?_
    rotate_left
    ·intro w'
     go_simp
     with_reducible rfl
    rotate_left
    ·simp only [Act.put, List.setIfInBounds_toArray, List.set_cons_zero, List.set_cons_succ, i64_w, i32_w]
     rfl
    refine pure_ (i := 7) (N := some 96) (v := ?_) (a' := ?_) #[t,t,t,t,t,t,t,t,f,f,f,f,f,f,f,f,f,f,f,f,f,f,f,f,f,f,f] rfl rfl (any_of HT_.out (by kernel_rfl)) (fun _ _ _ h => h) (Or.inl ⟨by rfl, ?_⟩) ?_ ?_
    rotate_left
    ·intro w'
     go_simp
     with_reducible rfl
    rotate_left
    ·simp only [Act.put, List.setIfInBounds_toArray, List.set_cons_zero, List.set_cons_succ, i64_w, i32_w]
     rfl
    refine pure_ (i := 8) (N := some 97) (v := ?_) (a' := ?_) #[t,t,t,t,t,t,t,t,t,f,f,f,f,f,f,f,f,f,f,f,f,f,f,f,f,f,f] rfl rfl (any_of HT_.out (by kernel_rfl)) (fun _ _ _ h => h) (Or.inl ⟨by rfl, ?_⟩) ?_ ?_
    rotate_left
    ·intro w'
     go_simp
     with_reducible rfl
    rotate_left
    ·simp only [Act.put, List.setIfInBounds_toArray, List.set_cons_zero, List.set_cons_succ, i64_w, i32_w]
     rfl
    refine pure_ (i := 9) (N := some 98) (v := ?_) (a' := ?_) #[t,t,t,t,t,t,t,t,t,t,f,f,f,f,f,f,f,f,f,f,f,f,f,f,f,f,f] rfl rfl (any_of HT_.out (by kernel_rfl)) (fun _ _ _ h => h) (Or.inl ⟨by rfl, ?_⟩) ?_ ?_
    rotate_left
    ·intro w'
     go_simp
     with_reducible rfl
    rotate_left
    ·simp only [Act.put, List.setIfInBounds_toArray, List.set_cons_zero, List.set_cons_succ, i64_w, i32_w]
     rfl
    refine take_ (i := 10) (N := some 99) (v := ?_) (a' := ?_) #[t,t,t,t,t,t,t,t,t,t,t,f,f,f,f,f,f,f,f,f,f,f,f,f,f,f,f] rfl rfl (take_ofW HT_.out HW_.out (by kernel_rfl)) (fun _ _ _ h => h) (Or.inl ⟨by rfl, ?_⟩) hHeld ?_ ?_
    rotate_left
    ·rintro w' ⟨⟨s0, s1, s2, s3, s4, s5, s6, s7, s8, s9, s10, s11⟩, ⟨s12, s13, s14, s15, s16, s17, s18, s19, s20, s21, s22, s23⟩, ⟨s24, s25, s26, s27, s28, s29, s30, s31, s32, s33, s34, s35⟩⟩
     go_simp
     with_reducible rfl
    rotate_left
    ·simp only [Act.put, List.setIfInBounds_toArray, List.set_cons_zero, List.set_cons_succ, i64_w, i32_w]
     rfl
    refine one_ (i := 11) (N := some 100) #[t,t,t,t,t,t,t,t,t,t,t,t,f,f,f,f,f,f,f,f,f,f,f,f,f,f,f] rfl rfl (one_of HT_.out (by kernel_rfl)) (by decide) (fun K hK => ?_)
    refine goes_ Tryz.func18 (by kernel_rfl) rfl #[.agg #[.string ⟨#[98, 97, 100]⟩, .string largeT, .slice A3 0 c3, .string ez, .int .u32 0, .int .i64 0, .int .u64 0, .int .u64 0, .bool false, .bool false, .bool false, .bool false], .string ⟨#[98, 97, 100]⟩, .string largeT] (by rfl) rfl rfl (by (try simp only [List.map_toArray, List.map_cons, List.map_nil]); first | done | rfl) ?_
    refine (is_ref largeT).mono ?_
    rintro e w20 ⟨rfl, hs⟩
    refine ⟨_, rfl, ?_⟩
    replace HB := Aside0.mk (below_step HB.out hs)
    replace Va := Aside0.mk (blk_below Va.out hs)
    replace HCb := Aside0.mk (Kd.C_below HCb.out hs)
    replace Vb := Aside0.mk (blk_below Vb.out hs)
    replace HCc := Aside0.mk (Kd.C_below HCc.out hs)
    replace Vc := Aside0.mk (blk_below Vc.out hs)
    clear hs
    refine hK.out _ _ ⟨celL Va.out, celL Vb.out, celL Vc.out⟩ (fun hHeld => ?_)
    clear hK K
    refine norm_ (a' := ?_) ?_ ?_
    rotate_left
    ·show Act.put _ (some 100) _ = _
     simp only [Act.put, List.setIfInBounds_toArray, List.set_cons_zero, List.set_cons_succ, i64_w, i32_w]
     rfl
    refine pure_ (i := 12) (N := some 101) (v := ?_) (a' := ?_) #[t,t,t,t,t,t,t,t,t,t,t,t,t,f,f,f,f,f,f,f,f,f,f,f,f,f,f] rfl rfl (any_of HT_.out (by kernel_rfl)) (fun _ _ _ h => h) (Or.inl ⟨by rfl, ?_⟩) ?_ ?_
    rotate_left
    ·intro w'
     go_simp
     with_reducible rfl
    rotate_left
    ·simp only [Act.put, List.setIfInBounds_toArray, List.set_cons_zero, List.set_cons_succ, i64_w, i32_w]
     rfl
    refine pure_ (i := 13) (N := some 102) (v := ?_) (a' := ?_) #[t,t,t,t,t,t,t,t,t,t,t,t,t,t,f,f,f,f,f,f,f,f,f,f,f,f,f] rfl rfl (any_of HT_.out (by kernel_rfl)) (fun _ _ _ h => h) (Or.inl ⟨by rfl, ?_⟩) ?_ ?_
    rotate_left
    ·intro w'
     go_simp
     with_reducible rfl
    rotate_left
    ·simp only [Act.put, List.setIfInBounds_toArray, List.set_cons_zero, List.set_cons_succ, i64_w, i32_w]
     rfl
    refine pure_ (i := 14) (N := some 103) (v := ?_) (a' := ?_) #[t,t,t,t,t,t,t,t,t,t,t,t,t,t,t,f,f,f,f,f,f,f,f,f,f,f,f] rfl rfl (any_of HT_.out (by kernel_rfl)) (fun _ _ _ h => h) (Or.inl ⟨by rfl, ?_⟩) ?_ ?_
    rotate_left
    ·intro w'
     go_simp
     with_reducible rfl
    rotate_left
    ·simp only [Act.put, List.setIfInBounds_toArray, List.set_cons_zero, List.set_cons_succ, i64_w, i32_w]
     rfl
    refine pure_ (i := 15) (N := some 104) (v := ?_) (a' := ?_) #[t,t,t,t,t,t,t,t,t,t,t,t,t,t,t,t,f,f,f,f,f,f,f,f,f,f,f] rfl rfl (any_of HT_.out (by kernel_rfl)) (fun _ _ _ h => h) (Or.inl ⟨by rfl, ?_⟩) ?_ ?_
    rotate_left
    ·intro w'
     go_simp
     with_reducible rfl
    rotate_left
    ·simp only [Act.put, List.setIfInBounds_toArray, List.set_cons_zero, List.set_cons_succ, i64_w, i32_w]
     rfl
    refine pure_ (i := 16) (N := some 105) (v := ?_) (a' := ?_) #[t,t,t,t,t,t,t,t,t,t,t,t,t,t,t,t,t,f,f,f,f,f,f,f,f,f,f] rfl rfl (any_of HT_.out (by kernel_rfl)) (fun _ _ _ h => h) (Or.inl ⟨by rfl, ?_⟩) ?_ ?_
    rotate_left
    ·intro w'
     go_simp
     with_reducible rfl
    rotate_left
    ·simp only [Act.put, List.setIfInBounds_toArray, List.set_cons_zero, List.set_cons_succ, i64_w, i32_w]
     rfl
    refine pure_ (i := 17) (N := some 106) (v := ?_) (a' := ?_) #[t,t,t,t,t,t,t,t,t,t,t,t,t,t,t,t,t,t,f,f,f,f,f,f,f,f,f] rfl rfl (any_of HT_.out (by kernel_rfl)) (fun _ _ _ h => h) (Or.inl ⟨by rfl, ?_⟩) ?_ ?_
    rotate_left
    ·intro w'
     go_simp
     with_reducible rfl
    rotate_left
    ·simp only [Act.put, List.setIfInBounds_toArray, List.set_cons_zero, List.set_cons_succ, i64_w, i32_w]
     rfl
    refine pure_ (i := 18) (N := some 107) (v := ?_) (a' := ?_) #[t,t,t,t,t,t,t,t,t,t,t,t,t,t,t,t,t,t,t,f,f,f,f,f,f,f,f] rfl rfl (any_of HT_.out (by kernel_rfl)) (fun _ _ _ h => h) (Or.inl ⟨by rfl, ?_⟩) ?_ ?_
    rotate_left
    ·intro w'
     go_simp
     with_reducible rfl
    rotate_left
    ·simp only [Act.put, List.setIfInBounds_toArray, List.set_cons_zero, List.set_cons_succ, i64_w, i32_w]
     rfl
    refine take_ (i := 19) (N := some 108) (v := ?_) (a' := ?_) #[t,t,t,t,t,t,t,t,t,t,t,t,t,t,t,t,t,t,t,t,f,f,f,f,f,f,f] rfl rfl (take_ofW HT_.out HW_.out (by kernel_rfl)) (fun _ _ _ h => h) (Or.inl ⟨by rfl, ?_⟩) hHeld ?_ ?_
    rotate_left
    ·rintro w' ⟨⟨s0, s1, s2, s3, s4, s5, s6, s7, s8, s9, s10, s11⟩, ⟨s12, s13, s14, s15, s16, s17, s18, s19, s20, s21, s22, s23⟩, ⟨s24, s25, s26, s27, s28, s29, s30, s31, s32, s33, s34, s35⟩⟩
     go_simp
     with_reducible rfl
    rotate_left
    ·simp only [Act.put, List.setIfInBounds_toArray, List.set_cons_zero, List.set_cons_succ, i64_w, i32_w]
     rfl
    refine take_ (i := 21) (N := some 110) (v := ?_) (a' := ?_) #[t,t,t,t,t,t,t,t,t,t,t,t,t,t,t,t,t,t,t,t,f,t,f,f,f,f,f] rfl rfl (take_ofW HT_.out HW_.out (by kernel_rfl)) (fun _ _ _ h => h) (Or.inl ⟨by rfl, ?_⟩) hHeld ?_ ?_
    rotate_left
    ·rintro w' ⟨⟨s0, s1, s2, s3, s4, s5, s6, s7, s8, s9, s10, s11⟩, ⟨s12, s13, s14, s15, s16, s17, s18, s19, s20, s21, s22, s23⟩, ⟨s24, s25, s26, s27, s28, s29, s30, s31, s32, s33, s34, s35⟩⟩
     go_simp
     with_reducible rfl
    rotate_left
    ·simp only [Act.put, List.setIfInBounds_toArray, List.set_cons_zero, List.set_cons_succ, i64_w, i32_w]
     rfl
    refine one_ (i := 20) (N := some 109) #[t,t,t,t,t,t,t,t,t,t,t,t,t,t,t,t,t,t,t,t,t,t,f,f,f,f,f] rfl rfl (one_of HT_.out (by kernel_rfl)) (by decide) (fun K hK => ?_)
    refine goes_ Tryz.func8 (by kernel_rfl) rfl #[.agg #[.string db.what, .string db.verb, .slice A4 db.keys.length c4, .string db.data, .int .u32 db.flags, .int .i64 db.exp, .int .u64 db.cas, .int .u64 db.by_, .bool db.withCas, .bool db.withTouch, .bool db.down, .bool db.quiet]] (by rfl) rfl rfl (by (try simp only [List.map_toArray, List.map_cons, List.map_nil]); first | done | rfl) ?_
    refine (cmd_ref db hkb HCb.out hl4).mono ?_
    rintro e w21 ⟨A6, c6, rfl, hl6, hC, hs⟩
    refine ⟨_, rfl, ?_⟩
    replace HB := Aside0.mk (below_step HB.out hs)
    replace Va := Aside0.mk (blk_below Va.out hs)
    replace HCb := Aside0.mk (Kd.C_below HCb.out hs)
    replace Vb := Aside0.mk (blk_below Vb.out hs)
    replace HCc := Aside0.mk (Kd.C_below HCc.out hs)
    replace Vc := Aside0.mk (blk_below Vc.out hs)
    have HC6 := Aside0.mk (hC)
    clear hs hC
    refine hK.out _ _ ⟨celL Va.out, celL Vb.out, celL Vc.out⟩ (fun hHeld => ?_)
    clear hK K
    refine norm_ (a' := ?_) ?_ ?_
    rotate_left
    ·show Act.put _ (some 109) _ = _
     simp only [Act.put, List.setIfInBounds_toArray, List.set_cons_zero, List.set_cons_succ, i64_w, i32_w]
     rfl
    refine one_ (i := 22) (N := some 111) #[t,t,t,t,t,t,t,t,t,t,t,t,t,t,t,t,t,t,t,t,t,t,t,f,f,f,f] rfl rfl (one_of HT_.out (by kernel_rfl)) (by decide) (fun K hK => ?_)
    refine goes_ Tryz.func16 (by kernel_rfl) rfl #[cdV db (.slice A6 db.keys.length c6), .agg #[.string db.what, .string db.verb, .slice A5 db.keys.length c5, .string db.data, .int .u32 db.flags, .int .i64 db.exp, .int .u64 db.cas, .int .u64 db.by_, .bool db.withCas, .bool db.withTouch, .bool db.down, .bool db.quiet]] (by rfl) rfl rfl (by (try simp only [List.map_toArray, List.map_cons, List.map_nil]); first | done | rfl) ?_
    refine (same_ref db (by omega) HC6.out hl6 HCc.out hl5).mono ?_
    rintro e w22 ⟨rfl, hs⟩
    refine ⟨_, rfl, ?_⟩
    replace HB := Aside0.mk (below_step HB.out hs)
    replace Va := Aside0.mk (blk_below Va.out hs)
    replace HCb := Aside0.mk (Kd.C_below HCb.out hs)
    replace Vb := Aside0.mk (blk_below Vb.out hs)
    replace HCc := Aside0.mk (Kd.C_below HCc.out hs)
    replace Vc := Aside0.mk (blk_below Vc.out hs)
    replace HC6 := Aside0.mk (Kd.C_below HC6.out hs)
    clear hs
    refine hK.out _ _ ⟨celL Va.out, celL Vb.out, celL Vc.out⟩ (fun hHeld => ?_)
    clear hK K
    refine norm_ (a' := ?_) ?_ ?_
    rotate_left
    ·show Act.put _ (some 111) _ = _
     simp only [Act.put, List.setIfInBounds_toArray, List.set_cons_zero, List.set_cons_succ, i64_w, i32_w]
     rfl
    refine pure_ (i := 23) (N := some 112) (v := ?_) (a' := ?_) #[t,t,t,t,t,t,t,t,t,t,t,t,t,t,t,t,t,t,t,t,t,t,t,t,f,f,f] rfl rfl (any_of HT_.out (by kernel_rfl)) (fun _ _ _ h => h) (Or.inl ⟨by rfl, ?_⟩) ?_ ?_
    rotate_left
    ·intro w'
     go_simp
     with_reducible rfl
    rotate_left
    ·simp only [Act.put, List.setIfInBounds_toArray, List.set_cons_zero, List.set_cons_succ, i64_w, i32_w]
     rfl
    refine pure_ (i := 24) (N := some 113) (v := ?_) (a' := ?_) #[t,t,t,t,t,t,t,t,t,t,t,t,t,t,t,t,t,t,t,t,t,t,t,t,t,f,f] rfl rfl (any_of HT_.out (by kernel_rfl)) (fun _ _ _ h => h) (Or.inl ⟨by rfl, ?_⟩) ?_ ?_
    rotate_left
    ·intro w'
     go_simp
     with_reducible rfl
    rotate_left
    ·simp only [Act.put, List.setIfInBounds_toArray, List.set_cons_zero, List.set_cons_succ, i64_w, i32_w]
     rfl
    refine pure_ (i := 25) (N := some 114) (v := ?_) (a' := ?_) #[t,t,t,t,t,t,t,t,t,t,t,t,t,t,t,t,t,t,t,t,t,t,t,t,t,t,f] rfl rfl (any_of HT_.out (by kernel_rfl)) (fun _ _ _ h => h) (Or.inl ⟨by rfl, ?_⟩) ?_ ?_
    rotate_left
    ·intro w'
     go_simp
     with_reducible rfl
    rotate_left
    ·simp only [Act.put, List.setIfInBounds_toArray, List.set_cons_zero, List.set_cons_succ, i64_w, i32_w]
     rfl
    refine pure_ (i := 26) (N := some 4) (v := ?_) (a' := ?_) #[t,t,t,t,t,t,t,t,t,t,t,t,t,t,t,t,t,t,t,t,t,t,t,t,t,t,t] rfl rfl (any_of HT_.out (by kernel_rfl)) (fun _ _ _ h => h) (Or.inl ⟨by rfl, ?_⟩) ?_ ?_
    rotate_left
    ·intro w'
     go_simp
     with_reducible rfl
    rotate_left
    ·simp only [Act.put, List.setIfInBounds_toArray, List.set_cons_zero, List.set_cons_succ, i64_w, i32_w]
     rfl
    refine done_ (done_of HT_.out (by kernel_rfl)) ?_
    try go_wp2
    go_ret
    exact ⟨rfl, HB.out⟩
end Go.Proofs.YtfbhlbchmenloaaGreatDoor.O
namespace Go.Proofs.YtfbhlbchmenloaaGreatDoor.Pure
theorem ParseBig : True := trivial
end Go.Proofs.YtfbhlbchmenloaaGreatDoor.Pure
namespace Go.Proofs.YtfbhlbchmenloaaGreatDoor.H
open Go Go.RowKit Go.Proofs.YtfbhlbchmenloaaGreatDoorW.PrintWords
theorem cellaretlaw18_ParseBig.walk (_P : True) (a0 : Int) (a1 : ByteArray) (w : World) (HLD : LaidA w) (_w0 : (Lit.int .i64 a0).wf = true) (_w1 : a1.size ≤ 140737488351232) :
  Calls Tryz.prog 6 #[.int .i64 a0, .string a1] w fun e w' => e = .returned (.bool true) ∧ Below w.heap.size w w' := Go.Proofs.YtfbhlbchmenloaaGreatDoor.O.big_walk a0 a1 w HLD
end Go.Proofs.YtfbhlbchmenloaaGreatDoor.H
end
section
namespace Go.Proofs.YtfbhlbchmenloaaGreatDoor.parseBig
open Go.ChangeShapes Go.WideShapes Go.ChangeAt Go.RowKit Go.Proofs.YtfbhlbchmenloaaGreatDoor.R Go.Proofs.YtfbhlbchmenloaaGreatDoor.H
open Go.ChangeMaps (open_string shut_string)
set_option linter.unusedVariables false
set_option linter.unusedSimpArgs false
set_option maxRecDepth 100000 in
theorem contract (H : Type) (enc : TypeId × Value → H) (W : World) (base : Nat) (args : Array Value) (ds gs : List (DataW H)) (before : List MemPlace)
    (hval0 : ∀ (j : Nat) t v, Tryz.f6.params[j]? = some t → args[j]? = some v → Value.okWide Tryz.prog W .any base t v)
    (hW : DataW.Whole enc Tryz.prog Tryz.f6.params.toList Rows.parseBigSpec.vars false W args.toList ds gs before)
    (hsz0 : (DataW.weightsEach Tryz.prog (Tryz.f6.params.toList ++ Rows.parseBigSpec.plain.varTypes Tryz.prog) (ds ++ gs)).all (· ≤ reachBytes) = true)
    (HLD : LaidA W) :
    Calls Tryz.prog 6 args W fun e W' => ∃ v, e = .returned v ∧ Rows.parseBigSpec.post enc Tryz.prog Tryz.f6 false true false false W args v W' := by
  have hsz := hsz0
  have hval := hval0
  have hW' := hW
  obtain ⟨p, q, hA0, hV, rfl, hfz, hnd⟩ := hW
  have hA : DataW.TrodAll enc Tryz.prog W 0 (fun _ => true) true Tryz.f6.params.toList args.toList ds p := hA0
  rw [Tryz.params6] at hA hval hsz
  obtain ⟨v0, vs0, d0, ds0, p0, q0, hargs, rfl, rfl, h0, r0⟩ := trodAll_cons hA
  obtain ⟨v1, vs1, d1, ds1, p1, q1, rfl, rfl, rfl, h1, r1⟩ := trodAll_cons r0
  obtain ⟨rfl, rfl, rfl⟩ := trodAll_nil r1
  obtain rfl : args = #[v0, v1] := by cases args; simp_all
  obtain ⟨rfl, rfl⟩ := trodVars_none hV
  obtain ⟨a0, rfl, rfl, rfl, w0⟩ := open_int Tryz.underlying3 (hval 0 3 v0 rfl rfl) h0
  obtain ⟨a1, rfl, rfl, rfl, y1⟩ := open_string Tryz.underlying9 (hval 1 9 v1 rfl rfl) h1
  have w1 : a1.size ≤ 140737488351232 := by
    have z := sized_string hsz (j := 1) (t := 9) rfl rfl
    rw [Array.length_toList] at z
    exact z
  clear hA0 hval0 hsz0 hsz
  refine (Go.Proofs.YtfbhlbchmenloaaGreatDoor.H.cellaretlaw18_ParseBig.walk Go.Proofs.YtfbhlbchmenloaaGreatDoor.Pure.ParseBig a0 a1 W HLD w0 w1).mono fun e W' ⟨he, bel⟩ => ?_
  subst he
  exact ⟨_, rfl, _, _, _, [], _, [], hW', trodAll_mk1 (shut_bool Tryz.underlying4 _), (trodAll_cons_mk (shut_int Tryz.underlying3 w0) (trodAll_cons_mk (shut_string Tryz.underlying9 y1) trodAll_mk0)), rfl, bel.frame _, fun h => by cases h⟩
theorem reads (os : Os) {H : Type} (enc : TypeId × Value → H) : ∃ places, DataW.whole enc Tryz.prog ((laidWorld os).forCall (fun _ _ => 0) ⟨#[], #[.int .i64 0, .string ByteArray.empty], []⟩).memory Tryz.f6.params.toList Rows.parseBigSpec.vars false #[Value.int .i64 0, Value.string ByteArray.empty].toList 8 = some ([.lit (.int .i64 0), .lit (.string [])], [], places) :=
  ⟨[], by kernel_rfl⟩
set_option maxRecDepth 100000 in
theorem lifted (os : Os) (started : os.Started) (H : Type) (enc : TypeId × Value → H) (F : Stop.Interp) :
    ReturnsInHanded {} Tryz.checked os 6 .any ((OpenSpec.ofChange Rows.parseBigSpec).preRow enc Tryz.prog Tryz.f6 Rows.parseBigRow.domain false Rows.parseBigRow.laid) (((OpenSpec.ofChange Rows.parseBigSpec).at F).post enc Tryz.prog Tryz.f6 false true false false) := by
  obtain ⟨places, hx⟩ := reads os enc
  refine returnsInHanded_of_row (C := Tryz.checked) (s := OpenSpec.ofChange Rows.parseBigSpec) own started (by kernel_rfl) Tryz.func6
    (witness_row_atRef (enc := enc) (C := Tryz.checked) false (laidWorld os) #[.int .i64 0, .string ByteArray.empty] rfl (by kernel_rfl) (by kernel_rfl) (by kernel_rfl)
      (OpenSpec.preRow_of_cond 8 hx (by kernel_rfl) (fun k hk => by cases hk) (by kernel_rfl) (laid_met os _))) ?_
  intro W base args ds gs before hval hW _ _ hsz hL hsh _
  exact contract H enc W base args ds gs before hval hW hsz (laidA_of hL hsh)
theorem said : Rows.ParseBigSaid :=
  OpenClaim.holds_of_cond 6 Tryz.f6 rfl rfl rfl rfl rfl rfl rfl ⟨rfl, rfl, rfl, rfl, rfl⟩ rfl rfl rfl rfl rfl (by kernel_rfl) Tryz.func6 (by kernel_rfl)
    (of_decide_eq_true (by kernel_rfl)) (by unfold Func.isWrapper; first | (rw [if_pos (by decide +kernel)]; kernel_rfl) | (rw [if_neg (by decide +kernel)]; exact ⟨rfl, rfl⟩))
    (fun os started H enc _ F => by rw [OpenClaim.pre_eq_preRow]; exact lifted os started H enc F)
theorem plain (f : FuncId) (fn : Func) (hf : Tryz.pinned.checked.prog.funcNamed "cellaret/cellaretlaw18.ParseBig" = some f) (hfn : Tryz.pinned.checked.prog.funcs[f]? = some fn) :
    true = Tryz.pinned.checked.prog.looks [] ∧ ∀ (j : Nat) t, fn.params[j]? = some t → Tryz.pinned.checked.prog.wantsStandIn t = false := by
  obtain rfl : f = 6 := Option.some.inj ((show Tryz.prog.funcNamed "cellaret/cellaretlaw18.ParseBig" = some 6 by kernel_rfl).symm.trans hf) |>.symm
  obtain rfl : fn = Tryz.f6 := (Option.some.inj (Tryz.func6.symm.trans hfn)).symm
  refine ⟨by kernel_rfl, fun j t ht => ?_⟩
  rw [Tryz.params6] at ht
  have hm := Array.mem_of_getElem? ht
  have hm2 : t = 3 ∨ t = 9 := by simpa [or_comm, or_assoc] using hm
  rcases hm2 with rfl | rfl
  · exact (show Tryz.prog.wantsStandIn 3 = false by kernel_rfl)
  · exact (show Tryz.prog.wantsStandIn 9 = false by kernel_rfl)
theorem card : Rows.ParseBigCardSaid :=
  Claim7.holds_tied_plain_at .later [] _ _ _ _ said (fun _ h => by cases h) (by kernel_rfl) (fun _ h => by cases h) parseBig_row_tie rfl ⟨rfl, rfl⟩ (by kernel_rfl) rfl plain (by kernel_rfl)
end Go.Proofs.YtfbhlbchmenloaaGreatDoor.parseBig
namespace Go.Proofs.YtfbhlbchmenloaaGreatDoor
/-- The card, under a short name, for the claim. -/
theorem parseBig_holds : Rows.ParseBigCardSaid := parseBig.card
end Go.Proofs.YtfbhlbchmenloaaGreatDoor
end
