/-
  The law's own walk, its plain statement and its row: the law holds. Its condition: none beside the given row's own.
-/
import Derived.Test.YtfbhlbchmenloaaGreatDoorML4
import Derived.Test.YtfbhlbchmenloaaGreatDoorMB0
import Derived.Test.YtfbhlbchmenloaaGreatDoorMB2
import Derived.ShutString
import Derived.ChangeOld
import Derived.Below
import Derived.SizedLaws
section
namespace Go.Proofs.YtfbhlbchmenloaaGreatDoor.O
open Go Go.RowKit Go.Proofs.YtfbhlbchmenloaaGreatDoorW.PrintWords Go.Proofs.YtfbhlbchmenloaaGreatDoorW.PrintLast Go.Proofs.YtfbhlbchmenloaaGreatDoorW.PrintMore Go.Proofs.YtfbhlbchmenloaaGreatDoor.H Go.Proofs.YtfbhlbchmenloaaGreatDoor.L Go.Proofs.YtfbhlbchmenloaaGreatDoor.Pure
set_option linter.unusedVariables false
set_option linter.unusedSimpArgs false
theorem long_take {W : World} {A : Option Addr} {n m : Nat} {xs : List Int} (h : Kd.C (Kd.int .u8) W A n xs) (hm : m ≤ n) : Kd.C (Kd.int .u8) W A m (xs.take m) := by
 have h1 := h.1
 refine ⟨by rw [List.length_take]; omega, by have := h.2.1; omega, fun h0 => ?_⟩
 obtain ⟨ad, hA, hc⟩ := h.2.2 (by omega)
 refine ⟨ad, hA, fun j p hj => hc j p ?_⟩
 rw [List.getElem?_take] at hj
 split at hj
 ·exact hj
 ·cases hj
theorem calls_put12 {P : Program} {f : FuncId} {args : Array Value} {K : Ending → World → Prop} {W W0 : World} {g k : Nat} {ps : PS} {c0 c1 c2 c3 c4 c5 c6 c7 c8 c9 c10 c11 v0 v1 v2 v3 v4 v5 v6 v7 v8 v9 v10 v11 : Value} (hV : W.heap[k]? = some (.cells #[c0, c1, c2, c3, c4, c5, c6, c7, c8, c9, c10, c11] 29 (0, 0))) (hI : IsP W0 W g ps) (hB : Below W0.heap.size W0 W) (hne : g ≠ k) (hle : W0.heap.size ≤ k)
  (h : ∀ W' : World, W'.heap[k]? = some (.cells #[v0, v1, v2, v3, v4, v5, v6, v7, v8, v9, v10, v11] 29 (0, 0)) → IsP W0 W' g ps → Below W0.heap.size W0 W' → Calls P f args W' K) : Calls P f args ((((((((((((W.setCell ⟨k, 0, none⟩ v0).setCell ⟨k, 1, none⟩ v1).setCell ⟨k, 2, none⟩ v2).setCell ⟨k, 3, none⟩ v3).setCell ⟨k, 4, none⟩ v4).setCell ⟨k, 5, none⟩ v5).setCell ⟨k, 6, none⟩ v6).setCell ⟨k, 7, none⟩ v7).setCell ⟨k, 8, none⟩ v8).setCell ⟨k, 9, none⟩ v9).setCell ⟨k, 10, none⟩ v10).setCell ⟨k, 11, none⟩ v11) K :=
 h _ (putG hV) (sF (p := ⟨k, 11, none⟩) (sF (p := ⟨k, 10, none⟩) (sF (p := ⟨k, 9, none⟩) (sF (p := ⟨k, 8, none⟩) (sF (p := ⟨k, 7, none⟩) (sF (p := ⟨k, 6, none⟩) (sF (p := ⟨k, 5, none⟩) (sF (p := ⟨k, 4, none⟩) (sF (p := ⟨k, 3, none⟩) (sF (p := ⟨k, 2, none⟩) (sF (p := ⟨k, 1, none⟩) (sF (p := ⟨k, 0, none⟩) hI hne (tO hV) v0) hne (tS (p := ⟨k, 0, none⟩) (u := v0) (tO hV)) v1) hne (tS (p := ⟨k, 1, none⟩) (u := v1) (tS (p := ⟨k, 0, none⟩) (u := v0) (tO hV))) v2) hne (tS (p := ⟨k, 2, none⟩) (u := v2) (tS (p := ⟨k, 1, none⟩) (u := v1) (tS (p := ⟨k, 0, none⟩) (u := v0) (tO hV)))) v3) hne (tS (p := ⟨k, 3, none⟩) (u := v3) (tS (p := ⟨k, 2, none⟩) (u := v2) (tS (p := ⟨k, 1, none⟩) (u := v1) (tS (p := ⟨k, 0, none⟩) (u := v0) (tO hV))))) v4) hne (tS (p := ⟨k, 4, none⟩) (u := v4) (tS (p := ⟨k, 3, none⟩) (u := v3) (tS (p := ⟨k, 2, none⟩) (u := v2) (tS (p := ⟨k, 1, none⟩) (u := v1) (tS (p := ⟨k, 0, none⟩) (u := v0) (tO hV)))))) v5) hne (tS (p := ⟨k, 5, none⟩) (u := v5) (tS (p := ⟨k, 4, none⟩) (u := v4) (tS (p := ⟨k, 3, none⟩) (u := v3) (tS (p := ⟨k, 2, none⟩) (u := v2) (tS (p := ⟨k, 1, none⟩) (u := v1) (tS (p := ⟨k, 0, none⟩) (u := v0) (tO hV))))))) v6) hne (tS (p := ⟨k, 6, none⟩) (u := v6) (tS (p := ⟨k, 5, none⟩) (u := v5) (tS (p := ⟨k, 4, none⟩) (u := v4) (tS (p := ⟨k, 3, none⟩) (u := v3) (tS (p := ⟨k, 2, none⟩) (u := v2) (tS (p := ⟨k, 1, none⟩) (u := v1) (tS (p := ⟨k, 0, none⟩) (u := v0) (tO hV)))))))) v7) hne (tS (p := ⟨k, 7, none⟩) (u := v7) (tS (p := ⟨k, 6, none⟩) (u := v6) (tS (p := ⟨k, 5, none⟩) (u := v5) (tS (p := ⟨k, 4, none⟩) (u := v4) (tS (p := ⟨k, 3, none⟩) (u := v3) (tS (p := ⟨k, 2, none⟩) (u := v2) (tS (p := ⟨k, 1, none⟩) (u := v1) (tS (p := ⟨k, 0, none⟩) (u := v0) (tO hV))))))))) v8) hne (tS (p := ⟨k, 8, none⟩) (u := v8) (tS (p := ⟨k, 7, none⟩) (u := v7) (tS (p := ⟨k, 6, none⟩) (u := v6) (tS (p := ⟨k, 5, none⟩) (u := v5) (tS (p := ⟨k, 4, none⟩) (u := v4) (tS (p := ⟨k, 3, none⟩) (u := v3) (tS (p := ⟨k, 2, none⟩) (u := v2) (tS (p := ⟨k, 1, none⟩) (u := v1) (tS (p := ⟨k, 0, none⟩) (u := v0) (tO hV)))))))))) v9) hne (tS (p := ⟨k, 9, none⟩) (u := v9) (tS (p := ⟨k, 8, none⟩) (u := v8) (tS (p := ⟨k, 7, none⟩) (u := v7) (tS (p := ⟨k, 6, none⟩) (u := v6) (tS (p := ⟨k, 5, none⟩) (u := v5) (tS (p := ⟨k, 4, none⟩) (u := v4) (tS (p := ⟨k, 3, none⟩) (u := v3) (tS (p := ⟨k, 2, none⟩) (u := v2) (tS (p := ⟨k, 1, none⟩) (u := v1) (tS (p := ⟨k, 0, none⟩) (u := v0) (tO hV))))))))))) v10) hne (tS (p := ⟨k, 10, none⟩) (u := v10) (tS (p := ⟨k, 9, none⟩) (u := v9) (tS (p := ⟨k, 8, none⟩) (u := v8) (tS (p := ⟨k, 7, none⟩) (u := v7) (tS (p := ⟨k, 6, none⟩) (u := v6) (tS (p := ⟨k, 5, none⟩) (u := v5) (tS (p := ⟨k, 4, none⟩) (u := v4) (tS (p := ⟨k, 3, none⟩) (u := v3) (tS (p := ⟨k, 2, none⟩) (u := v2) (tS (p := ⟨k, 1, none⟩) (u := v1) (tS (p := ⟨k, 0, none⟩) (u := v0) (tO hV)))))))))))) v11) (below12 hB hle v0 v1 v2 v3 v4 v5 v6 v7 v8 v9 v10 v11)
theorem long_s4 (next : ByteArray) : nextR (psFeed ⟨[], true, .nil, 0⟩ (bytesOf (((⟨#[10]⟩ : ByteArray) ++ next) ++ (⟨#[10]⟩ : ByteArray)))) = nextR ⟨bytesOf next ++ 10 :: [], false, .nil, 0⟩ := by
 have e := next_skip (s := ⟨#[]⟩) (fun x hx => by cases hx) (bytesOf next ++ 10 :: []) .nil 0
 unfold psFeed
 rw [bytes_app, bytes_app, List.nil_append, List.append_assoc]
 exact e
theorem cutR_size (s : ByteArray) : (cutR s).size ≤ s.size := by
 unfold cutR
 rw [sos_size]
 have h := trimL_len (bytesOf s)
 rw [bytes_len] at h
 exact h
theorem trim_f (s : ByteArray) (hs : s.size ≤ 100000) : cellaretlaw18_trim.f s = some (cutR s) := by
 unfold cellaretlaw18_trim.f
 by_cases h0 : s.size = 0
 ·have e : s.data.toList = [] := List.eq_nil_of_length_eq_zero (by rw [len_eq]; exact h0)
  have e2 : s = ⟨#[]⟩ := ba_ext e
  subst e2
  rw [if_pos (by rw [tl])]
  rfl
 ·have hne : ¬ s.toList = [] := by
   rw [tl]
   intro e
   have := len_eq s
   rw [e] at this
   exact h0 this.symm
  have hw : wrap64 ((s.size : Int) - 1) = ((s.size - 1 : Nat) : Int) := by unfold wrap64; omega
  have hlt : s.size - 1 < s.size := by omega
  rw [if_neg hne, hw, if_pos (by omega), if_pos (by omega), bt_get s (s.size - 1) hlt]
  have hs2 : s = s.extract 0 (s.size - 1) ++ ⟨#[s[s.size - 1]'hlt]⟩ := by
   refine ba_ext ?_
   rw [ByteArray.data_append, Array.toList_append, Lib.extract_data, List.drop_zero, Nat.sub_zero]
   have hl := len_eq s
   show s.data.toList = s.data.toList.take (s.size - 1) ++ [s.data.toList[s.size - 1]'(by omega)]
   rw [← List.take_succ_eq_append_getElem (by omega), show s.size - 1 + 1 = s.data.toList.length by omega, List.take_length]
  have hbs : bytesOf s = bytesOf (s.extract 0 (s.size - 1)) ++ [((s[s.size - 1]'hlt).toNat : Int)] := by
   conv => lhs; rw [hs2]
   rw [bytes_app]
   rfl
  by_cases h13 : ((s[s.size - 1]'hlt).toNat : Int) = 13
  ·rw [if_pos h13, if_pos (by omega), Int.toNat_natCast]
   unfold cutR
   rw [hbs, h13, trim_cr, back_str]
  ·rw [if_neg h13]
   unfold cutR
   rw [hbs, trim_not _ _ (fun e => h13 (by rw [u8_nat] at e; rw [e]; rfl)), ← hbs, back_str]
theorem trim_ref (s : ByteArray) (hs : s.size ≤ 100000) (W : World) : Calls Tryz.prog 20 #[.string s] W fun e w' => e = .returned (.string (cutR s)) ∧ Below W.heap.size W w' :=
 (cellaretlaw18_trim.calls s _ W (trim_f s hs)).mono fun e w' h => ⟨h.1, h.2.below⟩
theorem long_zero {W : World} {A : Option Addr} {m : Nat} {l : List Int} (h : l.length = m) (h0 : m = 0) : Kd.C (Kd.int .u8) W A m l := ⟨h, by omega, fun h1 => absurd h1 (by omega)⟩
theorem add_add (a : Addr) (m n : Nat) : (a.add m).add n = a.add (m + n) := by
 unfold Addr.add
 by_cases h : m = 0
 ·subst h
  simp
 ·by_cases h2 : n = 0
  ·subst h2
   simp [h]
  ·rw [if_neg h, if_neg h2, if_neg (by omega)]
   simp only [Nat.add_assoc]
theorem long_drop {W : World} {A : Option Addr} {n m : Nat} {xs : List Int} (h : Kd.C (Kd.int .u8) W A n xs) (hm : m ≤ n) : Kd.C (Kd.int .u8) W (Option.map (fun x => x.add m) A) (n - m) (xs.drop m) := by
 have h1 := h.1
 refine ⟨by rw [List.length_drop]; omega, by have := h.2.1; omega, fun h0 => ?_⟩
 obtain ⟨ad, hA, hc⟩ := h.2.2 (by omega)
 subst hA
 refine ⟨ad.add m, rfl, fun j p hj => ?_⟩
 rw [List.getElem?_drop] at hj
 obtain ⟨cs, e1, e2, e3⟩ := hc (m + j) p hj
 refine ⟨cs, e1, e2, fun k u hu => ?_⟩
 rw [add_add, show m + (j * (Kd.int .u8).sz + k) = (m + j) * (Kd.int .u8).sz + k by show m + (j * 1 + k) = (m + j) * 1 + k; omega]
 exact e3 k u hu
theorem feed_refN {g : Nat} {ps : PS} {A : Option Addr} {c m : Nat} {l : List Int} {W0 W : World} (hm : l.length = m) (hI : IsP W0 W g ps) (hB : Below W0.heap.size W0 W) (HLD : LaidA W) (hr : Kd.C (Kd.int .u8) W A m l) (hc : m ≤ c) (hl : ps.b.length + l.length ≤ 140737488355328) :
  Calls Tryz.prog 13 #[.pointer (some ⟨g, 0, none⟩), .slice A m c] W fun e w' => e = .returned (.tuple #[]) ∧ IsP W0 w' g (psFeed ps l) ∧ Below W0.heap.size W0 w' ∧ KeepRow W w' g := by
 subst hm
 exact feed_ref hI hB HLD hr hc hl
theorem rep_idx (m : Nat) : idx10 (List.replicate m 120) = -1 := by
 unfold idx10 Lib.bytesOf
 rw [List.map_replicate]
 refine ib_none 10 _ fun x hx => ?_
 rw [List.eq_of_mem_replicate hx]
 decide
theorem rep_drop {i K : Nat} {XS : List Int} (hX : XS = List.replicate i 120) : idx10 (XS.drop K) = -1 := by
 subst hX
 rw [List.drop_replicate]
 exact rep_idx _
theorem rep_trim (m : Nat) : trimL (List.replicate m 120) = List.replicate m 120 := by
 cases m with
 | zero => rfl
 | succ m =>
  rw [List.replicate_succ']
  exact trim_not _ _ (by decide)
theorem rep_take {i K : Nat} {XS : List Int} (hX : XS = List.replicate i 120) (hK : K ≤ i) : XS.take K = List.replicate K 120 := by
 subst hX
 rw [List.take_replicate, Nat.min_eq_left hK]
theorem long_none {b : List Int} {m : Nat} (hb : b = List.replicate m 120) (h : m ≤ 2048) (n : Int) : nextR ⟨b, false, .nil, n⟩ = (.pl .nil, false, ⟨b, false, .nil, n⟩) := by
 subst hb
 unfold nextR
 rw [nrm_off rfl]
 unfold nextN
 rw [if_neg (by simp), if_pos (by rfl)]
 simp only [rep_idx, rep_trim, List.length_replicate]
 rw [if_pos (by decide), if_neg (by omega)]
theorem long_told {b : List Int} {m : Nat} (hb : b = List.replicate m 120) (h : 2048 < m) (n : Int) : nextR ⟨b, false, .nil, n⟩ = (.pl (.bad textLong), true, ⟨[], true, .nil, n⟩) := by
 subst hb
 unfold nextR
 rw [nrm_off rfl]
 unfold nextN
 rw [if_neg (by simp), if_pos (by rfl)]
 simp only [rep_idx, rep_trim, List.length_replicate]
 rw [if_pos (by decide), if_pos h]
theorem long_s2 {i K : Nat} {XS : List Int} (hX : XS = List.replicate i 120) (hN : 2049 ≤ i) : nextR (psFeed ⟨XS.take K, false, .nil, 0⟩ (XS.drop K)) = (.pl (.bad textLong), true, ⟨[], true, .nil, 0⟩) := by
 unfold psFeed
 simp only [List.take_append_drop]
 exact long_told hX (by omega) 0
def cellaretlaw18_ParseLong.T30 : Bool × List (List Nat × List Nat) := (true, [([], []), ([0], [0]), ([1], [1]), ([2], [2]), ([2, 3], [2, 3]), ([4, 2], [4]), ([5], [5]), ([6, 5, 5], [5, 6]), ([5], [5]), ([7, 8, 7, 5], [5, 7, 8]), ([5, 9], [5, 9]), ([10, 9, 0, 1, 2, 3, 4, 5, 6, 7, 8, 9, 10], [10])])
def cellaretlaw18_ParseLong.B30 : List Nat := [0, 1, 3, 7, 15, 31, 63, 127, 63, 511, 1023, 2047]
theorem cellaretlaw18_ParseLong.tab30 : rtab .any (opsOf Tryz.f4 30) = cellaretlaw18_ParseLong.T30 := by kernel_rfl
theorem cellaretlaw18_ParseLong.bits30 : waitsOk cellaretlaw18_ParseLong.T30.2 cellaretlaw18_ParseLong.B30 = true := by kernel_rfl
set_option maxHeartbeats 40000000 in
set_option maxRecDepth 100000 in
theorem long_walk (n : Int) (next : ByteArray) (cut : Int) (w : World) (HLD : LaidA w) : Calls Tryz.prog 4 #[.int .i64 n, .string next, .int .i64 cut] w fun e w' => e = .returned (.bool true) ∧ Below w.heap.size w w' := by
 have HL := Aside0.mk HLD
 have hu29 := Tryz.underlying29
 have hu26 := Tryz.underlying26
 have hu36 := Tryz.underlying36
 have HB := Aside0.mk (Below.refl w.heap.size w)
 clear HLD
 by_cases h1 : n < 2049
 ·have h1a : (n < 2049) = True := eq_true (h1)
  have h1b : decide (n < 2049) = true := decide_eq_true (h1)
  go_enter Tryz.func4, Tryz.ntmps4
  go_wp2_with fail
  refine (awake_ref HL.out).mono ?_
  rintro e w1 ⟨rfl, hs⟩
  replace HB := Aside0.mk (below_step HB.out hs)
  clear hs
  go_wp2_with fail
  go_ret
  exact ⟨rfl, HB.out⟩
 by_cases h2 : 3000 < n
 ·have h1a : (n < 2049) = False := eq_false (by omega)
  have h1b : decide (n < 2049) = false := decide_eq_false (by omega)
  have h2a : (3000 < n) = True := eq_true (h2)
  have h2b : decide (3000 < n) = true := decide_eq_true (h2)
  go_enter Tryz.func4, Tryz.ntmps4
  go_wp2_with fail
  refine (awake_ref HL.out).mono ?_
  rintro e w1 ⟨rfl, hs⟩
  replace HB := Aside0.mk (below_step HB.out hs)
  clear hs
  go_wp2_with fail
  go_ret
  exact ⟨rfl, HB.out⟩
 by_cases h3 : 1000 < (next.size : Int)
 ·have h1a : (n < 2049) = False := eq_false (by omega)
  have h1b : decide (n < 2049) = false := decide_eq_false (by omega)
  have h2a : (3000 < n) = False := eq_false (by omega)
  have h2b : decide (3000 < n) = false := decide_eq_false (by omega)
  have h3a : (1000 < (next.size : Int)) = True := eq_true (h3)
  have h3b : decide (1000 < (next.size : Int)) = true := decide_eq_true (h3)
  go_enter Tryz.func4, Tryz.ntmps4
  go_wp2_with fail
  refine (awake_ref HL.out).mono ?_
  rintro e w1 ⟨rfl, hs⟩
  replace HB := Aside0.mk (below_step HB.out hs)
  clear hs
  go_wp2_with fail
  go_ret
  exact ⟨rfl, HB.out⟩
 by_cases h4 : cut < 0
 ·have h1a : (n < 2049) = False := eq_false (by omega)
  have h1b : decide (n < 2049) = false := decide_eq_false (by omega)
  have h2a : (3000 < n) = False := eq_false (by omega)
  have h2b : decide (3000 < n) = false := decide_eq_false (by omega)
  have h3a : (1000 < (next.size : Int)) = False := eq_false (by omega)
  have h3b : decide (1000 < (next.size : Int)) = false := decide_eq_false (by omega)
  have h4a : (cut < 0) = True := eq_true (h4)
  have h4b : decide (cut < 0) = true := decide_eq_true (h4)
  go_enter Tryz.func4, Tryz.ntmps4
  go_wp2_with fail
  refine (awake_ref HL.out).mono ?_
  rintro e w1 ⟨rfl, hs⟩
  replace HB := Aside0.mk (below_step HB.out hs)
  clear hs
  go_wp2_with fail
  go_ret
  exact ⟨rfl, HB.out⟩
 by_cases h5 : n < cut
 ·have h1a : (n < 2049) = False := eq_false (by omega)
  have h1b : decide (n < 2049) = false := decide_eq_false (by omega)
  have h2a : (3000 < n) = False := eq_false (by omega)
  have h2b : decide (3000 < n) = false := decide_eq_false (by omega)
  have h3a : (1000 < (next.size : Int)) = False := eq_false (by omega)
  have h3b : decide (1000 < (next.size : Int)) = false := decide_eq_false (by omega)
  have h4a : (cut < 0) = False := eq_false (by omega)
  have h4b : decide (cut < 0) = false := decide_eq_false (by omega)
  have h5a : (n < cut) = True := eq_true (h5)
  have h5b : decide (n < cut) = true := decide_eq_true (h5)
  go_enter Tryz.func4, Tryz.ntmps4
  go_wp2_with fail
  refine (awake_ref HL.out).mono ?_
  rintro e w1 ⟨rfl, hs⟩
  replace HB := Aside0.mk (below_step HB.out hs)
  clear hs
  go_wp2_with fail
  go_ret
  exact ⟨rfl, HB.out⟩
 obtain ⟨N, rfl⟩ : ∃ N : Nat, n = (N : Int) := ⟨n.toNat, by omega⟩
 obtain ⟨K, rfl⟩ : ∃ K : Nat, cut = (K : Int) := ⟨cut.toNat, by omega⟩
 have h1a : ((N : Int) < 2049) = False := eq_false (by omega)
 have h1b : decide ((N : Int) < 2049) = false := decide_eq_false (by omega)
 have h2a : (3000 < (N : Int)) = False := eq_false (by omega)
 have h2b : decide (3000 < (N : Int)) = false := decide_eq_false (by omega)
 have h3a : (1000 < (next.size : Int)) = False := eq_false (by omega)
 have h3b : decide (1000 < (next.size : Int)) = false := decide_eq_false (by omega)
 have h4a : ((K : Int) < 0) = False := eq_false (by omega)
 have h4b : decide ((K : Int) < 0) = false := decide_eq_false (by omega)
 have h5a : ((N : Int) < (K : Int)) = False := eq_false (by omega)
 have h5b : decide ((N : Int) < (K : Int)) = false := decide_eq_false (by omega)
 have hN : 2049 ≤ N := by omega
 have hN2 : N ≤ 3000 := by omega
 have hKN : K ≤ N := by omega
 have hn : next.size ≤ 1000 := by omega
 go_enter Tryz.func4, Tryz.ntmps4
 go_wp2_with fail
 refine (awake_ref HL.out).mono ?_
 rintro e w1 ⟨rfl, hs⟩
 replace HB := Aside0.mk (below_step HB.out hs)
 clear hs
 go_wp2_with fail
 go_loopg [7] next.size (fun kq v5 w' => ∃ i : Nat, v5 = .int .i64 (i : Int) ∧ Aside0 (i + kq = next.size ∧ ∀ j, j < i → by_ next j ≠ 10) ∧ Aside0 (Below w.heap.size w w'))
 case atStart => exact ⟨0, rfl, ⟨Nat.zero_add _, fun j hj => absurd hj (Nat.not_lt_zero j)⟩, HB⟩
 case round =>
  obtain ⟨i, rfl, HA, HB⟩ := hrel
  have hA := HA.out.1
  by_cases hi : i < next.size
  ·have i1 : ((i : Int) < (next.size : Int)) = True := eq_true (by omega)
   have i2 : decide ((i : Int) < (next.size : Int)) = true := decide_eq_true (by omega)
   have i3 : ((0 : Int) ≤ (i : Int)) = True := eq_true (by omega)
   have hx := bt_at next (i : Int)
   have hb : ((next[i]'hi).toNat : Int) = (by_ next i : Int) := (bt_get next i hi).symm.trans (bt_by next i hi)
   have hw : wrap64 ((i : Int) + 1) = ((i + 1 : Nat) : Int) := by unfold wrap64; omega
   by_cases ca : by_ next i = 10
   ·have cb : (((next[i]'hi).toNat : Int) == 10) = true := by rw [hb, ca]; rfl
    clear hb
    go_wp2_with fail
    go_ret
    exact ⟨rfl, HB.out⟩
   ·have cb : (((next[i]'hi).toNat : Int) == 10) = false := beq_eq_false_iff_ne.mpr (by rw [hb]; omega)
    clear hb
    go_wp2_with fail
    go_roundg (gk - 1)
    case measure => omega
    case rel => exact ⟨i + 1, rfl, ⟨by omega, fun j hj => by by_cases e : j = i; (subst e; exact ca); (exact HA.out.2 j (by omega))⟩, HB⟩
  ·have i1 : ((i : Int) < (next.size : Int)) = False := eq_false (by omega)
   have i2 : decide ((i : Int) < (next.size : Int)) = false := decide_eq_false (by omega)
   have l10 : Lacks 10 next := lacks_of fun j hj => HA.out.2 j (by omega)
   clear HA hA
   have i4 : decide (i < next.size) = false := decide_eq_false hi
   have i5 : (i < next.size) = False := eq_false hi
   go_wp2_with fail
   clear i1 i2 i4 i5 hi
   have HO := Aside0.mk (Kd.R_nil (Kd.int .u8) 5 wr w.heap.size (fun _ => True))
   go_loopg [8, 9] N (fun kq v8 v9 w' => ∃ (i : Nat) (v : Value), v8 = v ∧ v9 = .int .i64 (i : Int) ∧ Aside0 (i + kq = N) ∧ Aside0 (Kd.R (Kd.int .u8) 5 w' w.heap.size (fun _ => True) v (List.replicate i 120)) ∧ Aside0 (Below w.heap.size w w'))
   case atStart => exact ⟨0, _, rfl, rfl, ⟨Nat.zero_add _⟩, HO, HB⟩
   case round =>
    clear HO HB
    obtain ⟨i, vb, he, rfl, HA, HO, HB⟩ := hrel
    replace he := he.symm
    subst he
    have hA := HA.out
    by_cases hi : i < N
    ·have i1 : ((i : Int) < (N : Int)) = True := eq_true (by omega)
     have i2 : decide ((i : Int) < (N : Int)) = true := decide_eq_true (by omega)
     have i4 : (i < N) = True := eq_true hi
     have hw : wrap64 ((i : Int) + 1) = ((i + 1 : Nat) : Int) := by unfold wrap64; omega
     go_wp2_with (first | ((with_reducible refine gate_builtin (b := .append) (xs := #[.tmp 55, .tmp 56]) rfl ?_); at_builtin; refine Kd.R_append (Kd.int .u8) (w0 := w) w.heap.size rfl (.tmp 55) (.tmp 56) 36 5 (.int .u8 0) 1 rfl Tryz.underlying36 info5 rfl (by decide) (by omega) vb (List.replicate i 120) 120 [.int .u8 120] (fun _ => True) (fun _ => False) rfl rfl ?aP (fun _ hk => hk.elim) ?aF ?aO ?aB ?aS ?aL ?_; (case aP => exact rfl); (case aB => exact HB.out); (case aF => exact (fun _ _ => trivial)); (case aO => exact HO.out); (case aS => exact (below_size HB.out)); (case aL => rw [List.length_replicate]; omega); intro v1 w1 ho hb hg hat; replace HB := Aside0.mk hb; replace HO := Aside0.mk ho; clear ho hb hg hat))
     rw [← List.replicate_succ'] at HO
     go_roundg (gk - 1)
     case measure => omega
     case rel => exact ⟨i + 1, _, rfl, rfl, ⟨by omega⟩, HO, HB⟩
    ·obtain rfl : i = N := by omega
     have i1 : ((i : Int) < (i : Int)) = False := eq_false (by omega)
     clear hi hA HA
     obtain ⟨XS, hXS⟩ : ∃ XS : List Int, XS = List.replicate i 120 := ⟨_, rfl⟩
     rw [← hXS] at HO
     have hXl : XS.length = i := by rw [hXS, List.length_replicate]
     have HX := Aside0.mk hXS
     clear hXS
     obtain ⟨A, c, ev⟩ := Kd.R_slice HO.out
     subst ev
     have hcx := (Kd.R_reads' HO.out).2.1
     have HCx := Aside0.mk (Kd.R_reads' HO.out).2.2
     rw [hXl] at hcx
     rw [hXl] at HCx
     go_wp2_with fail
     have HW := HB
     replace HL := Aside0.mk (HL.out.below HB.out)
     replace HB := Aside0.mk (Below.refl wr.heap.size wr)
     clear HO
     refine (new_ref HB.out (HL.out.below HB.out)).mono ?_
     rintro e w2 ⟨g, rfl, hi, hb, hs⟩
     replace HB := Aside0.mk hb
     have HI := Aside0.mk hi
     clear hi hb hs
     have k1 : (K : Int) ≤ (XS.length : Int) := by omega
     have k2 : ((K : Int) ≤ (XS.length : Int)) = True := eq_true k1
     have k3 : (0 : Int) ≤ (K : Int) := by omega
     have k4 : (K ≤ XS.length) = True := eq_true (by omega)
     have k5 : (K : Int) ≤ (c : Int) := by omega
     have k6 : decide ((K : Int) ≤ (XS.length : Int)) = true := decide_eq_true k1
     go_wp2_with fail
     have hT : (XS.take K).length = K := by rw [List.length_take]; omega
     have hD : (XS.drop K).length = i - K := by rw [List.length_drop]; omega
     refine (feed_refN (l := XS.take K) hT HI.out HB.out (HL.out.below HB.out) (long_take (Kd.C_below HCx.out HB.out) (by omega)) (by omega) (by rw [hT]; show 0 + K ≤ _; omega)).mono ?_
     rintro e w3 ⟨rfl, hi, hb, hk⟩
     replace HI := Aside0.mk hi
     replace HB := Aside0.mk hb
     clear hi hb hk
     go_wp2_with fail
     by_cases hK : K ≤ 2048
     ·refine (next_ref (Inv.feed (ps := psNew) (fun h => by cases h) _) (long_none (rep_take HX.out (by omega)) hK 0) (toD .nil) (rfl) (false) (rfl) HI.out HB.out (HL.out.below HB.out)).mono ?_
      rintro e w4 ⟨A1, c1, rfl, hr, hi, hb, hk⟩
      replace HI := Aside0.mk hi
      replace HB := Aside0.mk hb
      have HR1 := Aside0.mk hr
      clear hi hb hk hr
      clear HR1
      dsimp only [cdV, toD]
      have m1 : (c = K) = False := eq_false (by omega)
      have m2 : (K = c) = False := eq_false (by omega)
      have m3 : (c - K = 0) = False := eq_false (by omega)
      have m4 : (K : Int) ≤ (i : Int) := by omega
      have m5 : decide ((K : Int) ≤ (i : Int)) = true := decide_eq_true m4
      have m6 : (K ≤ i) = True := eq_true (by omega)
      have m7 : (i : Int) ≤ (c : Int) := by omega
      have m8 : (i ≤ c) = True := eq_true hcx
      go_wp2_with fail
      have Vxg := Aside0.mk HI.out.lt
      refine calls_var ?_
      intro w5 hs hv
      replace HB := Aside0.mk (below_step HB.out hs)
      replace HI := Aside0.mk (HI.out.below hs)
      have Vx := Aside0.mk (hv)
      clear hs hv
      refine (feed_refN (l := XS.drop K) hD HI.out HB.out (HL.out.below HB.out) (long_drop (Kd.C_below HCx.out HB.out) (by omega)) (by omega) (by rw [hD]; show (XS.take K).length + (i - K) ≤ _; omega)).mono ?_
      rintro e w6 ⟨rfl, hi, hb, hk⟩
      replace Vx := Aside0.mk (KeepRow.blk hk Vx.out (Nat.ne_of_gt Vxg.out) (fun cs e => by injection e; contradiction))
      replace HI := Aside0.mk hi
      replace HB := Aside0.mk hb
      clear hi hb hk
      go_wp2_with fail
      refine (next_ref (Inv.feed (ps := ⟨XS.take K, false, .nil, 0⟩) (fun h => by cases h) _) (long_s2 HX.out hN) (toD (.bad textLong)) (rfl) (true) (rfl) HI.out HB.out (HL.out.below HB.out)).mono ?_
      rintro e w7 ⟨A2, c2, rfl, hr, hi, hb, hk⟩
      replace Vx := Aside0.mk (KeepBut.blk hk Vx.out (Nat.ne_of_gt Vxg.out) (by simp))
      replace HI := Aside0.mk hi
      replace HB := Aside0.mk hb
      have HR2 := Aside0.mk hr
      clear hi hb hk hr
      clear HR2
      dsimp only [cdV, toD]
      have rx := celL Vx.out
      have fx := froZ Vx.out
      clear m1 m2 m3 m4 m5 m6 m7 m8
      go_wp2_with fail
      refine calls_put12 Vx.out HI.out HB.out (Nat.ne_of_lt Vxg.out) (Nat.le_of_lt (Nat.lt_of_le_of_lt HI.out.ge Vxg.out)) ?_
      intro w8 hv hi hb
      replace HI := Aside0.mk hi
      replace HB := Aside0.mk hb
      clear hv hi hb rx fx Vx
      refine (is_ref textLong).mono ?_
      rintro e w9 ⟨rfl, hs⟩
      replace HB := Aside0.mk (below_step HB.out hs)
      replace HI := Aside0.mk (HI.out.below hs)
      clear hs
      go_wp2_with fail
      refine (next_ref (fun h => by cases h) (skip_wait _ idx_nil _ _) (toD .nil) (rfl) (false) (rfl) HI.out HB.out (HL.out.below HB.out)).mono ?_
      rintro e w10 ⟨A3, c3, rfl, hr, hi, hb, hk⟩
      replace HI := Aside0.mk hi
      replace HB := Aside0.mk hb
      have HR3 := Aside0.mk hr
      clear hi hb hk hr
      clear HR3
      dsimp only [cdV, toD]
      have hns : next.size ≤ 1000 := hn
      have s0 : 1 + next.size ≤ 9223372036854775807 := by omega
      have s1 : (1 + next.size ≤ 9223372036854775807) = True := eq_true s0
      have s2 : decide (1 + next.size ≤ 9223372036854775807) = true := decide_eq_true s0
      have s3 : (9223372036854775807 < 1 + next.size) = False := eq_false (Nat.not_lt.2 s0)
      have u0 : 1 + next.size + 1 ≤ 9223372036854775807 := by omega
      have u1 : (1 + next.size + 1 ≤ 9223372036854775807) = True := eq_true u0
      have u2 : decide (1 + next.size + 1 ≤ 9223372036854775807) = true := decide_eq_true u0
      have u3 : (9223372036854775807 < 1 + next.size + 1) = False := eq_false (Nat.not_lt.2 u0)
      have hz2 : (((⟨#[10]⟩ : ByteArray) ++ next) ++ (⟨#[10]⟩ : ByteArray)).size ≤ 1002 := by rw [ByteArray.size_append, ByteArray.size_append]; show 1 + next.size + 1 ≤ 1002; omega
      go_wp2_with ((with_reducible refine gate_dst (N := 102) rfl ?_); refine wpl_var ?_; intro w11 hs hv; replace HB := Aside0.mk (below_step HB.out hs); replace HI := Aside0.mk (HI.out.below hs); clear hs hv; (refine conv_event rfl (N := 102) rfl 9 36 5 rfl Tryz.underlying9 Tryz.underlying36 Tryz.underlying5 (((⟨#[10]⟩ : ByteArray) ++ next) ++ (⟨#[10]⟩ : ByteArray)) (bytesOf (((⟨#[10]⟩ : ByteArray) ++ next) ++ (⟨#[10]⟩ : ByteArray))) rfl (conv_is _ (by omega)) ?_); intro v9 w12 ho hs; obtain ⟨A9, c9, ev⟩ := Kd.V_slice ho; subst ev; have HC9 := Aside0.mk (Kd.V_reads' ho); replace HB := Aside0.mk (below_step HB.out hs); replace HI := Aside0.mk (HI.out.below hs); clear ho hs)
      clear s0 s1 s2 s3 u0 u1 u2 u3
      refine (feed_ref HI.out HB.out (HL.out.below HB.out) (HC9.out.2.2) (HC9.out.2.1) (by rw [bytes_len]; show 0 + _ ≤ _; omega)).mono ?_
      rintro e w13 ⟨rfl, hi, hb, hk⟩
      replace HI := Aside0.mk hi
      replace HB := Aside0.mk hb
      clear hi hb hk
      clear HC9
      go_wp2_with fail
      obtain ⟨q, hq⟩ : ∃ q, nextR ⟨bytesOf next ++ 10 :: [], false, .nil, 0⟩ = q := ⟨_, rfl⟩
      obtain ⟨db, hdb⟩ : ∃ d, toX q.1 = d := ⟨_, rfl⟩
      obtain ⟨fb, hfb⟩ : ∃ b, q.2.1 = b := ⟨_, rfl⟩
      have hkb : db.keys.length ≤ 64 := by rw [← hdb, ← hq]; exact next_keys _
      obtain ⟨dc, hdc⟩ : ∃ d, toX (lineX (wordsOf (cutR next))).1 = d := ⟨_, rfl⟩
      obtain ⟨kc, hkc⟩ : ∃ k, (lineX (wordsOf (cutR next))).2 = k := ⟨_, rfl⟩
      have HQ := Aside0.mk (And.intro hq (And.intro hdb (And.intro hfb (And.intro hdc hkc))))
      clear hq hdb hfb hdc hkc
      refine (next_ref (Inv.feed (ps := ⟨[], true, .nil, 0⟩) (fun h => by cases h) _) ((long_s4 next).trans HQ.out.1) (db) (HQ.out.2.1) (fb) (HQ.out.2.2.1) HI.out HB.out (HL.out.below HB.out)).mono ?_
      rintro e w14 ⟨A4, c4, rfl, hr, hi, hb, hk⟩
      replace HI := Aside0.mk hi
      replace HB := Aside0.mk hb
      have HR4 := Aside0.mk hr
      clear hi hb hk hr
      have hl4 := HR4.out.1
      have HCb := Aside0.mk (HR4.out.2)
      clear HR4
      unfold cdV
      go_wp2_with fail
      have Vdg := Aside0.mk HI.out.lt
      refine calls_var ?_
      intro w15 hs hv
      replace HB := Aside0.mk (below_step HB.out hs)
      replace HI := Aside0.mk (HI.out.below hs)
      replace HCb := Aside0.mk (Kd.C_below HCb.out hs)
      have Vd := Aside0.mk (hv)
      clear hs hv
      refine (trim_ref next (by omega) _).mono ?_
      rintro e w16 ⟨rfl, hs⟩
      replace HB := Aside0.mk (below_step HB.out hs)
      replace HI := Aside0.mk (HI.out.below hs)
      replace HCb := Aside0.mk (Kd.C_below HCb.out hs)
      replace Vd := Aside0.mk (blk_below Vd.out hs)
      clear hs
      go_wp2_with fail
      refine (one_tells (cutR next) _ (by have := cutR_size next; omega) dc kc HQ.out.2.2.2.1 HQ.out.2.2.2.2).mono ?_
      rintro e w17 ⟨A5, c5, rfl, hl5, hC5, hs⟩
      replace HB := Aside0.mk (below_step HB.out hs)
      replace HI := Aside0.mk (HI.out.below hs)
      replace HCb := Aside0.mk (Kd.C_below HCb.out hs)
      replace Vd := Aside0.mk (blk_below Vd.out hs)
      have HCc := Aside0.mk (hC5)
      clear hs hC5
      unfold cdV
      by_cases hk : 0 ≤ kc
      ·have k1 : ((0 : Int) ≤ kc) = True := eq_true hk
       have k2 : decide ((0 : Int) ≤ kc) = true := decide_eq_true hk
       go_wp2_with fail
       go_ret
       exact ⟨rfl, below_step HW.out (below_alloc HB.out _)⟩
      ·have k1 : ((0 : Int) ≤ kc) = False := eq_false hk
       have k2 : decide ((0 : Int) ≤ kc) = false := decide_eq_false hk
       have e := next_line l10 (by have h := trimL_len (bytesOf next); rw [bytes_len] at h; omega) [] 0
       have hk1 : kc = -1 := by have h := (okX_line (wordsOf (cutR next))).2.1; rw [HQ.out.2.2.2.2] at h; rcases h with h | h; exact h; exact absurd h.1 hk
       have e1 : (lineW next).2 = -1 := HQ.out.2.2.2.2.trans hk1
       rw [if_pos e1] at e
       have e2 := HQ.out.1.symm.trans e
       have hd2 : db = dc := by rw [← HQ.out.2.2.2.1, ← HQ.out.2.1, e2]; rfl
       have hf : fb = true := by rw [← HQ.out.2.2.1, e2]
       clear e e1 e2 HQ
       subst hf
       obtain rfl := hd2
       go_wp2_with fail
       have Veg := Aside0.mk HI.out.lt
       refine wp_var ?_
       intro w18 hs hv
       replace HB := Aside0.mk (below_step HB.out hs)
       replace HI := Aside0.mk (HI.out.below hs)
       replace HCb := Aside0.mk (Kd.C_below HCb.out hs)
       replace Vd := Aside0.mk (blk_below Vd.out hs)
       replace HCc := Aside0.mk (Kd.C_below HCc.out hs)
       have Ve := Aside0.mk (hv)
       clear hs hv
       clear HI
       refine start_ (n := 12) (S := fun w' => C12 w' (w14.heap.size) (.string db.what) (.string db.verb) (.slice A4 db.keys.length c4) (.string db.data) (.int .u32 db.flags) (.int .i64 db.exp) (.int .u64 db.cas) (.int .u64 db.by_) (.bool db.withCas) (.bool db.withTouch) (.bool db.down) (.bool db.quiet) ∧ C12 w' (w17.heap.size) (.string db.what) (.string db.verb) (.slice A5 db.keys.length c5) (.string db.data) (.int .u32 db.flags) (.int .i64 db.exp) (.int .u64 db.cas) (.int .u64 db.by_) (.bool db.withCas) (.bool db.withTouch) (.bool db.down) (.bool db.quiet)) (ds := []) #[f,f,f,f,f,f,f,f,f,f,f,f] (by kernel_rfl) rfl rfl ⟨celL Vd.out, celL Ve.out⟩ (fun hHeld => ?_)
       refine with_tabW cellaretlaw18_ParseLong.tab30 cellaretlaw18_ParseLong.bits30 (fun HT_ HW_ => ?_)
       replace HB := Aside0.mk (below_drew1 HB.out)
       replace HCb := Aside0.mk (Kd.C_drew HCb.out)
       replace Vd := Aside0.mk (blk_drew Vd.out)
       replace HCc := Aside0.mk (Kd.C_drew HCc.out)
       replace Ve := Aside0.mk (blk_drew Ve.out)
       refine pure_ (i := 0) (N := some 119) (v := ?_) (a' := ?_) #[t,f,f,f,f,f,f,f,f,f,f,f] rfl rfl (any_of HT_.out (by kernel_rfl)) (fun _ _ _ h => h) (Or.inl ⟨by rfl, ?_⟩) ?_ ?_
       rotate_left
       ·intro w'
        go_simp
        with_reducible rfl
       rotate_left
       ·simp only [Act.put, List.setIfInBounds_toArray, List.set_cons_zero, List.set_cons_succ, i64_w, i32_w]
        rfl
       refine pure_ (i := 1) (N := some 120) (v := ?_) (a' := ?_) #[t,t,f,f,f,f,f,f,f,f,f,f] rfl rfl (any_of HT_.out (by kernel_rfl)) (fun _ _ _ h => h) (Or.inl ⟨by rfl, ?_⟩) ?_ ?_
       rotate_left
       ·intro w'
        go_simp
        with_reducible rfl
       rotate_left
       ·simp only [Act.put, List.setIfInBounds_toArray, List.set_cons_zero, List.set_cons_succ, i64_w, i32_w]
        rfl
       refine pure_ (i := 2) (N := some 121) (v := ?_) (a' := ?_) #[t,t,t,f,f,f,f,f,f,f,f,f] rfl rfl (any_of HT_.out (by kernel_rfl)) (fun _ _ _ h => h) (Or.inl ⟨by rfl, ?_⟩) ?_ ?_
       rotate_left
       ·intro w'
        go_simp
        with_reducible rfl
       rotate_left
       ·simp only [Act.put, List.setIfInBounds_toArray, List.set_cons_zero, List.set_cons_succ, i64_w, i32_w]
        rfl
       refine pure_ (i := 3) (N := some 122) (v := ?_) (a' := ?_) #[t,t,t,t,f,f,f,f,f,f,f,f] rfl rfl (any_of HT_.out (by kernel_rfl)) (fun _ _ _ h => h) (Or.inl ⟨by rfl, ?_⟩) ?_ ?_
       rotate_left
       ·intro w'
        go_simp
        with_reducible rfl
       rotate_left
       ·simp only [Act.put, List.setIfInBounds_toArray, List.set_cons_zero, List.set_cons_succ, i64_w, i32_w]
        rfl
       refine pure_ (i := 4) (N := some 123) (v := ?_) (a' := ?_) #[t,t,t,t,t,f,f,f,f,f,f,f] rfl rfl (any_of HT_.out (by kernel_rfl)) (fun _ _ _ h => h) (Or.inl ⟨by rfl, ?_⟩) ?_ ?_
       rotate_left
       ·intro w'
        go_simp
        with_reducible rfl
       rotate_left
       ·simp only [Act.put, List.setIfInBounds_toArray, List.set_cons_zero, List.set_cons_succ, i64_w, i32_w]
        rfl
       refine pure_ (i := 5) (N := some 124) (v := ?_) (a' := ?_) #[t,t,t,t,t,t,f,f,f,f,f,f] rfl rfl (any_of HT_.out (by kernel_rfl)) (fun _ _ _ h => h) (Or.inl ⟨by rfl, ?_⟩) ?_ ?_
       rotate_left
       ·intro w'
        go_simp
        with_reducible rfl
       rotate_left
       ·simp only [Act.put, List.setIfInBounds_toArray, List.set_cons_zero, List.set_cons_succ, i64_w, i32_w]
        rfl
       refine take_ (i := 6) (N := some 125) (v := ?_) (a' := ?_) #[t,t,t,t,t,t,t,f,f,f,f,f] rfl rfl (take_ofW HT_.out HW_.out (by kernel_rfl)) (fun _ _ _ h => h) (Or.inl ⟨by rfl, ?_⟩) hHeld ?_ ?_
       rotate_left
       ·rintro w' ⟨⟨s0, s1, s2, s3, s4, s5, s6, s7, s8, s9, s10, s11⟩, ⟨s12, s13, s14, s15, s16, s17, s18, s19, s20, s21, s22, s23⟩⟩
        go_simp
        with_reducible rfl
       rotate_left
       ·simp only [Act.put, List.setIfInBounds_toArray, List.set_cons_zero, List.set_cons_succ, i64_w, i32_w]
        rfl
       refine take_ (i := 8) (N := some 127) (v := ?_) (a' := ?_) #[t,t,t,t,t,t,t,f,t,f,f,f] rfl rfl (take_ofW HT_.out HW_.out (by kernel_rfl)) (fun _ _ _ h => h) (Or.inl ⟨by rfl, ?_⟩) hHeld ?_ ?_
       rotate_left
       ·rintro w' ⟨⟨s0, s1, s2, s3, s4, s5, s6, s7, s8, s9, s10, s11⟩, ⟨s12, s13, s14, s15, s16, s17, s18, s19, s20, s21, s22, s23⟩⟩
        go_simp
        with_reducible rfl
       rotate_left
       ·simp only [Act.put, List.setIfInBounds_toArray, List.set_cons_zero, List.set_cons_succ, i64_w, i32_w]
        rfl
       refine one_ (i := 7) (N := some 126) #[t,t,t,t,t,t,t,t,t,f,f,f] rfl rfl (one_of HT_.out (by kernel_rfl)) (by decide) (fun K hK => ?_)
       refine goes_ Tryz.func8 (by kernel_rfl) rfl #[.agg #[.string db.what, .string db.verb, .slice A4 db.keys.length c4, .string db.data, .int .u32 db.flags, .int .i64 db.exp, .int .u64 db.cas, .int .u64 db.by_, .bool db.withCas, .bool db.withTouch, .bool db.down, .bool db.quiet]] (by rfl) rfl rfl (by (try simp only [List.map_toArray, List.map_cons, List.map_nil]); first | done | rfl) ?_
       refine (cmd_ref db hkb HCb.out hl4).mono ?_
       rintro e w19 ⟨A6, c6, rfl, hl6, hC, hs⟩
       refine ⟨_, rfl, ?_⟩
       replace HB := Aside0.mk (below_step HB.out hs)
       replace HCb := Aside0.mk (Kd.C_below HCb.out hs)
       replace Vd := Aside0.mk (blk_below Vd.out hs)
       replace HCc := Aside0.mk (Kd.C_below HCc.out hs)
       replace Ve := Aside0.mk (blk_below Ve.out hs)
       have HC6 := Aside0.mk (hC)
       clear hs hC
       refine hK.out _ _ ⟨celL Vd.out, celL Ve.out⟩ (fun hHeld => ?_)
       clear hK K
       refine norm_ (a' := ?_) ?_ ?_
       rotate_left
       ·show Act.put _ (some 126) _ = _
        simp only [Act.put, List.setIfInBounds_toArray, List.set_cons_zero, List.set_cons_succ, i64_w, i32_w]
        rfl
       refine one_ (i := 9) (N := some 128) #[t,t,t,t,t,t,t,t,t,t,f,f] rfl rfl (one_of HT_.out (by kernel_rfl)) (by decide) (fun K hK => ?_)
       refine goes_ Tryz.func16 (by kernel_rfl) rfl #[cdV db (.slice A6 db.keys.length c6), .agg #[.string db.what, .string db.verb, .slice A5 db.keys.length c5, .string db.data, .int .u32 db.flags, .int .i64 db.exp, .int .u64 db.cas, .int .u64 db.by_, .bool db.withCas, .bool db.withTouch, .bool db.down, .bool db.quiet]] (by rfl) rfl rfl (by (try simp only [List.map_toArray, List.map_cons, List.map_nil]); first | done | rfl) ?_
       refine (same_ref db (by omega) HC6.out hl6 HCc.out hl5).mono ?_
       rintro e w20 ⟨rfl, hs⟩
       refine ⟨_, rfl, ?_⟩
       replace HB := Aside0.mk (below_step HB.out hs)
       replace HCb := Aside0.mk (Kd.C_below HCb.out hs)
       replace Vd := Aside0.mk (blk_below Vd.out hs)
       replace HCc := Aside0.mk (Kd.C_below HCc.out hs)
       replace Ve := Aside0.mk (blk_below Ve.out hs)
       replace HC6 := Aside0.mk (Kd.C_below HC6.out hs)
       clear hs
       refine hK.out _ _ ⟨celL Vd.out, celL Ve.out⟩ (fun hHeld => ?_)
       clear hK K
       refine norm_ (a' := ?_) ?_ ?_
       rotate_left
       ·show Act.put _ (some 128) _ = _
        simp only [Act.put, List.setIfInBounds_toArray, List.set_cons_zero, List.set_cons_succ, i64_w, i32_w]
        rfl
       refine pure_ (i := 10) (N := some 129) (v := ?_) (a' := ?_) #[t,t,t,t,t,t,t,t,t,t,t,f] rfl rfl (any_of HT_.out (by kernel_rfl)) (fun _ _ _ h => h) (Or.inl ⟨by rfl, ?_⟩) ?_ ?_
       rotate_left
       ·intro w'
        go_simp
        with_reducible rfl
       rotate_left
       ·simp only [Act.put, List.setIfInBounds_toArray, List.set_cons_zero, List.set_cons_succ, i64_w, i32_w]
        rfl
       refine pure_ (i := 11) (N := some 6) (v := ?_) (a' := ?_) #[t,t,t,t,t,t,t,t,t,t,t,t] rfl rfl (any_of HT_.out (by kernel_rfl)) (fun _ _ _ h => h) (Or.inl ⟨by rfl, ?_⟩) ?_ ?_
       rotate_left
       ·intro w'
        go_simp
        with_reducible rfl
       rotate_left
       ·simp only [Act.put, List.setIfInBounds_toArray, List.set_cons_zero, List.set_cons_succ, i64_w, i32_w]
        rfl
       refine done_ (done_of HT_.out (by kernel_rfl)) ?_
       try go_wp2
       go_ret
       exact ⟨rfl, below_step HW.out HB.out⟩
     ·refine (next_ref (Inv.feed (ps := psNew) (fun h => by cases h) _) (long_told (rep_take HX.out (by omega)) (by omega) 0) (toD (.bad textLong)) (rfl) (true) (rfl) HI.out HB.out (HL.out.below HB.out)).mono ?_
      rintro e w4 ⟨A1, c1, rfl, hr, hi, hb, hk⟩
      replace HI := Aside0.mk hi
      replace HB := Aside0.mk hb
      have HR1 := Aside0.mk hr
      clear hi hb hk hr
      clear HR1
      dsimp only [cdV, toD]
      have m4 : (K : Int) ≤ (i : Int) := by omega
      have m5 : decide ((K : Int) ≤ (i : Int)) = true := decide_eq_true m4
      have m6 : (K ≤ i) = True := eq_true (by omega)
      have m7 : (i : Int) ≤ (c : Int) := by omega
      have m8 : (i ≤ c) = True := eq_true hcx
      go_wp2_with fail
      all_goals
       have Vxg := Aside0.mk HI.out.lt
       refine calls_var ?_
       intro w5 hs hv
       replace HB := Aside0.mk (below_step HB.out hs)
       replace HI := Aside0.mk (HI.out.below hs)
       have Vx := Aside0.mk (hv)
       clear hs hv
      refine (feed_refN (l := XS.drop K) hD HI.out HB.out (HL.out.below HB.out) (long_zero hD (by omega)) (by omega) (by rw [hD]; show (0 : Nat) + (i - K) ≤ _; omega)).mono ?_
      rotate_left
      refine (feed_refN (l := XS.drop K) hD HI.out HB.out (HL.out.below HB.out) (long_drop (Kd.C_below HCx.out HB.out) (by omega)) (by omega) (by rw [hD]; show (0 : Nat) + (i - K) ≤ _; omega)).mono ?_
      all_goals
       rintro e w6 ⟨rfl, hi, hb, hk⟩
       replace Vx := Aside0.mk (KeepRow.blk hk Vx.out (Nat.ne_of_gt Vxg.out) (fun cs e => by injection e; contradiction))
       replace HI := Aside0.mk hi
       replace HB := Aside0.mk hb
       clear hi hb hk m4 m5 m6 m7 m8
       obtain ⟨rx0, rx1, rx2, rx3, rx4, rx5, rx6, rx7, rx8, rx9, rx10, rx11⟩ := celL Vx.out
       go_wp2_with fail
       clear rx0 rx1 rx2 rx3 rx4 rx5 rx6 rx7 rx8 rx9 rx10 rx11
       clear Vx
       refine (is_ref textLong).mono ?_
       rintro e w7 ⟨rfl, hs⟩
       replace HB := Aside0.mk (below_step HB.out hs)
       replace HI := Aside0.mk (HI.out.below hs)
       clear hs
       go_wp2_with fail
       refine (next_ref (fun h => by cases h) (skip_wait _ (rep_drop HX.out) _ _) (toD .nil) (rfl) (false) (rfl) HI.out HB.out (HL.out.below HB.out)).mono ?_
       rintro e w8 ⟨A3, c3, rfl, hr, hi, hb, hk⟩
       replace HI := Aside0.mk hi
       replace HB := Aside0.mk hb
       have HR3 := Aside0.mk hr
       clear hi hb hk hr
       clear HR3
       dsimp only [cdV, toD]
       have hns : next.size ≤ 1000 := hn
       have s0 : 1 + next.size ≤ 9223372036854775807 := by omega
       have s1 : (1 + next.size ≤ 9223372036854775807) = True := eq_true s0
       have s2 : decide (1 + next.size ≤ 9223372036854775807) = true := decide_eq_true s0
       have s3 : (9223372036854775807 < 1 + next.size) = False := eq_false (Nat.not_lt.2 s0)
       have u0 : 1 + next.size + 1 ≤ 9223372036854775807 := by omega
       have u1 : (1 + next.size + 1 ≤ 9223372036854775807) = True := eq_true u0
       have u2 : decide (1 + next.size + 1 ≤ 9223372036854775807) = true := decide_eq_true u0
       have u3 : (9223372036854775807 < 1 + next.size + 1) = False := eq_false (Nat.not_lt.2 u0)
       have hz2 : (((⟨#[10]⟩ : ByteArray) ++ next) ++ (⟨#[10]⟩ : ByteArray)).size ≤ 1002 := by rw [ByteArray.size_append, ByteArray.size_append]; show 1 + next.size + 1 ≤ 1002; omega
       go_wp2_with ((with_reducible refine gate_dst (N := 102) rfl ?_); refine wpl_var ?_; intro w9 hs hv; replace HB := Aside0.mk (below_step HB.out hs); replace HI := Aside0.mk (HI.out.below hs); clear hs hv; (refine conv_event rfl (N := 102) rfl 9 36 5 rfl Tryz.underlying9 Tryz.underlying36 Tryz.underlying5 (((⟨#[10]⟩ : ByteArray) ++ next) ++ (⟨#[10]⟩ : ByteArray)) (bytesOf (((⟨#[10]⟩ : ByteArray) ++ next) ++ (⟨#[10]⟩ : ByteArray))) rfl (conv_is _ (by omega)) ?_); intro v9 w10 ho hs; obtain ⟨A9, c9, ev⟩ := Kd.V_slice ho; subst ev; have HC9 := Aside0.mk (Kd.V_reads' ho); replace HB := Aside0.mk (below_step HB.out hs); replace HI := Aside0.mk (HI.out.below hs); clear ho hs)
       clear s0 s1 s2 s3 u0 u1 u2 u3
       refine (feed_ref HI.out HB.out (HL.out.below HB.out) (HC9.out.2.2) (HC9.out.2.1) (by rw [bytes_len]; show 0 + _ ≤ _; omega)).mono ?_
       rintro e w11 ⟨rfl, hi, hb, hk⟩
       replace HI := Aside0.mk hi
       replace HB := Aside0.mk hb
       clear hi hb hk
       clear HC9
       go_wp2_with fail
       obtain ⟨q, hq⟩ : ∃ q, nextR ⟨bytesOf next ++ 10 :: [], false, .nil, 0⟩ = q := ⟨_, rfl⟩
       obtain ⟨db, hdb⟩ : ∃ d, toX q.1 = d := ⟨_, rfl⟩
       obtain ⟨fb, hfb⟩ : ∃ b, q.2.1 = b := ⟨_, rfl⟩
       have hkb : db.keys.length ≤ 64 := by rw [← hdb, ← hq]; exact next_keys _
       obtain ⟨dc, hdc⟩ : ∃ d, toX (lineX (wordsOf (cutR next))).1 = d := ⟨_, rfl⟩
       obtain ⟨kc, hkc⟩ : ∃ k, (lineX (wordsOf (cutR next))).2 = k := ⟨_, rfl⟩
       have HQ := Aside0.mk (And.intro hq (And.intro hdb (And.intro hfb (And.intro hdc hkc))))
       clear hq hdb hfb hdc hkc
       refine (next_ref (Inv.feed (ps := ⟨[], true, .nil, 0⟩) (fun h => by cases h) _) ((long_s4 next).trans HQ.out.1) (db) (HQ.out.2.1) (fb) (HQ.out.2.2.1) HI.out HB.out (HL.out.below HB.out)).mono ?_
       rintro e w12 ⟨A4, c4, rfl, hr, hi, hb, hk⟩
       replace HI := Aside0.mk hi
       replace HB := Aside0.mk hb
       have HR4 := Aside0.mk hr
       clear hi hb hk hr
       have hl4 := HR4.out.1
       have HCb := Aside0.mk (HR4.out.2)
       clear HR4
       unfold cdV
       go_wp2_with fail
       have Vdg := Aside0.mk HI.out.lt
       refine calls_var ?_
       intro w13 hs hv
       replace HB := Aside0.mk (below_step HB.out hs)
       replace HI := Aside0.mk (HI.out.below hs)
       replace HCb := Aside0.mk (Kd.C_below HCb.out hs)
       have Vd := Aside0.mk (hv)
       clear hs hv
       refine (trim_ref next (by omega) _).mono ?_
       rintro e w14 ⟨rfl, hs⟩
       replace HB := Aside0.mk (below_step HB.out hs)
       replace HI := Aside0.mk (HI.out.below hs)
       replace HCb := Aside0.mk (Kd.C_below HCb.out hs)
       replace Vd := Aside0.mk (blk_below Vd.out hs)
       clear hs
       go_wp2_with fail
       refine (one_tells (cutR next) _ (by have := cutR_size next; omega) dc kc HQ.out.2.2.2.1 HQ.out.2.2.2.2).mono ?_
       rintro e w15 ⟨A5, c5, rfl, hl5, hC5, hs⟩
       replace HB := Aside0.mk (below_step HB.out hs)
       replace HI := Aside0.mk (HI.out.below hs)
       replace HCb := Aside0.mk (Kd.C_below HCb.out hs)
       replace Vd := Aside0.mk (blk_below Vd.out hs)
       have HCc := Aside0.mk (hC5)
       clear hs hC5
       unfold cdV
       by_cases hk : 0 ≤ kc
       ·have k1 : ((0 : Int) ≤ kc) = True := eq_true hk
        have k2 : decide ((0 : Int) ≤ kc) = true := decide_eq_true hk
        go_wp2_with fail
        go_ret
        exact ⟨rfl, below_step HW.out (below_alloc HB.out _)⟩
       ·have k1 : ((0 : Int) ≤ kc) = False := eq_false hk
        have k2 : decide ((0 : Int) ≤ kc) = false := decide_eq_false hk
        have e := next_line l10 (by have h := trimL_len (bytesOf next); rw [bytes_len] at h; omega) [] 0
        have hk1 : kc = -1 := by have h := (okX_line (wordsOf (cutR next))).2.1; rw [HQ.out.2.2.2.2] at h; rcases h with h | h; exact h; exact absurd h.1 hk
        have e1 : (lineW next).2 = -1 := HQ.out.2.2.2.2.trans hk1
        rw [if_pos e1] at e
        have e2 := HQ.out.1.symm.trans e
        have hd2 : db = dc := by rw [← HQ.out.2.2.2.1, ← HQ.out.2.1, e2]; rfl
        have hf : fb = true := by rw [← HQ.out.2.2.1, e2]
        clear e e1 e2 HQ
        subst hf
        obtain rfl := hd2
        go_wp2_with fail
        have Veg := Aside0.mk HI.out.lt
        refine wp_var ?_
        intro w16 hs hv
        replace HB := Aside0.mk (below_step HB.out hs)
        replace HI := Aside0.mk (HI.out.below hs)
        replace HCb := Aside0.mk (Kd.C_below HCb.out hs)
        replace Vd := Aside0.mk (blk_below Vd.out hs)
        replace HCc := Aside0.mk (Kd.C_below HCc.out hs)
        have Ve := Aside0.mk (hv)
        clear hs hv
        clear HI
        refine start_ (n := 12) (S := fun w' => C12 w' (w12.heap.size) (.string db.what) (.string db.verb) (.slice A4 db.keys.length c4) (.string db.data) (.int .u32 db.flags) (.int .i64 db.exp) (.int .u64 db.cas) (.int .u64 db.by_) (.bool db.withCas) (.bool db.withTouch) (.bool db.down) (.bool db.quiet) ∧ C12 w' (w15.heap.size) (.string db.what) (.string db.verb) (.slice A5 db.keys.length c5) (.string db.data) (.int .u32 db.flags) (.int .i64 db.exp) (.int .u64 db.cas) (.int .u64 db.by_) (.bool db.withCas) (.bool db.withTouch) (.bool db.down) (.bool db.quiet)) (ds := []) #[f,f,f,f,f,f,f,f,f,f,f,f] (by kernel_rfl) rfl rfl ⟨celL Vd.out, celL Ve.out⟩ (fun hHeld => ?_)
        refine with_tabW cellaretlaw18_ParseLong.tab30 cellaretlaw18_ParseLong.bits30 (fun HT_ HW_ => ?_)
        replace HB := Aside0.mk (below_drew1 HB.out)
        replace HCb := Aside0.mk (Kd.C_drew HCb.out)
        replace Vd := Aside0.mk (blk_drew Vd.out)
        replace HCc := Aside0.mk (Kd.C_drew HCc.out)
        replace Ve := Aside0.mk (blk_drew Ve.out)
        refine pure_ (i := 0) (N := some 119) (v := ?_) (a' := ?_) #[t,f,f,f,f,f,f,f,f,f,f,f] rfl rfl (any_of HT_.out (by kernel_rfl)) (fun _ _ _ h => h) (Or.inl ⟨by rfl, ?_⟩) ?_ ?_
        rotate_left
        ·intro w'
         go_simp
         with_reducible rfl
        rotate_left
        ·simp only [Act.put, List.setIfInBounds_toArray, List.set_cons_zero, List.set_cons_succ, i64_w, i32_w]
         rfl
        refine pure_ (i := 1) (N := some 120) (v := ?_) (a' := ?_) #[t,t,f,f,f,f,f,f,f,f,f,f] rfl rfl (any_of HT_.out (by kernel_rfl)) (fun _ _ _ h => h) (Or.inl ⟨by rfl, ?_⟩) ?_ ?_
        rotate_left
        ·intro w'
         go_simp
         with_reducible rfl
        rotate_left
        ·simp only [Act.put, List.setIfInBounds_toArray, List.set_cons_zero, List.set_cons_succ, i64_w, i32_w]
         rfl
        refine pure_ (i := 2) (N := some 121) (v := ?_) (a' := ?_) #[t,t,t,f,f,f,f,f,f,f,f,f] rfl rfl (any_of HT_.out (by kernel_rfl)) (fun _ _ _ h => h) (Or.inl ⟨by rfl, ?_⟩) ?_ ?_
        rotate_left
        ·intro w'
         go_simp
         with_reducible rfl
        rotate_left
        ·simp only [Act.put, List.setIfInBounds_toArray, List.set_cons_zero, List.set_cons_succ, i64_w, i32_w]
         rfl
        refine pure_ (i := 3) (N := some 122) (v := ?_) (a' := ?_) #[t,t,t,t,f,f,f,f,f,f,f,f] rfl rfl (any_of HT_.out (by kernel_rfl)) (fun _ _ _ h => h) (Or.inl ⟨by rfl, ?_⟩) ?_ ?_
        rotate_left
        ·intro w'
         go_simp
         with_reducible rfl
        rotate_left
        ·simp only [Act.put, List.setIfInBounds_toArray, List.set_cons_zero, List.set_cons_succ, i64_w, i32_w]
         rfl
        refine pure_ (i := 4) (N := some 123) (v := ?_) (a' := ?_) #[t,t,t,t,t,f,f,f,f,f,f,f] rfl rfl (any_of HT_.out (by kernel_rfl)) (fun _ _ _ h => h) (Or.inl ⟨by rfl, ?_⟩) ?_ ?_
        rotate_left
        ·intro w'
         go_simp
         with_reducible rfl
        rotate_left
        ·simp only [Act.put, List.setIfInBounds_toArray, List.set_cons_zero, List.set_cons_succ, i64_w, i32_w]
         rfl
        refine pure_ (i := 5) (N := some 124) (v := ?_) (a' := ?_) #[t,t,t,t,t,t,f,f,f,f,f,f] rfl rfl (any_of HT_.out (by kernel_rfl)) (fun _ _ _ h => h) (Or.inl ⟨by rfl, ?_⟩) ?_ ?_
        rotate_left
        ·intro w'
         go_simp
         with_reducible rfl
        rotate_left
        ·simp only [Act.put, List.setIfInBounds_toArray, List.set_cons_zero, List.set_cons_succ, i64_w, i32_w]
         rfl
        refine take_ (i := 6) (N := some 125) (v := ?_) (a' := ?_) #[t,t,t,t,t,t,t,f,f,f,f,f] rfl rfl (take_ofW HT_.out HW_.out (by kernel_rfl)) (fun _ _ _ h => h) (Or.inl ⟨by rfl, ?_⟩) hHeld ?_ ?_
        rotate_left
        ·rintro w' ⟨⟨s0, s1, s2, s3, s4, s5, s6, s7, s8, s9, s10, s11⟩, ⟨s12, s13, s14, s15, s16, s17, s18, s19, s20, s21, s22, s23⟩⟩
         go_simp
         with_reducible rfl
        rotate_left
        ·simp only [Act.put, List.setIfInBounds_toArray, List.set_cons_zero, List.set_cons_succ, i64_w, i32_w]
         rfl
        refine take_ (i := 8) (N := some 127) (v := ?_) (a' := ?_) #[t,t,t,t,t,t,t,f,t,f,f,f] rfl rfl (take_ofW HT_.out HW_.out (by kernel_rfl)) (fun _ _ _ h => h) (Or.inl ⟨by rfl, ?_⟩) hHeld ?_ ?_
        rotate_left
        ·rintro w' ⟨⟨s0, s1, s2, s3, s4, s5, s6, s7, s8, s9, s10, s11⟩, ⟨s12, s13, s14, s15, s16, s17, s18, s19, s20, s21, s22, s23⟩⟩
         go_simp
         with_reducible rfl
        rotate_left
        ·simp only [Act.put, List.setIfInBounds_toArray, List.set_cons_zero, List.set_cons_succ, i64_w, i32_w]
         rfl
        refine one_ (i := 7) (N := some 126) #[t,t,t,t,t,t,t,t,t,f,f,f] rfl rfl (one_of HT_.out (by kernel_rfl)) (by decide) (fun K hK => ?_)
        refine goes_ Tryz.func8 (by kernel_rfl) rfl #[.agg #[.string db.what, .string db.verb, .slice A4 db.keys.length c4, .string db.data, .int .u32 db.flags, .int .i64 db.exp, .int .u64 db.cas, .int .u64 db.by_, .bool db.withCas, .bool db.withTouch, .bool db.down, .bool db.quiet]] (by rfl) rfl rfl (by (try simp only [List.map_toArray, List.map_cons, List.map_nil]); first | done | rfl) ?_
        refine (cmd_ref db hkb HCb.out hl4).mono ?_
        rintro e w17 ⟨A6, c6, rfl, hl6, hC, hs⟩
        refine ⟨_, rfl, ?_⟩
        replace HB := Aside0.mk (below_step HB.out hs)
        replace HCb := Aside0.mk (Kd.C_below HCb.out hs)
        replace Vd := Aside0.mk (blk_below Vd.out hs)
        replace HCc := Aside0.mk (Kd.C_below HCc.out hs)
        replace Ve := Aside0.mk (blk_below Ve.out hs)
        have HC6 := Aside0.mk (hC)
        clear hs hC
        refine hK.out _ _ ⟨celL Vd.out, celL Ve.out⟩ (fun hHeld => ?_)
        clear hK K
        refine norm_ (a' := ?_) ?_ ?_
        rotate_left
        ·show Act.put _ (some 126) _ = _
         simp only [Act.put, List.setIfInBounds_toArray, List.set_cons_zero, List.set_cons_succ, i64_w, i32_w]
         rfl
        refine one_ (i := 9) (N := some 128) #[t,t,t,t,t,t,t,t,t,t,f,f] rfl rfl (one_of HT_.out (by kernel_rfl)) (by decide) (fun K hK => ?_)
        refine goes_ Tryz.func16 (by kernel_rfl) rfl #[cdV db (.slice A6 db.keys.length c6), .agg #[.string db.what, .string db.verb, .slice A5 db.keys.length c5, .string db.data, .int .u32 db.flags, .int .i64 db.exp, .int .u64 db.cas, .int .u64 db.by_, .bool db.withCas, .bool db.withTouch, .bool db.down, .bool db.quiet]] (by rfl) rfl rfl (by (try simp only [List.map_toArray, List.map_cons, List.map_nil]); first | done | rfl) ?_
        refine (same_ref db (by omega) HC6.out hl6 HCc.out hl5).mono ?_
        rintro e w18 ⟨rfl, hs⟩
        refine ⟨_, rfl, ?_⟩
        replace HB := Aside0.mk (below_step HB.out hs)
        replace HCb := Aside0.mk (Kd.C_below HCb.out hs)
        replace Vd := Aside0.mk (blk_below Vd.out hs)
        replace HCc := Aside0.mk (Kd.C_below HCc.out hs)
        replace Ve := Aside0.mk (blk_below Ve.out hs)
        replace HC6 := Aside0.mk (Kd.C_below HC6.out hs)
        clear hs
        refine hK.out _ _ ⟨celL Vd.out, celL Ve.out⟩ (fun hHeld => ?_)
        clear hK K
        refine norm_ (a' := ?_) ?_ ?_
        rotate_left
        ·show Act.put _ (some 128) _ = _
         simp only [Act.put, List.setIfInBounds_toArray, List.set_cons_zero, List.set_cons_succ, i64_w, i32_w]
         rfl
        refine pure_ (i := 10) (N := some 129) (v := ?_) (a' := ?_) #[t,t,t,t,t,t,t,t,t,t,t,f] rfl rfl (any_of HT_.out (by kernel_rfl)) (fun _ _ _ h => h) (Or.inl ⟨by rfl, ?_⟩) ?_ ?_
        rotate_left
        ·intro w'
         go_simp
         with_reducible rfl
        rotate_left
        ·simp only [Act.put, List.setIfInBounds_toArray, List.set_cons_zero, List.set_cons_succ, i64_w, i32_w]
         rfl
        refine pure_ (i := 11) (N := some 6) (v := ?_) (a' := ?_) #[t,t,t,t,t,t,t,t,t,t,t,t] rfl rfl (any_of HT_.out (by kernel_rfl)) (fun _ _ _ h => h) (Or.inl ⟨by rfl, ?_⟩) ?_ ?_
        rotate_left
        ·intro w'
         go_simp
         with_reducible rfl
        rotate_left
        ·simp only [Act.put, List.setIfInBounds_toArray, List.set_cons_zero, List.set_cons_succ, i64_w, i32_w]
         rfl
        refine done_ (done_of HT_.out (by kernel_rfl)) ?_
        try go_wp2
        go_ret
        exact ⟨rfl, below_step HW.out HB.out⟩
end Go.Proofs.YtfbhlbchmenloaaGreatDoor.O
end
section
namespace Go.Proofs.YtfbhlbchmenloaaGreatDoor.Pure
theorem ParseLong : True := trivial
end Go.Proofs.YtfbhlbchmenloaaGreatDoor.Pure
namespace Go.Proofs.YtfbhlbchmenloaaGreatDoor.H
open Go Go.RowKit Go.Proofs.YtfbhlbchmenloaaGreatDoorW.PrintWords
theorem cellaretlaw18_ParseLong.walk (_P : True) (a0 : Int) (a1 : ByteArray) (a2 : Int) (w : World) (HLD : LaidA w) (_w0 : (Lit.int .i64 a0).wf = true) (_w1 : a1.size ≤ 140737488351232) (_w2 : (Lit.int .i64 a2).wf = true) :
    Calls Tryz.prog 4 #[.int .i64 a0, .string a1, .int .i64 a2] w fun e w' => e = .returned (.bool true) ∧ Below w.heap.size w w' := Go.Proofs.YtfbhlbchmenloaaGreatDoor.O.long_walk a0 a1 a2 w HLD
end Go.Proofs.YtfbhlbchmenloaaGreatDoor.H
end
section
namespace Go.Proofs.YtfbhlbchmenloaaGreatDoor.parseLong
open Go.ChangeShapes Go.WideShapes Go.ChangeAt Go.RowKit Go.Proofs.YtfbhlbchmenloaaGreatDoor.R Go.Proofs.YtfbhlbchmenloaaGreatDoor.H
open Go.ChangeMaps (open_string shut_string)
set_option linter.unusedVariables false
set_option linter.unusedSimpArgs false
set_option maxRecDepth 100000 in
theorem contract (H : Type) (enc : TypeId × Value → H) (W : World) (base : Nat) (args : Array Value) (ds gs : List (DataW H)) (before : List MemPlace)
    (hval0 : ∀ (j : Nat) t v, Tryz.f4.params[j]? = some t → args[j]? = some v → Value.okWide Tryz.prog W .any base t v)
    (hW : DataW.Whole enc Tryz.prog Tryz.f4.params.toList Rows.parseLongSpec.vars false W args.toList ds gs before)
    (hsz0 : (DataW.weightsEach Tryz.prog (Tryz.f4.params.toList ++ Rows.parseLongSpec.plain.varTypes Tryz.prog) (ds ++ gs)).all (· ≤ reachBytes) = true)
    (HLD : LaidA W) :
    Calls Tryz.prog 4 args W fun e W' => ∃ v, e = .returned v ∧ Rows.parseLongSpec.post enc Tryz.prog Tryz.f4 false true false false W args v W' := by
  have hsz := hsz0
  have hval := hval0
  have hW' := hW
  obtain ⟨p, q, hA0, hV, rfl, hfz, hnd⟩ := hW
  have hA : DataW.TrodAll enc Tryz.prog W 0 (fun _ => true) true Tryz.f4.params.toList args.toList ds p := hA0
  rw [Tryz.params4] at hA hval hsz
  obtain ⟨v0, vs0, d0, ds0, p0, q0, hargs, rfl, rfl, h0, r0⟩ := trodAll_cons hA
  obtain ⟨v1, vs1, d1, ds1, p1, q1, rfl, rfl, rfl, h1, r1⟩ := trodAll_cons r0
  obtain ⟨v2, vs2, d2, ds2, p2, q2, rfl, rfl, rfl, h2, r2⟩ := trodAll_cons r1
  obtain ⟨rfl, rfl, rfl⟩ := trodAll_nil r2
  obtain rfl : args = #[v0, v1, v2] := by cases args; simp_all
  obtain ⟨rfl, rfl⟩ := trodVars_none hV
  obtain ⟨a0, rfl, rfl, rfl, w0⟩ := open_int Tryz.underlying3 (hval 0 3 v0 rfl rfl) h0
  obtain ⟨a1, rfl, rfl, rfl, y1⟩ := open_string Tryz.underlying9 (hval 1 9 v1 rfl rfl) h1
  have w1 : a1.size ≤ 140737488351232 := by
    have z := sized_string hsz (j := 1) (t := 9) rfl rfl
    rw [Array.length_toList] at z
    exact z
  obtain ⟨a2, rfl, rfl, rfl, w2⟩ := open_int Tryz.underlying3 (hval 2 3 v2 rfl rfl) h2
  clear hA0 hval0 hsz0 hsz
  refine (Go.Proofs.YtfbhlbchmenloaaGreatDoor.H.cellaretlaw18_ParseLong.walk Go.Proofs.YtfbhlbchmenloaaGreatDoor.Pure.ParseLong a0 a1 a2 W HLD w0 w1 w2).mono fun e W' ⟨he, bel⟩ => ?_
  subst he
  exact ⟨_, rfl, _, _, _, [], _, [], hW', trodAll_mk1 (shut_bool Tryz.underlying4 _), (trodAll_cons_mk (shut_int Tryz.underlying3 w0) (trodAll_cons_mk (shut_string Tryz.underlying9 y1) (trodAll_cons_mk (shut_int Tryz.underlying3 w2) trodAll_mk0))), rfl, bel.frame _, fun h => by cases h⟩
theorem reads (os : Os) {H : Type} (enc : TypeId × Value → H) : ∃ places, DataW.whole enc Tryz.prog ((laidWorld os).forCall (fun _ _ => 0) ⟨#[], #[.int .i64 0, .string ByteArray.empty, .int .i64 0], []⟩).memory Tryz.f4.params.toList Rows.parseLongSpec.vars false #[Value.int .i64 0, Value.string ByteArray.empty, Value.int .i64 0].toList 8 = some ([.lit (.int .i64 0), .lit (.string []), .lit (.int .i64 0)], [], places) :=
  ⟨[], by kernel_rfl⟩
set_option maxRecDepth 100000 in
theorem lifted (os : Os) (started : os.Started) (H : Type) (enc : TypeId × Value → H) (F : Stop.Interp) :
    ReturnsInHanded {} Tryz.checked os 4 .any ((OpenSpec.ofChange Rows.parseLongSpec).preRow enc Tryz.prog Tryz.f4 Rows.parseLongRow.domain false Rows.parseLongRow.laid) (((OpenSpec.ofChange Rows.parseLongSpec).at F).post enc Tryz.prog Tryz.f4 false true false false) := by
  obtain ⟨places, hx⟩ := reads os enc
  refine returnsInHanded_of_row (C := Tryz.checked) (s := OpenSpec.ofChange Rows.parseLongSpec) own started (by kernel_rfl) Tryz.func4
    (witness_row_atRef (enc := enc) (C := Tryz.checked) false (laidWorld os) #[.int .i64 0, .string ByteArray.empty, .int .i64 0] rfl (by kernel_rfl) (by kernel_rfl) (by kernel_rfl)
      (OpenSpec.preRow_of_cond 8 hx (by kernel_rfl) (fun k hk => by cases hk) (by kernel_rfl) (laid_met os _))) ?_
  intro W base args ds gs before hval hW _ _ hsz hL hsh _
  exact contract H enc W base args ds gs before hval hW hsz (laidA_of hL hsh)
theorem said : Rows.ParseLongSaid :=
  OpenClaim.holds_of_cond 4 Tryz.f4 rfl rfl rfl rfl rfl rfl rfl ⟨rfl, rfl, rfl, rfl, rfl⟩ rfl rfl rfl rfl rfl (by kernel_rfl) Tryz.func4 (by kernel_rfl)
    (of_decide_eq_true (by kernel_rfl)) (by unfold Func.isWrapper; first | (rw [if_pos (by decide +kernel)]; kernel_rfl) | (rw [if_neg (by decide +kernel)]; exact ⟨rfl, rfl⟩))
    (fun os started H enc _ F => by rw [OpenClaim.pre_eq_preRow]; exact lifted os started H enc F)
theorem plain (f : FuncId) (fn : Func) (hf : Tryz.pinned.checked.prog.funcNamed "cellaret/cellaretlaw18.ParseLong" = some f) (hfn : Tryz.pinned.checked.prog.funcs[f]? = some fn) :
    true = Tryz.pinned.checked.prog.looks [] ∧ ∀ (j : Nat) t, fn.params[j]? = some t → Tryz.pinned.checked.prog.wantsStandIn t = false := by
  obtain rfl : f = 4 := Option.some.inj ((show Tryz.prog.funcNamed "cellaret/cellaretlaw18.ParseLong" = some 4 by kernel_rfl).symm.trans hf) |>.symm
  obtain rfl : fn = Tryz.f4 := (Option.some.inj (Tryz.func4.symm.trans hfn)).symm
  refine ⟨by kernel_rfl, fun j t ht => ?_⟩
  rw [Tryz.params4] at ht
  have hm := Array.mem_of_getElem? ht
  have hm2 : t = 3 ∨ t = 9 ∨ t = 3 := by simpa [or_comm, or_assoc] using hm
  rcases hm2 with rfl | rfl | rfl
  · exact (show Tryz.prog.wantsStandIn 3 = false by kernel_rfl)
  · exact (show Tryz.prog.wantsStandIn 9 = false by kernel_rfl)
  · exact (show Tryz.prog.wantsStandIn 3 = false by kernel_rfl)
theorem card : Rows.ParseLongCardSaid :=
  Claim7.holds_tied_plain_at .later [] _ _ _ _ said (fun _ h => by cases h) (by kernel_rfl) (fun _ h => by cases h) parseLong_row_tie rfl ⟨rfl, rfl⟩ (by kernel_rfl) rfl plain (by kernel_rfl)
end Go.Proofs.YtfbhlbchmenloaaGreatDoor.parseLong
namespace Go.Proofs.YtfbhlbchmenloaaGreatDoor
/-- The card, under a short name, for the claim. -/
theorem parseLong_holds : Rows.ParseLongCardSaid := parseLong.card
end Go.Proofs.YtfbhlbchmenloaaGreatDoor
end
