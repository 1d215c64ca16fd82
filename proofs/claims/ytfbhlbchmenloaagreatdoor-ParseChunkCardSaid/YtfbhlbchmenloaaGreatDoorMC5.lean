/-
  The law's own walk, its plain statement and its row: the law holds. Its condition: none beside the given row's own.
-/
import Derived.Test.YtfbhlbchmenloaaGreatDoorMC4
import Derived.Test.YtfbhlbchmenloaaGreatDoorMB0
import Derived.Test.YtfbhlbchmenloaaGreatDoorMB2
import Derived.ShutString
import Derived.ChangeOld
import Derived.Below
import Derived.SizedLaws
section
namespace Go.Proofs.YtfbhlbchmenloaaGreatDoor.O
open Go Go.RowKit Go.Proofs.YtfbhlbchmenloaaGreatDoorW.PrintWords Go.Proofs.YtfbhlbchmenloaaGreatDoorW.PrintLast Go.Proofs.YtfbhlbchmenloaaGreatDoorW.PrintMore Go.Proofs.YtfbhlbchmenloaaGreatDoor.H Go.Proofs.YtfbhlbchmenloaaGreatDoor.L Go.Proofs.YtfbhlbchmenloaaGreatDoor.Pure
set_option linter.unusedVariables false
set_option linter.unusedSimpArgs false
theorem chunk_s1 {data X : ByteArray} (hX : X = ((setL data.size ++ crlfB) ++ data) ++ crlfB) (hd : data.size ≤ 1024) : nextR (psFeed psNew (bytesOf X)) = (.pl (.store setW kB data 0 0 0 false), true, ⟨[], false, .nil, (data.size : Int)⟩) := by
 have e := next_set data.size (by omega) (bytesOf data ++ 13 :: 10 :: []) 0
 have e2 := data_crlf (bytesOf data) [] false (.store setW kB ⟨#[]⟩ 0 0 0 false)
 rw [bytes_len, back_str] at e2
 rw [if_neg (by omega), e2] at e
 have h : psFeed psNew (bytesOf X) = ⟨bytesOf (setL data.size) ++ 13 :: 10 :: (bytesOf data ++ [13, 10]), false, .nil, 0⟩ := by
  subst hX
  unfold psFeed psNew
  rw [bytes_app, bytes_app, bytes_app, List.append_assoc, List.append_assoc]
  rfl
 rw [h]
 exact e
theorem lacks_l {c : UInt8} {a b : ByteArray} (h : Lacks c (a ++ b)) : Lacks c a := fun x hx => h x (by rw [ByteArray.data_append, Array.toList_append]; exact List.mem_append.2 (.inl hx))
theorem lacks_r {c : UInt8} {a b : ByteArray} (h : Lacks c (a ++ b)) : Lacks c b := fun x hx => h x (by rw [ByteArray.data_append, Array.toList_append]; exact List.mem_append.2 (.inr hx))
theorem ext_app (a b : ByteArray) : (a ++ b).extract 0 ((a ++ b).size - b.size) = a := by
 refine ba_ext ?_
 rw [Lib.extract_data, ByteArray.data_append, Array.toList_append, ByteArray.size_append, Nat.add_sub_cancel, List.drop_zero, Nat.sub_zero]
 rw [← len_eq a, List.take_left']
 rfl
theorem chunk_s2 {data junk next X Y : ByteArray} (hX : X = ((setL data.size ++ crlfB) ++ data) ++ crlfB) (hY : X.extract 0 (X.size - 2) = Y) (hd : data.size ≤ 1024) (hj : ¬ junk.toList = []) (h10 : Lacks 10 junk) (h13 : Lacks 13 junk) :
  nextR (psFeed ⟨[], false, .nil, (data.size : Int)⟩ (bytesOf ((((Y ++ junk) ++ (⟨#[13, 10]⟩ : ByteArray)) ++ next) ++ (⟨#[13, 10]⟩ : ByteArray)))) = (.pl (.bad textChunk), true, ⟨bytesOf junk ++ 13 :: 10 :: (bytesOf next ++ 13 :: 10 :: []), true, .nil, (data.size : Int)⟩) := by
 have hYe : Y = (setL data.size ++ crlfB) ++ data := by
  rw [← hY, hX]
  exact ext_app _ crlfB
 subst hYe
 rw [tl] at hj
 obtain ⟨b, r, hb⟩ : ∃ b r, junk.data.toList = b :: r := by
  cases h : junk.data.toList with
  | nil => exact absurd h hj
  | cons b r => exact ⟨b, r, rfl⟩
 have hm : b ∈ junk.data.toList := by rw [hb]; exact List.mem_cons_self ..
 have hB : bytesOf junk = (b.toNat : Int) :: r.map (fun c => (c.toNat : Int)) := by unfold bytesOf; rw [hb]; rfl
 have n10 : (b.toNat : Int) ≠ 10 := fun e => h10 b hm (UInt8.toNat_inj.1 (show b.toNat = 10 by omega))
 have n13 : (b.toNat : Int) ≠ 13 := fun e => h13 b hm (UInt8.toNat_inj.1 (show b.toNat = 13 by omega))
 have e := next_set data.size (by omega) (bytesOf data ++ (b.toNat : Int) :: (r.map (fun c => (c.toNat : Int)) ++ 13 :: 10 :: (bytesOf next ++ 13 :: 10 :: []))) (data.size : Int)
 have e2 := data_junk (bytesOf data) (r.map (fun c => (c.toNat : Int)) ++ 13 :: 10 :: (bytesOf next ++ 13 :: 10 :: [])) (b.toNat : Int) false (.store setW kB ⟨#[]⟩ 0 0 0 false) n10 n13
 rw [bytes_len] at e2
 rw [if_neg (by omega), e2] at e
 have h : psFeed ⟨[], false, .nil, (data.size : Int)⟩ (bytesOf (((((setL data.size ++ crlfB) ++ data) ++ junk ++ (⟨#[13, 10]⟩ : ByteArray)) ++ next) ++ (⟨#[13, 10]⟩ : ByteArray))) = ⟨bytesOf (setL data.size) ++ 13 :: 10 :: (bytesOf data ++ (b.toNat : Int) :: (r.map (fun c => (c.toNat : Int)) ++ 13 :: 10 :: (bytesOf next ++ 13 :: 10 :: []))), false, .nil, (data.size : Int)⟩ := by
  unfold psFeed
  simp only [bytes_app, hB, show bytesOf (⟨#[13, 10]⟩ : ByteArray) = [13, 10] from rfl, show bytesOf crlfB = [13, 10] from rfl, List.nil_append, List.append_assoc, List.cons_append]
 rw [h, hB]
 exact e
theorem chunk_s3 {junk : ByteArray} (h : Lacks 10 junk) (l : List Int) (m : Int) : nextR ⟨bytesOf junk ++ 13 :: 10 :: l, true, .nil, m⟩ = nextR ⟨l, false, .nil, m⟩ := by
 have e := next_skip (lacks_app h cr_lacks) l .nil m
 rw [bytes_app, show bytesOf crB = [13] from rfl, List.append_assoc] at e
 exact e
theorem calls_var2 {P : Program} {f : FuncId} {args : Array Value} {K : Ending → World → Prop} {W : World} {cs cs' : Array Value} {t t' : TypeId} (h : ∀ W' : World, Below W.heap.size W W' → W'.heap[W.heap.size]? = some (.cells cs t (0, 0)) → W'.heap[W.heap.size + 1]? = some (.cells cs' t' (0, 0)) → Calls P f args W' K) : Calls P f args ((W.alloc (.cells cs t)).alloc (.cells cs' t')) K := by
 have e : (W.alloc (.cells cs t)).heap.size = W.heap.size + 1 := by simp [World.alloc, -World.alloc_eq]
 refine h _ (below_alloc (below_alloc (Below.refl _ _) _) _) (blk_alloc (heap_alloc_new W _) _) ?_
 rw [← e]
 exact heap_alloc_new _ _
def cellaretlaw18_ParseChunk.T20 : Bool × List (List Nat × List Nat) := (true, [([], []), ([0], [0]), ([1], [1]), ([2], [2]), ([3, 2, 2], [2, 3]), ([4], [4]), ([5, 4, 4], [4, 5]), ([4], [4]), ([6, 7, 6, 4], [4, 6, 7]), ([4, 8, 2], [2, 4, 8]), ([2, 9], [2, 9]), ([10, 8, 0, 1, 2, 3, 4, 5, 6, 7, 8, 9, 10], [10])])
def cellaretlaw18_ParseChunk.B20 : List Nat := [0, 1, 3, 7, 15, 31, 63, 31, 255, 511, 1023, 2047]
theorem cellaretlaw18_ParseChunk.tab20 : rtab .any (opsOf Tryz.f5 20) = cellaretlaw18_ParseChunk.T20 := by kernel_rfl
theorem cellaretlaw18_ParseChunk.bits20 : waitsOk cellaretlaw18_ParseChunk.T20.2 cellaretlaw18_ParseChunk.B20 = true := by kernel_rfl
set_option maxHeartbeats 4000000 in
set_option maxRecDepth 100000 in
theorem chunk_walk (data junk next : ByteArray) (w : World) (HLD : LaidA w) : Calls Tryz.prog 5 #[.string data, .string junk, .string next] w fun e w' => e = .returned (.bool true) ∧ Below w.heap.size w w' := by
 have HL := Aside0.mk HLD
 have hu29 := Tryz.underlying29
 have hu26 := Tryz.underlying26
 have HB := Aside0.mk (Below.refl w.heap.size w)
 clear HLD
 by_cases h1 : 1024 < (data.size : Int)
 ·have h1a : (1024 < (data.size : Int)) = True := eq_true (h1)
  have h1b : decide (1024 < (data.size : Int)) = true := decide_eq_true (h1)
  go_enter Tryz.func5, Tryz.ntmps5
  go_wp2_with fail
  refine (awake_ref HL.out).mono ?_
  rintro e w1 ⟨rfl, hs⟩
  replace HB := Aside0.mk (below_step HB.out hs)
  clear hs
  go_wp2_with fail
  go_ret
  exact ⟨rfl, HB.out⟩
 by_cases h2 : 500 < (junk.size : Int)
 ·have h1a : (1024 < (data.size : Int)) = False := eq_false (by omega)
  have h1b : decide (1024 < (data.size : Int)) = false := decide_eq_false (by omega)
  have h2a : (500 < (junk.size : Int)) = True := eq_true (h2)
  have h2b : decide (500 < (junk.size : Int)) = true := decide_eq_true (h2)
  go_enter Tryz.func5, Tryz.ntmps5
  go_wp2_with fail
  refine (awake_ref HL.out).mono ?_
  rintro e w1 ⟨rfl, hs⟩
  replace HB := Aside0.mk (below_step HB.out hs)
  clear hs
  go_wp2_with fail
  go_ret
  exact ⟨rfl, HB.out⟩
 by_cases h3 : junk.toList = []
 ·have h1a : (1024 < (data.size : Int)) = False := eq_false (by omega)
  have h1b : decide (1024 < (data.size : Int)) = false := decide_eq_false (by omega)
  have h2a : (500 < (junk.size : Int)) = False := eq_false (by omega)
  have h2b : decide (500 < (junk.size : Int)) = false := decide_eq_false (by omega)
  have h3b : (junk.toList == ([] : List UInt8)) = true := beq_iff_eq.mpr h3
  go_enter Tryz.func5, Tryz.ntmps5
  go_wp2_with fail
  refine (awake_ref HL.out).mono ?_
  rintro e w1 ⟨rfl, hs⟩
  replace HB := Aside0.mk (below_step HB.out hs)
  clear hs
  go_wp2_with fail
  go_ret
  exact ⟨rfl, HB.out⟩
 by_cases h4 : 500 < (next.size : Int)
 ·have h1a : (1024 < (data.size : Int)) = False := eq_false (by omega)
  have h1b : decide (1024 < (data.size : Int)) = false := decide_eq_false (by omega)
  have h2a : (500 < (junk.size : Int)) = False := eq_false (by omega)
  have h2b : decide (500 < (junk.size : Int)) = false := decide_eq_false (by omega)
  have h3b : (junk.toList == ([] : List UInt8)) = false := beq_eq_false_iff_ne.mpr h3
  have h4a : (500 < (next.size : Int)) = True := eq_true (h4)
  have h4b : decide (500 < (next.size : Int)) = true := decide_eq_true (h4)
  go_enter Tryz.func5, Tryz.ntmps5
  go_wp2_with fail
  refine (awake_ref HL.out).mono ?_
  rintro e w1 ⟨rfl, hs⟩
  replace HB := Aside0.mk (below_step HB.out hs)
  clear hs
  go_wp2_with fail
  go_ret
  exact ⟨rfl, HB.out⟩
 have h1a : (1024 < (data.size : Int)) = False := eq_false (by omega)
 have h1b : decide (1024 < (data.size : Int)) = false := decide_eq_false (by omega)
 have h2a : (500 < (junk.size : Int)) = False := eq_false (by omega)
 have h2b : decide (500 < (junk.size : Int)) = false := decide_eq_false (by omega)
 have h3b : (junk.toList == ([] : List UInt8)) = false := beq_eq_false_iff_ne.mpr h3
 have h4a : (500 < (next.size : Int)) = False := eq_false (by omega)
 have h4b : decide (500 < (next.size : Int)) = false := decide_eq_false (by omega)
 have hw1 : wrap64 ((junk.size : Int) + (next.size : Int)) = (junk.size : Int) + (next.size : Int) := by unfold wrap64; omega
 have hd : data.size ≤ 1024 := by omega
 have hj : junk.size ≤ 500 := by omega
 have hn : next.size ≤ 500 := by omega
 have s0 : junk.size + next.size ≤ 9223372036854775807 := by omega
 have s1 : (junk.size + next.size ≤ 9223372036854775807) = True := eq_true s0
 have s2 : decide (junk.size + next.size ≤ 9223372036854775807) = true := decide_eq_true s0
 have s3 : (9223372036854775807 < junk.size + next.size) = False := eq_false (Nat.not_lt.2 s0)
 go_enter Tryz.func5, Tryz.ntmps5
 go_wp2_with fail
 refine (awake_ref HL.out).mono ?_
 rintro e w1 ⟨rfl, hs⟩
 replace HB := Aside0.mk (below_step HB.out hs)
 clear hs
 go_wp2_with fail
 go_loopg [7] (junk.size + next.size) (fun kq v5 w' => ∃ i : Nat, v5 = .int .i64 (i : Int) ∧ Aside0 (i + kq = junk.size + next.size ∧ ∀ j, j < i → by_ (junk ++ next) j ≠ 10 ∧ by_ (junk ++ next) j ≠ 13) ∧ Aside0 (Below w.heap.size w w'))
 case atStart => exact ⟨0, rfl, ⟨Nat.zero_add _, fun j hj => absurd hj (Nat.not_lt_zero j)⟩, HB⟩
 case round =>
  obtain ⟨i, rfl, HA, HB⟩ := hrel
  have hA := HA.out.1
  have hsz : (junk ++ next).size = junk.size + next.size := ByteArray.size_append
  by_cases hi : i < junk.size + next.size
  ·have hi2 : i < (junk ++ next).size := by omega
   have i1 : ((i : Int) < (junk.size : Int) + (next.size : Int)) = True := eq_true (by omega)
   have i2 : decide ((i : Int) < (junk.size : Int) + (next.size : Int)) = true := decide_eq_true (by omega)
   have i3 : ((0 : Int) ≤ (i : Int)) = True := eq_true (by omega)
   have i4 : ((i : Int) < ((junk ++ next).size : Int)) = True := eq_true (by omega)
   have hx := bt_at (junk ++ next) (i : Int)
   have hb : (((junk ++ next)[i]'hi2).toNat : Int) = (by_ (junk ++ next) i : Int) := (bt_get (junk ++ next) i hi2).symm.trans (bt_by (junk ++ next) i hi2)
   have hw : wrap64 ((i : Int) + 1) = ((i + 1 : Nat) : Int) := by unfold wrap64; omega
   by_cases ca : by_ (junk ++ next) i = 10
   ·have cb : ((((junk ++ next)[i]'hi2).toNat : Int) == 10) = true := by rw [hb, ca]; rfl
    go_wp2_with fail
    go_ret
    exact ⟨rfl, HB.out⟩
   ·have cb : ((((junk ++ next)[i]'hi2).toNat : Int) == 10) = false := beq_eq_false_iff_ne.mpr (by rw [hb]; omega)
    by_cases cc : by_ (junk ++ next) i = 13
    ·have cd : ((((junk ++ next)[i]'hi2).toNat : Int) == 13) = true := by rw [hb, cc]; rfl
     go_wp2_with fail
     go_ret
     exact ⟨rfl, HB.out⟩
    ·have cd : ((((junk ++ next)[i]'hi2).toNat : Int) == 13) = false := beq_eq_false_iff_ne.mpr (by rw [hb]; omega)
     have ce : (((((junk ++ next)[i]'hi2).toNat : Int) == 10) || ((((junk ++ next)[i]'hi2).toNat : Int) == 13)) = false := by rw [cb, cd]; rfl
     clear hb
     go_wp2_with fail
     go_roundg (gk - 1)
     case measure => omega
     case rel => exact ⟨i + 1, rfl, ⟨by omega, fun j hj => by by_cases e : j = i; (subst e; exact ⟨ca, cc⟩); (exact HA.out.2 j (by omega))⟩, HB⟩
  ·have i1 : ((i : Int) < (junk.size : Int) + (next.size : Int)) = False := eq_false (by omega)
   have i2 : decide ((i : Int) < (junk.size : Int) + (next.size : Int)) = false := decide_eq_false (by omega)
   have l10 : Lacks 10 (junk ++ next) := lacks_of fun j hj => (HA.out.2 j (by omega)).1
   have l13 : Lacks 13 (junk ++ next) := lacks_of fun j hj => (HA.out.2 j (by omega)).2
   clear HA hA
   have i4 : decide (i < junk.size + next.size) = false := decide_eq_false hi
   have i5 : (i < junk.size + next.size) = False := eq_false hi
   go_wp2_with fail
   clear i1 i2 i4 i5 hi
   refine (new_ref HB.out (HL.out.below HB.out)).mono ?_
   rintro e w2 ⟨g, rfl, hi, hb, hs⟩
   replace HB := Aside0.mk hb
   have HI := Aside0.mk hi
   clear hi hb hs
   go_wp2_with fail
   obtain ⟨X, hX⟩ : ∃ X, X = ((setL data.size ++ crlfB) ++ data) ++ crlfB := ⟨_, rfl⟩
   have HX := Aside0.mk hX
   have hXs : X.size ≤ 1058 := by rw [hX, ByteArray.size_append, ByteArray.size_append, ByteArray.size_append]; have h1 := set_size data.size (by omega); show (setL data.size).size + 2 + data.size + 2 ≤ 1058; omega
   have hX2 : 2 ≤ X.size := by rw [hX, ByteArray.size_append]; show 2 ≤ _ + 2; omega
   clear hX
   refine calls_var ?_
   intro w3 hs hv
   replace HB := Aside0.mk (below_step HB.out hs)
   replace HI := Aside0.mk (HI.out.below hs)
   have hk := (Kd.R_reads' (row_one (base := w2.heap.size) (ok := fun _ => True) hv (Nat.le_refl _) trivial)).2.2
   clear hs hv
   refine (by rw [HX.out]; exact written_ref data hd hk (Nat.le_refl _) : Calls Tryz.prog 10 #[.agg #[.string ⟨#[115, 116, 111, 114, 101]⟩, .string ⟨#[115, 101, 116]⟩, .slice (some ⟨w2.heap.size, 0, none⟩) 1 1, .string data, .int .u32 0, .int .i64 0, .int .u64 0, .int .u64 0, .bool false, .bool false, .bool false, .bool false]] w3 fun e w' => e = .returned (.string X) ∧ Below w3.heap.size w3 w').mono ?_
   rintro e w4 ⟨rfl, hs⟩
   replace HB := Aside0.mk (below_step HB.out hs)
   replace HI := Aside0.mk (HI.out.below hs)
   clear hs hk
   go_wp2_with ((with_reducible refine gate_dst (N := 66) rfl ?_); (refine conv_event rfl (N := 66) rfl 9 36 5 rfl Tryz.underlying9 Tryz.underlying36 Tryz.underlying5 (X) (bytesOf X) rfl (conv_is _ (by omega)) ?_); intro v1 w5 ho hs; obtain ⟨A1, c1, ev⟩ := Kd.V_slice ho; subst ev; have HC1 := Aside0.mk (Kd.V_reads' ho); replace HB := Aside0.mk (below_step HB.out hs); replace HI := Aside0.mk (HI.out.below hs); clear ho hs)
   refine (feed_ref HI.out HB.out (HL.out.below HB.out) (HC1.out.2.2) (HC1.out.2.1) (by rw [bytes_len]; show 0 + _ ≤ _; omega)).mono ?_
   rintro e w6 ⟨rfl, hi, hb, hk⟩
   replace HI := Aside0.mk hi
   replace HB := Aside0.mk hb
   clear hi hb hk
   clear HC1
   go_wp2_with fail
   refine (next_ref (Inv.feed (ps := psNew) (fun h => by cases h) _) (chunk_s1 HX.out hd) (toD (.store setW kB data 0 0 0 false)) (rfl) (true) (rfl) HI.out HB.out (HL.out.below HB.out)).mono ?_
   rintro e w7 ⟨A1, c1, rfl, hr, hi, hb, hk⟩
   replace HI := Aside0.mk hi
   replace HB := Aside0.mk hb
   have HR1 := Aside0.mk hr
   clear hi hb hk hr
   clear HR1
   dsimp only [cdV, toD]
   go_wp2_with fail
   have Vag := Aside0.mk HI.out.lt
   refine calls_var2 ?_
   intro w8 hs ha hv
   replace HB := Aside0.mk (below_step HB.out hs)
   replace HI := Aside0.mk (HI.out.below hs)
   have Va := Aside0.mk (ha)
   have hk := (Kd.R_reads' (row_one (base := w7.heap.size + 1) (ok := fun _ => True) hv (Nat.le_refl _) trivial)).2.2
   clear hs ha hv
   refine (by rw [HX.out]; exact written_ref data hd hk (Nat.le_refl _) : Calls Tryz.prog 10 #[.agg #[.string ⟨#[115, 116, 111, 114, 101]⟩, .string ⟨#[115, 101, 116]⟩, .slice (some ⟨w7.heap.size + 1, 0, none⟩) 1 1, .string data, .int .u32 0, .int .i64 0, .int .u64 0, .int .u64 0, .bool false, .bool false, .bool false, .bool false]] w8 fun e w' => e = .returned (.string X) ∧ Below w8.heap.size w8 w').mono ?_
   rintro e w9 ⟨rfl, hs⟩
   replace HB := Aside0.mk (below_step HB.out hs)
   replace HI := Aside0.mk (HI.out.below hs)
   replace Va := Aside0.mk (blk_below Va.out hs)
   clear hs hk
   have hx1 : wrap64 ((X.size : Int) - 2) = (X.size : Int) - 2 := by unfold wrap64; omega
   have hx2 : (0 : Int) ≤ (X.size : Int) - 2 := by omega
   have hx3 : (X.size : Int) - 2 ≤ (X.size : Int) := by omega
   have hx4 : ((X.size : Int) - 2).toNat = X.size - 2 := by omega
   obtain ⟨Y, hY⟩ : ∃ Y, X.extract 0 (X.size - 2) = Y := ⟨_, rfl⟩
   have HY := Aside0.mk hY
   have hYs : Y.size ≤ 1056 := by rw [← hY, ByteArray.size_extract]; omega
   have t0 : Y.size + junk.size ≤ 9223372036854775807 := by omega
   have t1 : (Y.size + junk.size ≤ 9223372036854775807) = True := eq_true t0
   have t2 : decide (Y.size + junk.size ≤ 9223372036854775807) = true := decide_eq_true t0
   have t3 : (9223372036854775807 < Y.size + junk.size) = False := eq_false (Nat.not_lt.2 t0)
   have u0 : Y.size + junk.size + 2 ≤ 9223372036854775807 := by omega
   have u1 : (Y.size + junk.size + 2 ≤ 9223372036854775807) = True := eq_true u0
   have u2 : decide (Y.size + junk.size + 2 ≤ 9223372036854775807) = true := decide_eq_true u0
   have u3 : (9223372036854775807 < Y.size + junk.size + 2) = False := eq_false (Nat.not_lt.2 u0)
   have v0 : Y.size + junk.size + 2 + next.size ≤ 9223372036854775807 := by omega
   have v1 : (Y.size + junk.size + 2 + next.size ≤ 9223372036854775807) = True := eq_true v0
   have v2 : decide (Y.size + junk.size + 2 + next.size ≤ 9223372036854775807) = true := decide_eq_true v0
   have v3 : (9223372036854775807 < Y.size + junk.size + 2 + next.size) = False := eq_false (Nat.not_lt.2 v0)
   have y0 : Y.size + junk.size + 2 + next.size + 2 ≤ 9223372036854775807 := by omega
   have y1 : (Y.size + junk.size + 2 + next.size + 2 ≤ 9223372036854775807) = True := eq_true y0
   have y2 : decide (Y.size + junk.size + 2 + next.size + 2 ≤ 9223372036854775807) = true := decide_eq_true y0
   have y3 : (9223372036854775807 < Y.size + junk.size + 2 + next.size + 2) = False := eq_false (Nat.not_lt.2 y0)
   have hz1 : ((((Y ++ junk) ++ (⟨#[13, 10]⟩ : ByteArray)) ++ next) ++ (⟨#[13, 10]⟩ : ByteArray)).size ≤ 2060 := by rw [ByteArray.size_append, ByteArray.size_append, ByteArray.size_append, ByteArray.size_append]; show Y.size + junk.size + 2 + next.size + 2 ≤ 2060; omega
   go_wp2_with ((with_reducible refine gate_dst (N := 89) rfl ?_); (refine conv_event rfl (N := 89) rfl 9 36 5 rfl Tryz.underlying9 Tryz.underlying36 Tryz.underlying5 ((((Y ++ junk) ++ (⟨#[13, 10]⟩ : ByteArray)) ++ next) ++ (⟨#[13, 10]⟩ : ByteArray)) (bytesOf ((((Y ++ junk) ++ (⟨#[13, 10]⟩ : ByteArray)) ++ next) ++ (⟨#[13, 10]⟩ : ByteArray))) rfl (conv_is _ (by omega)) ?_); intro v2 w10 ho hs; obtain ⟨A2, c2, ev⟩ := Kd.V_slice ho; subst ev; have HC2 := Aside0.mk (Kd.V_reads' ho); replace HB := Aside0.mk (below_step HB.out hs); replace HI := Aside0.mk (HI.out.below hs); replace Va := Aside0.mk (blk_below Va.out hs); clear ho hs)
   clear hx1 hx2 hx3 hx4 hY t0 t1 t2 t3 u0 u1 u2 u3 v0 v1 v2 v3 y0 y1 y2 y3
   refine (feed_ref HI.out HB.out (HL.out.below HB.out) (HC2.out.2.2) (HC2.out.2.1) (by rw [bytes_len]; show 0 + _ ≤ _; omega)).mono ?_
   rintro e w11 ⟨rfl, hi, hb, hk⟩
   replace Va := Aside0.mk (KeepRow.blk hk Va.out (Nat.ne_of_gt Vag.out) (fun cs e => by injection e; contradiction))
   replace HI := Aside0.mk hi
   replace HB := Aside0.mk hb
   clear hi hb hk
   clear HC2
   go_wp2_with fail
   refine (next_ref (Inv.feed (ps := ⟨[], false, .nil, (data.size : Int)⟩) (fun h => by cases h) _) (chunk_s2 HX.out HY.out hd h3 (lacks_l l10) (lacks_l l13)) (toD (.bad textChunk)) (rfl) (true) (rfl) HI.out HB.out (HL.out.below HB.out)).mono ?_
   rintro e w12 ⟨A2, c2, rfl, hr, hi, hb, hk⟩
   replace Va := Aside0.mk (KeepBut.blk hk Va.out (Nat.ne_of_gt Vag.out) (by simp))
   replace HI := Aside0.mk hi
   replace HB := Aside0.mk hb
   have HR2 := Aside0.mk hr
   clear hi hb hk hr
   clear HR2
   dsimp only [cdV, toD]
   go_wp2_with fail
   have Vcg := Aside0.mk HI.out.lt
   refine calls_var ?_
   intro w13 hs hv
   replace HB := Aside0.mk (below_step HB.out hs)
   replace HI := Aside0.mk (HI.out.below hs)
   replace Va := Aside0.mk (blk_below Va.out hs)
   have Vc := Aside0.mk (hv)
   clear hs hv
   obtain ⟨q, hq⟩ : ∃ q, nextR ⟨bytesOf next ++ 13 :: 10 :: [], false, .nil, (data.size : Int)⟩ = q := ⟨_, rfl⟩
   obtain ⟨db, hdb⟩ : ∃ d, toX q.1 = d := ⟨_, rfl⟩
   obtain ⟨fb, hfb⟩ : ∃ b, q.2.1 = b := ⟨_, rfl⟩
   have hkb : db.keys.length ≤ 64 := by rw [← hdb, ← hq]; exact next_keys _
   obtain ⟨dc, hdc⟩ : ∃ d, toX (lineX (wordsOf next)).1 = d := ⟨_, rfl⟩
   obtain ⟨kc, hkc⟩ : ∃ k, (lineX (wordsOf next)).2 = k := ⟨_, rfl⟩
   have HQ := Aside0.mk (And.intro hq (And.intro hdb (And.intro hfb (And.intro hdc hkc))))
   clear hq hdb hfb hdc hkc
   refine (next_ref (fun h => by cases h) ((chunk_s3 (lacks_l l10) _ _).trans HQ.out.1) (db) (HQ.out.2.1) (fb) (HQ.out.2.2.1) HI.out HB.out (HL.out.below HB.out)).mono ?_
   rintro e w14 ⟨A4, c4, rfl, hr, hi, hb, hk⟩
   replace Va := Aside0.mk (KeepBut.blk hk Va.out (Nat.ne_of_gt Vag.out) (by simp))
   replace Vc := Aside0.mk (KeepBut.blk hk Vc.out (Nat.ne_of_gt Vcg.out) (by simp))
   replace HI := Aside0.mk hi
   replace HB := Aside0.mk hb
   have HR4 := Aside0.mk hr
   clear hi hb hk hr
   have hl4 := HR4.out.1
   have HCb := Aside0.mk (HR4.out.2)
   clear HR4
   unfold cdV
   go_wp2_with fail
   have Vdg := Aside0.mk HI.out.lt
   refine calls_var ?_
   intro w15 hs hv
   replace HB := Aside0.mk (below_step HB.out hs)
   replace HI := Aside0.mk (HI.out.below hs)
   replace Va := Aside0.mk (blk_below Va.out hs)
   replace Vc := Aside0.mk (blk_below Vc.out hs)
   replace HCb := Aside0.mk (Kd.C_below HCb.out hs)
   have Vd := Aside0.mk (hv)
   clear hs hv
   refine (one_tells next _ (by omega) dc kc HQ.out.2.2.2.1 HQ.out.2.2.2.2).mono ?_
   rintro e w16 ⟨A5, c5, rfl, hl5, hC5, hs⟩
   replace HB := Aside0.mk (below_step HB.out hs)
   replace HI := Aside0.mk (HI.out.below hs)
   replace Va := Aside0.mk (blk_below Va.out hs)
   replace Vc := Aside0.mk (blk_below Vc.out hs)
   replace HCb := Aside0.mk (Kd.C_below HCb.out hs)
   replace Vd := Aside0.mk (blk_below Vd.out hs)
   have HCc := Aside0.mk (hC5)
   clear hs hC5
   unfold cdV
   go_upto_region 18 with (fail)
   have Veg := Aside0.mk HI.out.lt
   refine wp_var ?_
   intro w17 hs hv
   replace HB := Aside0.mk (below_step HB.out hs)
   replace HI := Aside0.mk (HI.out.below hs)
   replace Va := Aside0.mk (blk_below Va.out hs)
   replace Vc := Aside0.mk (blk_below Vc.out hs)
   replace HCb := Aside0.mk (Kd.C_below HCb.out hs)
   replace Vd := Aside0.mk (blk_below Vd.out hs)
   replace HCc := Aside0.mk (Kd.C_below HCc.out hs)
   have Ve := Aside0.mk (hv)
   clear hs hv
   obtain ⟨ra0, ra1, ra2, ra3, ra4, ra5, ra6, ra7, ra8, ra9, ra10, ra11⟩ := celL Va.out
   obtain ⟨rc0, rc1, rc2, rc3, rc4, rc5, rc6, rc7, rc8, rc9, rc10, rc11⟩ := celL Vc.out
   obtain ⟨rd0, rd1, rd2, rd3, rd4, rd5, rd6, rd7, rd8, rd9, rd10, rd11⟩ := celL Vd.out
   obtain ⟨re0, re1, re2, re3, re4, re5, re6, re7, re8, re9, re10, re11⟩ := celL Ve.out
   go_wp2_with fail
   refine (is_ref textChunk).mono ?_
   rintro e w18 ⟨rfl, hs⟩
   replace HB := Aside0.mk (below_step HB.out hs)
   replace HI := Aside0.mk (HI.out.below hs)
   replace Va := Aside0.mk (blk_below Va.out hs)
   replace Vc := Aside0.mk (blk_below Vc.out hs)
   replace HCb := Aside0.mk (Kd.C_below HCb.out hs)
   replace Vd := Aside0.mk (blk_below Vd.out hs)
   replace HCc := Aside0.mk (Kd.C_below HCc.out hs)
   replace Ve := Aside0.mk (blk_below Ve.out hs)
   clear hs
   clear ra0 ra1 ra2 ra3 ra4 ra5 ra6 ra7 ra8 ra9 ra10 ra11
   clear rc0 rc1 rc2 rc3 rc4 rc5 rc6 rc7 rc8 rc9 rc10 rc11
   clear rd0 rd1 rd2 rd3 rd4 rd5 rd6 rd7 rd8 rd9 rd10 rd11
   clear re0 re1 re2 re3 re4 re5 re6 re7 re8 re9 re10 re11
   by_cases hk : 0 ≤ kc
   ·have k1 : ((0 : Int) ≤ kc) = True := eq_true hk
    have k2 : decide ((0 : Int) ≤ kc) = true := decide_eq_true hk
    clear HI
    go_wp2_with fail
    refine start_ (n := 12) (S := fun w' => True) (ds := []) #[f,f,f,f,f,f,f,f,f,f,f,f] (by kernel_rfl) rfl rfl (trivial) (fun hHeld => ?_)
    refine with_tabW cellaretlaw18_ParseChunk.tab20 cellaretlaw18_ParseChunk.bits20 (fun HT_ HW_ => ?_)
    replace HB := Aside0.mk (below_drew1 HB.out)
    replace Va := Aside0.mk (blk_drew Va.out)
    replace Vc := Aside0.mk (blk_drew Vc.out)
    replace HCb := Aside0.mk (Kd.C_drew HCb.out)
    replace Vd := Aside0.mk (blk_drew Vd.out)
    replace HCc := Aside0.mk (Kd.C_drew HCc.out)
    replace Ve := Aside0.mk (blk_drew Ve.out)
    refine pure_ (i := 0) (N := some 122) (v := ?_) (a' := ?_) #[t,f,f,f,f,f,f,f,f,f,f,f] rfl rfl (any_of HT_.out (by kernel_rfl)) (fun _ _ _ h => h) (Or.inl ⟨by rfl, ?_⟩) ?_ ?_
    rotate_left
    ·intro w'
     go_simp
     with_reducible rfl
    rotate_left
    ·simp only [Act.put, List.setIfInBounds_toArray, List.set_cons_zero, List.set_cons_succ, i64_w, i32_w]
     rfl
    refine pure_ (i := 1) (N := some 123) (v := ?_) (a' := ?_) #[t,t,f,f,f,f,f,f,f,f,f,f] rfl rfl (any_of HT_.out (by kernel_rfl)) (fun _ _ _ h => h) (Or.inl ⟨by rfl, ?_⟩) ?_ ?_
    rotate_left
    ·intro w'
     go_simp
     with_reducible rfl
    rotate_left
    ·simp only [Act.put, List.setIfInBounds_toArray, List.set_cons_zero, List.set_cons_succ, i64_w, i32_w]
     rfl
    refine pure_ (i := 2) (N := some 124) (v := ?_) (a' := ?_) #[t,t,t,f,f,f,f,f,f,f,f,f] rfl rfl (any_of HT_.out (by kernel_rfl)) (fun _ _ _ h => h) (Or.inl ⟨by rfl, ?_⟩) ?_ ?_
    rotate_left
    ·intro w'
     go_simp
     with_reducible rfl
    rotate_left
    ·simp only [Act.put, List.setIfInBounds_toArray, List.set_cons_zero, List.set_cons_succ, i64_w, i32_w]
     rfl
    refine pure_ (i := 3) (N := some 125) (v := undef) (a' := ?_) #[t,t,t,t,f,f,f,f,f,f,f,f] rfl rfl (any_of HT_.out (by kernel_rfl)) (fun _ _ _ h => h) (Or.inr ⟨by rfl, rfl⟩) ?_ ?_
    rotate_left
    ·simp only [Act.put, List.setIfInBounds_toArray, List.set_cons_zero, List.set_cons_succ, i64_w, i32_w]
     rfl
    refine pure_ (i := 4) (N := some 126) (v := undef) (a' := ?_) #[t,t,t,t,t,f,f,f,f,f,f,f] rfl rfl (any_of HT_.out (by kernel_rfl)) (fun _ _ _ h => h) (Or.inr ⟨by rfl, rfl⟩) ?_ ?_
    rotate_left
    ·simp only [Act.put, List.setIfInBounds_toArray, List.set_cons_zero, List.set_cons_succ, i64_w, i32_w]
     rfl
    refine pure_ (i := 5) (N := some 127) (v := undef) (a' := ?_) #[t,t,t,t,t,t,f,f,f,f,f,f] rfl rfl (any_of HT_.out (by kernel_rfl)) (fun _ _ _ h => h) (Or.inr ⟨by rfl, rfl⟩) ?_ ?_
    rotate_left
    ·simp only [Act.put, List.setIfInBounds_toArray, List.set_cons_zero, List.set_cons_succ, i64_w, i32_w]
     rfl
    refine pure_ (i := 6) (N := some 128) (v := undef) (a' := ?_) #[t,t,t,t,t,t,t,f,f,f,f,f] rfl rfl (any_of HT_.out (by kernel_rfl)) (fun _ _ _ h => h) (Or.inr ⟨by rfl, rfl⟩) ?_ ?_
    rotate_left
    ·simp only [Act.put, List.setIfInBounds_toArray, List.set_cons_zero, List.set_cons_succ, i64_w, i32_w]
     rfl
    refine pure_ (i := 7) (N := some 129) (v := undef) (a' := ?_) #[t,t,t,t,t,t,t,t,f,f,f,f] rfl rfl (any_of HT_.out (by kernel_rfl)) (fun _ _ _ h => h) (Or.inr ⟨by rfl, rfl⟩) ?_ ?_
    rotate_left
    ·simp only [Act.put, List.setIfInBounds_toArray, List.set_cons_zero, List.set_cons_succ, i64_w, i32_w]
     rfl
    refine pure_ (i := 8) (N := some 130) (v := undef) (a' := ?_) #[t,t,t,t,t,t,t,t,t,f,f,f] rfl rfl (any_of HT_.out (by kernel_rfl)) (fun _ _ _ h => h) (Or.inr ⟨by rfl, rfl⟩) ?_ ?_
    rotate_left
    ·simp only [Act.put, List.setIfInBounds_toArray, List.set_cons_zero, List.set_cons_succ, i64_w, i32_w]
     rfl
    refine pure_ (i := 9) (N := some 131) (v := undef) (a' := ?_) #[t,t,t,t,t,t,t,t,t,t,f,f] rfl rfl (any_of HT_.out (by kernel_rfl)) (fun _ _ _ h => h) (Or.inr ⟨by rfl, rfl⟩) ?_ ?_
    rotate_left
    ·simp only [Act.put, List.setIfInBounds_toArray, List.set_cons_zero, List.set_cons_succ, i64_w, i32_w]
     rfl
    refine pure_ (i := 10) (N := some 132) (v := ?_) (a' := ?_) #[t,t,t,t,t,t,t,t,t,t,t,f] rfl rfl (any_of HT_.out (by kernel_rfl)) (fun _ _ _ h => h) (Or.inl ⟨by rfl, ?_⟩) ?_ ?_
    rotate_left
    ·intro w'
     go_simp
     with_reducible rfl
    rotate_left
    ·simp only [Act.put, List.setIfInBounds_toArray, List.set_cons_zero, List.set_cons_succ, i64_w, i32_w]
     rfl
    refine pure_ (i := 11) (N := some 6) (v := ?_) (a' := ?_) #[t,t,t,t,t,t,t,t,t,t,t,t] rfl rfl (any_of HT_.out (by kernel_rfl)) (fun _ _ _ h => h) (Or.inl ⟨by rfl, ?_⟩) ?_ ?_
    rotate_left
    ·intro w'
     go_simp
     with_reducible rfl
    rotate_left
    ·simp only [Act.put, List.setIfInBounds_toArray, List.set_cons_zero, List.set_cons_succ, i64_w, i32_w]
     rfl
    refine done_ (done_of HT_.out (by kernel_rfl)) ?_
    try go_wp2
    go_ret
    exact ⟨rfl, HB.out⟩
   ·have k1 : ((0 : Int) ≤ kc) = False := eq_false hk
    have k2 : decide ((0 : Int) ≤ kc) = false := decide_eq_false hk
    have e := next_crlf (lacks_r l10) (by omega) [] (data.size : Int)
    have hk1 : kc = -1 := by have h := (okX_line (wordsOf next)).2.1; rw [HQ.out.2.2.2.2] at h; rcases h with h | h; exact h; exact absurd h.1 hk
    have e1 : (lineX (wordsOf next)).2 = -1 := HQ.out.2.2.2.2.trans hk1
    unfold wordsOf at e1
    rw [if_pos e1] at e
    have e2 := HQ.out.1.symm.trans e
    have hd2 : db = dc := by rw [← HQ.out.2.2.2.1, ← HQ.out.2.1, e2]; rfl
    have hf : fb = true := by rw [← HQ.out.2.2.1, e2]
    clear e e1 e2 HQ
    subst hf
    obtain rfl := hd2
    clear HI
    go_wp2_with fail
    refine start_ (n := 12) (S := fun w' => C12 w' (w14.heap.size) (.string db.what) (.string db.verb) (.slice A4 db.keys.length c4) (.string db.data) (.int .u32 db.flags) (.int .i64 db.exp) (.int .u64 db.cas) (.int .u64 db.by_) (.bool db.withCas) (.bool db.withTouch) (.bool db.down) (.bool db.quiet) ∧ C12 w' (w16.heap.size) (.string db.what) (.string db.verb) (.slice A5 db.keys.length c5) (.string db.data) (.int .u32 db.flags) (.int .i64 db.exp) (.int .u64 db.cas) (.int .u64 db.by_) (.bool db.withCas) (.bool db.withTouch) (.bool db.down) (.bool db.quiet)) (ds := []) #[f,f,f,f,f,f,f,f,f,f,f,f] (by kernel_rfl) rfl rfl ⟨celL Vd.out, celL Ve.out⟩ (fun hHeld => ?_)
    refine with_tabW cellaretlaw18_ParseChunk.tab20 cellaretlaw18_ParseChunk.bits20 (fun HT_ HW_ => ?_)
    replace HB := Aside0.mk (below_drew1 HB.out)
    replace Va := Aside0.mk (blk_drew Va.out)
    replace Vc := Aside0.mk (blk_drew Vc.out)
    replace HCb := Aside0.mk (Kd.C_drew HCb.out)
    replace Vd := Aside0.mk (blk_drew Vd.out)
    replace HCc := Aside0.mk (Kd.C_drew HCc.out)
    replace Ve := Aside0.mk (blk_drew Ve.out)
    refine pure_ (i := 0) (N := some 122) (v := ?_) (a' := ?_) #[t,f,f,f,f,f,f,f,f,f,f,f] rfl rfl (any_of HT_.out (by kernel_rfl)) (fun _ _ _ h => h) (Or.inl ⟨by rfl, ?_⟩) ?_ ?_
    rotate_left
    ·intro w'
     go_simp
     with_reducible rfl
    rotate_left
    ·simp only [Act.put, List.setIfInBounds_toArray, List.set_cons_zero, List.set_cons_succ, i64_w, i32_w]
     rfl
    refine pure_ (i := 1) (N := some 123) (v := ?_) (a' := ?_) #[t,t,f,f,f,f,f,f,f,f,f,f] rfl rfl (any_of HT_.out (by kernel_rfl)) (fun _ _ _ h => h) (Or.inl ⟨by rfl, ?_⟩) ?_ ?_
    rotate_left
    ·intro w'
     go_simp
     with_reducible rfl
    rotate_left
    ·simp only [Act.put, List.setIfInBounds_toArray, List.set_cons_zero, List.set_cons_succ, i64_w, i32_w]
     rfl
    refine pure_ (i := 2) (N := some 124) (v := ?_) (a' := ?_) #[t,t,t,f,f,f,f,f,f,f,f,f] rfl rfl (any_of HT_.out (by kernel_rfl)) (fun _ _ _ h => h) (Or.inl ⟨by rfl, ?_⟩) ?_ ?_
    rotate_left
    ·intro w'
     go_simp
     with_reducible rfl
    rotate_left
    ·simp only [Act.put, List.setIfInBounds_toArray, List.set_cons_zero, List.set_cons_succ, i64_w, i32_w]
     rfl
    refine pure_ (i := 3) (N := some 125) (v := ?_) (a' := ?_) #[t,t,t,t,f,f,f,f,f,f,f,f] rfl rfl (any_of HT_.out (by kernel_rfl)) (fun _ _ _ h => h) (Or.inl ⟨by rfl, ?_⟩) ?_ ?_
    rotate_left
    ·intro w'
     go_simp
     with_reducible rfl
    rotate_left
    ·simp only [Act.put, List.setIfInBounds_toArray, List.set_cons_zero, List.set_cons_succ, i64_w, i32_w]
     rfl
    refine pure_ (i := 4) (N := some 126) (v := ?_) (a' := ?_) #[t,t,t,t,t,f,f,f,f,f,f,f] rfl rfl (any_of HT_.out (by kernel_rfl)) (fun _ _ _ h => h) (Or.inl ⟨by rfl, ?_⟩) ?_ ?_
    rotate_left
    ·intro w'
     go_simp
     with_reducible rfl
    rotate_left
    ·simp only [Act.put, List.setIfInBounds_toArray, List.set_cons_zero, List.set_cons_succ, i64_w, i32_w]
     rfl
    refine take_ (i := 5) (N := some 127) (v := ?_) (a' := ?_) #[t,t,t,t,t,t,f,f,f,f,f,f] rfl rfl (take_ofW HT_.out HW_.out (by kernel_rfl)) (fun _ _ _ h => h) (Or.inl ⟨by rfl, ?_⟩) hHeld ?_ ?_
    rotate_left
    ·rintro w' ⟨⟨s0, s1, s2, s3, s4, s5, s6, s7, s8, s9, s10, s11⟩, ⟨s12, s13, s14, s15, s16, s17, s18, s19, s20, s21, s22, s23⟩⟩
     go_simp
     with_reducible rfl
    rotate_left
    ·simp only [Act.put, List.setIfInBounds_toArray, List.set_cons_zero, List.set_cons_succ, i64_w, i32_w]
     rfl
    refine take_ (i := 7) (N := some 129) (v := ?_) (a' := ?_) #[t,t,t,t,t,t,f,t,f,f,f,f] rfl rfl (take_ofW HT_.out HW_.out (by kernel_rfl)) (fun _ _ _ h => h) (Or.inl ⟨by rfl, ?_⟩) hHeld ?_ ?_
    rotate_left
    ·rintro w' ⟨⟨s0, s1, s2, s3, s4, s5, s6, s7, s8, s9, s10, s11⟩, ⟨s12, s13, s14, s15, s16, s17, s18, s19, s20, s21, s22, s23⟩⟩
     go_simp
     with_reducible rfl
    rotate_left
    ·simp only [Act.put, List.setIfInBounds_toArray, List.set_cons_zero, List.set_cons_succ, i64_w, i32_w]
     rfl
    refine one_ (i := 6) (N := some 128) #[t,t,t,t,t,t,t,t,f,f,f,f] rfl rfl (one_of HT_.out (by kernel_rfl)) (by decide) (fun K hK => ?_)
    refine goes_ Tryz.func8 (by kernel_rfl) rfl #[.agg #[.string db.what, .string db.verb, .slice A4 db.keys.length c4, .string db.data, .int .u32 db.flags, .int .i64 db.exp, .int .u64 db.cas, .int .u64 db.by_, .bool db.withCas, .bool db.withTouch, .bool db.down, .bool db.quiet]] (by rfl) rfl rfl (by (try simp only [List.map_toArray, List.map_cons, List.map_nil]); first | done | rfl) ?_
    refine (cmd_ref db hkb HCb.out hl4).mono ?_
    rintro e w19 ⟨A6, c6, rfl, hl6, hC, hs⟩
    refine ⟨_, rfl, ?_⟩
    replace HB := Aside0.mk (below_step HB.out hs)
    replace Va := Aside0.mk (blk_below Va.out hs)
    replace Vc := Aside0.mk (blk_below Vc.out hs)
    replace HCb := Aside0.mk (Kd.C_below HCb.out hs)
    replace Vd := Aside0.mk (blk_below Vd.out hs)
    replace HCc := Aside0.mk (Kd.C_below HCc.out hs)
    replace Ve := Aside0.mk (blk_below Ve.out hs)
    have HC6 := Aside0.mk (hC)
    clear hs hC
    refine hK.out _ _ ⟨celL Vd.out, celL Ve.out⟩ (fun hHeld => ?_)
    clear hK K
    refine norm_ (a' := ?_) ?_ ?_
    rotate_left
    ·show Act.put _ (some 128) _ = _
     simp only [Act.put, List.setIfInBounds_toArray, List.set_cons_zero, List.set_cons_succ, i64_w, i32_w]
     rfl
    refine one_ (i := 8) (N := some 130) #[t,t,t,t,t,t,t,t,t,f,f,f] rfl rfl (one_of HT_.out (by kernel_rfl)) (by decide) (fun K hK => ?_)
    refine goes_ Tryz.func16 (by kernel_rfl) rfl #[cdV db (.slice A6 db.keys.length c6), .agg #[.string db.what, .string db.verb, .slice A5 db.keys.length c5, .string db.data, .int .u32 db.flags, .int .i64 db.exp, .int .u64 db.cas, .int .u64 db.by_, .bool db.withCas, .bool db.withTouch, .bool db.down, .bool db.quiet]] (by rfl) rfl rfl (by (try simp only [List.map_toArray, List.map_cons, List.map_nil]); first | done | rfl) ?_
    refine (same_ref db (by omega) HC6.out hl6 HCc.out hl5).mono ?_
    rintro e w20 ⟨rfl, hs⟩
    refine ⟨_, rfl, ?_⟩
    replace HB := Aside0.mk (below_step HB.out hs)
    replace Va := Aside0.mk (blk_below Va.out hs)
    replace Vc := Aside0.mk (blk_below Vc.out hs)
    replace HCb := Aside0.mk (Kd.C_below HCb.out hs)
    replace Vd := Aside0.mk (blk_below Vd.out hs)
    replace HCc := Aside0.mk (Kd.C_below HCc.out hs)
    replace Ve := Aside0.mk (blk_below Ve.out hs)
    replace HC6 := Aside0.mk (Kd.C_below HC6.out hs)
    clear hs
    refine hK.out _ _ ⟨celL Vd.out, celL Ve.out⟩ (fun hHeld => ?_)
    clear hK K
    refine norm_ (a' := ?_) ?_ ?_
    rotate_left
    ·show Act.put _ (some 130) _ = _
     simp only [Act.put, List.setIfInBounds_toArray, List.set_cons_zero, List.set_cons_succ, i64_w, i32_w]
     rfl
    refine pure_ (i := 9) (N := some 131) (v := ?_) (a' := ?_) #[t,t,t,t,t,t,t,t,t,t,f,f] rfl rfl (any_of HT_.out (by kernel_rfl)) (fun _ _ _ h => h) (Or.inl ⟨by rfl, ?_⟩) ?_ ?_
    rotate_left
    ·intro w'
     go_simp
     with_reducible rfl
    rotate_left
    ·simp only [Act.put, List.setIfInBounds_toArray, List.set_cons_zero, List.set_cons_succ, i64_w, i32_w]
     rfl
    refine pure_ (i := 10) (N := some 132) (v := ?_) (a' := ?_) #[t,t,t,t,t,t,t,t,t,t,t,f] rfl rfl (any_of HT_.out (by kernel_rfl)) (fun _ _ _ h => h) (Or.inl ⟨by rfl, ?_⟩) ?_ ?_
    rotate_left
    ·intro w'
     go_simp
     with_reducible rfl
    rotate_left
    ·simp only [Act.put, List.setIfInBounds_toArray, List.set_cons_zero, List.set_cons_succ, i64_w, i32_w]
     rfl
    refine pure_ (i := 11) (N := some 6) (v := ?_) (a' := ?_) #[t,t,t,t,t,t,t,t,t,t,t,t] rfl rfl (any_of HT_.out (by kernel_rfl)) (fun _ _ _ h => h) (Or.inl ⟨by rfl, ?_⟩) ?_ ?_
    rotate_left
    ·intro w'
     go_simp
     with_reducible rfl
    rotate_left
    ·simp only [Act.put, List.setIfInBounds_toArray, List.set_cons_zero, List.set_cons_succ, i64_w, i32_w]
     rfl
    refine done_ (done_of HT_.out (by kernel_rfl)) ?_
    try go_wp2
    go_ret
    exact ⟨rfl, HB.out⟩
end Go.Proofs.YtfbhlbchmenloaaGreatDoor.O
namespace Go.Proofs.YtfbhlbchmenloaaGreatDoor.Pure
theorem ParseChunk : True := trivial
end Go.Proofs.YtfbhlbchmenloaaGreatDoor.Pure
namespace Go.Proofs.YtfbhlbchmenloaaGreatDoor.H
open Go Go.RowKit Go.Proofs.YtfbhlbchmenloaaGreatDoorW.PrintWords
theorem cellaretlaw18_ParseChunk.walk (_P : True) (a0 : ByteArray) (a1 : ByteArray) (a2 : ByteArray) (w : World) (HLD : LaidA w) (_w0 : a0.size ≤ 140737488351232) (_w1 : a1.size ≤ 140737488351232) (_w2 : a2.size ≤ 140737488351232) :
  Calls Tryz.prog 5 #[.string a0, .string a1, .string a2] w fun e w' => e = .returned (.bool true) ∧ Below w.heap.size w w' := Go.Proofs.YtfbhlbchmenloaaGreatDoor.O.chunk_walk a0 a1 a2 w HLD
end Go.Proofs.YtfbhlbchmenloaaGreatDoor.H
end
section
namespace Go.Proofs.YtfbhlbchmenloaaGreatDoor.parseChunk
open Go.ChangeShapes Go.WideShapes Go.ChangeAt Go.RowKit Go.Proofs.YtfbhlbchmenloaaGreatDoor.R Go.Proofs.YtfbhlbchmenloaaGreatDoor.H
open Go.ChangeMaps (open_string shut_string)
set_option linter.unusedVariables false
set_option linter.unusedSimpArgs false
set_option maxRecDepth 100000 in
theorem contract (H : Type) (enc : TypeId × Value → H) (W : World) (base : Nat) (args : Array Value) (ds gs : List (DataW H)) (before : List MemPlace)
    (hval0 : ∀ (j : Nat) t v, Tryz.f5.params[j]? = some t → args[j]? = some v → Value.okWide Tryz.prog W .any base t v)
    (hW : DataW.Whole enc Tryz.prog Tryz.f5.params.toList Rows.parseChunkSpec.vars false W args.toList ds gs before)
    (hsz0 : (DataW.weightsEach Tryz.prog (Tryz.f5.params.toList ++ Rows.parseChunkSpec.plain.varTypes Tryz.prog) (ds ++ gs)).all (· ≤ reachBytes) = true)
    (HLD : LaidA W) :
    Calls Tryz.prog 5 args W fun e W' => ∃ v, e = .returned v ∧ Rows.parseChunkSpec.post enc Tryz.prog Tryz.f5 false true false false W args v W' := by
  have hsz := hsz0
  have hval := hval0
  have hW' := hW
  obtain ⟨p, q, hA0, hV, rfl, hfz, hnd⟩ := hW
  have hA : DataW.TrodAll enc Tryz.prog W 0 (fun _ => true) true Tryz.f5.params.toList args.toList ds p := hA0
  rw [Tryz.params5] at hA hval hsz
  obtain ⟨v0, vs0, d0, ds0, p0, q0, hargs, rfl, rfl, h0, r0⟩ := trodAll_cons hA
  obtain ⟨v1, vs1, d1, ds1, p1, q1, rfl, rfl, rfl, h1, r1⟩ := trodAll_cons r0
  obtain ⟨v2, vs2, d2, ds2, p2, q2, rfl, rfl, rfl, h2, r2⟩ := trodAll_cons r1
  obtain ⟨rfl, rfl, rfl⟩ := trodAll_nil r2
  obtain rfl : args = #[v0, v1, v2] := by cases args; simp_all
  obtain ⟨rfl, rfl⟩ := trodVars_none hV
  obtain ⟨a0, rfl, rfl, rfl, y0⟩ := open_string Tryz.underlying9 (hval 0 9 v0 rfl rfl) h0
  have w0 : a0.size ≤ 140737488351232 := by
    have z := sized_string hsz (j := 0) (t := 9) rfl rfl
    rw [Array.length_toList] at z
    exact z
  obtain ⟨a1, rfl, rfl, rfl, y1⟩ := open_string Tryz.underlying9 (hval 1 9 v1 rfl rfl) h1
  have w1 : a1.size ≤ 140737488351232 := by
    have z := sized_string hsz (j := 1) (t := 9) rfl rfl
    rw [Array.length_toList] at z
    exact z
  obtain ⟨a2, rfl, rfl, rfl, y2⟩ := open_string Tryz.underlying9 (hval 2 9 v2 rfl rfl) h2
  have w2 : a2.size ≤ 140737488351232 := by
    have z := sized_string hsz (j := 2) (t := 9) rfl rfl
    rw [Array.length_toList] at z
    exact z
  clear hA0 hval0 hsz0 hsz
  refine (Go.Proofs.YtfbhlbchmenloaaGreatDoor.H.cellaretlaw18_ParseChunk.walk Go.Proofs.YtfbhlbchmenloaaGreatDoor.Pure.ParseChunk a0 a1 a2 W HLD w0 w1 w2).mono fun e W' ⟨he, bel⟩ => ?_
  subst he
  exact ⟨_, rfl, _, _, _, [], _, [], hW', trodAll_mk1 (shut_bool Tryz.underlying4 _), (trodAll_cons_mk (shut_string Tryz.underlying9 y0) (trodAll_cons_mk (shut_string Tryz.underlying9 y1) (trodAll_cons_mk (shut_string Tryz.underlying9 y2) trodAll_mk0))), rfl, bel.frame _, fun h => by cases h⟩
theorem reads (os : Os) {H : Type} (enc : TypeId × Value → H) : ∃ places, DataW.whole enc Tryz.prog ((laidWorld os).forCall (fun _ _ => 0) ⟨#[], #[.string ByteArray.empty, .string ByteArray.empty, .string ByteArray.empty], []⟩).memory Tryz.f5.params.toList Rows.parseChunkSpec.vars false #[Value.string ByteArray.empty, Value.string ByteArray.empty, Value.string ByteArray.empty].toList 8 = some ([.lit (.string []), .lit (.string []), .lit (.string [])], [], places) :=
  ⟨[], by kernel_rfl⟩
set_option maxRecDepth 100000 in
theorem lifted (os : Os) (started : os.Started) (H : Type) (enc : TypeId × Value → H) (F : Stop.Interp) :
    ReturnsInHanded {} Tryz.checked os 5 .any ((OpenSpec.ofChange Rows.parseChunkSpec).preRow enc Tryz.prog Tryz.f5 Rows.parseChunkRow.domain false Rows.parseChunkRow.laid) (((OpenSpec.ofChange Rows.parseChunkSpec).at F).post enc Tryz.prog Tryz.f5 false true false false) := by
  obtain ⟨places, hx⟩ := reads os enc
  refine returnsInHanded_of_row (C := Tryz.checked) (s := OpenSpec.ofChange Rows.parseChunkSpec) own started (by kernel_rfl) Tryz.func5
    (witness_row_atRef (enc := enc) (C := Tryz.checked) false (laidWorld os) #[.string ByteArray.empty, .string ByteArray.empty, .string ByteArray.empty] rfl (by kernel_rfl) (by kernel_rfl) (by kernel_rfl)
      (OpenSpec.preRow_of_cond 8 hx (by kernel_rfl) (fun k hk => by cases hk) (by kernel_rfl) (laid_met os _))) ?_
  intro W base args ds gs before hval hW _ _ hsz hL hsh _
  exact contract H enc W base args ds gs before hval hW hsz (laidA_of hL hsh)
theorem said : Rows.ParseChunkSaid :=
  OpenClaim.holds_of_cond 5 Tryz.f5 rfl rfl rfl rfl rfl rfl rfl ⟨rfl, rfl, rfl, rfl, rfl⟩ rfl rfl rfl rfl rfl (by kernel_rfl) Tryz.func5 (by kernel_rfl)
    (of_decide_eq_true (by kernel_rfl)) (by unfold Func.isWrapper; first | (rw [if_pos (by decide +kernel)]; kernel_rfl) | (rw [if_neg (by decide +kernel)]; exact ⟨rfl, rfl⟩))
    (fun os started H enc _ F => by rw [OpenClaim.pre_eq_preRow]; exact lifted os started H enc F)
theorem plain (f : FuncId) (fn : Func) (hf : Tryz.pinned.checked.prog.funcNamed "cellaret/cellaretlaw18.ParseChunk" = some f) (hfn : Tryz.pinned.checked.prog.funcs[f]? = some fn) :
    true = Tryz.pinned.checked.prog.looks [] ∧ ∀ (j : Nat) t, fn.params[j]? = some t → Tryz.pinned.checked.prog.wantsStandIn t = false := by
  obtain rfl : f = 5 := Option.some.inj ((show Tryz.prog.funcNamed "cellaret/cellaretlaw18.ParseChunk" = some 5 by kernel_rfl).symm.trans hf) |>.symm
  obtain rfl : fn = Tryz.f5 := (Option.some.inj (Tryz.func5.symm.trans hfn)).symm
  refine ⟨by kernel_rfl, fun j t ht => ?_⟩
  rw [Tryz.params5] at ht
  have hm := Array.mem_of_getElem? ht
  have hm2 : t = 9 ∨ t = 9 ∨ t = 9 := by simpa [or_comm, or_assoc] using hm
  rcases hm2 with rfl | rfl | rfl
  · exact (show Tryz.prog.wantsStandIn 9 = false by kernel_rfl)
  · exact (show Tryz.prog.wantsStandIn 9 = false by kernel_rfl)
  · exact (show Tryz.prog.wantsStandIn 9 = false by kernel_rfl)
theorem card : Rows.ParseChunkCardSaid :=
  Claim7.holds_tied_plain_at .later [] _ _ _ _ said (fun _ h => by cases h) (by kernel_rfl) (fun _ h => by cases h) parseChunk_row_tie rfl ⟨rfl, rfl⟩ (by kernel_rfl) rfl plain (by kernel_rfl)
end Go.Proofs.YtfbhlbchmenloaaGreatDoor.parseChunk
namespace Go.Proofs.YtfbhlbchmenloaaGreatDoor
/-- The card, under a short name, for the claim. -/
theorem parseChunk_holds : Rows.ParseChunkCardSaid := parseChunk.card
end Go.Proofs.YtfbhlbchmenloaaGreatDoor
end
