/-
  The law's own walk, its plain statement and its row: the law holds. Its condition: none beside the given row's own.
-/
import Derived.Test.YtfbhlbchmenloaaGreatDoorMB3
import Derived.Test.YtfbhlbchmenloaaGreatDoorMB2
import Derived.Deep.RegionHeld3
import Derived.KernelRfl
section
namespace Go.Proofs.YtfbhlbchmenloaaGreatDoor.O
open Go Go.RowKit Go.Proofs.YtfbhlbchmenloaaGreatDoorW.PrintWords Go.Proofs.YtfbhlbchmenloaaGreatDoorW.PrintLast Go.Proofs.YtfbhlbchmenloaaGreatDoorW.PrintMore Go.Proofs.YtfbhlbchmenloaaGreatDoor.H Go.Proofs.YtfbhlbchmenloaaGreatDoor.L Go.Proofs.YtfbhlbchmenloaaGreatDoor.Pure
set_option linter.unusedVariables false
set_option linter.unusedSimpArgs false
set_option maxHeartbeats 2000000 in
set_option maxRecDepth 100000 in
theorem one_gets (s : ByteArray) (ws : List ByteArray) (W : World) (hws : wordsOf s = ws) (hsz : s.size < 100000) (h0 : at_ ws 0 = getsW) (h2 : 2 ≤ ws.length) (d : Cd) (hd : toX (getX (ws.drop 1) true false (0, true)) = d) :
  Calls Tryz.prog 19 #[.string s] W (TellsC d (-1) W) := by
 obtain ⟨q0a, q0b⟩ := geT (n := ws.length) (k := 2) (by omega)
 have hn0 := at_lt h0 (by decide)
 have hz := words_z hws hsz
 have hk := words_n hws hsz
 have hu := Tryz.underlying22
 have hu26 := Tryz.underlying26
 obtain ⟨b0, b1, b2, b2c, b3, b4, b5, b6, z3⟩ := base_n hn0 hk
 go_enter Tryz.func19, Tryz.ntmps19
 go_wp2_with fail
 refine one_front hws hsz hn0 ?_
 intro gb ob c W2 hc HC2 HW2 HV2 HB2 hg2 x0 xl
 rw [h0] at x0
 obtain ⟨d1, d2, d3, d4, d5, d6, d7, d8, d9, d10, d11⟩ := cut1 (n := ws.length) (c := c) (by omega) hc
 go_wp2_with fail
 go_region_held3 (fun w' => w'.cell? ⟨gb, ob, none⟩ = some (.string ⟨#[103, 101, 116, 115]⟩)) (((with_reducible repeat (first | refine far_cell hg2 ?_ | refine drew_cell ?_)); with_reducible assumption)) ((go_at_call 32; have ct := ref_getN (some ⟨gb, ob + 1, none⟩) (c - 1) (ws.length - 1) (ws.drop 1) (List.length_drop ..) true W2.drew ((HW2.out.below (below_drew1 (Below.refl _ _))).drop 1) (by omega) (by omega) (drop_z hz 1) (by omega); rw [hd] at ct; refine ct.mono ?_; rintro e W3 ⟨A3, c3, rfl, hl, hC, hs, hA3⟩; have HV3 := Aside0.mk (blk_below (blk_drew HV2.out) hs); have HB3 := Aside0.mk (below_step (below_drew1 HB2.out) hs); have y0 : W3.cell? ⟨gb, ob, none⟩ = some (.string ⟨#[103, 101, 116, 115]⟩) := (by have y := ((HW2.out.below (below_drew1 (Below.refl _ _))).below hs).cell 0 hn0; rw [h0] at y; exact y); have rr := celL HV3.out; have ff := froZ HV3.out; unfold cdV))
 go_wp2_with fail
 refine bodyPost_ret (results_ct rfl _ _ W.heap.size 26 _ (0, 0) _ rfl (putG HV3.out) Tryz.underlying26 rfl (by kernel_rfl)) rfl ?_
 exact tells_put hl hC hA3 hg2 HB3
set_option maxHeartbeats 2000000 in
set_option maxRecDepth 100000 in
theorem one_incr_false (s : ByteArray) (ws : List ByteArray) (W : World) (hws : wordsOf s = ws) (hsz : s.size < 100000) (h0 : at_ ws 0 = incrW) (h2 : ws.length = 3) (d : Cd) (hd : toD (arithC ws false) = d) :
  Calls Tryz.prog 19 #[.string s] W (TellsC d (-1) W) := by
 obtain ⟨q0a, q0b, q0c⟩ := eqT (n := ws.length) (k := 3) (by omega)
 obtain ⟨q1a, q1b, q1c⟩ := eqF (n := ws.length) (k := 4) (by omega)
 have h3 : 3 ≤ ws.length := by omega
 clear h2
 have hn0 := at_lt h0 (by decide)
 have hz := words_z hws hsz
 have hk := words_n hws hsz
 have hu := Tryz.underlying22
 have hu26 := Tryz.underlying26
 obtain ⟨b0, b1, b2, b2c, b3, b4, b5, b6, z3⟩ := base_n hn0 hk
 go_enter Tryz.func19, Tryz.ntmps19
 go_wp2_with fail
 refine one_front hws hsz hn0 ?_
 intro gb ob c W2 hc HC2 HW2 HV2 HB2 hg2 x0 xl
 rw [h0] at x0
 go_wp2_with fail
 have ct := ref_arith (some ⟨gb, ob, none⟩) c ws false W2 HC2.out hc (by omega) hz
 rw [hd] at ct
 refine ct.mono ?_
 rintro e W3 ⟨A3, c3, rfl, hl, hC, hs, hA3⟩
 have HV3 := Aside0.mk (blk_below HV2.out hs)
 have HB3 := Aside0.mk (below_step HB2.out hs)
 have rr := celL HV3.out
 have ff := froZ HV3.out
 unfold cdV
 go_wp2_with fail
 refine bodyPost_ret (results_ct rfl _ _ W.heap.size 26 _ (0, 0) _ rfl (putG HV3.out) Tryz.underlying26 rfl (by kernel_rfl)) rfl ?_
 exact tells_put hl hC hA3 hg2 HB3
set_option maxHeartbeats 2000000 in
set_option maxRecDepth 100000 in
theorem one_decr_true (s : ByteArray) (ws : List ByteArray) (W : World) (hws : wordsOf s = ws) (hsz : s.size < 100000) (h0 : at_ ws 0 = decrW) (h2 : ws.length = 4) (hl0 : at_ ws (ws.length - 1) = noreplyW) (d : Cd) (hd : toD (arithC ws true) = d) :
  Calls Tryz.prog 19 #[.string s] W (TellsC d (-1) W) := by
 obtain ⟨q0a, q0b, q0c⟩ := eqF (n := ws.length) (k := 3) (by omega)
 obtain ⟨q1a, q1b, q1c⟩ := eqT (n := ws.length) (k := 4) (by omega)
 have h3 : 3 ≤ ws.length := by omega
 clear h2
 have hn0 := at_lt h0 (by decide)
 have hz := words_z hws hsz
 have hk := words_n hws hsz
 have hu := Tryz.underlying22
 have hu26 := Tryz.underlying26
 obtain ⟨b0, b1, b2, b2c, b3, b4, b5, b6, z3⟩ := base_n hn0 hk
 go_enter Tryz.func19, Tryz.ntmps19
 go_wp2_with fail
 refine one_front hws hsz hn0 ?_
 intro gb ob c W2 hc HC2 HW2 HV2 HB2 hg2 x0 xl
 rw [h0] at x0
 rw [hl0] at xl
 go_wp2_with fail
 have ct := ref_arith (some ⟨gb, ob, none⟩) c ws true W2 HC2.out hc (by omega) hz
 rw [hd] at ct
 refine ct.mono ?_
 rintro e W3 ⟨A3, c3, rfl, hl, hC, hs, hA3⟩
 have HV3 := Aside0.mk (blk_below HV2.out hs)
 have HB3 := Aside0.mk (below_step HB2.out hs)
 have rr := celL HV3.out
 have ff := froZ HV3.out
 unfold cdV
 go_wp2_with fail
 refine bodyPost_ret (results_ct rfl _ _ W.heap.size 26 _ (0, 0) _ rfl (putG HV3.out) Tryz.underlying26 rfl (by kernel_rfl)) rfl ?_
 exact tells_put hl hC hA3 hg2 HB3
set_option maxHeartbeats 2000000 in
set_option maxRecDepth 100000 in
theorem one_get_bad (s : ByteArray) (ws : List ByteArray) (W : World) (hws : wordsOf s = ws) (hsz : s.size < 100000) (h0 : at_ ws 0 = getW) (h2 : ¬ 2 ≤ ws.length) (d : Cd) (hd : toD (.bad errT) = d) :
  Calls Tryz.prog 19 #[.string s] W (TellsC d (-1) W) := by
 obtain ⟨q0a, q0b⟩ := geF (n := ws.length) (k := 2) (by omega)
 have hn0 := at_lt h0 (by decide)
 have hz := words_z hws hsz
 have hk := words_n hws hsz
 have hu := Tryz.underlying22
 have hu26 := Tryz.underlying26
 obtain ⟨b0, b1, b2, b2c, b3, b4, b5, b6, z3⟩ := base_n hn0 hk
 go_enter Tryz.func19, Tryz.ntmps19
 go_wp2_with fail
 refine one_front hws hsz hn0 ?_
 intro gb ob c W2 hc HC2 HW2 HV2 HB2 hg2 x0 xl
 rw [h0] at x0
 go_wp2_with fail
 refine (verb_ref _ false (by decide) W2).mono ?_
 rintro e W4 ⟨rfl, hs⟩
 have HV4 := Aside0.mk (blk_below HV2.out hs)
 have HB4 := Aside0.mk (below_step HB2.out hs)
 clear hs
 go_wp2_with fail
 refine (bad_refA (some ⟨gb, ob, none⟩) errT d hd W4).mono ?_
 rintro e W3 ⟨A3, c3, rfl, hl, hC, hs, hA3⟩
 have HV3 := Aside0.mk (blk_below HV4.out hs)
 have HB3 := Aside0.mk (below_step HB4.out hs)
 have rr := celL HV3.out
 have ff := froZ HV3.out
 unfold cdV
 go_wp2_with fail
 refine bodyPost_ret (results_ct rfl _ _ W.heap.size 26 _ (0, 0) _ rfl (putG HV3.out) Tryz.underlying26 rfl (by kernel_rfl)) rfl ?_
 exact tells_put hl hC hA3 hg2 HB3
set_option maxHeartbeats 2000000 in
set_option maxRecDepth 100000 in
theorem one_gats_bad (s : ByteArray) (ws : List ByteArray) (W : World) (hws : wordsOf s = ws) (hsz : s.size < 100000) (h0 : at_ ws 0 = gatsW) (h2 : ¬ 3 ≤ ws.length) (d : Cd) (hd : toD (.bad errT) = d) :
  Calls Tryz.prog 19 #[.string s] W (TellsC d (-1) W) := by
 obtain ⟨q0a, q0b⟩ := geF (n := ws.length) (k := 3) (by omega)
 have hn0 := at_lt h0 (by decide)
 have hz := words_z hws hsz
 have hk := words_n hws hsz
 have hu := Tryz.underlying22
 have hu26 := Tryz.underlying26
 obtain ⟨b0, b1, b2, b2c, b3, b4, b5, b6, z3⟩ := base_n hn0 hk
 go_enter Tryz.func19, Tryz.ntmps19
 go_wp2_with fail
 refine one_front hws hsz hn0 ?_
 intro gb ob c W2 hc HC2 HW2 HV2 HB2 hg2 x0 xl
 rw [h0] at x0
 go_wp2_with fail
 refine (verb_ref _ false (by decide) W2).mono ?_
 rintro e W4 ⟨rfl, hs⟩
 have HV4 := Aside0.mk (blk_below HV2.out hs)
 have HB4 := Aside0.mk (below_step HB2.out hs)
 clear hs
 go_wp2_with fail
 refine (bad_refA (some ⟨gb, ob, none⟩) errT d hd W4).mono ?_
 rintro e W3 ⟨A3, c3, rfl, hl, hC, hs, hA3⟩
 have HV3 := Aside0.mk (blk_below HV4.out hs)
 have HB3 := Aside0.mk (below_step HB4.out hs)
 have rr := celL HV3.out
 have ff := froZ HV3.out
 unfold cdV
 go_wp2_with fail
 refine bodyPost_ret (results_ct rfl _ _ W.heap.size 26 _ (0, 0) _ rfl (putG HV3.out) Tryz.underlying26 rfl (by kernel_rfl)) rfl ?_
 exact tells_put hl hC hA3 hg2 HB3
set_option maxHeartbeats 2000000 in
set_option maxRecDepth 100000 in
theorem one_decr_bad (s : ByteArray) (ws : List ByteArray) (W : World) (hws : wordsOf s = ws) (hsz : s.size < 100000) (h0 : at_ ws 0 = decrW) (h2 : ws.length ≠ 3) (h4 : ws.length ≠ 4) (d : Cd) (hd : toD (.bad errT) = d) :
  Calls Tryz.prog 19 #[.string s] W (TellsC d (-1) W) := by
 obtain ⟨q0a, q0b, q0c⟩ := eqF (n := ws.length) (k := 3) (by omega)
 obtain ⟨q1a, q1b, q1c⟩ := eqF (n := ws.length) (k := 4) (by omega)
 clear h2 h4
 have hn0 := at_lt h0 (by decide)
 have hz := words_z hws hsz
 have hk := words_n hws hsz
 have hu := Tryz.underlying22
 have hu26 := Tryz.underlying26
 obtain ⟨b0, b1, b2, b2c, b3, b4, b5, b6, z3⟩ := base_n hn0 hk
 go_enter Tryz.func19, Tryz.ntmps19
 go_wp2_with fail
 refine one_front hws hsz hn0 ?_
 intro gb ob c W2 hc HC2 HW2 HV2 HB2 hg2 x0 xl
 rw [h0] at x0
 go_wp2_with fail
 refine (verb_ref _ false (by decide) W2).mono ?_
 rintro e W4 ⟨rfl, hs⟩
 have HV4 := Aside0.mk (blk_below HV2.out hs)
 have HB4 := Aside0.mk (below_step HB2.out hs)
 clear hs
 go_wp2_with fail
 refine (bad_refA (some ⟨gb, ob, none⟩) errT d hd W4).mono ?_
 rintro e W3 ⟨A3, c3, rfl, hl, hC, hs, hA3⟩
 have HV3 := Aside0.mk (blk_below HV4.out hs)
 have HB3 := Aside0.mk (below_step HB4.out hs)
 have rr := celL HV3.out
 have ff := froZ HV3.out
 unfold cdV
 go_wp2_with fail
 refine bodyPost_ret (results_ct rfl _ _ W.heap.size 26 _ (0, 0) _ rfl (putG HV3.out) Tryz.underlying26 rfl (by kernel_rfl)) rfl ?_
 exact tells_put hl hC hA3 hg2 HB3
set_option maxHeartbeats 2000000 in
set_option maxRecDepth 100000 in
theorem one_touch_bad2 (s : ByteArray) (ws : List ByteArray) (W : World) (hws : wordsOf s = ws) (hsz : s.size < 100000) (h0 : at_ ws 0 = touchW) (h4 : ws.length = 4) (hl0 : (at_ ws (ws.length - 1)).toList ≠ [110, 111, 114, 101, 112, 108, 121]) (d : Cd) (hd : toD (.bad errT) = d) :
  Calls Tryz.prog 19 #[.string s] W (TellsC d (-1) W) := by
 obtain ⟨q0a, q0b, q0c⟩ := eqF (n := ws.length) (k := 3) (by omega)
 obtain ⟨q1a, q1b, q1c⟩ := eqT (n := ws.length) (k := 4) (by omega)
 clear h4
 have hn0 := at_lt h0 (by decide)
 have hz := words_z hws hsz
 have hk := words_n hws hsz
 have hu := Tryz.underlying22
 have hu26 := Tryz.underlying26
 obtain ⟨b0, b1, b2, b2c, b3, b4, b5, b6, z3⟩ := base_n hn0 hk
 go_enter Tryz.func19, Tryz.ntmps19
 go_wp2_with fail
 refine one_front hws hsz hn0 ?_
 intro gb ob c W2 hc HC2 HW2 HV2 HB2 hg2 x0 xl
 rw [h0] at x0
 have hn0 : ((at_ ws (ws.length - 1)).toList == [110, 111, 114, 101, 112, 108, 121]) = false := beq_eq_false_iff_ne.mpr hl0
 go_wp2_with fail
 refine (verb_ref _ false (by decide) W2).mono ?_
 rintro e W4 ⟨rfl, hs⟩
 have HV4 := Aside0.mk (blk_below HV2.out hs)
 have HB4 := Aside0.mk (below_step HB2.out hs)
 clear hs
 go_wp2_with fail
 refine (bad_refA (some ⟨gb, ob, none⟩) errT d hd W4).mono ?_
 rintro e W3 ⟨A3, c3, rfl, hl, hC, hs, hA3⟩
 have HV3 := Aside0.mk (blk_below HV4.out hs)
 have HB3 := Aside0.mk (below_step HB4.out hs)
 have rr := celL HV3.out
 have ff := froZ HV3.out
 unfold cdV
 go_wp2_with fail
 refine bodyPost_ret (results_ct rfl _ _ W.heap.size 26 _ (0, 0) _ rfl (putG HV3.out) Tryz.underlying26 rfl (by kernel_rfl)) rfl ?_
 exact tells_put hl hC hA3 hg2 HB3
set_option maxHeartbeats 2000000 in
set_option maxRecDepth 100000 in
theorem one_flush_all_bad (s : ByteArray) (ws : List ByteArray) (W : World) (hws : wordsOf s = ws) (hsz : s.size < 100000) (h0 : at_ ws 0 = flushW) (h2 : ws.length ≠ 1) (h4 : ws.length ≠ 2) (d : Cd) (hd : toD (.bad errT) = d) :
  Calls Tryz.prog 19 #[.string s] W (TellsC d (-1) W) := by
 obtain ⟨q0a, q0b, q0c⟩ := eqF (n := ws.length) (k := 1) (by omega)
 obtain ⟨q1a, q1b, q1c⟩ := eqF (n := ws.length) (k := 2) (by omega)
 clear h2 h4
 have hn0 := at_lt h0 (by decide)
 have hz := words_z hws hsz
 have hk := words_n hws hsz
 have hu := Tryz.underlying22
 have hu26 := Tryz.underlying26
 obtain ⟨b0, b1, b2, b2c, b3, b4, b5, b6, z3⟩ := base_n hn0 hk
 go_enter Tryz.func19, Tryz.ntmps19
 go_wp2_with fail
 refine one_front hws hsz hn0 ?_
 intro gb ob c W2 hc HC2 HW2 HV2 HB2 hg2 x0 xl
 rw [h0] at x0
 go_wp2_with fail
 refine (verb_ref _ false (by decide) W2).mono ?_
 rintro e W4 ⟨rfl, hs⟩
 have HV4 := Aside0.mk (blk_below HV2.out hs)
 have HB4 := Aside0.mk (below_step HB2.out hs)
 clear hs
 go_wp2_with fail
 refine (bad_refA (some ⟨gb, ob, none⟩) errT d hd W4).mono ?_
 rintro e W3 ⟨A3, c3, rfl, hl, hC, hs, hA3⟩
 have HV3 := Aside0.mk (blk_below HV4.out hs)
 have HB3 := Aside0.mk (below_step HB4.out hs)
 have rr := celL HV3.out
 have ff := froZ HV3.out
 unfold cdV
 go_wp2_with fail
 refine bodyPost_ret (results_ct rfl _ _ W.heap.size 26 _ (0, 0) _ rfl (putG HV3.out) Tryz.underlying26 rfl (by kernel_rfl)) rfl ?_
 exact tells_put hl hC hA3 hg2 HB3
set_option maxHeartbeats 2000000 in
set_option maxRecDepth 100000 in
theorem one_cas_bad2 (s : ByteArray) (ws : List ByteArray) (W : World) (hws : wordsOf s = ws) (hsz : s.size < 100000) (h0 : at_ ws 0 = casW) (h4 : ws.length = 7) (hl0 : (at_ ws (ws.length - 1)).toList ≠ [110, 111, 114, 101, 112, 108, 121]) (d : Cd) (hd : toD (.bad errT) = d) :
  Calls Tryz.prog 19 #[.string s] W (TellsC d (-1) W) := by
 obtain ⟨q0a, q0b, q0c⟩ := eqF (n := ws.length) (k := 6) (by omega)
 obtain ⟨q1a, q1b, q1c⟩ := eqT (n := ws.length) (k := 7) (by omega)
 clear h4
 have hn0 := at_lt h0 (by decide)
 have hz := words_z hws hsz
 have hk := words_n hws hsz
 have hu := Tryz.underlying22
 have hu26 := Tryz.underlying26
 obtain ⟨b0, b1, b2, b2c, b3, b4, b5, b6, z3⟩ := base_n hn0 hk
 go_enter Tryz.func19, Tryz.ntmps19
 go_wp2_with fail
 refine one_front hws hsz hn0 ?_
 intro gb ob c W2 hc HC2 HW2 HV2 HB2 hg2 x0 xl
 rw [h0] at x0
 have hn0 : ((at_ ws (ws.length - 1)).toList == [110, 111, 114, 101, 112, 108, 121]) = false := beq_eq_false_iff_ne.mpr hl0
 go_wp2_with fail
 refine (bad_refA (some ⟨gb, ob, none⟩) errT d hd W2).mono ?_
 rintro e W3 ⟨A3, c3, rfl, hl, hC, hs, hA3⟩
 have HV3 := Aside0.mk (blk_below HV2.out hs)
 have HB3 := Aside0.mk (below_step HB2.out hs)
 have rr := celL HV3.out
 have ff := froZ HV3.out
 unfold cdV
 go_wp2_with fail
 refine bodyPost_ret (results_ct rfl _ _ W.heap.size 26 _ (0, 0) _ rfl (putG HV3.out) Tryz.underlying26 rfl (by kernel_rfl)) rfl ?_
 exact tells_put hl hC hA3 hg2 HB3
set_option maxHeartbeats 2000000 in
set_option maxRecDepth 100000 in
theorem one_version_bad (s : ByteArray) (ws : List ByteArray) (W : World) (hws : wordsOf s = ws) (hsz : s.size < 100000) (h0 : at_ ws 0 = versionW) (h2 : ws.length ≠ 1) (d : Cd) (hd : toD (.bad errT) = d) :
  Calls Tryz.prog 19 #[.string s] W (TellsC d (-1) W) := by
 obtain ⟨q0a, q0b, q0c⟩ := eqF (n := ws.length) (k := 1) (by omega)
 clear h2
 have hn0 := at_lt h0 (by decide)
 have hz := words_z hws hsz
 have hk := words_n hws hsz
 have hu := Tryz.underlying22
 have hu26 := Tryz.underlying26
 obtain ⟨b0, b1, b2, b2c, b3, b4, b5, b6, z3⟩ := base_n hn0 hk
 go_enter Tryz.func19, Tryz.ntmps19
 go_wp2_with fail
 refine one_front hws hsz hn0 ?_
 intro gb ob c W2 hc HC2 HW2 HV2 HB2 hg2 x0 xl
 rw [h0] at x0
 go_wp2_with fail
 refine (verb_ref _ false (by decide) W2).mono ?_
 rintro e W4 ⟨rfl, hs⟩
 have HV4 := Aside0.mk (blk_below HV2.out hs)
 have HB4 := Aside0.mk (below_step HB2.out hs)
 clear hs
 go_wp2_with fail
 refine (bad_refA (some ⟨gb, ob, none⟩) errT d hd W4).mono ?_
 rintro e W3 ⟨A3, c3, rfl, hl, hC, hs, hA3⟩
 have HV3 := Aside0.mk (blk_below HV4.out hs)
 have HB3 := Aside0.mk (below_step HB4.out hs)
 have rr := celL HV3.out
 have ff := froZ HV3.out
 unfold cdV
 go_wp2_with fail
 refine bodyPost_ret (results_ct rfl _ _ W.heap.size 26 _ (0, 0) _ rfl (putG HV3.out) Tryz.underlying26 rfl (by kernel_rfl)) rfl ?_
 exact tells_put hl hC hA3 hg2 HB3
set_option maxHeartbeats 2000000 in
set_option maxRecDepth 100000 in
theorem one_delete_form3n (s : ByteArray) (ws : List ByteArray) (W : World) (hws : wordsOf s = ws) (hsz : s.size < 100000) (h0 : at_ ws 0 = deleteW) (h2 : ws.length = 3) (hl0 : at_ ws (ws.length - 1) = noreplyW) (hkey : keyF (at_ ws 1) = false) (d : Cd) (hd : toD (.bad formT) = d) :
  Calls Tryz.prog 19 #[.string s] W (TellsC d (-1) W) := by
 obtain ⟨q0a, q0b, q0c⟩ := eqF (n := ws.length) (k := 2) (by omega)
 obtain ⟨q1a, q1b, q1c⟩ := eqT (n := ws.length) (k := 3) (by omega)
 have h3 : 2 ≤ ws.length := by omega
 have g1 : (1 : Int) < (ws.length : Int) := by omega
 clear h2
 have hn0 := at_lt h0 (by decide)
 have hz := words_z hws hsz
 have hk := words_n hws hsz
 have hu := Tryz.underlying22
 have hu26 := Tryz.underlying26
 obtain ⟨b0, b1, b2, b2c, b3, b4, b5, b6, z3⟩ := base_n hn0 hk
 go_enter Tryz.func19, Tryz.ntmps19
 go_wp2_with fail
 refine one_front hws hsz hn0 ?_
 intro gb ob c W2 hc HC2 HW2 HV2 HB2 hg2 x0 xl
 rw [h0] at x0
 rw [hl0] at xl
 have x1 : W2.cell? ⟨gb, ob + 1, none⟩ = some (.string (at_ ws 1)) := HW2.out.cell 1 (by omega)
 go_wp2_with fail
 refine (key_ref (at_ ws 1) (hz 1) W2).mono ?_
 rw [hkey]
 rintro e W4 ⟨rfl, hs⟩
 have HV4 := Aside0.mk (blk_below HV2.out hs)
 have HB4 := Aside0.mk (below_step HB2.out hs)
 have HW4 := Aside0.mk (HW2.out.below hs)
 clear hs x1
 go_wp2_with fail
 refine (bad_refA (some ⟨gb, ob, none⟩) formT d hd W4).mono ?_
 rintro e W3 ⟨A3, c3, rfl, hl, hC, hs, hA3⟩
 have HV3 := Aside0.mk (blk_below HV4.out hs)
 have HB3 := Aside0.mk (below_step HB4.out hs)
 have rr := celL HV3.out
 have ff := froZ HV3.out
 unfold cdV
 go_wp2_with fail
 refine bodyPost_ret (results_ct rfl _ _ W.heap.size 26 _ (0, 0) _ rfl (putG HV3.out) Tryz.underlying26 rfl (by kernel_rfl)) rfl ?_
 exact tells_put hl hC hA3 hg2 HB3
set_option maxHeartbeats 2000000 in
set_option maxRecDepth 100000 in
theorem one_delete_2n (s : ByteArray) (ws : List ByteArray) (W : World) (hws : wordsOf s = ws) (hsz : s.size < 100000) (h0 : at_ ws 0 = deleteW) (h2 : ws.length = 2) (hl0 : at_ ws (ws.length - 1) = noreplyW) (hkey : keyF (at_ ws 1) = true) (d : Cd) (hd : toD (.delete (at_ ws 1) false) = d) :
  Calls Tryz.prog 19 #[.string s] W (TellsC d (-1) W) := by
 obtain ⟨q0a, q0b, q0c⟩ := eqT (n := ws.length) (k := 2) (by omega)
 obtain ⟨q1a, q1b, q1c⟩ := eqF (n := ws.length) (k := 3) (by omega)
 have h3 : 2 ≤ ws.length := by omega
 have g1 : (1 : Int) < (ws.length : Int) := by omega
 clear h2
 have hn0 := at_lt h0 (by decide)
 have hz := words_z hws hsz
 have hk := words_n hws hsz
 have hu := Tryz.underlying22
 have hu26 := Tryz.underlying26
 obtain ⟨b0, b1, b2, b2c, b3, b4, b5, b6, z3⟩ := base_n hn0 hk
 go_enter Tryz.func19, Tryz.ntmps19
 go_wp2_with fail
 refine one_front hws hsz hn0 ?_
 intro gb ob c W2 hc HC2 HW2 HV2 HB2 hg2 x0 xl
 rw [h0] at x0
 rw [hl0] at xl
 obtain ⟨d1, d2, d3, d4, d5, d6, d7, d8, d9, d10, d11⟩ := cut1 (n := ws.length) (c := c) (by omega) hc
 have x1 : W2.cell? ⟨gb, ob + 1, none⟩ = some (.string (at_ ws 1)) := HW2.out.cell 1 (by omega)
 go_wp2_with fail
 refine (key_ref (at_ ws 1) (hz 1) W2).mono ?_
 rw [hkey]
 rintro e W4 ⟨rfl, hs⟩
 have HV4 := Aside0.mk (blk_below HV2.out hs)
 have HB4 := Aside0.mk (below_step HB2.out hs)
 have HW4 := Aside0.mk (HW2.out.below hs)
 clear hs x1
 have rr := celL HV4.out
 have ff := froZ HV4.out
 go_wp2_with fail
 refine bodyPost_ret (results_ct rfl _ _ W.heap.size 26 _ (0, 0) _ rfl (putG HV4.out) Tryz.underlying26 rfl (by kernel_rfl)) rfl ?_
 subst hd
 exact tells_put (d := toD (.delete (at_ ws 1) false)) (A3 := some ⟨gb, ob + 1, none⟩) (c3 := c - 1) (ob := ob) (by show 1 ≤ c - 1; omega) (HW4.out.key (by omega)) (fun _ => rfl) hg2 HB4
set_option maxHeartbeats 2000000 in
set_option maxRecDepth 100000 in
theorem one_version (s : ByteArray) (ws : List ByteArray) (W : World) (hws : wordsOf s = ws) (hsz : s.size < 100000) (h0 : at_ ws 0 = versionW) (h2 : ws.length = 1) (d : Cd) (hd : toD (.word versionW) = d) :
  Calls Tryz.prog 19 #[.string s] W (TellsC d (-1) W) := by
 obtain ⟨q0a, q0b, q0c⟩ := eqT (n := ws.length) (k := 1) (by omega)
 clear h2
 have hn0 := at_lt h0 (by decide)
 have hz := words_z hws hsz
 have hk := words_n hws hsz
 have hu := Tryz.underlying22
 have hu26 := Tryz.underlying26
 obtain ⟨b0, b1, b2, b2c, b3, b4, b5, b6, z3⟩ := base_n hn0 hk
 go_enter Tryz.func19, Tryz.ntmps19
 go_wp2_with fail
 refine one_front hws hsz hn0 ?_
 intro gb ob c W2 hc HC2 HW2 HV2 HB2 hg2 x0 xl
 rw [h0] at x0
 have rr := celL HV2.out
 have ff := froZ HV2.out
 go_wp2_with fail
 refine bodyPost_ret (results_ct rfl _ _ W.heap.size 26 _ (0, 0) _ rfl (putG HV2.out) Tryz.underlying26 rfl (by kernel_rfl)) rfl ?_
 subst hd
 exact tells_put (d := toD (.word versionW)) (A3 := none) (c3 := 0) (ob := ob) (Nat.zero_le _) (C_none none) (fun h => absurd h (Nat.lt_irrefl 0)) hg2 HB2
set_option maxHeartbeats 2000000 in
set_option maxRecDepth 100000 in
theorem one_flush_2n (s : ByteArray) (ws : List ByteArray) (W : World) (hws : wordsOf s = ws) (hsz : s.size < 100000) (h0 : at_ ws 0 = flushW) (h2 : ws.length = 2) (hl0 : at_ ws (ws.length - 1) = noreplyW) (d : Cd) (hd : toD (.flush true) = d) :
  Calls Tryz.prog 19 #[.string s] W (TellsC d (-1) W) := by
 obtain ⟨q0a, q0b, q0c⟩ := eqF (n := ws.length) (k := 1) (by omega)
 obtain ⟨q1a, q1b, q1c⟩ := eqT (n := ws.length) (k := 2) (by omega)
 clear h2
 have hn0 := at_lt h0 (by decide)
 have hz := words_z hws hsz
 have hk := words_n hws hsz
 have hu := Tryz.underlying22
 have hu26 := Tryz.underlying26
 obtain ⟨b0, b1, b2, b2c, b3, b4, b5, b6, z3⟩ := base_n hn0 hk
 go_enter Tryz.func19, Tryz.ntmps19
 go_wp2_with fail
 refine one_front hws hsz hn0 ?_
 intro gb ob c W2 hc HC2 HW2 HV2 HB2 hg2 x0 xl
 rw [h0] at x0
 rw [hl0] at xl
 have rr := celL HV2.out
 have ff := froZ HV2.out
 go_wp2_with fail
 refine bodyPost_ret (results_ct rfl _ _ W.heap.size 26 _ (0, 0) _ rfl (putG HV2.out) Tryz.underlying26 rfl (by kernel_rfl)) rfl ?_
 subst hd
 exact tells_put (d := toD (.flush true)) (A3 := none) (c3 := 0) (ob := ob) (Nat.zero_le _) (C_none none) (fun h => absurd h (Nat.lt_irrefl 0)) hg2 HB2
set_option maxHeartbeats 2000000 in
set_option maxRecDepth 100000 in
theorem one_cas_true (s : ByteArray) (ws : List ByteArray) (W : World) (hws : wordsOf s = ws) (hsz : s.size < 100000) (h0 : at_ ws 0 = casW) (h2 : ws.length = 7) (hl0 : at_ ws (ws.length - 1) = noreplyW) (d : Cd) (n : Int) (hd : toD (storeQ ws true true).1 = d) (hn : (storeQ ws true true).2 = n) :
  Calls Tryz.prog 19 #[.string s] W (TellsC d n W) := by
 obtain ⟨q0a, q0b, q0c⟩ := eqF (n := ws.length) (k := 6) (by omega)
 obtain ⟨q1a, q1b, q1c⟩ := eqT (n := ws.length) (k := 7) (by omega)
 have h3 : 6 ≤ ws.length := by omega
 clear h2
 have hn0 := at_lt h0 (by decide)
 have hz := words_z hws hsz
 have hk := words_n hws hsz
 have hu := Tryz.underlying22
 have hu26 := Tryz.underlying26
 obtain ⟨b0, b1, b2, b2c, b3, b4, b5, b6, z3⟩ := base_n hn0 hk
 go_enter Tryz.func19, Tryz.ntmps19
 go_wp2_with fail
 refine one_front hws hsz hn0 ?_
 intro gb ob c W2 hc HC2 HW2 HV2 HB2 hg2 x0 xl
 rw [h0] at x0
 rw [hl0] at xl
 have hw0 : ((at_ ws 0).toList == ([99, 97, 115] : List UInt8)) = true := by rw [h0, tl]; decide
 go_wp2_with fail
 refine (store_as (ref_store6 (some ⟨gb, ob, none⟩) c ws true W2 HC2.out hc (by omega) hz hw0) hd hn).mono ?_
 rintro e W3 ⟨A3, c3, rfl, hl, hC, hs, hA3⟩
 have HV3 := Aside0.mk (blk_below HV2.out hs)
 have HB3 := Aside0.mk (below_step HB2.out hs)
 have rr := celL HV3.out
 have ff := froZ HV3.out
 unfold cdV
 go_wp2_with fail
 refine bodyPost_ret (results_ct rfl _ _ W.heap.size 26 _ (0, 0) _ rfl (putG HV3.out) Tryz.underlying26 rfl (by kernel_rfl)) rfl ?_
 exact tells_put hl hC hA3 hg2 HB3
set_option maxHeartbeats 2000000 in
set_option maxRecDepth 100000 in
theorem one_other_bad (s : ByteArray) (ws : List ByteArray) (W : World) (hws : wordsOf s = ws) (hsz : s.size < 100000) (hn : 0 < ws.length) (hnv : ¬ isStoreW (at_ ws 0)) (e0 : ((at_ ws 0).toList == [103, 101, 116]) = false) (e1 : ((at_ ws 0).toList == [103, 101, 116, 115]) = false) (e2 : ((at_ ws 0).toList == [103, 97, 116]) = false) (e3 : ((at_ ws 0).toList == [103, 97, 116, 115]) = false) (e4 : ((at_ ws 0).toList == [105, 110, 99, 114]) = false) (e5 : ((at_ ws 0).toList == [100, 101, 99, 114]) = false) (e6 : ((at_ ws 0).toList == [116, 111, 117, 99, 104]) = false) (e7 : ((at_ ws 0).toList == [100, 101, 108, 101, 116, 101]) = false) (e8 : ((at_ ws 0).toList == [102, 108, 117, 115, 104, 95, 97, 108, 108]) = false) (e9 : ((at_ ws 0).toList == [118, 101, 114, 115, 105, 111, 110]) = false) (e10 : ((at_ ws 0).toList == [113, 117, 105, 116]) = false) (e11 : ((at_ ws 0).toList == [99, 97, 115]) = false) (d : Cd) (hd : toD (.bad errT) = d) :
  Calls Tryz.prog 19 #[.string s] W (TellsC d (-1) W) := by
 have hn0 : 0 < ws.length := by omega
 have hz := words_z hws hsz
 have hk := words_n hws hsz
 have hu := Tryz.underlying22
 have hu26 := Tryz.underlying26
 obtain ⟨b0, b1, b2, b2c, b3, b4, b5, b6, z3⟩ := base_n hn0 hk
 go_enter Tryz.func19, Tryz.ntmps19
 go_wp2_with fail
 refine one_front hws hsz hn0 ?_
 intro gb ob c W2 hc HC2 HW2 HV2 HB2 hg2 x0 xl
 go_wp2_with fail
 refine (verb_ref _ false (decide_eq_false hnv) W2).mono ?_
 rintro e W4 ⟨rfl, hs⟩
 have HV4 := Aside0.mk (blk_below HV2.out hs)
 have HB4 := Aside0.mk (below_step HB2.out hs)
 clear hs
 go_wp2_with fail
 refine (bad_refA (some ⟨gb, ob, none⟩) errT d hd W4).mono ?_
 rintro e W3 ⟨A3, c3, rfl, hl, hC, hs, hA3⟩
 have HV3 := Aside0.mk (blk_below HV4.out hs)
 have HB3 := Aside0.mk (below_step HB4.out hs)
 have rr := celL HV3.out
 have ff := froZ HV3.out
 unfold cdV
 go_wp2_with fail
 refine bodyPost_ret (results_ct rfl _ _ W.heap.size 26 _ (0, 0) _ rfl (putG HV3.out) Tryz.underlying26 rfl (by kernel_rfl)) rfl ?_
 exact tells_put hl hC hA3 hg2 HB3
end Go.Proofs.YtfbhlbchmenloaaGreatDoor.O
end
section
namespace Go.Proofs.YtfbhlbchmenloaaGreatDoor.O
open Go Go.RowKit Go.Proofs.YtfbhlbchmenloaaGreatDoorW.PrintWords Go.Proofs.YtfbhlbchmenloaaGreatDoorW.PrintLast Go.Proofs.YtfbhlbchmenloaaGreatDoorW.PrintMore Go.Proofs.YtfbhlbchmenloaaGreatDoor.H Go.Proofs.YtfbhlbchmenloaaGreatDoor.L Go.Proofs.YtfbhlbchmenloaaGreatDoor.Pure
set_option linter.unusedVariables false
set_option linter.unusedSimpArgs false
set_option maxHeartbeats 2000000 in
set_option maxRecDepth 100000 in
theorem one_gat (s : ByteArray) (ws : List ByteArray) (W : World) (hws : wordsOf s = ws) (hsz : s.size < 100000) (h0 : at_ ws 0 = gatW) (h2 : 3 ≤ ws.length) (d : Cd) (hd : toX (getX (ws.drop 2) (decide (at_ ws 0 = gatsW)) true (signF (at_ ws 1).data.toList)) = d) :
  Calls Tryz.prog 19 #[.string s] W (TellsC d (-1) W) := by
 obtain ⟨q0a, q0b⟩ := geT (n := ws.length) (k := 3) (by omega)
 have hn0 := at_lt h0 (by decide)
 have hz := words_z hws hsz
 have hk := words_n hws hsz
 have hu := Tryz.underlying22
 have hu26 := Tryz.underlying26
 obtain ⟨b0, b1, b2, b2c, b3, b4, b5, b6, z3⟩ := base_n hn0 hk
 go_enter Tryz.func19, Tryz.ntmps19
 go_wp2_with fail
 refine one_front hws hsz hn0 ?_
 intro gb ob c W2 hc HC2 HW2 HV2 HB2 hg2 x0 xl
 rw [h0] at x0
 obtain ⟨d1, d2, d3, d4, d5, d6, d7, d8, d9, d10, d11⟩ := cut1 (n := ws.length) (c := c) (by omega) hc
 go_wp2_with fail
 have ct := ref_gat (some ⟨gb, ob, none⟩) c ws W2 HC2.out hc (by omega) hz (by omega)
 rw [hd] at ct
 refine ct.mono ?_
 rintro e W3 ⟨A3, c3, rfl, hl, hC, hs, hA3⟩
 have HV3 := Aside0.mk (blk_below HV2.out hs)
 have HB3 := Aside0.mk (below_step HB2.out hs)
 have rr := celL HV3.out
 have ff := froZ HV3.out
 unfold cdV
 go_wp2_with fail
 refine bodyPost_ret (results_ct rfl _ _ W.heap.size 26 _ (0, 0) _ rfl (putG HV3.out) Tryz.underlying26 rfl (by kernel_rfl)) rfl ?_
 exact tells_put hl hC hA3 hg2 HB3
set_option maxHeartbeats 2000000 in
set_option maxRecDepth 100000 in
theorem one_incr_true (s : ByteArray) (ws : List ByteArray) (W : World) (hws : wordsOf s = ws) (hsz : s.size < 100000) (h0 : at_ ws 0 = incrW) (h2 : ws.length = 4) (hl0 : at_ ws (ws.length - 1) = noreplyW) (d : Cd) (hd : toD (arithC ws true) = d) :
  Calls Tryz.prog 19 #[.string s] W (TellsC d (-1) W) := by
 obtain ⟨q0a, q0b, q0c⟩ := eqF (n := ws.length) (k := 3) (by omega)
 obtain ⟨q1a, q1b, q1c⟩ := eqT (n := ws.length) (k := 4) (by omega)
 have h3 : 3 ≤ ws.length := by omega
 clear h2
 have hn0 := at_lt h0 (by decide)
 have hz := words_z hws hsz
 have hk := words_n hws hsz
 have hu := Tryz.underlying22
 have hu26 := Tryz.underlying26
 obtain ⟨b0, b1, b2, b2c, b3, b4, b5, b6, z3⟩ := base_n hn0 hk
 go_enter Tryz.func19, Tryz.ntmps19
 go_wp2_with fail
 refine one_front hws hsz hn0 ?_
 intro gb ob c W2 hc HC2 HW2 HV2 HB2 hg2 x0 xl
 rw [h0] at x0
 rw [hl0] at xl
 go_wp2_with fail
 have ct := ref_arith (some ⟨gb, ob, none⟩) c ws true W2 HC2.out hc (by omega) hz
 rw [hd] at ct
 refine ct.mono ?_
 rintro e W3 ⟨A3, c3, rfl, hl, hC, hs, hA3⟩
 have HV3 := Aside0.mk (blk_below HV2.out hs)
 have HB3 := Aside0.mk (below_step HB2.out hs)
 have rr := celL HV3.out
 have ff := froZ HV3.out
 unfold cdV
 go_wp2_with fail
 refine bodyPost_ret (results_ct rfl _ _ W.heap.size 26 _ (0, 0) _ rfl (putG HV3.out) Tryz.underlying26 rfl (by kernel_rfl)) rfl ?_
 exact tells_put hl hC hA3 hg2 HB3
set_option maxHeartbeats 2000000 in
set_option maxRecDepth 100000 in
theorem one_touch_false (s : ByteArray) (ws : List ByteArray) (W : World) (hws : wordsOf s = ws) (hsz : s.size < 100000) (h0 : at_ ws 0 = touchW) (h2 : ws.length = 3) (d : Cd) (hd : toD (touchC ws false) = d) :
  Calls Tryz.prog 19 #[.string s] W (TellsC d (-1) W) := by
 obtain ⟨q0a, q0b, q0c⟩ := eqT (n := ws.length) (k := 3) (by omega)
 obtain ⟨q1a, q1b, q1c⟩ := eqF (n := ws.length) (k := 4) (by omega)
 have h3 : 3 ≤ ws.length := by omega
 clear h2
 have hn0 := at_lt h0 (by decide)
 have hz := words_z hws hsz
 have hk := words_n hws hsz
 have hu := Tryz.underlying22
 have hu26 := Tryz.underlying26
 obtain ⟨b0, b1, b2, b2c, b3, b4, b5, b6, z3⟩ := base_n hn0 hk
 go_enter Tryz.func19, Tryz.ntmps19
 go_wp2_with fail
 refine one_front hws hsz hn0 ?_
 intro gb ob c W2 hc HC2 HW2 HV2 HB2 hg2 x0 xl
 rw [h0] at x0
 go_wp2_with fail
 have ct := ref_touch (some ⟨gb, ob, none⟩) c ws false W2 HC2.out hc (by omega) hz
 rw [hd] at ct
 refine ct.mono ?_
 rintro e W3 ⟨A3, c3, rfl, hl, hC, hs, hA3⟩
 have HV3 := Aside0.mk (blk_below HV2.out hs)
 have HB3 := Aside0.mk (below_step HB2.out hs)
 have rr := celL HV3.out
 have ff := froZ HV3.out
 unfold cdV
 go_wp2_with fail
 refine bodyPost_ret (results_ct rfl _ _ W.heap.size 26 _ (0, 0) _ rfl (putG HV3.out) Tryz.underlying26 rfl (by kernel_rfl)) rfl ?_
 exact tells_put hl hC hA3 hg2 HB3
set_option maxHeartbeats 2000000 in
set_option maxRecDepth 100000 in
theorem one_gets_bad (s : ByteArray) (ws : List ByteArray) (W : World) (hws : wordsOf s = ws) (hsz : s.size < 100000) (h0 : at_ ws 0 = getsW) (h2 : ¬ 2 ≤ ws.length) (d : Cd) (hd : toD (.bad errT) = d) :
  Calls Tryz.prog 19 #[.string s] W (TellsC d (-1) W) := by
 obtain ⟨q0a, q0b⟩ := geF (n := ws.length) (k := 2) (by omega)
 have hn0 := at_lt h0 (by decide)
 have hz := words_z hws hsz
 have hk := words_n hws hsz
 have hu := Tryz.underlying22
 have hu26 := Tryz.underlying26
 obtain ⟨b0, b1, b2, b2c, b3, b4, b5, b6, z3⟩ := base_n hn0 hk
 go_enter Tryz.func19, Tryz.ntmps19
 go_wp2_with fail
 refine one_front hws hsz hn0 ?_
 intro gb ob c W2 hc HC2 HW2 HV2 HB2 hg2 x0 xl
 rw [h0] at x0
 go_wp2_with fail
 refine (verb_ref _ false (by decide) W2).mono ?_
 rintro e W4 ⟨rfl, hs⟩
 have HV4 := Aside0.mk (blk_below HV2.out hs)
 have HB4 := Aside0.mk (below_step HB2.out hs)
 clear hs
 go_wp2_with fail
 refine (bad_refA (some ⟨gb, ob, none⟩) errT d hd W4).mono ?_
 rintro e W3 ⟨A3, c3, rfl, hl, hC, hs, hA3⟩
 have HV3 := Aside0.mk (blk_below HV4.out hs)
 have HB3 := Aside0.mk (below_step HB4.out hs)
 have rr := celL HV3.out
 have ff := froZ HV3.out
 unfold cdV
 go_wp2_with fail
 refine bodyPost_ret (results_ct rfl _ _ W.heap.size 26 _ (0, 0) _ rfl (putG HV3.out) Tryz.underlying26 rfl (by kernel_rfl)) rfl ?_
 exact tells_put hl hC hA3 hg2 HB3
set_option maxHeartbeats 2000000 in
set_option maxRecDepth 100000 in
theorem one_incr_bad (s : ByteArray) (ws : List ByteArray) (W : World) (hws : wordsOf s = ws) (hsz : s.size < 100000) (h0 : at_ ws 0 = incrW) (h2 : ws.length ≠ 3) (h4 : ws.length ≠ 4) (d : Cd) (hd : toD (.bad errT) = d) :
  Calls Tryz.prog 19 #[.string s] W (TellsC d (-1) W) := by
 obtain ⟨q0a, q0b, q0c⟩ := eqF (n := ws.length) (k := 3) (by omega)
 obtain ⟨q1a, q1b, q1c⟩ := eqF (n := ws.length) (k := 4) (by omega)
 clear h2 h4
 have hn0 := at_lt h0 (by decide)
 have hz := words_z hws hsz
 have hk := words_n hws hsz
 have hu := Tryz.underlying22
 have hu26 := Tryz.underlying26
 obtain ⟨b0, b1, b2, b2c, b3, b4, b5, b6, z3⟩ := base_n hn0 hk
 go_enter Tryz.func19, Tryz.ntmps19
 go_wp2_with fail
 refine one_front hws hsz hn0 ?_
 intro gb ob c W2 hc HC2 HW2 HV2 HB2 hg2 x0 xl
 rw [h0] at x0
 go_wp2_with fail
 refine (verb_ref _ false (by decide) W2).mono ?_
 rintro e W4 ⟨rfl, hs⟩
 have HV4 := Aside0.mk (blk_below HV2.out hs)
 have HB4 := Aside0.mk (below_step HB2.out hs)
 clear hs
 go_wp2_with fail
 refine (bad_refA (some ⟨gb, ob, none⟩) errT d hd W4).mono ?_
 rintro e W3 ⟨A3, c3, rfl, hl, hC, hs, hA3⟩
 have HV3 := Aside0.mk (blk_below HV4.out hs)
 have HB3 := Aside0.mk (below_step HB4.out hs)
 have rr := celL HV3.out
 have ff := froZ HV3.out
 unfold cdV
 go_wp2_with fail
 refine bodyPost_ret (results_ct rfl _ _ W.heap.size 26 _ (0, 0) _ rfl (putG HV3.out) Tryz.underlying26 rfl (by kernel_rfl)) rfl ?_
 exact tells_put hl hC hA3 hg2 HB3
set_option maxHeartbeats 2000000 in
set_option maxRecDepth 100000 in
theorem one_decr_bad2 (s : ByteArray) (ws : List ByteArray) (W : World) (hws : wordsOf s = ws) (hsz : s.size < 100000) (h0 : at_ ws 0 = decrW) (h4 : ws.length = 4) (hl0 : (at_ ws (ws.length - 1)).toList ≠ [110, 111, 114, 101, 112, 108, 121]) (d : Cd) (hd : toD (.bad errT) = d) :
  Calls Tryz.prog 19 #[.string s] W (TellsC d (-1) W) := by
 obtain ⟨q0a, q0b, q0c⟩ := eqF (n := ws.length) (k := 3) (by omega)
 obtain ⟨q1a, q1b, q1c⟩ := eqT (n := ws.length) (k := 4) (by omega)
 clear h4
 have hn0 := at_lt h0 (by decide)
 have hz := words_z hws hsz
 have hk := words_n hws hsz
 have hu := Tryz.underlying22
 have hu26 := Tryz.underlying26
 obtain ⟨b0, b1, b2, b2c, b3, b4, b5, b6, z3⟩ := base_n hn0 hk
 go_enter Tryz.func19, Tryz.ntmps19
 go_wp2_with fail
 refine one_front hws hsz hn0 ?_
 intro gb ob c W2 hc HC2 HW2 HV2 HB2 hg2 x0 xl
 rw [h0] at x0
 have hn0 : ((at_ ws (ws.length - 1)).toList == [110, 111, 114, 101, 112, 108, 121]) = false := beq_eq_false_iff_ne.mpr hl0
 go_wp2_with fail
 refine (verb_ref _ false (by decide) W2).mono ?_
 rintro e W4 ⟨rfl, hs⟩
 have HV4 := Aside0.mk (blk_below HV2.out hs)
 have HB4 := Aside0.mk (below_step HB2.out hs)
 clear hs
 go_wp2_with fail
 refine (bad_refA (some ⟨gb, ob, none⟩) errT d hd W4).mono ?_
 rintro e W3 ⟨A3, c3, rfl, hl, hC, hs, hA3⟩
 have HV3 := Aside0.mk (blk_below HV4.out hs)
 have HB3 := Aside0.mk (below_step HB4.out hs)
 have rr := celL HV3.out
 have ff := froZ HV3.out
 unfold cdV
 go_wp2_with fail
 refine bodyPost_ret (results_ct rfl _ _ W.heap.size 26 _ (0, 0) _ rfl (putG HV3.out) Tryz.underlying26 rfl (by kernel_rfl)) rfl ?_
 exact tells_put hl hC hA3 hg2 HB3
set_option maxHeartbeats 2000000 in
set_option maxRecDepth 100000 in
theorem one_delete_bad (s : ByteArray) (ws : List ByteArray) (W : World) (hws : wordsOf s = ws) (hsz : s.size < 100000) (h0 : at_ ws 0 = deleteW) (h2 : ws.length ≠ 2) (h4 : ws.length ≠ 3) (d : Cd) (hd : toD (.bad errT) = d) :
  Calls Tryz.prog 19 #[.string s] W (TellsC d (-1) W) := by
 obtain ⟨q0a, q0b, q0c⟩ := eqF (n := ws.length) (k := 2) (by omega)
 obtain ⟨q1a, q1b, q1c⟩ := eqF (n := ws.length) (k := 3) (by omega)
 clear h2 h4
 have hn0 := at_lt h0 (by decide)
 have hz := words_z hws hsz
 have hk := words_n hws hsz
 have hu := Tryz.underlying22
 have hu26 := Tryz.underlying26
 obtain ⟨b0, b1, b2, b2c, b3, b4, b5, b6, z3⟩ := base_n hn0 hk
 go_enter Tryz.func19, Tryz.ntmps19
 go_wp2_with fail
 refine one_front hws hsz hn0 ?_
 intro gb ob c W2 hc HC2 HW2 HV2 HB2 hg2 x0 xl
 rw [h0] at x0
 go_wp2_with fail
 refine (verb_ref _ false (by decide) W2).mono ?_
 rintro e W4 ⟨rfl, hs⟩
 have HV4 := Aside0.mk (blk_below HV2.out hs)
 have HB4 := Aside0.mk (below_step HB2.out hs)
 clear hs
 go_wp2_with fail
 refine (bad_refA (some ⟨gb, ob, none⟩) errT d hd W4).mono ?_
 rintro e W3 ⟨A3, c3, rfl, hl, hC, hs, hA3⟩
 have HV3 := Aside0.mk (blk_below HV4.out hs)
 have HB3 := Aside0.mk (below_step HB4.out hs)
 have rr := celL HV3.out
 have ff := froZ HV3.out
 unfold cdV
 go_wp2_with fail
 refine bodyPost_ret (results_ct rfl _ _ W.heap.size 26 _ (0, 0) _ rfl (putG HV3.out) Tryz.underlying26 rfl (by kernel_rfl)) rfl ?_
 exact tells_put hl hC hA3 hg2 HB3
set_option maxHeartbeats 2000000 in
set_option maxRecDepth 100000 in
theorem one_flush_all_bad2 (s : ByteArray) (ws : List ByteArray) (W : World) (hws : wordsOf s = ws) (hsz : s.size < 100000) (h0 : at_ ws 0 = flushW) (h4 : ws.length = 2) (hl0 : (at_ ws (ws.length - 1)).toList ≠ [110, 111, 114, 101, 112, 108, 121]) (hl1 : (at_ ws (ws.length - 1)).toList ≠ [48]) (d : Cd) (hd : toD (.bad errT) = d) :
  Calls Tryz.prog 19 #[.string s] W (TellsC d (-1) W) := by
 obtain ⟨q0a, q0b, q0c⟩ := eqF (n := ws.length) (k := 1) (by omega)
 obtain ⟨q1a, q1b, q1c⟩ := eqT (n := ws.length) (k := 2) (by omega)
 clear h4
 have hn0 := at_lt h0 (by decide)
 have hz := words_z hws hsz
 have hk := words_n hws hsz
 have hu := Tryz.underlying22
 have hu26 := Tryz.underlying26
 obtain ⟨b0, b1, b2, b2c, b3, b4, b5, b6, z3⟩ := base_n hn0 hk
 go_enter Tryz.func19, Tryz.ntmps19
 go_wp2_with fail
 refine one_front hws hsz hn0 ?_
 intro gb ob c W2 hc HC2 HW2 HV2 HB2 hg2 x0 xl
 rw [h0] at x0
 have hn0 : ((at_ ws (ws.length - 1)).toList == [110, 111, 114, 101, 112, 108, 121]) = false := beq_eq_false_iff_ne.mpr hl0
 have hn1 : ((at_ ws (ws.length - 1)).toList == [48]) = false := beq_eq_false_iff_ne.mpr hl1
 go_wp2_with fail
 refine (verb_ref _ false (by decide) W2).mono ?_
 rintro e W4 ⟨rfl, hs⟩
 have HV4 := Aside0.mk (blk_below HV2.out hs)
 have HB4 := Aside0.mk (below_step HB2.out hs)
 clear hs
 go_wp2_with fail
 refine (bad_refA (some ⟨gb, ob, none⟩) errT d hd W4).mono ?_
 rintro e W3 ⟨A3, c3, rfl, hl, hC, hs, hA3⟩
 have HV3 := Aside0.mk (blk_below HV4.out hs)
 have HB3 := Aside0.mk (below_step HB4.out hs)
 have rr := celL HV3.out
 have ff := froZ HV3.out
 unfold cdV
 go_wp2_with fail
 refine bodyPost_ret (results_ct rfl _ _ W.heap.size 26 _ (0, 0) _ rfl (putG HV3.out) Tryz.underlying26 rfl (by kernel_rfl)) rfl ?_
 exact tells_put hl hC hA3 hg2 HB3
set_option maxHeartbeats 2000000 in
set_option maxRecDepth 100000 in
theorem one_verb_bad (s : ByteArray) (ws : List ByteArray) (W : World) (hws : wordsOf s = ws) (hsz : s.size < 100000) (hn : 0 < ws.length) (hst : isStoreW (at_ ws 0)) (e0 : ((at_ ws 0).toList == [103, 101, 116]) = false) (e1 : ((at_ ws 0).toList == [103, 101, 116, 115]) = false) (e2 : ((at_ ws 0).toList == [103, 97, 116]) = false) (e3 : ((at_ ws 0).toList == [103, 97, 116, 115]) = false) (e4 : ((at_ ws 0).toList == [105, 110, 99, 114]) = false) (e5 : ((at_ ws 0).toList == [100, 101, 99, 114]) = false) (e6 : ((at_ ws 0).toList == [116, 111, 117, 99, 104]) = false) (e7 : ((at_ ws 0).toList == [100, 101, 108, 101, 116, 101]) = false) (e8 : ((at_ ws 0).toList == [102, 108, 117, 115, 104, 95, 97, 108, 108]) = false) (e9 : ((at_ ws 0).toList == [118, 101, 114, 115, 105, 111, 110]) = false) (e10 : ((at_ ws 0).toList == [113, 117, 105, 116]) = false) (e11 : ((at_ ws 0).toList == [99, 97, 115]) = false) (h2 : ws.length ≠ 5) (h4 : ws.length ≠ 6) (d : Cd) (hd : toD (.bad errT) = d) :
  Calls Tryz.prog 19 #[.string s] W (TellsC d (-1) W) := by
 obtain ⟨q0a, q0b, q0c⟩ := eqF (n := ws.length) (k := 5) (by omega)
 obtain ⟨q1a, q1b, q1c⟩ := eqF (n := ws.length) (k := 6) (by omega)
 clear h2 h4
 have hn0 : 0 < ws.length := by omega
 have hz := words_z hws hsz
 have hk := words_n hws hsz
 have hu := Tryz.underlying22
 have hu26 := Tryz.underlying26
 obtain ⟨b0, b1, b2, b2c, b3, b4, b5, b6, z3⟩ := base_n hn0 hk
 go_enter Tryz.func19, Tryz.ntmps19
 go_wp2_with fail
 refine one_front hws hsz hn0 ?_
 intro gb ob c W2 hc HC2 HW2 HV2 HB2 hg2 x0 xl
 go_wp2_with fail
 refine (verb_ref _ true (decide_eq_true hst) W2).mono ?_
 rintro e W4 ⟨rfl, hs⟩
 have HV4 := Aside0.mk (blk_below HV2.out hs)
 have HB4 := Aside0.mk (below_step HB2.out hs)
 clear hs
 go_wp2_with fail
 refine (bad_refA (some ⟨gb, ob, none⟩) errT d hd W4).mono ?_
 rintro e W3 ⟨A3, c3, rfl, hl, hC, hs, hA3⟩
 have HV3 := Aside0.mk (blk_below HV4.out hs)
 have HB3 := Aside0.mk (below_step HB4.out hs)
 have rr := celL HV3.out
 have ff := froZ HV3.out
 unfold cdV
 go_wp2_with fail
 refine bodyPost_ret (results_ct rfl _ _ W.heap.size 26 _ (0, 0) _ rfl (putG HV3.out) Tryz.underlying26 rfl (by kernel_rfl)) rfl ?_
 exact tells_put hl hC hA3 hg2 HB3
set_option maxHeartbeats 2000000 in
set_option maxRecDepth 100000 in
theorem one_quit_bad (s : ByteArray) (ws : List ByteArray) (W : World) (hws : wordsOf s = ws) (hsz : s.size < 100000) (h0 : at_ ws 0 = quitW) (h2 : ws.length ≠ 1) (d : Cd) (hd : toD (.bad errT) = d) :
  Calls Tryz.prog 19 #[.string s] W (TellsC d (-1) W) := by
 obtain ⟨q0a, q0b, q0c⟩ := eqF (n := ws.length) (k := 1) (by omega)
 clear h2
 have hn0 := at_lt h0 (by decide)
 have hz := words_z hws hsz
 have hk := words_n hws hsz
 have hu := Tryz.underlying22
 have hu26 := Tryz.underlying26
 obtain ⟨b0, b1, b2, b2c, b3, b4, b5, b6, z3⟩ := base_n hn0 hk
 go_enter Tryz.func19, Tryz.ntmps19
 go_wp2_with fail
 refine one_front hws hsz hn0 ?_
 intro gb ob c W2 hc HC2 HW2 HV2 HB2 hg2 x0 xl
 rw [h0] at x0
 go_wp2_with fail
 refine (verb_ref _ false (by decide) W2).mono ?_
 rintro e W4 ⟨rfl, hs⟩
 have HV4 := Aside0.mk (blk_below HV2.out hs)
 have HB4 := Aside0.mk (below_step HB2.out hs)
 clear hs
 go_wp2_with fail
 refine (bad_refA (some ⟨gb, ob, none⟩) errT d hd W4).mono ?_
 rintro e W3 ⟨A3, c3, rfl, hl, hC, hs, hA3⟩
 have HV3 := Aside0.mk (blk_below HV4.out hs)
 have HB3 := Aside0.mk (below_step HB4.out hs)
 have rr := celL HV3.out
 have ff := froZ HV3.out
 unfold cdV
 go_wp2_with fail
 refine bodyPost_ret (results_ct rfl _ _ W.heap.size 26 _ (0, 0) _ rfl (putG HV3.out) Tryz.underlying26 rfl (by kernel_rfl)) rfl ?_
 exact tells_put hl hC hA3 hg2 HB3
set_option maxHeartbeats 2000000 in
set_option maxRecDepth 100000 in
theorem one_delete_form3z (s : ByteArray) (ws : List ByteArray) (W : World) (hws : wordsOf s = ws) (hsz : s.size < 100000) (h0 : at_ ws 0 = deleteW) (h2 : ws.length = 3) (hl0 : at_ ws (ws.length - 1) = noughtW) (hkey : keyF (at_ ws 1) = false) (d : Cd) (hd : toD (.bad formT) = d) :
  Calls Tryz.prog 19 #[.string s] W (TellsC d (-1) W) := by
 obtain ⟨q0a, q0b, q0c⟩ := eqF (n := ws.length) (k := 2) (by omega)
 obtain ⟨q1a, q1b, q1c⟩ := eqT (n := ws.length) (k := 3) (by omega)
 have h3 : 2 ≤ ws.length := by omega
 have g1 : (1 : Int) < (ws.length : Int) := by omega
 clear h2
 have hn0 := at_lt h0 (by decide)
 have hz := words_z hws hsz
 have hk := words_n hws hsz
 have hu := Tryz.underlying22
 have hu26 := Tryz.underlying26
 obtain ⟨b0, b1, b2, b2c, b3, b4, b5, b6, z3⟩ := base_n hn0 hk
 go_enter Tryz.func19, Tryz.ntmps19
 go_wp2_with fail
 refine one_front hws hsz hn0 ?_
 intro gb ob c W2 hc HC2 HW2 HV2 HB2 hg2 x0 xl
 rw [h0] at x0
 rw [hl0] at xl
 have x1 : W2.cell? ⟨gb, ob + 1, none⟩ = some (.string (at_ ws 1)) := HW2.out.cell 1 (by omega)
 go_wp2_with fail
 refine (key_ref (at_ ws 1) (hz 1) W2).mono ?_
 rw [hkey]
 rintro e W4 ⟨rfl, hs⟩
 have HV4 := Aside0.mk (blk_below HV2.out hs)
 have HB4 := Aside0.mk (below_step HB2.out hs)
 have HW4 := Aside0.mk (HW2.out.below hs)
 clear hs x1
 go_wp2_with fail
 refine (bad_refA (some ⟨gb, ob, none⟩) formT d hd W4).mono ?_
 rintro e W3 ⟨A3, c3, rfl, hl, hC, hs, hA3⟩
 have HV3 := Aside0.mk (blk_below HV4.out hs)
 have HB3 := Aside0.mk (below_step HB4.out hs)
 have rr := celL HV3.out
 have ff := froZ HV3.out
 unfold cdV
 go_wp2_with fail
 refine bodyPost_ret (results_ct rfl _ _ W.heap.size 26 _ (0, 0) _ rfl (putG HV3.out) Tryz.underlying26 rfl (by kernel_rfl)) rfl ?_
 exact tells_put hl hC hA3 hg2 HB3
set_option maxHeartbeats 2000000 in
set_option maxRecDepth 100000 in
theorem one_delete_3n (s : ByteArray) (ws : List ByteArray) (W : World) (hws : wordsOf s = ws) (hsz : s.size < 100000) (h0 : at_ ws 0 = deleteW) (h2 : ws.length = 3) (hl0 : at_ ws (ws.length - 1) = noreplyW) (hkey : keyF (at_ ws 1) = true) (d : Cd) (hd : toD (.delete (at_ ws 1) true) = d) :
  Calls Tryz.prog 19 #[.string s] W (TellsC d (-1) W) := by
 obtain ⟨q0a, q0b, q0c⟩ := eqF (n := ws.length) (k := 2) (by omega)
 obtain ⟨q1a, q1b, q1c⟩ := eqT (n := ws.length) (k := 3) (by omega)
 have h3 : 2 ≤ ws.length := by omega
 have g1 : (1 : Int) < (ws.length : Int) := by omega
 clear h2
 have hn0 := at_lt h0 (by decide)
 have hz := words_z hws hsz
 have hk := words_n hws hsz
 have hu := Tryz.underlying22
 have hu26 := Tryz.underlying26
 obtain ⟨b0, b1, b2, b2c, b3, b4, b5, b6, z3⟩ := base_n hn0 hk
 go_enter Tryz.func19, Tryz.ntmps19
 go_wp2_with fail
 refine one_front hws hsz hn0 ?_
 intro gb ob c W2 hc HC2 HW2 HV2 HB2 hg2 x0 xl
 rw [h0] at x0
 rw [hl0] at xl
 obtain ⟨d1, d2, d3, d4, d5, d6, d7, d8, d9, d10, d11⟩ := cut1 (n := ws.length) (c := c) (by omega) hc
 have x1 : W2.cell? ⟨gb, ob + 1, none⟩ = some (.string (at_ ws 1)) := HW2.out.cell 1 (by omega)
 go_wp2_with fail
 refine (key_ref (at_ ws 1) (hz 1) W2).mono ?_
 rw [hkey]
 rintro e W4 ⟨rfl, hs⟩
 have HV4 := Aside0.mk (blk_below HV2.out hs)
 have HB4 := Aside0.mk (below_step HB2.out hs)
 have HW4 := Aside0.mk (HW2.out.below hs)
 clear hs x1
 have rr := celL HV4.out
 have ff := froZ HV4.out
 go_wp2_with fail
 refine bodyPost_ret (results_ct rfl _ _ W.heap.size 26 _ (0, 0) _ rfl (putG HV4.out) Tryz.underlying26 rfl (by kernel_rfl)) rfl ?_
 subst hd
 exact tells_put (d := toD (.delete (at_ ws 1) true)) (A3 := some ⟨gb, ob + 1, none⟩) (c3 := c - 1) (ob := ob) (by show 1 ≤ c - 1; omega) (HW4.out.key (by omega)) (fun _ => rfl) hg2 HB4
set_option maxHeartbeats 2000000 in
set_option maxRecDepth 100000 in
theorem one_quit (s : ByteArray) (ws : List ByteArray) (W : World) (hws : wordsOf s = ws) (hsz : s.size < 100000) (h0 : at_ ws 0 = quitW) (h2 : ws.length = 1) (d : Cd) (hd : toD (.word quitW) = d) :
  Calls Tryz.prog 19 #[.string s] W (TellsC d (-1) W) := by
 obtain ⟨q0a, q0b, q0c⟩ := eqT (n := ws.length) (k := 1) (by omega)
 clear h2
 have hn0 := at_lt h0 (by decide)
 have hz := words_z hws hsz
 have hk := words_n hws hsz
 have hu := Tryz.underlying22
 have hu26 := Tryz.underlying26
 obtain ⟨b0, b1, b2, b2c, b3, b4, b5, b6, z3⟩ := base_n hn0 hk
 go_enter Tryz.func19, Tryz.ntmps19
 go_wp2_with fail
 refine one_front hws hsz hn0 ?_
 intro gb ob c W2 hc HC2 HW2 HV2 HB2 hg2 x0 xl
 rw [h0] at x0
 have rr := celL HV2.out
 have ff := froZ HV2.out
 go_wp2_with fail
 refine bodyPost_ret (results_ct rfl _ _ W.heap.size 26 _ (0, 0) _ rfl (putG HV2.out) Tryz.underlying26 rfl (by kernel_rfl)) rfl ?_
 subst hd
 exact tells_put (d := toD (.word quitW)) (A3 := none) (c3 := 0) (ob := ob) (Nat.zero_le _) (C_none none) (fun h => absurd h (Nat.lt_irrefl 0)) hg2 HB2
set_option maxHeartbeats 2000000 in
set_option maxRecDepth 100000 in
theorem one_flush_2z (s : ByteArray) (ws : List ByteArray) (W : World) (hws : wordsOf s = ws) (hsz : s.size < 100000) (h0 : at_ ws 0 = flushW) (h2 : ws.length = 2) (hl0 : at_ ws (ws.length - 1) = noughtW) (d : Cd) (hd : toD (.flush false) = d) :
  Calls Tryz.prog 19 #[.string s] W (TellsC d (-1) W) := by
 obtain ⟨q0a, q0b, q0c⟩ := eqF (n := ws.length) (k := 1) (by omega)
 obtain ⟨q1a, q1b, q1c⟩ := eqT (n := ws.length) (k := 2) (by omega)
 clear h2
 have hn0 := at_lt h0 (by decide)
 have hz := words_z hws hsz
 have hk := words_n hws hsz
 have hu := Tryz.underlying22
 have hu26 := Tryz.underlying26
 obtain ⟨b0, b1, b2, b2c, b3, b4, b5, b6, z3⟩ := base_n hn0 hk
 go_enter Tryz.func19, Tryz.ntmps19
 go_wp2_with fail
 refine one_front hws hsz hn0 ?_
 intro gb ob c W2 hc HC2 HW2 HV2 HB2 hg2 x0 xl
 rw [h0] at x0
 rw [hl0] at xl
 have rr := celL HV2.out
 have ff := froZ HV2.out
 go_wp2_with fail
 refine bodyPost_ret (results_ct rfl _ _ W.heap.size 26 _ (0, 0) _ rfl (putG HV2.out) Tryz.underlying26 rfl (by kernel_rfl)) rfl ?_
 subst hd
 exact tells_put (d := toD (.flush false)) (A3 := none) (c3 := 0) (ob := ob) (Nat.zero_le _) (C_none none) (fun h => absurd h (Nat.lt_irrefl 0)) hg2 HB2
set_option maxHeartbeats 2000000 in
set_option maxRecDepth 100000 in
theorem one_verb_false (s : ByteArray) (ws : List ByteArray) (W : World) (hws : wordsOf s = ws) (hsz : s.size < 100000) (hst : isStoreW (at_ ws 0)) (e0 : ((at_ ws 0).toList == [103, 101, 116]) = false) (e1 : ((at_ ws 0).toList == [103, 101, 116, 115]) = false) (e2 : ((at_ ws 0).toList == [103, 97, 116]) = false) (e3 : ((at_ ws 0).toList == [103, 97, 116, 115]) = false) (e4 : ((at_ ws 0).toList == [105, 110, 99, 114]) = false) (e5 : ((at_ ws 0).toList == [100, 101, 99, 114]) = false) (e6 : ((at_ ws 0).toList == [116, 111, 117, 99, 104]) = false) (e7 : ((at_ ws 0).toList == [100, 101, 108, 101, 116, 101]) = false) (e8 : ((at_ ws 0).toList == [102, 108, 117, 115, 104, 95, 97, 108, 108]) = false) (e9 : ((at_ ws 0).toList == [118, 101, 114, 115, 105, 111, 110]) = false) (e10 : ((at_ ws 0).toList == [113, 117, 105, 116]) = false) (e11 : ((at_ ws 0).toList == [99, 97, 115]) = false) (h2 : ws.length = 5) (d : Cd) (n : Int) (hd : toD (storeQ ws false false).1 = d) (hn : (storeQ ws false false).2 = n) :
  Calls Tryz.prog 19 #[.string s] W (TellsC d n W) := by
 obtain ⟨q0a, q0b, q0c⟩ := eqT (n := ws.length) (k := 5) (by omega)
 obtain ⟨q1a, q1b, q1c⟩ := eqF (n := ws.length) (k := 6) (by omega)
 have h3 : 5 ≤ ws.length := by omega
 clear h2
 have hn0 : 0 < ws.length := by omega
 have hz := words_z hws hsz
 have hk := words_n hws hsz
 have hu := Tryz.underlying22
 have hu26 := Tryz.underlying26
 obtain ⟨b0, b1, b2, b2c, b3, b4, b5, b6, z3⟩ := base_n hn0 hk
 go_enter Tryz.func19, Tryz.ntmps19
 go_wp2_with fail
 refine one_front hws hsz hn0 ?_
 intro gb ob c W2 hc HC2 HW2 HV2 HB2 hg2 x0 xl
 have hw0 : ((at_ ws 0).toList == ([99, 97, 115] : List UInt8)) = false := e11
 go_wp2_with fail
 refine (verb_ref _ true (decide_eq_true hst) W2).mono ?_
 rintro e W4 ⟨rfl, hs⟩
 have HV4 := Aside0.mk (blk_below HV2.out hs)
 have HB4 := Aside0.mk (below_step HB2.out hs)
 have HC4 := Aside0.mk (Kd.C_below HC2.out hs)
 clear hs
 go_wp2_with fail
 refine (store_as (ref_store5 (some ⟨gb, ob, none⟩) c ws false W4 HC4.out hc (by omega) hz hw0) hd hn).mono ?_
 rintro e W3 ⟨A3, c3, rfl, hl, hC, hs, hA3⟩
 have HV3 := Aside0.mk (blk_below HV4.out hs)
 have HB3 := Aside0.mk (below_step HB4.out hs)
 have rr := celL HV3.out
 have ff := froZ HV3.out
 unfold cdV
 go_wp2_with fail
 refine bodyPost_ret (results_ct rfl _ _ W.heap.size 26 _ (0, 0) _ rfl (putG HV3.out) Tryz.underlying26 rfl (by kernel_rfl)) rfl ?_
 exact tells_put hl hC hA3 hg2 HB3
set_option maxHeartbeats 2000000 in
set_option maxRecDepth 100000 in
theorem one_none (s : ByteArray) (W : World) (hws : wordsOf s = []) (hsz : s.size < 100000) (d : Cd) (hd : toD (.bad errT) = d) :
  Calls Tryz.prog 19 #[.string s] W (TellsC d (-1) W) := by
 have hu := Tryz.underlying22
 have hu26 := Tryz.underlying26
 go_enter Tryz.func19, Tryz.ntmps19
 go_wp2_with fail
 refine calls_var ?_
 intro W1 hs hv
 have HV1 := Aside0.mk hv
 have HB1 := Aside0.mk hs
 clear hs hv
 refine (split_ref s [] hws hsz W1).mono ?_
 rintro e W2 ⟨A, c, rfl, hc, hC, hb, hbase⟩
 have HV2 := Aside0.mk (blk_below HV1.out hb)
 have HB2 := Aside0.mk (below_step HB1.out hb)
 clear hC hb hbase
 go_wp2_with fail
 refine (bad_refA (some ⟨W.heap.size + 1, 0, none⟩) errT d hd W2).mono ?_
 rintro e W3 ⟨A3, c3, rfl, hl, hC, hs, hA3⟩
 have HV3 := Aside0.mk (blk_below HV2.out hs)
 have HB3 := Aside0.mk (below_step HB2.out hs)
 have rr := celL HV3.out
 have ff := froZ HV3.out
 unfold cdV
 have hg2 : ¬ W.heap.size + 1 = W.heap.size := by omega
 go_wp2_with fail
 refine bodyPost_ret (results_ct rfl _ _ W.heap.size 26 _ (0, 0) _ rfl (putG HV3.out) Tryz.underlying26 rfl (by kernel_rfl)) rfl ?_
 exact tells_put hl hC hA3 hg2 HB3
end Go.Proofs.YtfbhlbchmenloaaGreatDoor.O
end
section
namespace Go.Proofs.YtfbhlbchmenloaaGreatDoor.O
open Go Go.RowKit Go.Proofs.YtfbhlbchmenloaaGreatDoorW.PrintWords Go.Proofs.YtfbhlbchmenloaaGreatDoorW.PrintLast Go.Proofs.YtfbhlbchmenloaaGreatDoorW.PrintMore Go.Proofs.YtfbhlbchmenloaaGreatDoor.H Go.Proofs.YtfbhlbchmenloaaGreatDoor.L Go.Proofs.YtfbhlbchmenloaaGreatDoor.Pure
set_option linter.unusedVariables false
set_option linter.unusedSimpArgs false
theorem mem1 (a : ByteArray) : memB a [noreplyW] = decide (a = noreplyW) := by
 unfold memB
 simp
theorem mem2 (a : ByteArray) : memB a [noreplyW, noughtW] = (decide (a = noreplyW) || decide (a = noughtW)) := by
 unfold memB
 simp
theorem ne_tl {a b : ByteArray} (h : ¬ a = b) : a.toList ≠ b.data.toList := by
 rw [← tl b]
 exact fun e => h ((tl_inj a b).1 e)
theorem ends1 (ws : List ByteArray) (n : Nat) : (ws.length = n ∧ endsR ws n [noreplyW] = (false, true)) ∨ (ws.length = n + 1 ∧ at_ ws (ws.length - 1) = noreplyW ∧ endsR ws n [noreplyW] = (true, true))
  ∨ (ws.length ≠ n ∧ ws.length ≠ n + 1 ∧ endsR ws n [noreplyW] = (false, false)) ∨ (ws.length = n + 1 ∧ (at_ ws (ws.length - 1)).toList ≠ [110, 111, 114, 101, 112, 108, 121] ∧ endsR ws n [noreplyW] = (false, false)) := by
 unfold endsR
 by_cases h1 : ws.length = n
 ·exact .inl ⟨h1, if_pos h1⟩
 ·rw [if_neg h1]
  by_cases h2 : ws.length = n + 1
  ·have e : ws.length - 1 = n := by omega
   rw [e, mem1]
   by_cases h3 : at_ ws n = noreplyW
   ·exact .inr (.inl ⟨h2, h3, by rw [if_pos ⟨h2, decide_eq_true h3⟩, decide_eq_true h3]⟩)
   ·exact .inr (.inr (.inr ⟨h2, ne_tl h3, by rw [if_neg (fun z => by rw [decide_eq_false h3] at z; cases z.2)]⟩))
  ·exact .inr (.inr (.inl ⟨h1, h2, by rw [if_neg (fun z => h2 z.1)]⟩))
theorem ends2 (ws : List ByteArray) (n : Nat) : (ws.length = n ∧ endsR ws n [noreplyW, noughtW] = (false, true)) ∨ (ws.length = n + 1 ∧ at_ ws (ws.length - 1) = noreplyW ∧ endsR ws n [noreplyW, noughtW] = (true, true)) ∨ (ws.length = n + 1 ∧ at_ ws (ws.length - 1) = noughtW ∧ endsR ws n [noreplyW, noughtW] = (false, true))
  ∨ (ws.length ≠ n ∧ ws.length ≠ n + 1 ∧ endsR ws n [noreplyW, noughtW] = (false, false)) ∨ (ws.length = n + 1 ∧ (at_ ws (ws.length - 1)).toList ≠ [110, 111, 114, 101, 112, 108, 121] ∧ (at_ ws (ws.length - 1)).toList ≠ [48] ∧ endsR ws n [noreplyW, noughtW] = (false, false)) := by
 unfold endsR
 by_cases h1 : ws.length = n
 ·exact .inl ⟨h1, if_pos h1⟩
 ·rw [if_neg h1]
  by_cases h2 : ws.length = n + 1
  ·have e : ws.length - 1 = n := by omega
   rw [e, mem2]
   by_cases h3 : at_ ws n = noreplyW
   ·exact .inr (.inl ⟨h2, h3, by rw [if_pos ⟨h2, by rw [decide_eq_true h3]; rfl⟩, decide_eq_true h3]⟩)
   ·by_cases h4 : at_ ws n = noughtW
    ·exact .inr (.inr (.inl ⟨h2, h4, by rw [if_pos ⟨h2, by rw [decide_eq_true h4, Bool.or_true]⟩, decide_eq_false h3]⟩))
    ·exact .inr (.inr (.inr (.inr ⟨h2, ne_tl h3, ne_tl h4, by rw [if_neg (fun z => by rw [decide_eq_false h3, decide_eq_false h4] at z; cases z.2)]⟩)))
  ·exact .inr (.inr (.inr (.inl ⟨h1, h2, by rw [if_neg (fun z => h2 z.1)]⟩)))
theorem storeP_bad {ws : List ByteArray} {six : Bool} (h : endsR ws (if six then 6 else 5) [noreplyW] = (false, false)) : storeP ws six = (.bad errT, -1) := by
 unfold storeP
 simp only [h, if_true]
theorem storeP_ok {ws : List ByteArray} {six q : Bool} (h : endsR ws (if six then 6 else 5) [noreplyW] = (q, true)) : storeP ws six = storeQ ws six q := by
 unfold storeP storeQ
 simp only [h, Bool.true_eq_false, if_false]
theorem keyed_bad {ws : List ByteArray} (h : endsR ws 3 [noreplyW] = (false, false)) : keyedR ws = (.bad errT, -1) := by
 unfold keyedR
 simp only [h, if_true]
theorem keyed_touch {ws : List ByteArray} {q : Bool} (h : endsR ws 3 [noreplyW] = (q, true)) (hw : at_ ws 0 = touchW) : keyedR ws = (touchC ws q, -1) := by
 unfold keyedR touchC
 simp only [h, Bool.true_eq_false, if_false, if_pos hw]
 split
 ·rfl
 ·split <;> rfl
theorem keyed_arith {ws : List ByteArray} {q : Bool} (h : endsR ws 3 [noreplyW] = (q, true)) (hw : ¬ at_ ws 0 = touchW) : keyedR ws = (arithC ws q, -1) := by
 unfold keyedR arithC
 simp only [h, Bool.true_eq_false, if_false, if_neg hw]
 split
 ·rfl
 ·split <;> rfl
theorem ne_b {a b : ByteArray} (h : ¬ a = b) : (a.toList == b.data.toList) = false := beq_eq_false_iff_ne.mpr (ne_tl h)
theorem line_plain {ws : List ByteArray} (hn : 0 < ws.length) (h1 : ¬ at_ ws 0 = getW) (h2 : ¬ at_ ws 0 = getsW) (h3 : ¬ at_ ws 0 = gatW) (h4 : ¬ at_ ws 0 = gatsW) : lineX ws = (.pl (plainR ws).1, (plainR ws).2) := by
 match ws with
 | [] => exact absurd hn (Nat.lt_irrefl 0)
 | a :: r =>
  show (if a = getW then _ else if a = getsW then _ else if a = gatW then _ else if a = gatsW then _ else _) = _
  rw [if_neg (show ¬ a = getW from h1), if_neg (show ¬ a = getsW from h2), if_neg (show ¬ a = gatW from h3), if_neg (show ¬ a = gatsW from h4)]
def OneTells (s : ByteArray) (W : World) (p : Cx × Int) : Prop := Calls Tryz.prog 19 #[.string s] W (TellsC (toX p.1) p.2 W)
theorem one_store {s : ByteArray} {ws : List ByteArray} {W : World} (hws : wordsOf s = ws) (hsz : s.size < 100000) (hn : 0 < ws.length) (hst : isStoreW (at_ ws 0)) : OneTells s W (.pl (storeR ws).1, (storeR ws).2) := by
 unfold storeR
 by_cases hc : at_ ws 0 = casW
 ·rw [decide_eq_true hc]
  rcases ends1 ws 6 with ⟨h, e⟩ | ⟨h, hl, e⟩ | ⟨h, h', e⟩ | ⟨h, hl, e⟩
  ·rw [storeP_ok (six := true) (q := false) e]
   exact one_cas_false s ws W hws hsz hc h _ _ rfl rfl
  ·rw [storeP_ok (six := true) (q := true) e]
   exact one_cas_true s ws W hws hsz hc h hl _ _ rfl rfl
  ·rw [storeP_bad (six := true) e]
   exact one_cas_bad s ws W hws hsz hc h h' _ rfl
  ·rw [storeP_bad (six := true) e]
   exact one_cas_bad2 s ws W hws hsz hc h hl _ rfl
 ·rw [decide_eq_false hc]
  have hx : ∀ {b : ByteArray}, ¬ isStoreW b → ¬ at_ ws 0 = b := fun hb e => hb (e ▸ hst)
  have e0 := ne_b (hx (b := getW) (by decide))
  have e1 := ne_b (hx (b := getsW) (by decide))
  have e2 := ne_b (hx (b := gatW) (by decide))
  have e3 := ne_b (hx (b := gatsW) (by decide))
  have e4 := ne_b (hx (b := incrW) (by decide))
  have e5 := ne_b (hx (b := decrW) (by decide))
  have e6 := ne_b (hx (b := touchW) (by decide))
  have e7 := ne_b (hx (b := deleteW) (by decide))
  have e8 := ne_b (hx (b := flushW) (by decide))
  have e9 := ne_b (hx (b := versionW) (by decide))
  have e10 := ne_b (hx (b := quitW) (by decide))
  have e11 := ne_b hc
  rcases ends1 ws 5 with ⟨h, e⟩ | ⟨h, hl, e⟩ | ⟨h, h', e⟩ | ⟨h, hl, e⟩
  ·rw [storeP_ok (six := false) (q := false) e]
   exact one_verb_false s ws W hws hsz hst e0 e1 e2 e3 e4 e5 e6 e7 e8 e9 e10 e11 h _ _ rfl rfl
  ·rw [storeP_ok (six := false) (q := true) e]
   exact one_verb_true s ws W hws hsz hst e0 e1 e2 e3 e4 e5 e6 e7 e8 e9 e10 e11 h hl _ _ rfl rfl
  ·rw [storeP_bad (six := false) e]
   exact one_verb_bad s ws W hws hsz hn hst e0 e1 e2 e3 e4 e5 e6 e7 e8 e9 e10 e11 h h' _ rfl
  ·rw [storeP_bad (six := false) e]
   exact one_verb_bad2 s ws W hws hsz hn hst e0 e1 e2 e3 e4 e5 e6 e7 e8 e9 e10 e11 h hl _ rfl
theorem one_keyed {s : ByteArray} {ws : List ByteArray} {W : World} (hws : wordsOf s = ws) (hsz : s.size < 100000) (hk : isKeyedW (at_ ws 0)) : OneTells s W (.pl (keyedR ws).1, (keyedR ws).2) := by
 rcases ends1 ws 3 with ⟨h, e⟩ | ⟨h, hl, e⟩ | ⟨h, h', e⟩ | ⟨h, hl, e⟩ <;> rcases hk with hw | hw | hw
 ·rw [keyed_arith e (by rw [hw]; decide)]; exact one_incr_false s ws W hws hsz hw h _ rfl
 ·rw [keyed_arith e (by rw [hw]; decide)]; exact one_decr_false s ws W hws hsz hw h _ rfl
 ·rw [keyed_touch e hw]; exact one_touch_false s ws W hws hsz hw h _ rfl
 ·rw [keyed_arith e (by rw [hw]; decide)]; exact one_incr_true s ws W hws hsz hw h hl _ rfl
 ·rw [keyed_arith e (by rw [hw]; decide)]; exact one_decr_true s ws W hws hsz hw h hl _ rfl
 ·rw [keyed_touch e hw]; exact one_touch_true s ws W hws hsz hw h hl _ rfl
 ·rw [keyed_bad e]; exact one_incr_bad s ws W hws hsz hw h h' _ rfl
 ·rw [keyed_bad e]; exact one_decr_bad s ws W hws hsz hw h h' _ rfl
 ·rw [keyed_bad e]; exact one_touch_bad s ws W hws hsz hw h h' _ rfl
 ·rw [keyed_bad e]; exact one_incr_bad2 s ws W hws hsz hw h hl _ rfl
 ·rw [keyed_bad e]; exact one_decr_bad2 s ws W hws hsz hw h hl _ rfl
 ·rw [keyed_bad e]; exact one_touch_bad2 s ws W hws hsz hw h hl _ rfl
theorem one_delete {s : ByteArray} {ws : List ByteArray} {W : World} (hws : wordsOf s = ws) (hsz : s.size < 100000) (hw : at_ ws 0 = deleteW) : OneTells s W (.pl (deleteR ws).1, (deleteR ws).2) := by
 unfold deleteR
 rcases ends2 ws 2 with ⟨h, e⟩ | ⟨h, hl, e⟩ | ⟨h, hl, e⟩ | ⟨h, h', e⟩ | ⟨h, hl, hl', e⟩
 ·rw [e, if_pos rfl]
  by_cases hk : keyF (at_ ws 1) = true
  ·rw [if_pos hk]
   by_cases hq : at_ ws (ws.length - 1) = noreplyW
   ·exact one_delete_2n s ws W hws hsz hw h hq hk _ rfl
   ·exact one_delete_2 s ws W hws hsz hw h (ne_tl hq) hk _ rfl
  ·rw [if_neg hk]
   exact one_delete_form2 s ws W hws hsz hw h (eq_false_of_ne_true hk) _ rfl
 ·rw [e, if_pos rfl]
  by_cases hk : keyF (at_ ws 1) = true
  ·rw [if_pos hk]
   exact one_delete_3n s ws W hws hsz hw h hl hk _ rfl
  ·rw [if_neg hk]
   exact one_delete_form3n s ws W hws hsz hw h hl (eq_false_of_ne_true hk) _ rfl
 ·rw [e, if_pos rfl]
  by_cases hk : keyF (at_ ws 1) = true
  ·rw [if_pos hk]
   exact one_delete_3z s ws W hws hsz hw h hl hk _ rfl
  ·rw [if_neg hk]
   exact one_delete_form3z s ws W hws hsz hw h hl (eq_false_of_ne_true hk) _ rfl
 ·rw [e, if_neg (by decide)]
  exact one_delete_bad s ws W hws hsz hw h h' _ rfl
 ·rw [e, if_neg (by decide)]
  exact one_delete_bad2 s ws W hws hsz hw h hl hl' _ rfl
theorem one_flush {s : ByteArray} {ws : List ByteArray} {W : World} (hws : wordsOf s = ws) (hsz : s.size < 100000) (hw : at_ ws 0 = flushW) : OneTells s W (.pl (flushR ws).1, (flushR ws).2) := by
 unfold flushR
 rcases ends2 ws 1 with ⟨h, e⟩ | ⟨h, hl, e⟩ | ⟨h, hl, e⟩ | ⟨h, h', e⟩ | ⟨h, hl, hl', e⟩
 ·rw [e, if_pos rfl]; exact one_flush_1 s ws W hws hsz hw h _ rfl
 ·rw [e, if_pos rfl]; exact one_flush_2n s ws W hws hsz hw h hl _ rfl
 ·rw [e, if_pos rfl]; exact one_flush_2z s ws W hws hsz hw h hl _ rfl
 ·rw [e, if_neg (by decide)]; exact one_flush_all_bad s ws W hws hsz hw h h' _ rfl
 ·rw [e, if_neg (by decide)]; exact one_flush_all_bad2 s ws W hws hsz hw h hl hl' _ rfl
theorem one_plain {s : ByteArray} {ws : List ByteArray} {W : World} (hws : wordsOf s = ws) (hsz : s.size < 100000) (hn : 0 < ws.length) (h1 : ¬ at_ ws 0 = getW) (h2 : ¬ at_ ws 0 = getsW) (h3 : ¬ at_ ws 0 = gatW) (h4 : ¬ at_ ws 0 = gatsW) : OneTells s W (.pl (plainR ws).1, (plainR ws).2) := by
 unfold plainR
 by_cases hst : isStoreW (at_ ws 0)
 ·rw [if_pos hst]; exact one_store hws hsz hn hst
 ·rw [if_neg hst]
  by_cases hk : isKeyedW (at_ ws 0)
  ·rw [if_pos hk]; exact one_keyed hws hsz hk
  ·rw [if_neg hk]
   by_cases hd : at_ ws 0 = deleteW
   ·rw [if_pos hd]; exact one_delete hws hsz hd
   ·rw [if_neg hd]
    by_cases hf : at_ ws 0 = flushW
    ·rw [if_pos hf]; exact one_flush hws hsz hf
    ·rw [if_neg hf]
     by_cases hv : at_ ws 0 = versionW
     ·rw [if_pos (.inl hv)]
      unfold wordR
      by_cases h : ws.length = 1
      ·rw [if_pos h]; exact one_version s ws W hws hsz hv h _ (by rw [hv]; rfl)
      ·rw [if_neg h]; exact one_version_bad s ws W hws hsz hv h _ rfl
     ·by_cases hq : at_ ws 0 = quitW
      ·rw [if_pos (.inr hq)]
       unfold wordR
       by_cases h : ws.length = 1
       ·rw [if_pos h]; exact one_quit s ws W hws hsz hq h _ (by rw [hq]; rfl)
       ·rw [if_neg h]; exact one_quit_bad s ws W hws hsz hq h _ rfl
      ·rw [if_neg (fun z => z.elim hv hq)]
       exact one_other_bad s ws W hws hsz hn hst (ne_b h1) (ne_b h2) (ne_b h3) (ne_b h4) (ne_b fun e => hk (.inl e)) (ne_b fun e => hk (.inr (.inl e))) (ne_b fun e => hk (.inr (.inr e))) (ne_b hd) (ne_b hf) (ne_b hv) (ne_b hq) (ne_b fun e => hst (.inr (.inr (.inr (.inr (.inr e)))))) _ rfl
theorem one_ref (s : ByteArray) (W : World) (hsz : s.size < 100000) : OneTells s W (lineX (wordsOf s)) := by
 obtain ⟨ws, hws⟩ : ∃ ws, wordsOf s = ws := ⟨_, rfl⟩
 rw [hws]
 by_cases hn : 0 < ws.length
 ·by_cases g1 : at_ ws 0 = getW
  ·have e : lineX ws = (get1 false (ws.drop 1), -1) := by
    match ws, g1 with
    | a :: r, g1 =>
     show (if a = getW then _ else _) = _
     rw [if_pos (show a = getW from g1)]
     rfl
   rw [e]
   unfold get1
   by_cases h2 : 2 ≤ ws.length
   ·rw [if_neg (by rw [List.length_drop]; omega)]
    exact one_get s ws W hws hsz g1 h2 _ rfl
   ·rw [if_pos (by rw [List.length_drop]; omega)]
    exact one_get_bad s ws W hws hsz g1 h2 _ rfl
  ·by_cases g2 : at_ ws 0 = getsW
   ·have e : lineX ws = (get1 true (ws.drop 1), -1) := by
     match ws, g1, g2 with
     | a :: r, g1, g2 =>
      show (if a = getW then _ else if a = getsW then _ else _) = _
      rw [if_neg (show ¬ a = getW from g1), if_pos (show a = getsW from g2)]
      rfl
    rw [e]
    unfold get1
    by_cases h2 : 2 ≤ ws.length
    ·rw [if_neg (by rw [List.length_drop]; omega)]
     exact one_gets s ws W hws hsz g2 h2 _ rfl
    ·rw [if_pos (by rw [List.length_drop]; omega)]
     exact one_gets_bad s ws W hws hsz g2 h2 _ rfl
   ·by_cases g3 : at_ ws 0 = gatW
    ·by_cases h3 : 3 ≤ ws.length
     ·have e : lineX ws = (getX (ws.drop 2) (decide (at_ ws 0 = gatsW)) true (signF (at_ ws 1).data.toList), -1) := by
       match ws, g1, g2, g3, h3 with
       | a :: x :: y :: ks, g1, g2, g3, h3 =>
        show (if a = getW then _ else if a = getsW then _ else if a = gatW then _ else _) = _
        rw [if_neg (show ¬ a = getW from g1), if_neg (show ¬ a = getsW from g2), if_pos (show a = gatW from g3), show decide (at_ (a :: x :: y :: ks) 0 = gatsW) = false by rw [g3]; decide]
        rfl
      rw [e]
      exact one_gat s ws W hws hsz g3 h3 _ rfl
     ·have e : lineX ws = (badX, -1) := by
       match ws, g1, g2, g3, h3 with
       | [a], g1, g2, g3, h3 =>
        show (if a = getW then _ else if a = getsW then _ else if a = gatW then _ else _) = _
        rw [if_neg (show ¬ a = getW from g1), if_neg (show ¬ a = getsW from g2), if_pos (show a = gatW from g3)]
       | [a, x], g1, g2, g3, h3 =>
        show (if a = getW then _ else if a = getsW then _ else if a = gatW then _ else _) = _
        rw [if_neg (show ¬ a = getW from g1), if_neg (show ¬ a = getsW from g2), if_pos (show a = gatW from g3)]
       | a :: x :: y :: ks, g1, g2, g3, h3 => exact absurd (by simp) h3
      rw [e]
      exact one_gat_bad s ws W hws hsz g3 h3 _ rfl
    ·by_cases g4 : at_ ws 0 = gatsW
     ·by_cases h3 : 3 ≤ ws.length
      ·have e : lineX ws = (getX (ws.drop 2) (decide (at_ ws 0 = gatsW)) true (signF (at_ ws 1).data.toList), -1) := by
        match ws, g1, g2, g3, g4, h3 with
        | a :: x :: y :: ks, g1, g2, g3, g4, h3 =>
         show (if a = getW then _ else if a = getsW then _ else if a = gatW then _ else if a = gatsW then _ else _) = _
         rw [if_neg (show ¬ a = getW from g1), if_neg (show ¬ a = getsW from g2), if_neg (show ¬ a = gatW from g3), if_pos (show a = gatsW from g4), decide_eq_true g4]
         rfl
       rw [e]
       exact one_gats s ws W hws hsz g4 h3 _ rfl
      ·have e : lineX ws = (badX, -1) := by
        match ws, g1, g2, g3, g4, h3 with
        | [a], g1, g2, g3, g4, h3 =>
         show (if a = getW then _ else if a = getsW then _ else if a = gatW then _ else if a = gatsW then _ else _) = _
         rw [if_neg (show ¬ a = getW from g1), if_neg (show ¬ a = getsW from g2), if_neg (show ¬ a = gatW from g3), if_pos (show a = gatsW from g4)]
        | [a, x], g1, g2, g3, g4, h3 =>
         show (if a = getW then _ else if a = getsW then _ else if a = gatW then _ else if a = gatsW then _ else _) = _
         rw [if_neg (show ¬ a = getW from g1), if_neg (show ¬ a = getsW from g2), if_neg (show ¬ a = gatW from g3), if_pos (show a = gatsW from g4)]
        | a :: x :: y :: ks, g1, g2, g3, g4, h3 => exact absurd (by simp) h3
       rw [e]
       exact one_gats_bad s ws W hws hsz g4 h3 _ rfl
     ·rw [line_plain hn g1 g2 g3 g4]
      exact one_plain hws hsz hn g1 g2 g3 g4
 ·have e : ws = [] := List.eq_nil_of_length_eq_zero (by omega)
  subst e
  exact one_none s W hws hsz _ rfl
end Go.Proofs.YtfbhlbchmenloaaGreatDoor.O
end
section
namespace Go.Proofs.YtfbhlbchmenloaaGreatDoor.Pure
open Go Go.RowKit Go.Proofs.YtfbhlbchmenloaaGreatDoorW.PrintWords Go.Proofs.YtfbhlbchmenloaaGreatDoor.H Go.Proofs.YtfbhlbchmenloaaGreatDoor.L
set_option linter.unusedSimpArgs false
set_option linter.unusedVariables false
/-! Where a byte 10 is. -/
theorem ib_app (c : UInt8) : ∀ l r : List UInt8, Lib.indexByte (l ++ r) c = if Lib.indexByte l c < 0 then (if Lib.indexByte r c < 0 then -1 else l.length + Lib.indexByte r c) else Lib.indexByte l c
 | [], r => by
  have := Lib.indexByte_ge r c
  simp only [List.nil_append, Lib.indexByte, List.length_nil]
  rw [if_pos (by decide)]
  split <;> omega
 | b :: l, r => by
  have ih := ib_app c l r
  have h1 := Lib.indexByte_ge l c
  have h2 := Lib.indexByte_ge r c
  simp only [List.cons_append, Lib.indexByte]
  by_cases hb : (b == c) = true
  ·simp [hb]
  ·simp only [hb, Bool.false_eq_true, if_false, ih, beq_iff_eq]
   by_cases h3 : Lib.indexByte l c < 0
   ·rw [if_pos h3]
    have h3' : Lib.indexByte l c = -1 := by omega
    rw [h3']
    by_cases h4 : Lib.indexByte r c < 0
    ·simp [h4]
    ·simp only [if_neg h4, List.length_cons]
     simp only [if_true, show ((-1 : Int) < 0) from by decide]
     rw [if_neg (by omega)]
     omega
   ·simp only [if_neg h3, if_neg (show ¬ Lib.indexByte l c = -1 by omega)]
    rw [if_neg (by omega)]
theorem ib_lt (c : UInt8) : ∀ l : List UInt8, Lib.indexByte l c < l.length
 | [] => by simp [Lib.indexByte]
 | b :: l => by
  have ih := ib_lt c l
  simp only [Lib.indexByte, List.length_cons]
  split
  ·omega
  ·split <;> omega
theorem bytesOf_len (b : List Int) : (Lib.bytesOf b).length = b.length := by unfold Lib.bytesOf; rw [List.length_map]
theorem idx_ge (b : List Int) : -1 ≤ idx10 b := Lib.indexByte_ge _ _
theorem idx_lt (b : List Int) : idx10 b < b.length := by
 have := ib_lt 10 (Lib.bytesOf b)
 rw [bytesOf_len] at this
 exact this
theorem idx_app (b l : List Int) : idx10 (b ++ l) = if idx10 b < 0 then (if idx10 l < 0 then -1 else b.length + idx10 l) else idx10 b := by
 unfold idx10
 rw [show Lib.bytesOf (b ++ l) = Lib.bytesOf b ++ Lib.bytesOf l from List.map_append, ib_app, bytesOf_len]
theorem idx_nil : idx10 [] = -1 := rfl
/-! What is passed over. -/
def nrm (ps : PS) : PS := (psPass ps).2
theorem nrm_off {ps : PS} (h : ps.skip = false) : nrm ps = ps := by unfold nrm psPass; rw [if_pos h]
theorem nrm_wait {ps : PS} (h : ps.skip = true) (hi : idx10 ps.b < 0) : nrm ps = { ps with b := [] } := by
 unfold nrm psPass psUse
 rw [if_neg (by rw [h]; decide), if_pos hi, List.drop_length]
theorem nrm_on {ps : PS} (h : ps.skip = true) (hi : ¬ idx10 ps.b < 0) : nrm ps = { ps with b := ps.b.drop ((idx10 ps.b).toNat + 1), skip := false } := by
 unfold nrm psPass psUse
 rw [if_neg (by rw [h]; decide), if_neg hi]
theorem pass_1 (ps : PS) : (psPass ps).1 = !(nrm ps).skip := by
 cases h : ps.skip with
 | false => rw [nrm_off h, h]; unfold psPass; rw [if_pos h]; rfl
 | true =>
  by_cases hi : idx10 ps.b < 0
  ·rw [nrm_wait h hi]; unfold psPass; rw [if_neg (by rw [h]; decide), if_pos hi]; simp [h]
  ·rw [nrm_on h hi]; unfold psPass; rw [if_neg (by rw [h]; decide), if_neg hi]; rfl
theorem nrm_c (ps : PS) : (nrm ps).c = ps.c ∧ (nrm ps).n = ps.n ∧ (nrm ps).b.length ≤ ps.b.length := by
 cases h : ps.skip with
 | false => rw [nrm_off h]; exact ⟨rfl, rfl, Nat.le_refl _⟩
 | true =>
  by_cases hi : idx10 ps.b < 0
  ·rw [nrm_wait h hi]; exact ⟨rfl, rfl, Nat.zero_le _⟩
  ·rw [nrm_on h hi]; exact ⟨rfl, rfl, by rw [List.length_drop]; omega⟩
theorem nrm_nrm (ps : PS) : nrm (nrm ps) = nrm ps := by
 cases h : ps.skip with
 | false => rw [nrm_off h, nrm_off h]
 | true =>
  by_cases hi : idx10 ps.b < 0
  ·rw [nrm_wait h hi, nrm_wait (by exact h) (show idx10 ([] : List Int) < 0 by decide)]
  ·rw [nrm_on h hi]; exact nrm_off rfl
theorem nrm_feed (ps : PS) (l : List Int) : nrm (psFeed ps l) = nrm (psFeed (nrm ps) l) := by
 cases h : ps.skip with
 | false => rw [nrm_off h]
 | true =>
  by_cases hi : idx10 ps.b < 0
  ·rw [nrm_wait h hi]
   have ha := idx_app ps.b l
   rw [if_pos hi] at ha
   by_cases hl : idx10 l < 0
   ·rw [if_pos hl] at ha
    rw [nrm_wait (ps := psFeed ps l) h (by show idx10 (ps.b ++ l) < 0; omega), nrm_wait (by exact h) (by exact hl)]
    rfl
   ·rw [if_neg hl] at ha
    have h0 := idx_ge l
    rw [nrm_on (ps := psFeed ps l) h (by show ¬ idx10 (ps.b ++ l) < 0; omega), nrm_on (by exact h) (by exact hl)]
    unfold psFeed
    simp only [List.nil_append]
    rw [ha, show ((ps.b.length : Int) + idx10 l).toNat + 1 = ps.b.length + ((idx10 l).toNat + 1) by omega, List.drop_append]
    rw [List.drop_of_length_le (by omega), Nat.add_sub_cancel_left, List.nil_append]
  ·have ha := idx_app ps.b l
   rw [if_neg hi] at ha
   have hlt := idx_lt ps.b
   rw [nrm_on h hi, nrm_on (ps := psFeed ps l) h (by show ¬ idx10 (ps.b ++ l) < 0; omega)]
   refine Eq.trans ?_ (nrm_off rfl).symm
   unfold psFeed
   simp only [ha]
   rw [List.drop_append_of_le_length (by omega)]
/-! The next command. -/
def lineT (q : PS) : Cx × Int := lineX ((wl [] (strOfNums (lineL q)).data.toList).map ba)
def dataR (ps : PS) : Cx × Bool × PS := (.pl (psData ps ps.n.toNat).1, (psData ps ps.n.toNat).2.1, (psData ps ps.n.toNat).2.2)
def pend (q : PS) : PS := { psUse q ((idx10 q.b).toNat + 1) with c := (match (lineT q).1 with | .pl c => c | _ => .nil), n := (lineT q).2 }
def nextN (q : PS) : Cx × Bool × PS :=
 if q.skip = true then (.pl .nil, false, q)
 else if isNil q.c = true then
  (if idx10 q.b < 0 then (if 2048 < (trimL q.b).length then (.pl (.bad textLong), true, { q with b := [], skip := true }) else (.pl .nil, false, q))
  else if 2048 < (lineL q).length then (.pl (.bad textLong), true, psUse q ((idx10 q.b).toNat + 1))
  else if (lineT q).2 = -1 then ((lineT q).1, true, psUse q ((idx10 q.b).toNat + 1))
  else dataR (pend q))
 else dataR q
def nextR (ps : PS) : Cx × Bool × PS := nextN (nrm ps)
def OkL (p : Cm × Int) : Prop := isNil p.1 = false ∧ (p.2 = -1 ∨ 0 ≤ p.2) ∧ (toD p.1).keys.length ≤ 64
theorem okL_ite {c : Prop} [Decidable c] {a b : Cm × Int} (ha : OkL a) (hb : OkL b) : OkL (if c then a else b) := by split <;> assumption
theorem okL_bad (t : ByteArray) : OkL (.bad t, -1) := ⟨rfl, .inl rfl, by simp [toD]⟩
theorem okL_store (ws : List ByteArray) (six : Bool) : OkL (storeP ws six) := by
 unfold storeP
 refine okL_ite (okL_bad _) (okL_ite (okL_bad _) (okL_ite (okL_ite ⟨rfl, .inr (numF_range _).1, by simp [toD]⟩ ⟨rfl, .inr (numF_range _).1, by simp [toD]⟩) (okL_bad _)))
theorem okL_plain (ws : List ByteArray) : OkL (plainR ws) := by
 unfold plainR
 refine okL_ite (okL_store _ _) (okL_ite ?_ (okL_ite ?_ (okL_ite ?_ (okL_ite ?_ (okL_bad _)))))
 ·unfold keyedR
  exact okL_ite (okL_bad _) (okL_ite (okL_bad _) (okL_ite (okL_ite ⟨rfl, .inl rfl, by simp [toD]⟩ (okL_bad _)) (okL_ite ⟨rfl, .inl rfl, by simp [toD]⟩ (okL_bad _))))
 ·unfold deleteR
  exact okL_ite (okL_ite ⟨rfl, .inl rfl, by simp [toD]⟩ (okL_bad _)) (okL_bad _)
 ·unfold flushR
  exact okL_ite ⟨rfl, .inl rfl, by simp [toD]⟩ (okL_bad _)
 ·unfold wordR
  exact okL_ite ⟨rfl, .inl rfl, by simp [toD]⟩ (okL_bad _)
def OkX (p : Cx × Int) : Prop := isNilX p.1 = false ∧ (p.2 = -1 ∨ 0 ≤ p.2 ∧ ∃ c, p.1 = .pl c ∧ isNil c = false) ∧ (toX p.1).keys.length ≤ 64
theorem okX_bad : OkX (badX, -1) := ⟨rfl, .inl rfl, by simp [badX, toX, toD]⟩
theorem okX_get (ks : List ByteArray) (ca t : Bool) (sg : Int × Bool) : OkX (getX ks ca t sg, -1) := by
 unfold getX
 by_cases h : ks.any (fun k => !keyF k) = true ∨ 64 < ks.length
 ·rw [if_pos h]; exact ⟨rfl, .inl rfl, by simp [toX, toD]⟩
 ·rw [if_neg h]
  have h2 : ¬ 64 < ks.length := fun z => h (.inr z)
  match sg with
  | (e, true) => exact ⟨rfl, .inl rfl, by simp only [toX, Go.Proofs.YtfbhlbchmenloaaGreatDoor.H.getD]; omega⟩
  | (_, false) => exact ⟨rfl, .inl rfl, by simp [toX, toD]⟩
theorem okX_get1 (ca : Bool) (r : List ByteArray) : OkX (get1 ca r, -1) := by
 unfold get1
 split
 ·exact okX_bad
 ·exact okX_get _ _ _ _
theorem okX_line (ws : List ByteArray) : OkX (lineX ws) := by
 unfold lineX
 match ws with
 | [] => exact okX_bad
 | w :: r =>
  have hp := okL_plain (w :: r)
  simp only
  by_cases g1 : w = getW
  ·rw [if_pos g1]; exact okX_get1 _ _
  ·rw [if_neg g1]
   by_cases g2 : w = getsW
   ·rw [if_pos g2]; exact okX_get1 _ _
   ·rw [if_neg g2]
    by_cases g3 : w = gatW
    ·rw [if_pos g3]
     match r with
     | [] => exact okX_bad
     | [a] => exact okX_bad
     | a :: b :: ks => exact okX_get _ _ _ _
    ·rw [if_neg g3]
     by_cases g4 : w = gatsW
     ·rw [if_pos g4]
      match r with
      | [] => exact okX_bad
      | [a] => exact okX_bad
      | a :: b :: ks => exact okX_get _ _ _ _
     ·rw [if_neg g4]
      exact ⟨hp.1, hp.2.1.imp id (fun h => ⟨h, _, rfl, hp.1⟩), hp.2.2⟩
/-- A command that waits has a length. -/
def Inv (ps : PS) : Prop := isNil ps.c = false → 0 ≤ ps.n
theorem Inv.nrm {ps : PS} (h : Inv ps) : Inv (nrm ps) := by
 obtain ⟨h1, h2, _⟩ := nrm_c ps
 unfold Inv
 rw [h1, h2]
 exact h
theorem Inv.feed {ps : PS} (h : Inv ps) (l : List Int) : Inv (psFeed ps l) := h
theorem pend_ok (q : PS) (h : ¬ (lineT q).2 = -1) : 0 ≤ (pend q).n ∧ isNil (pend q).c = false ∧ (pend q).skip = q.skip := by
 obtain ⟨h1, h2, _⟩ := okX_line ((wl [] (strOfNums (lineL q)).data.toList).map ba)
 rcases h2 with h2 | ⟨h2, c, hc, hn⟩
 ·exact absurd h2 h
 ·refine ⟨h2, ?_, rfl⟩
  unfold pend lineT
  rw [hc]
  exact hn
theorem data_some {ps : PS} (h : 0 ≤ ps.n) : dataX ps = some (dataR ps) := by unfold dataX dataR; rw [if_pos h]
theorem next_is (ps : PS) (hI : Inv ps) (x : Cx) (n : Int) (hx : needsLine ps = true → (x, n) = lineT (nrm ps)) : psNext ps x n = some (nextR ps) := by
 have hN := hI.nrm
 unfold psNext nextR nextN
 rw [pass_1]
 show (if (!(nrm ps).skip) = false then some (Cx.pl .nil, false, nrm ps) else if isNil (nrm ps).c = true then (if (psLine (nrm ps) x n).2.1 = false ∨ isNilX (psLine (nrm ps) x n).1 = false then some (psLine (nrm ps) x n) else dataX (psLine (nrm ps) x n).2.2) else dataX (nrm ps)) = _
 have hx : ¬ idx10 (nrm ps).b < 0 → ¬ 2048 < (lineL (nrm ps)).length → (x, n) = lineT (nrm ps) := fun h1 h2 => hx (by
  unfold needsLine
  rw [show (psPass ps).2 = nrm ps from rfl]
  simp [h1, h2])
 generalize nrm ps = q at *
 cases hs : q.skip with
 | true => simp
 | false =>
  simp only [Bool.not_false, Bool.true_eq_false, if_false, Bool.false_eq_true]
  by_cases hc : isNil q.c = true
  ·simp only [if_pos hc]
   unfold psLine
   by_cases h1 : idx10 q.b < 0
   ·simp only [if_pos h1]
    by_cases h2 : 2048 < (trimL q.b).length
    ·simp only [if_pos h2]
     rw [if_pos (.inr rfl)]
     unfold psUse
     rw [List.drop_length]
    ·simp only [if_neg h2, true_or, if_true]
   ·simp only [if_neg h1]
    by_cases h2 : 2048 < (lineL q).length
    ·simp only [if_pos h2]
     rw [if_pos (.inr rfl)]
    ·simp only [if_neg h2]
     have hxn := hx h1 h2
     have e1 : x = (lineT q).1 := by rw [← hxn]
     have e2 : n = (lineT q).2 := by rw [← hxn]
     subst e1 e2
     obtain ⟨h3, _⟩ := okX_line ((wl [] (strOfNums (lineL q)).data.toList).map ba)
     by_cases h4 : (lineT q).2 = -1
     ·simp only [if_pos h4]
      rw [if_pos (.inr h3)]
     ·simp only [if_neg h4, Bool.true_eq_false, isNilX, isNil, or_self, if_false]
      exact data_some (pend_ok q h4).1
  ·simp only [if_neg hc]
   exact data_some (hN (by simpa using hc))
theorem sos_size (b : List Int) : (strOfNums b).size = b.length := by unfold strOfNums; simp [ByteArray.size]
theorem evNext (ps : PS) (hI : Inv ps) : Ev (fun k => parse_Next.f k ps) (outP (toX (nextR ps).1) (nextR ps).2.1 (nextR ps).2.2) := by
 unfold parse_Next.f
 by_cases h : needsLine ps = true
 ·simp only [if_pos h]
  have hz : (lineL (psPass ps).2).length ≤ 2048 := by
   unfold needsLine at h
   simp at h
   omega
  refine Ev.bind (a := lineT (nrm ps)) (evOneF (strOfNums (lineL (psPass ps).2)) (by rw [sos_size]; omega)) ?_
  have e := next_is ps hI (lineT (nrm ps)).1 (lineT (nrm ps)).2 (fun _ => rfl)
  simp only [e]
  exact Ev.now _
 ·simp only [if_neg h, Option.bind_some]
  rw [next_is ps hI _ _ (fun e => absurd e h)]
  exact Ev.now _
/-! What is fed later. -/
theorem end_app (b l : List Int) (n : Nat) (h : ¬ psEnd b n < 0) : psEnd (b ++ l) n = psEnd b n := by
 have hn : n < b.length := by
  unfold psEnd at h
  by_cases z : b.length ≤ n
  ·rw [if_pos z] at h; omega
  ·omega
 have g0 : (b ++ l).getD n 0 = b.getD n 0 := by rw [List.getD_eq_getElem?_getD, List.getD_eq_getElem?_getD, List.getElem?_append_left hn]
 unfold psEnd at h ⊢
 rw [if_neg (by omega)] at h
 rw [if_neg (by rw [List.length_append]; omega), if_neg (show ¬ b.length ≤ n by omega), g0]
 by_cases h1 : b.getD n 0 = 10
 ·rw [if_pos h1, if_pos h1]
 ·rw [if_neg h1] at h ⊢
  rw [if_neg h1]
  by_cases h2 : b.getD n 0 ≠ 13
  ·rw [if_pos h2, if_pos h2]
  ·rw [if_neg h2] at h ⊢
   rw [if_neg h2]
   by_cases h3 : b.length - n = 1
   ·rw [if_pos h3] at h; omega
   ·have g1 : (b ++ l).getD (n + 1) 0 = b.getD (n + 1) 0 := by rw [List.getD_eq_getElem?_getD, List.getD_eq_getElem?_getD, List.getElem?_append_left (by omega)]
    rw [if_neg h3, if_neg (by rw [List.length_append]; omega), g1]
theorem data_feed (st : PS) (l : List Int) (h : (dataR st).2.1 = true) : (dataR (psFeed st l)) = ((dataR st).1, true, psFeed (dataR st).2.2 l) := by
 unfold dataR at h ⊢
 have hnn : (psFeed st l).n = st.n := rfl
 rw [hnn]
 generalize st.n.toNat = n at *
 unfold psData at h ⊢
 by_cases h1 : psEnd st.b n < 0
 ·rw [if_pos h1] at h; cases h
 ·have he := end_app st.b l n h1
  have hle := psEnd_le st.b n h1
  rw [show (psFeed st l).b = st.b ++ l from rfl, he, if_neg h1, if_neg h1]
  by_cases h2 : psEnd st.b n = 0
  ·rw [if_pos h2, if_pos h2]
   simp only [psFeed]
   rw [List.drop_append_of_le_length (by omega)]
  ·rw [if_neg h2, if_neg h2]
   simp only [psFeed]
   rw [List.drop_append_of_le_length (by omega), List.take_append_of_le_length (by omega)]
theorem data_wait (st : PS) (h : (dataR st).2.1 = false) : (dataR st).2.2 = st := by
 unfold dataR psData at h ⊢
 by_cases h1 : psEnd st.b st.n.toNat < 0
 ·simp only [if_pos h1]
 ·simp only [if_neg h1] at h
  by_cases h2 : psEnd st.b st.n.toNat = 0
  ·simp only [if_pos h2] at h; cases h
  ·simp only [if_neg h2] at h; cases h
theorem trim_app (b l : List Int) (h : 2048 < (trimL b).length) : 2048 < (trimL (b ++ l)).length := by
 have hb := trimL_len b
 by_cases hl : l = []
 ·rw [hl, List.append_nil]; exact h
 ·have : 0 < l.length := List.length_pos_iff.2 hl
  have hlen : (b ++ l).length = b.length + l.length := List.length_append
  unfold trimL
  split
  ·rw [List.length_take]; omega
  ·omega
theorem line_feed {q : PS} (l : List Int) (hi : ¬ idx10 q.b < 0) : idx10 (psFeed q l).b = idx10 q.b ∧ lineL (psFeed q l) = lineL q ∧ psUse (psFeed q l) ((idx10 q.b).toNat + 1) = psFeed (psUse q ((idx10 q.b).toNat + 1)) l := by
 have ha := idx_app q.b l
 rw [if_neg hi] at ha
 have hlt := idx_lt q.b
 refine ⟨ha, ?_, ?_⟩
 ·unfold lineL
  rw [show (psFeed q l).b = q.b ++ l from rfl, ha, List.take_append_of_le_length (by omega)]
 ·unfold psUse psFeed
  simp only
  rw [List.drop_append_of_le_length (by omega)]
theorem next_feed (ps : PS) (l : List Int) :
  ((nextR ps).2.1 = true → (nextR (psFeed ps l)).1 = (nextR ps).1 ∧ (nextR (psFeed ps l)).2.1 = true ∧ nrm (nextR (psFeed ps l)).2.2 = nrm (psFeed (nextR ps).2.2 l))
  ∧ ((nextR ps).2.1 = false → nextR (psFeed ps l) = nextR (psFeed (nextR ps).2.2 l)) := by
 unfold nextR
 rw [nrm_feed ps l]
 have hid := nrm_nrm ps
 generalize nrm ps = q at *
 cases hs : q.skip with
 | true =>
  have e : nextN q = (.pl .nil, false, q) := by unfold nextN; rw [if_pos hs]
  rw [e]
  exact ⟨(fun h => by cases h), fun _ => rfl⟩
 | false =>
  rw [nrm_off (ps := psFeed q l) hs]
  have hsf : (psFeed q l).skip = true ↔ False := by show q.skip = true ↔ False; rw [hs]; simp
  have hq : ¬ q.skip = true := by rw [hs]; decide
  by_cases hc : isNil q.c = true
  ·by_cases h1 : idx10 q.b < 0
   ·by_cases h2 : 2048 < (trimL q.b).length
    ·have e : nextN q = (.pl (.bad textLong), true, { q with b := [], skip := true }) := by unfold nextN; rw [if_neg hq, if_pos hc, if_pos h1, if_pos h2]
     rw [e]
     refine ⟨fun _ => ?_, (fun h => by cases h)⟩
     have ha := idx_app q.b l
     rw [if_pos h1] at ha
     by_cases hl : idx10 l < 0
     ·rw [if_pos hl] at ha
      have e2 : nextN (psFeed q l) = (.pl (.bad textLong), true, { psFeed q l with b := [], skip := true }) := by
       unfold nextN
       rw [if_neg (show ¬ (psFeed q l).skip = true from hq), if_pos (show isNil (psFeed q l).c = true from hc), if_pos (show idx10 (psFeed q l).b < 0 by show idx10 (q.b ++ l) < 0; omega), if_pos (show 2048 < (trimL (psFeed q l).b).length from trim_app _ _ h2)]
      rw [e2]
      refine ⟨rfl, rfl, ?_⟩
      rw [nrm_wait rfl (show idx10 ([] : List Int) < 0 by decide), nrm_wait rfl (by exact hl)]
      rfl
     ·rw [if_neg hl] at ha
      have h0 := idx_ge l
      have hll := idx_lt l
      have e3 : lineL (psFeed q l) = trimL (q.b ++ l.take (idx10 l).toNat) := by
       unfold lineL
       rw [show (psFeed q l).b = q.b ++ l from rfl, ha, show ((q.b.length : Int) + idx10 l).toNat = q.b.length + (idx10 l).toNat by omega, List.take_append]
       rw [List.take_of_length_le (by omega), Nat.add_sub_cancel_left]
      have e2 : nextN (psFeed q l) = (.pl (.bad textLong), true, psUse (psFeed q l) ((idx10 (psFeed q l).b).toNat + 1)) := by
       unfold nextN
       rw [if_neg (show ¬ (psFeed q l).skip = true from hq), if_pos (show isNil (psFeed q l).c = true from hc), if_neg (show ¬ idx10 (psFeed q l).b < 0 by show ¬ idx10 (q.b ++ l) < 0; omega), if_pos (by rw [e3]; exact trim_app _ _ h2)]
      rw [e2]
      refine ⟨rfl, rfl, ?_⟩
      rw [nrm_off (by exact hs), nrm_on rfl (by exact hl)]
      unfold psUse psFeed
      simp only [List.nil_append]
      rw [ha, show ((q.b.length : Int) + idx10 l).toNat + 1 = q.b.length + ((idx10 l).toNat + 1) by omega, List.drop_append]
      rw [List.drop_of_length_le (by omega), Nat.add_sub_cancel_left, List.nil_append, hs]
    ·have e : nextN q = (.pl .nil, false, q) := by unfold nextN; rw [if_neg hq, if_pos hc, if_pos h1, if_neg h2]
     rw [e]
     exact ⟨(fun h => by cases h), fun _ => by rw [nrm_off (ps := psFeed q l) hs]⟩
   ·obtain ⟨f1, f2, f3⟩ := line_feed l h1
    have f4 : lineT (psFeed q l) = lineT q := by unfold lineT; rw [f2]
    by_cases h2 : 2048 < (lineL q).length
    ·have e : nextN q = (.pl (.bad textLong), true, psUse q ((idx10 q.b).toNat + 1)) := by unfold nextN; rw [if_neg hq, if_pos hc, if_neg h1, if_pos h2]
     have e2 : nextN (psFeed q l) = (.pl (.bad textLong), true, psUse (psFeed q l) ((idx10 q.b).toNat + 1)) := by
      unfold nextN
      rw [if_neg (show ¬ (psFeed q l).skip = true from hq), if_pos (show isNil (psFeed q l).c = true from hc), f1, if_neg h1, f2, if_pos h2]
     rw [e, e2]
     refine ⟨fun _ => ⟨rfl, rfl, ?_⟩, (fun h => by cases h)⟩
     rw [f3]
    ·by_cases h3 : (lineT q).2 = -1
     ·have e : nextN q = ((lineT q).1, true, psUse q ((idx10 q.b).toNat + 1)) := by unfold nextN; rw [if_neg hq, if_pos hc, if_neg h1, if_neg h2, if_pos h3]
      have e2 : nextN (psFeed q l) = ((lineT q).1, true, psUse (psFeed q l) ((idx10 q.b).toNat + 1)) := by
       unfold nextN
       rw [if_neg (show ¬ (psFeed q l).skip = true from hq), if_pos (show isNil (psFeed q l).c = true from hc), f1, if_neg h1, f2, if_neg h2, f4, if_pos h3]
      rw [e, e2]
      refine ⟨fun _ => ⟨rfl, rfl, ?_⟩, (fun h => by cases h)⟩
      rw [f3]
     ·have e : nextN q = dataR (pend q) := by unfold nextN; rw [if_neg hq, if_pos hc, if_neg h1, if_neg h2, if_neg h3]
      have e4 : pend (psFeed q l) = psFeed (pend q) l := by
       unfold pend
       rw [f1, f3, f4]
       rfl
      have e2 : nextN (psFeed q l) = dataR (psFeed (pend q) l) := by
       unfold nextN
       rw [if_neg (show ¬ (psFeed q l).skip = true from hq), if_pos (show isNil (psFeed q l).c = true from hc), f1, if_neg h1, f2, if_neg h2, f4, if_neg h3, e4]
      rw [e, e2]
      obtain ⟨p1, p2, p3⟩ := pend_ok q h3
      refine ⟨fun h => ?_, fun h => ?_⟩
      ·rw [data_feed _ _ h]; exact ⟨rfl, rfl, rfl⟩
      ·rw [data_wait _ h, nrm_off (ps := psFeed (pend q) l) (by exact p3.trans hs)]
       unfold nextN
       rw [if_neg (show ¬ (psFeed (pend q) l).skip = true from by rw [show (psFeed (pend q) l).skip = q.skip from p3]; exact hq), if_neg (show ¬ isNil (psFeed (pend q) l).c = true from by rw [show (psFeed (pend q) l).c = (pend q).c from rfl, p2]; decide)]
  ·have e : nextN q = dataR q := by unfold nextN; rw [if_neg hq, if_neg hc]
   have e2 : nextN (psFeed q l) = dataR (psFeed q l) := by
    unfold nextN
    rw [if_neg (show ¬ (psFeed q l).skip = true from hq), if_neg (show ¬ isNil (psFeed q l).c = true from hc)]
   rw [e, e2]
   refine ⟨fun h => ?_, fun h => ?_⟩
   ·rw [data_feed _ _ h]; exact ⟨rfl, rfl, rfl⟩
   ·rw [data_wait _ h, nrm_off (ps := psFeed q l) hs, e2]
/-! All that is told till nothing more comes. -/
def Drain : PS → List Cx → PS → Prop
 | ps, [], p => (nextR ps).2.1 = false ∧ (nextR ps).2.2 = p
 | ps, y :: ys, p => (nextR ps).2.1 = true ∧ (nextR ps).1 = y ∧ Drain (nextR ps).2.2 ys p
theorem drain_one : ∀ (ys zs : List Cx) (ps p q : PS), Drain ps ys p → Drain ps zs q → ys = zs ∧ p = q
 | [], [], ps, p, q, h1, h2 => ⟨rfl, h1.2.symm.trans h2.2⟩
 | [], z :: zs, ps, p, q, h1, h2 => by have := h1.1.symm.trans h2.1; cases this
 | y :: ys, [], ps, p, q, h1, h2 => by have := h1.1.symm.trans h2.1; cases this
 | y :: ys, z :: zs, ps, p, q, h1, h2 => by
  obtain ⟨h3, h4⟩ := drain_one ys zs _ p q h1.2.2 h2.2.2
  exact ⟨by rw [h3, ← h1.2.1, ← h2.2.1], h4⟩
theorem drain_nrm {ps ps' : PS} (h : nrm ps = nrm ps') : ∀ {ys : List Cx} {p : PS}, Drain ps ys p → Drain ps' ys p
 | [], p, hd => by
  have e : nextR ps = nextR ps' := by unfold nextR; rw [h]
  have hd : (nextR ps).2.1 = false ∧ (nextR ps).2.2 = p := hd
  rw [e] at hd
  exact hd
 | y :: ys, p, hd => by
  have e : nextR ps = nextR ps' := by unfold nextR; rw [h]
  have hd : (nextR ps).2.1 = true ∧ (nextR ps).1 = y ∧ Drain (nextR ps).2.2 ys p := hd
  rw [e] at hd
  exact hd
theorem drain_feed (l : List Int) : ∀ (ys zs : List Cx) (ps p q : PS), Drain ps ys p → Drain (psFeed p l) zs q → Drain (psFeed ps l) (ys ++ zs) q
 | [], zs, ps, p, q, h1, h2 => by
  have e := (next_feed ps l).2 h1.1
  rw [show (nextR ps).2.2 = p from h1.2] at e
  rw [List.nil_append]
  match zs, h2 with
  | [], h2 =>
   have h2 : (nextR (psFeed p l)).2.1 = false ∧ (nextR (psFeed p l)).2.2 = q := h2
   rw [← e] at h2
   exact h2
  | z :: zs, h2 =>
   have h2 : (nextR (psFeed p l)).2.1 = true ∧ (nextR (psFeed p l)).1 = z ∧ Drain (nextR (psFeed p l)).2.2 zs q := h2
   rw [← e] at h2
   exact h2
 | y :: ys, zs, ps, p, q, h1, h2 => by
  obtain ⟨f1, f2, f3⟩ := (next_feed ps l).1 h1.1
  refine ⟨f2, f1.trans h1.2.1, drain_nrm f3.symm (drain_feed l ys zs _ p q h1.2.2 h2)⟩
/-! It ends. -/
def mu (ps : PS) : Nat := ps.b.length + (if isNil ps.c = true then 0 else 1)
theorem data_less (st : PS) (h : (dataR st).2.1 = true) : isNil (dataR st).2.2.c = true ∧ (dataR st).2.2.b.length ≤ st.b.length := by
 unfold dataR psData at h ⊢
 by_cases h1 : psEnd st.b st.n.toNat < 0
 ·simp only [if_pos h1] at h; cases h
 ·simp only [if_neg h1]
  by_cases h2 : psEnd st.b st.n.toNat = 0
  ·simp only [if_pos h2]; exact ⟨rfl, by rw [List.length_drop]; omega⟩
  ·simp only [if_neg h2]; exact ⟨rfl, by rw [List.length_drop]; omega⟩
theorem next_less (ps : PS) (h : (nextR ps).2.1 = true) : isNil (nextR ps).2.2.c = true ∧ (nextR ps).2.2.b.length < mu ps := by
 obtain ⟨c1, c2, c3⟩ := nrm_c ps
 have hm : (nrm ps).b.length + (if isNil (nrm ps).c = true then 0 else 1) ≤ mu ps := by unfold mu; rw [c1]; omega
 unfold nextR at h ⊢
 generalize nrm ps = q at *
 unfold nextN at h ⊢
 have hlt := idx_lt q.b
 by_cases hs : q.skip = true
 ·simp only [if_pos hs] at h; cases h
 ·simp only [if_neg hs] at h ⊢
  by_cases hc : isNil q.c = true
  ·simp only [if_pos hc] at h ⊢ hm
   by_cases h1 : idx10 q.b < 0
   ·simp only [if_pos h1] at h ⊢
    by_cases h2 : 2048 < (trimL q.b).length
    ·simp only [if_pos h2]
     have := trimL_len q.b
     exact ⟨hc, by show ([] : List Int).length < _; rw [List.length_nil]; omega⟩
    ·simp only [if_neg h2] at h; cases h
   ·simp only [if_neg h1] at h ⊢
    have hu : (psUse q ((idx10 q.b).toNat + 1)).b.length < q.b.length := by show (q.b.drop _).length < _; rw [List.length_drop]; omega
    by_cases h2 : 2048 < (lineL q).length
    ·simp only [if_pos h2]; exact ⟨hc, by omega⟩
    ·simp only [if_neg h2] at h ⊢
     by_cases h3 : (lineT q).2 = -1
     ·simp only [if_pos h3]; exact ⟨hc, by omega⟩
     ·simp only [if_neg h3] at h ⊢
      obtain ⟨d1, d2⟩ := data_less _ h
      refine ⟨d1, ?_⟩
      have : (pend q).b = (psUse q ((idx10 q.b).toNat + 1)).b := rfl
      rw [this] at d2
      omega
  ·simp only [if_neg hc] at h ⊢ hm
   obtain ⟨d1, d2⟩ := data_less _ h
   exact ⟨d1, by omega⟩
theorem drain_some : ∀ (f : Nat) (ps : PS), mu ps < f → ∃ ys p, Drain ps ys p ∧ ys.length ≤ mu ps
 | 0, ps, h => by omega
 | f + 1, ps, h => by
  cases hb : (nextR ps).2.1 with
  | false => exact ⟨[], _, ⟨hb, rfl⟩, Nat.zero_le _⟩
  | true =>
   obtain ⟨l1, l2⟩ := next_less ps hb
   have hm : mu (nextR ps).2.2 = (nextR ps).2.2.b.length := by unfold mu; rw [if_pos l1]; omega
   obtain ⟨ys, p, h1, h2⟩ := drain_some f (nextR ps).2.2 (by omega)
   exact ⟨_ :: ys, p, ⟨hb, rfl, h1⟩, by rw [List.length_cons]; omega⟩
/-! What stays true. -/
theorem data_inv (st : PS) (hI : 0 ≤ st.n) : Inv (dataR st).2.2 := by
 intro h
 unfold dataR psData at h ⊢
 by_cases h1 : psEnd st.b st.n.toNat < 0
 ·simp only [if_pos h1]; exact hI
 ·simp only [if_neg h1] at h ⊢
  by_cases h2 : psEnd st.b st.n.toNat = 0
  ·simp only [if_pos h2]; exact hI
  ·simp only [if_neg h2]; exact hI
theorem next_inv (ps : PS) (hI : Inv ps) : Inv (nextR ps).2.2 := by
 have hN := hI.nrm
 unfold nextR
 generalize nrm ps = q at *
 unfold nextN
 by_cases hs : q.skip = true
 ·rw [if_pos hs]; exact hN
 ·rw [if_neg hs]
  by_cases hc : isNil q.c = true
  ·rw [if_pos hc]
   by_cases h1 : idx10 q.b < 0
   ·rw [if_pos h1]
    by_cases h2 : 2048 < (trimL q.b).length
    ·rw [if_pos h2]; exact hN
    ·rw [if_neg h2]; exact hN
   ·rw [if_neg h1]
    by_cases h2 : 2048 < (lineL q).length
    ·rw [if_pos h2]; exact hN
    ·rw [if_neg h2]
     by_cases h3 : (lineT q).2 = -1
     ·rw [if_pos h3]; exact hN
     ·rw [if_neg h3]; exact data_inv _ (pend_ok q h3).1
  ·rw [if_neg hc]; exact data_inv _ (hN (by simpa using hc))
theorem next_keys (ps : PS) : (toX (nextR ps).1).keys.length ≤ 64 := by
 have hp : ∀ c : Cm, (toX (.pl c)).keys.length ≤ 64 := fun c => by cases c <;> simp [toX, toD]
 unfold nextR
 generalize nrm ps = q at *
 unfold nextN
 by_cases hs : q.skip = true
 ·rw [if_pos hs]; exact hp _
 ·rw [if_neg hs]
  by_cases hc : isNil q.c = true
  ·rw [if_pos hc]
   by_cases h1 : idx10 q.b < 0
   ·rw [if_pos h1]
    by_cases h2 : 2048 < (trimL q.b).length
    ·rw [if_pos h2]; exact hp _
    ·rw [if_neg h2]; exact hp _
   ·rw [if_neg h1]
    by_cases h2 : 2048 < (lineL q).length
    ·rw [if_pos h2]; exact hp _
    ·rw [if_neg h2]
     by_cases h3 : (lineT q).2 = -1
     ·rw [if_pos h3]; exact (okX_line _).2.2
     ·rw [if_neg h3]; exact hp _
  ·rw [if_neg hc]; exact hp _
end Go.Proofs.YtfbhlbchmenloaaGreatDoor.Pure
end
section
namespace Go.Proofs.YtfbhlbchmenloaaGreatDoor.Pure
open Go Go.RowKit Go.Proofs.YtfbhlbchmenloaaGreatDoorW.PrintWords Go.Proofs.YtfbhlbchmenloaaGreatDoor.H Go.Proofs.YtfbhlbchmenloaaGreatDoor.L
set_option linter.unusedSimpArgs false
set_option linter.unusedVariables false
theorem u8_nat (c : UInt8) : UInt8.ofNat ((c.toNat : Int)).toNat = c := by rw [Int.toNat_natCast, UInt8.ofNat_toNat]
theorem back_bytes (s : ByteArray) : Lib.bytesOf (bytesOf s) = s.data.toList := by
 unfold Lib.bytesOf bytesOf
 rw [List.map_map]
 conv => rhs; rw [← List.map_id s.data.toList]
 exact List.map_congr_left fun c _ => u8_nat c
theorem back_str (s : ByteArray) : strOfNums (bytesOf s) = s := by
 refine ba_ext ?_
 have h := Lib.strOfNums_toList (bytesOf s)
 rw [tl] at h
 rw [h, back_bytes]
theorem bytes_len (s : ByteArray) : (bytesOf s).length = s.size := by
 unfold bytesOf
 rw [List.length_map]
 exact len_eq s
theorem bytes_app (a b : ByteArray) : bytesOf (a ++ b) = bytesOf a ++ bytesOf b := by
 unfold bytesOf
 rw [ByteArray.data_append, Array.toList_append, List.map_append]
/-- A text without one of the bytes. -/
def Lacks (c : UInt8) (s : ByteArray) : Prop := ∀ x ∈ s.data.toList, x ≠ c
theorem ib_none (c : UInt8) : ∀ l : List UInt8, (∀ x ∈ l, x ≠ c) → Lib.indexByte l c = -1
 | [], _ => rfl
 | b :: l, h => by
  have hb : (b == c) = false := beq_eq_false_iff_ne.mpr (h b (List.mem_cons_self ..))
  have ih := ib_none c l fun x hx => h x (List.mem_cons_of_mem _ hx)
  simp [Lib.indexByte, hb, ih]
theorem idx_lacks {s : ByteArray} (h : Lacks 10 s) : idx10 (bytesOf s) = -1 := by
 unfold idx10
 rw [back_bytes]
 exact ib_none 10 _ h
theorem idx_line {s : ByteArray} (h : Lacks 10 s) (l : List Int) : idx10 (bytesOf s ++ 10 :: l) = (s.size : Int) := by
 rw [idx_app, idx_lacks h, if_pos (by decide)]
 have h0 : idx10 (10 :: l) = 0 := by
  unfold idx10 Lib.bytesOf
  rw [List.map_cons]
  simp [Lib.indexByte]
 rw [h0, if_neg (by decide), bytes_len]
 omega
/-- A line without the byte 13 at its end. -/
def cutR (s : ByteArray) : ByteArray := strOfNums (trimL (bytesOf s))
def lineW (s : ByteArray) : Cx × Int := lineX (((wl [] (cutR s).data.toList).map ba))
theorem next_line {s : ByteArray} (h : Lacks 10 s) (hs : (trimL (bytesOf s)).length ≤ 2048) (l : List Int) (m : Int) :
  nextR ⟨bytesOf s ++ 10 :: l, false, .nil, m⟩ = if (lineW s).2 = -1 then ((lineW s).1, true, ⟨l, false, .nil, m⟩) else dataR ⟨l, false, (match (lineW s).1 with | .pl c => c | _ => .nil), (lineW s).2⟩ := by
 have hi := idx_line h l
 have hL : lineL ⟨bytesOf s ++ 10 :: l, false, .nil, m⟩ = trimL (bytesOf s) := by
  unfold lineL
  rw [hi, Int.toNat_natCast, ← bytes_len s, List.take_left']
  rfl
 have hT : lineT ⟨bytesOf s ++ 10 :: l, false, .nil, m⟩ = lineW s := by
  unfold lineT lineW cutR
  rw [hL]
 have hU : ∀ c n, ({ psUse ⟨bytesOf s ++ 10 :: l, false, .nil, m⟩ ((s.size : Int).toNat + 1) with c := c, n := n } : PS) = ⟨l, false, c, n⟩ := by
  intro c n
  unfold psUse
  simp only [PS.mk.injEq, and_true, true_and]
  rw [Int.toNat_natCast, ← bytes_len s, show (bytesOf s).length + 1 = (bytesOf s ++ [10]).length by simp, show bytesOf s ++ 10 :: l = (bytesOf s ++ [10]) ++ l by simp, List.drop_left]
 have hP : pend ⟨bytesOf s ++ 10 :: l, false, .nil, m⟩ = ⟨l, false, (match (lineW s).1 with | .pl c => c | _ => .nil), (lineW s).2⟩ := by
  unfold pend
  rw [hT]
  simp only [hi]
  exact hU _ _
 unfold nextR
 rw [nrm_off rfl]
 unfold nextN
 rw [if_neg (by simp), if_pos (by rfl)]
 simp only [hi]
 rw [if_neg (by omega), if_neg (by rw [hL]; omega), hT, hP]
 have hU2 := hU .nil m
 by_cases hn : (lineW s).2 = -1
 ·rw [if_pos hn, if_pos hn]
  rw [show psUse ⟨bytesOf s ++ 10 :: l, false, .nil, m⟩ ((s.size : Int).toNat + 1) = ⟨l, false, .nil, m⟩ from hU2]
 ·rw [if_neg hn, if_neg hn]
theorem suffix_last (l : List Int) (x : Int) : Lib.hasSuffix (Lib.bytesOf (l ++ [x])) [13] = decide (UInt8.ofNat x.toNat = 13) := by
 unfold Lib.hasSuffix Lib.bytesOf
 rw [List.map_append, List.map_cons, List.map_nil]
 unfold List.isSuffixOf
 rw [List.reverse_append, List.reverse_cons, List.reverse_nil, List.nil_append, List.reverse_cons, List.reverse_nil, List.nil_append, List.singleton_append]
 unfold List.isPrefixOf
 rw [List.isPrefixOf]
 rw [Bool.eq_iff_iff]
 simp only [Bool.and_true, beq_iff_eq, decide_eq_true_iff]
 exact ⟨Eq.symm, Eq.symm⟩
theorem trim_cr (l : List Int) : trimL (l ++ [13]) = l := by
 unfold trimL
 rw [suffix_last, if_pos (by decide)]
 simp
theorem trim_not (l : List Int) (x : Int) (h : UInt8.ofNat x.toNat ≠ 13) : trimL (l ++ [x]) = l ++ [x] := by
 unfold trimL
 rw [suffix_last, if_neg (by simpa using h)]
theorem numG_snoc (c : UInt8) (d : Nat) (hc : c.toNat = 48 + d) (hd : d < 10) (m : Nat) : ∀ (l : List UInt8) (a : Nat), numG a l = ((m : Int), true) → m * 10 + d < 18446744073709551616 → numG a (l ++ [c]) = (((m * 10 + d : Nat) : Int), true)
 | [], a, h, hm => by
  have ha : a = m := by simp [numG] at h; omega
  subst ha
  simp only [List.nil_append, numG]
  rw [if_pos (by omega), if_neg (by omega), hc]
  rw [show 48 + d - 48 = d by omega]
 | b :: r, a, h, hm => by
  simp only [List.cons_append, numG] at h ⊢
  by_cases h1 : 48 ≤ b.toNat ∧ b.toNat ≤ 57
  ·rw [if_pos h1] at h ⊢
   by_cases h2 : 1844674407370955161 < a ∨ (a = 1844674407370955161 ∧ 5 < b.toNat - 48)
   ·rw [if_pos h2] at h; simp at h
   ·rw [if_neg h2] at h ⊢
    exact numG_snoc c d hc hd m r _ h hm
  ·rw [if_neg h1] at h; simp at h
theorem dig_num (d : Nat) (h : d < 10) : (UInt8.ofNat (48 + d)).toNat = 48 + d := by rw [UInt8.toNat_ofNat', Nat.mod_eq_of_lt (by omega)]
theorem numG_dec (n : Nat) (h : n < 18446744073709551616) : numG 0 (Lib.decDigits n) = ((n : Int), true) := by
 induction n using Nat.strongRecOn with
 | _ n ih =>
  rw [Lib.decDigits]
  by_cases h1 : n < 10
  ·rw [dif_pos h1]
   simp only [numG]
   rw [dig_num n h1, if_pos (by omega), if_neg (by omega)]
   simp
  ·rw [dif_neg h1]
   have := numG_snoc (UInt8.ofNat (48 + n % 10)) (n % 10) (dig_num _ (by omega)) (by omega) (n / 10) _ 0 (ih (n / 10) (by omega) (by omega)) (by omega)
   rw [this]
   congr 1
   omega
theorem numG_zeros (l : List UInt8) : ∀ z : Nat, numG 0 (List.replicate z 48 ++ l) = numG 0 l
 | 0 => rfl
 | z + 1 => by
  rw [List.replicate_succ, List.cons_append]
  simp only [numG]
  rw [if_pos (by decide), if_neg (by decide)]
  exact numG_zeros l z
theorem dec_len (n : Nat) (h : n < 18446744073709551616) : 1 ≤ (Lib.decDigits n).length ∧ (Lib.decDigits n).length ≤ 20 := by
 rw [Lib.decDigits_length]
 refine ⟨Lib.nDigits_pos n, ?_⟩
 by_cases hz : n = 0
 ·subst hz; rw [Lib.nDigits_small (by omega)]; omega
 ·have := Lib.numDigits_eq n (by omega) h
  split at this <;> omega
theorem numF_dec (n z : Nat) (h : n < 18446744073709551616) (hz : z + (Lib.decDigits n).length ≤ 20) : numF (List.replicate z 48 ++ Lib.decDigits n) = ((n : Int), true) := by
 have hl := dec_len n h
 rw [numF_eq, if_neg (by rw [List.length_append, List.length_replicate]; omega), numG_zeros, numG_dec n h]

theorem dec_mem (n : Nat) : ∀ c ∈ Lib.decDigits n, 48 ≤ c.toNat ∧ c.toNat ≤ 57 := by
 induction n using Nat.strongRecOn with
 | _ n ih =>
  intro c hc
  rw [Lib.decDigits] at hc
  split at hc
  ·rename_i h
   obtain rfl := List.mem_singleton.1 hc
   simp only [UInt8.toNat_ofNat']
   omega
  ·rename_i h
   rcases List.mem_append.1 hc with hc | hc
   ·exact ih (n / 10) (by omega) c hc
   ·obtain rfl := List.mem_singleton.1 hc
    simp only [UInt8.toNat_ofNat']
    omega
theorem dec_ne (n : Nat) (z : UInt8) (hz : z.toNat < 48) : ∀ c ∈ Lib.decDigits n, c ≠ z := fun c hc e => by
 have := dec_mem n c hc
 rw [e] at this
 omega

/-! The line of a set. -/
def crlfB : ByteArray := ⟨#[13, 10]⟩
def crB : ByteArray := ⟨#[13]⟩
def setB : ByteArray := ⟨#[115, 101, 116, 32, 107, 32, 48, 32, 48, 32]⟩
@[reducible] def kB : ByteArray := ⟨#[107]⟩
def setL (n : Nat) : ByteArray := setB ++ ba (Lib.decDigits n)
theorem num_digits (n : Nat) (h : n < 18446744073709551616) : numF (ba (Lib.decDigits n)).data.toList = ((n : Int), true) := by
 have hl := dec_len n h
 have hf := numF_dec n 0 h (by omega)
 rw [List.replicate_zero, List.nil_append] at hf
 rw [ba_toList, hf]
theorem set_words (n : Nat) : (wl [] (setL n).data.toList).map ba = [setW, kB, noughtW, noughtW, ba (Lib.decDigits n)] := by
 have hd : (setL n).data.toList = [115, 101, 116] ++ 32 :: ([107] ++ 32 :: ([48] ++ 32 :: ([48] ++ 32 :: Lib.decDigits n))) := by
  unfold setL
  rw [ByteArray.data_append, Array.toList_append, ba_toList]
  rfl
 have hw := wl_word (Lib.decDigits n) [] (dec_ne n 32 (by decide))
 obtain ⟨c, r, e⟩ : ∃ c r, Lib.decDigits n = c :: r := by
  rw [Lib.decDigits]
  split
  ·exact ⟨_, _, rfl⟩
  ·cases h : Lib.decDigits (n / 10) with
   | nil => exact ⟨_, _, rfl⟩
   | cons c r => exact ⟨c, _, rfl⟩
 rw [List.nil_append, if_neg (by rw [e]; simp)] at hw
 rw [hd, wl_app, wl_app, wl_app, wl_app, hw]
 rfl
theorem set_x (n : Nat) (h : n ≤ 2147483647) : lineX [setW, kB, noughtW, noughtW, ba (Lib.decDigits n)] = if 1024 < n then (.pl (.bad largeT), (n : Int)) else (.pl (.store setW kB ⟨#[]⟩ 0 0 0 false), (n : Int)) := by
 have hp : plainR [setW, kB, noughtW, noughtW, ba (Lib.decDigits n)] = if 1024 < n then (.bad largeT, (n : Int)) else (.store setW kB ⟨#[]⟩ 0 0 0 false, (n : Int)) := by
  unfold plainR
  rw [if_pos (show isStoreW (at_ [setW, kB, noughtW, noughtW, ba (Lib.decDigits n)] 0) from .inl rfl)]
  unfold storeR storeP
  have hc : decide (at_ [setW, kB, noughtW, noughtW, ba (Lib.decDigits n)] 0 = casW) = false := by
   show decide (setW = casW) = false
   decide
  have h4 : at_ [setW, kB, noughtW, noughtW, ba (Lib.decDigits n)] 4 = ba (Lib.decDigits n) := rfl
  have h2 : numF (at_ [setW, kB, noughtW, noughtW, ba (Lib.decDigits n)] 2).data.toList = (0, true) := by
   show numF [48] = (0, true)
   rw [numF_eq]
   rfl
  have h3 : signF (at_ [setW, kB, noughtW, noughtW, ba (Lib.decDigits n)] 3).data.toList = (0, true) := by
   show signF [48] = (0, true)
   unfold signF
   have e : numF [48] = (0, true) := by rw [numF_eq]; rfl
   have e2 : negL [48] = false := by decide
   rw [e, e2, if_neg (by decide), if_pos (by decide)]
   exact congrArg (fun x : Int => (x, true)) (by unfold wrap64; omega)
  have hk : keyF (at_ [setW, kB, noughtW, noughtW, ba (Lib.decDigits n)] 1) = true := by
   show keyF kB = true
   decide +kernel
  have he : endsR [setW, kB, noughtW, noughtW, ba (Lib.decDigits n)] 5 [noreplyW] = (false, true) := rfl
  have hn := num_digits n (by omega)
  simp only [hc, h4, h2, h3, hk, he, hn, Bool.false_eq_true, if_false, Bool.true_eq_false, true_and]
  rw [if_pos (by omega)]
  by_cases h1 : 1024 < n
  ·rw [if_pos h1, if_pos (by omega)]
  ·rw [if_neg h1, if_neg (by omega)]
   rfl
 have hl : lineX [setW, kB, noughtW, noughtW, ba (Lib.decDigits n)] = (.pl (plainR [setW, kB, noughtW, noughtW, ba (Lib.decDigits n)]).1, (plainR [setW, kB, noughtW, noughtW, ba (Lib.decDigits n)]).2) := by
  unfold lineX
  simp only [if_neg (show ¬ setW = getW by decide), if_neg (show ¬ setW = getsW by decide), if_neg (show ¬ setW = gatW by decide), if_neg (show ¬ setW = gatsW by decide)]
 rw [hl, hp]
 split <;> rfl
theorem lacks_app {c : UInt8} {a b : ByteArray} (ha : Lacks c a) (hb : Lacks c b) : Lacks c (a ++ b) := by
 intro x hx
 rw [ByteArray.data_append, Array.toList_append] at hx
 rcases List.mem_append.1 hx with h | h
 ·exact ha x h
 ·exact hb x h
theorem set_lacks (n : Nat) : Lacks 10 (setL n) := by
 refine lacks_app ?_ ?_
 ·unfold Lacks setB
  decide
 ·intro x hx
  rw [ba_toList] at hx
  exact dec_ne n 10 (by decide) x hx
theorem cr_lacks : Lacks 10 crB := by
 unfold Lacks crB
 decide
theorem trim_crB (s : ByteArray) : trimL (bytesOf (s ++ crB)) = bytesOf s := by
 rw [bytes_app]
 exact trim_cr _
theorem cut_cr (s : ByteArray) : cutR (s ++ crB) = s := by
 unfold cutR
 rw [trim_crB, back_str]
theorem line_cr (s : ByteArray) : lineW (s ++ crB) = lineX ((wl [] s.data.toList).map ba) := by
 unfold lineW
 rw [cut_cr]
/-- A line with 13 10 at its end. -/
theorem next_crlf {s : ByteArray} (h : Lacks 10 s) (hs : s.size ≤ 2048) (l : List Int) (m : Int) :
  nextR ⟨bytesOf s ++ 13 :: 10 :: l, false, .nil, m⟩ = if (lineX ((wl [] s.data.toList).map ba)).2 = -1 then ((lineX ((wl [] s.data.toList).map ba)).1, true, ⟨l, false, .nil, m⟩) else dataR ⟨l, false, (match (lineX ((wl [] s.data.toList).map ba)).1 with | .pl c => c | _ => .nil), (lineX ((wl [] s.data.toList).map ba)).2⟩ := by
 have e := next_line (lacks_app h cr_lacks) (by rw [trim_crB, bytes_len]; exact hs) l m
 rw [line_cr, bytes_app, show bytesOf crB = [13] from rfl, List.append_assoc] at e
 exact e
theorem set_size (n : Nat) (h : n < 18446744073709551616) : (setL n).size ≤ 30 := by
 have := dec_len n h
 unfold setL
 rw [ByteArray.size_append]
 have e : (ba (Lib.decDigits n)).size = (Lib.decDigits n).length := by simp [ba, ByteArray.size]
 have e2 : setB.size = 10 := rfl
 omega
theorem next_set (n : Nat) (h : n ≤ 2147483647) (l : List Int) (m : Int) :
  nextR ⟨bytesOf (setL n) ++ 13 :: 10 :: l, false, .nil, m⟩ = dataR ⟨l, false, (if 1024 < n then .bad largeT else .store setW kB ⟨#[]⟩ 0 0 0 false), (n : Int)⟩ := by
 rw [next_crlf (set_lacks n) (by have := set_size n (by omega); omega), set_words, set_x n h]
 by_cases h1 : 1024 < n
 ·simp only [if_pos h1]
  rw [if_neg (by omega)]
 ·simp only [if_neg h1]
  rw [if_neg (by omega)]
/-! Data awaited. -/
theorem data_more (l : List Int) (s : Bool) (c : Cm) (n : Nat) (h : l.length ≤ n) : dataR ⟨l, s, c, (n : Int)⟩ = (.pl .nil, false, ⟨l, s, c, (n : Int)⟩) := by
 have e : psEnd l n = -1 := by unfold psEnd; rw [if_pos h]
 unfold dataR psData
 simp only [Int.toNat_natCast, e]
 rw [if_pos (by decide)]
theorem data_crlf (l r : List Int) (s : Bool) (c : Cm) : dataR ⟨l ++ 13 :: 10 :: r, s, c, (l.length : Int)⟩ = (.pl (withData c (strOfNums l)), true, ⟨r, s, .nil, (l.length : Int)⟩) := by
 have e : psEnd (l ++ 13 :: 10 :: r) l.length = 2 := by
  unfold psEnd
  rw [if_neg (by simp), show (l ++ 13 :: 10 :: r).getD l.length 0 = 13 by rw [List.getD_eq_getElem?_getD, List.getElem?_append_right (Nat.le_refl _)]; simp, if_neg (by decide), if_neg (by decide), if_neg (by simp), show (l ++ 13 :: 10 :: r).getD (l.length + 1) 0 = 10 by rw [List.getD_eq_getElem?_getD, List.getElem?_append_right (by omega)]; simp, if_pos rfl]
 unfold dataR psData
 simp only [Int.toNat_natCast, e]
 rw [if_neg (by decide), if_neg (by decide)]
 simp
theorem data_junk (l r : List Int) (x : Int) (s : Bool) (c : Cm) (h1 : x ≠ 10) (h2 : x ≠ 13) : dataR ⟨l ++ x :: r, s, c, (l.length : Int)⟩ = (.pl (.bad textChunk), true, ⟨x :: r, true, .nil, (l.length : Int)⟩) := by
 have e : psEnd (l ++ x :: r) l.length = 0 := by
  unfold psEnd
  rw [if_neg (by simp), show (l ++ x :: r).getD l.length 0 = x by rw [List.getD_eq_getElem?_getD, List.getElem?_append_right (Nat.le_refl _)]; simp, if_neg h1, if_pos h2]
 unfold dataR psData
 simp only [Int.toNat_natCast, e]
 rw [if_neg (by decide)]
 simp
/-! Bytes that are passed over. -/
theorem next_skip {s : ByteArray} (h : Lacks 10 s) (l : List Int) (c : Cm) (m : Int) : nextR ⟨bytesOf s ++ 10 :: l, true, c, m⟩ = nextR ⟨l, false, c, m⟩ := by
 have hi := idx_line h l
 have e : nrm ⟨bytesOf s ++ 10 :: l, true, c, m⟩ = ⟨l, false, c, m⟩ := by
  rw [nrm_on rfl (by simp only [hi]; omega)]
  simp only [hi, PS.mk.injEq, and_true]
  rw [Int.toNat_natCast, ← bytes_len s, show (bytesOf s).length + 1 = (bytesOf s ++ [10]).length by simp, show bytesOf s ++ 10 :: l = (bytesOf s ++ [10]) ++ l by simp, List.drop_left]
 unfold nextR
 rw [e, nrm_off rfl]
theorem skip_wait (l : List Int) (h : idx10 l = -1) (c : Cm) (m : Int) : nextR ⟨l, true, c, m⟩ = (.pl .nil, false, ⟨[], true, c, m⟩) := by
 have e : nrm ⟨l, true, c, m⟩ = ⟨[], true, c, m⟩ := nrm_wait rfl (by simp only [h]; decide)
 unfold nextR
 rw [e]
 unfold nextN
 rw [if_pos rfl]
end Go.Proofs.YtfbhlbchmenloaaGreatDoor.Pure
end
section
namespace Go.Proofs.YtfbhlbchmenloaaGreatDoor.H
open Go.RowKit Go.Proofs.YtfbhlbchmenloaaGreatDoorW.PrintWords Go.Proofs.YtfbhlbchmenloaaGreatDoorW.PrintLast Go.Proofs.YtfbhlbchmenloaaGreatDoorW.PrintMore
attribute [local go_sem] max2_int min2_int max_two min_two max_three min_three max_four min_four   -- for this text's walks alone
set_option linter.unusedVariables false
set_option linter.unusedSimpArgs false

/-! ### cellaretref17_Is: function 18 -/
def cellaretref17_Is.f (a0_0 : ByteArray) (a0_1 : ByteArray) (l0_2 : List ByteArray) (a0_3 : ByteArray) (a0_4 : Int) (a0_5 : Int) (a0_6 : Int) (a0_7 : Int) (a0_8 : Bool) (a0_9 : Bool) (a0_10 : Bool) (a0_11 : Bool) (a1 : ByteArray) (a2 : ByteArray) : Option (Bool) := if a0_0.toList = a1.toList then (if a0_1.toList = a2.toList then (some ((l0_2.length : Int) == 0)) else (some false)) else (some false)
theorem bBY7 {B : Nat} {w W : World} (h : Below B w W := by repeat (first | (with_reducible first | exact HB.out | apply wA | apply wN | apply wD | refine below_set ?_ qC.out) | exact HB.out)) : Below B w W := h
set_option maxHeartbeats 8000000 in
set_option maxRecDepth 100000 in
theorem cellaretref17_Is.calls (a0_0 : ByteArray) (a0_1 : ByteArray) (A0_2 : Option Addr) (c0_2 : Nat) (l0_2 : List ByteArray) (a0_3 : ByteArray) (a0_4 : Int) (a0_5 : Int) (a0_6 : Int) (a0_7 : Int) (a0_8 : Bool) (a0_9 : Bool) (a0_10 : Bool) (a0_11 : Bool) (a1 : ByteArray) (a2 : ByteArray) (r : Bool) (w : World) (hr0_2 : Kd.C Kd.string w A0_2 l0_2.length l0_2) (hc0_2 : l0_2.length ≤ c0_2) (h : cellaretref17_Is.f a0_0 a0_1 l0_2 a0_3 a0_4 a0_5 a0_6 a0_7 a0_8 a0_9 a0_10 a0_11 a1 a2 = some r) :
  Calls Tryz.prog 18 #[.agg #[.string a0_0, .string a0_1, .slice A0_2 l0_2.length c0_2, .string a0_3, .int .u32 a0_4, .int .i64 a0_5, .int .u64 a0_6, .int .u64 a0_7, .bool a0_8, .bool a0_9, .bool a0_10, .bool a0_11], .string a1, .string a2] w fun e w' => e = .returned (.bool r) ∧ Below w.heap.size w w' := by
 have hu29 := Tryz.underlying29
 have HR0_2 := M0 hr0_2
 have HC0_2 := M0 hc0_2
 clear hr0_2 hc0_2
 have HB := M0 (Below.refl w.heap.size w)
 have H : (if a0_0.toList = a1.toList then (if a0_1.toList = a2.toList then (some ((l0_2.length : Int) == 0)) else (some false)) else (some false)) = some r := h
 clear h
 by_cases c4 : a0_0.toList = a1.toList
 ·rw [if_pos c4] at H
  have c4b0 : (a0_0.toList == a1.toList) = true := beq_iff_eq.mpr c4
  have c4b1 : (a0_0.toList != a1.toList) = false := bne_eq_false_iff_eq.mpr c4
  clear c4
  by_cases c5 : a0_1.toList = a2.toList
  ·rw [if_pos c5] at H
   have c5b0 : (a0_1.toList == a2.toList) = true := beq_iff_eq.mpr c5
   have c5b1 : (a0_1.toList != a2.toList) = false := bne_eq_false_iff_eq.mpr c5
   clear c5
   obtain rfl := Option.some.inj H
   go_enter Tryz.func18, Tryz.ntmps18
   go_wp2_with (first | ((with_reducible refine gate_dst (N := 3) rfl ?_); (try (refine gate_guard (by rfl) ?_; dsimp only)); refine box_event ?hg (N := 3) ?hd (cs := #[.string a0_0, .string a0_1, .slice A0_2 l0_2.length c0_2, .string a0_3, .int .u32 a0_4, .int .i64 a0_5, .int .u64 a0_6, .int .u64 a0_7, .bool a0_8, .bool a0_9, .bool a0_10, .bool a0_11]) (t := 29) ?hr ?_; (case hd => rfl); (case hg => rfl); (case hr => first | (go_simp; done) | (go_simp; rfl)); intro qA hg w6 hbox hb; have n0_ := M0 (below_step bBY7 hb); have n1_ := M0 (hbox); have n2_ := M0 ((by rw [hg]; exact (below_size bBY7) : w.heap.size ≤ qA)); have n3_ := M0 ((by rw [hg]; exact (below_size bBY7) : w.heap.size ≤ qA)); clear HB; have HB := n0_; have qB := n1_; have GW114 := n2_; have qC := n3_; clear n0_ n1_ n2_ n3_; clear hb hbox hg; obtain ⟨qj, qk, ql, qm, qn, qo, qp, qq, qr, qs, qH, qI⟩ := celL qB.out; obtain ⟨qt, qu, qv, qw, qx, qy, qz, qAA, qAB, qAC, qJ, qK⟩ := froZ qB.out))
   go_ret
   exact ⟨by first | rfl | (simp [errW_none, errW_some] <;> rfl) | (simp [*, errW_none, errW_some] <;> rfl), bBY7⟩
  ·rw [if_neg c5] at H
   have c5b0 : (a0_1.toList == a2.toList) = false := beq_eq_false_iff_ne.mpr c5
   have c5b1 : (a0_1.toList != a2.toList) = true := bne_iff_ne.mpr c5
   obtain rfl := Option.some.inj H
   go_enter Tryz.func18, Tryz.ntmps18
   go_wp2_with (first | ((with_reducible refine gate_dst (N := 3) rfl ?_); (try (refine gate_guard (by rfl) ?_; dsimp only)); refine box_event ?hg (N := 3) ?hd (cs := #[.string a0_0, .string a0_1, .slice A0_2 l0_2.length c0_2, .string a0_3, .int .u32 a0_4, .int .i64 a0_5, .int .u64 a0_6, .int .u64 a0_7, .bool a0_8, .bool a0_9, .bool a0_10, .bool a0_11]) (t := 29) ?hr ?_; (case hd => rfl); (case hg => rfl); (case hr => first | (go_simp; done) | (go_simp; rfl)); intro qA hg w8 hbox hb; have n0_ := M0 (below_step bBY7 hb); have n1_ := M0 (hbox); have n2_ := M0 ((by rw [hg]; exact (below_size bBY7) : w.heap.size ≤ qA)); have n3_ := M0 ((by rw [hg]; exact (below_size bBY7) : w.heap.size ≤ qA)); clear HB; have HB := n0_; have qB := n1_; have GW114 := n2_; have qC := n3_; clear n0_ n1_ n2_ n3_; clear hb hbox hg; obtain ⟨qAD, qAE, qAF, qAG, qAH, qAI, qAJ, qAK, qAL, qAM, qL, qM⟩ := celL qB.out; obtain ⟨qAN, qAO, qAP, qAQ, qAR, qAS, qAT, qAU, qAV, qAW, qN, qO⟩ := froZ qB.out))
   go_ret
   exact ⟨by first | rfl | (simp [errW_none, errW_some] <;> rfl) | (simp [*, errW_none, errW_some] <;> rfl), bBY7⟩
 ·rw [if_neg c4] at H
  have c4b0 : (a0_0.toList == a1.toList) = false := beq_eq_false_iff_ne.mpr c4
  have c4b1 : (a0_0.toList != a1.toList) = true := bne_iff_ne.mpr c4
  obtain rfl := Option.some.inj H
  go_enter Tryz.func18, Tryz.ntmps18
  go_wp2_with (first | ((with_reducible refine gate_dst (N := 3) rfl ?_); (try (refine gate_guard (by rfl) ?_; dsimp only)); refine box_event ?hg (N := 3) ?hd (cs := #[.string a0_0, .string a0_1, .slice A0_2 l0_2.length c0_2, .string a0_3, .int .u32 a0_4, .int .i64 a0_5, .int .u64 a0_6, .int .u64 a0_7, .bool a0_8, .bool a0_9, .bool a0_10, .bool a0_11]) (t := 29) ?hr ?_; (case hd => rfl); (case hg => rfl); (case hr => first | (go_simp; done) | (go_simp; rfl)); intro qA hg w10 hbox hb; have n0_ := M0 (below_step bBY7 hb); have n1_ := M0 (hbox); have n2_ := M0 ((by rw [hg]; exact (below_size bBY7) : w.heap.size ≤ qA)); have n3_ := M0 ((by rw [hg]; exact (below_size bBY7) : w.heap.size ≤ qA)); clear HB; have HB := n0_; have qB := n1_; have GW114 := n2_; have qC := n3_; clear n0_ n1_ n2_ n3_; clear hb hbox hg; obtain ⟨qP, qQ, qR, qS, qT, qU, qV, qW, qX, qY, qD, qE⟩ := celL qB.out; obtain ⟨qZ, qa, qb, qc, qd, qe, qf, qg, qh, qi, qF, qG⟩ := froZ qB.out))
  go_ret
  exact ⟨by first | rfl | (simp [errW_none, errW_some] <;> rfl) | (simp [*, errW_none, errW_some] <;> rfl), bBY7⟩

end Go.Proofs.YtfbhlbchmenloaaGreatDoor.H
-- thinned
end
section
namespace Go.Proofs.YtfbhlbchmenloaaGreatDoor.H
open Go.RowKit Go.Proofs.YtfbhlbchmenloaaGreatDoorW.PrintWords Go.Proofs.YtfbhlbchmenloaaGreatDoorW.PrintLast Go.Proofs.YtfbhlbchmenloaaGreatDoorW.PrintMore
set_option linter.unusedVariables false
set_option linter.unusedSimpArgs false
theorem wp_var2 {P : Program} {c : Code} {a : Act} {K : Exit → Act → World → Prop} {W : World} {cs cs' : Array Value} {t t' : TypeId} (h : ∀ W' : World, Below W.heap.size W W' → W'.heap[W.heap.size]? = some (.cells cs t (0, 0)) → W'.heap[W.heap.size + 1]? = some (.cells cs' t' (0, 0)) → c.wp P K a W') : c.wp P K a ((W.alloc (.cells cs t)).alloc (.cells cs' t')) := by
  have e : (W.alloc (.cells cs t)).heap.size = W.heap.size + 1 := by simp [World.alloc, -World.alloc_eq]
  refine h _ (below_alloc (below_alloc (Below.refl _ _) _) _) (blk_alloc (heap_alloc_new W _) _) ?_
  rw [← e]
  exact heap_alloc_new _ _
set_option maxHeartbeats 4000000 in
set_option maxRecDepth 100000 in
theorem same_walk (d : Cd) {A A' : Option Addr} {c c' : Nat} {W : World} (hk : d.keys.length < 1000000) (hr : Kd.C Kd.string W A d.keys.length d.keys) (hc : d.keys.length ≤ c) (hr' : Kd.C Kd.string W A' d.keys.length d.keys) (hc' : d.keys.length ≤ c') :
    Calls Tryz.prog 16 #[cdV d (.slice A d.keys.length c), cdV d (.slice A' d.keys.length c')] W fun e w' => e = .returned (.bool true) ∧ Below W.heap.size W w' := by
  have hu26 := Tryz.underlying26
  have HR := Aside0.mk hr
  have HR' := Aside0.mk hr'
  have HB := Aside0.mk (Below.refl W.heap.size W)
  clear hr hr'
  unfold cdV
  go_enter Tryz.func16, Tryz.ntmps16
  go_wp2_with fail
  refine wp_var2 ?_
  intro W1 hs ha hb
  have HVa := Aside0.mk ha
  have HVb := Aside0.mk hb
  replace HB := Aside0.mk hs
  clear hs ha hb
  go_loopg [5] d.keys.length (fun kq v5 w' => ∃ i : Nat, v5 = .int .i64 (i : Int) ∧ Aside0 (i + kq = d.keys.length) ∧ Aside0 (w'.heap[W.heap.size]? = some (.cells #[.string d.what, .string d.verb, .slice A d.keys.length c, .string d.data, .int .u32 d.flags, .int .i64 d.exp, .int .u64 d.cas, .int .u64 d.by_, .bool d.withCas, .bool d.withTouch, .bool d.down, .bool d.quiet] 26 (0, 0))) ∧ Aside0 (w'.heap[W.heap.size + 1]? = some (.cells #[.string d.what, .string d.verb, .slice A' d.keys.length c', .string d.data, .int .u32 d.flags, .int .i64 d.exp, .int .u64 d.cas, .int .u64 d.by_, .bool d.withCas, .bool d.withTouch, .bool d.down, .bool d.quiet] 26 (0, 0))) ∧ Aside0 (Below W.heap.size W w'))
  case atStart => exact ⟨0, rfl, ⟨Nat.zero_add _⟩, HVa, HVb, HB⟩
  case round =>
    clear HVa HVb HB
    obtain ⟨i, rfl, HI, HVa, HVb, HB⟩ := hrel
    have hi := HI.out
    obtain ⟨ra0, ra1, ra2, ra3, ra4, ra5, ra6, ra7, ra8, ra9, ra10, ra11⟩ := celL HVa.out
    obtain ⟨rb0, rb1, rb2, rb3, rb4, rb5, rb6, rb7, rb8, rb9, rb10, rb11⟩ := celL HVb.out
    by_cases h : i < d.keys.length
    · have hr1 := Kd.C_below HR.out HB.out
      have hr2 := Kd.C_below HR'.out HB.out
      obtain ⟨gb, ob, hA, hcell⟩ := str_cells hr1 (by omega)
      obtain ⟨gb', ob', hA', hcell'⟩ := str_cells hr2 (by omega)
      have y1 := hcell i h
      have y2 := hcell' i h
      subst hA
      subst hA'
      have i1 : ((i : Int) < (d.keys.length : Int)) = True := eq_true (by omega)
      have i2 : decide ((i : Int) < (d.keys.length : Int)) = true := decide_eq_true (by omega)
      have i3 : (0 : Int) ≤ (i : Int) := by omega
      have i4 : (i : Int) < (d.keys.length : Int) := by omega
      have i5 : (i < d.keys.length) = True := eq_true h
      have hw : wrap64 ((i : Int) + 1) = ((i + 1 : Nat) : Int) := by unfold wrap64; omega
      clear hr1 hr2 hcell hcell'
      go_wp2_with fail
      go_region_held3 (fun w' => w'.cell? ⟨W.heap.size, 2, none⟩ = some (.slice (some ⟨gb, ob, none⟩) d.keys.length c) ∧ w'.cell? ⟨W.heap.size + 1, 2, none⟩ = some (.slice (some ⟨gb', ob', none⟩) d.keys.length c') ∧ w'.cell? ⟨gb, ob + i, none⟩ = some (.string (d.keys.getD i ByteArray.empty)) ∧ w'.cell? ⟨gb', ob' + i, none⟩ = some (.string (d.keys.getD i ByteArray.empty))) (go_keep) (fail)
      go_wp2_with fail
      go_roundg (gk - 1)
      case measure => omega
      case rel => exact ⟨i + 1, rfl, ⟨by omega⟩, ⟨blk_drew HVa.out⟩, ⟨blk_drew HVb.out⟩, ⟨below_drew1 HB.out⟩⟩
    · have i1 : ((i : Int) < (d.keys.length : Int)) = False := eq_false (by omega)
      have i2 : decide ((i : Int) < (d.keys.length : Int)) = false := decide_eq_false (by omega)
      have i5 : (i < d.keys.length) = False := eq_false h
      go_wp2_with fail
      go_ret
      exact ⟨rfl, HB.out⟩
end Go.Proofs.YtfbhlbchmenloaaGreatDoor.H
end
section
namespace Go.Proofs.YtfbhlbchmenloaaGreatDoor.H
open Go.RowKit Go.Proofs.YtfbhlbchmenloaaGreatDoorW.PrintWords Go.Proofs.YtfbhlbchmenloaaGreatDoorW.PrintLast Go.Proofs.YtfbhlbchmenloaaGreatDoorW.PrintMore
attribute [local go_sem] max2_int min2_int max_two min_two max_three min_three max_four min_four   -- for this text's walks alone
set_option linter.unusedVariables false
set_option linter.unusedSimpArgs false

/-! ### cellaretref17_Cmd: function 8 -/
def cellaretref17_Cmd.f (a0_0 : ByteArray) (a0_1 : ByteArray) (l0_2 : List ByteArray) (a0_3 : ByteArray) (a0_4 : Int) (a0_5 : Int) (a0_6 : Int) (a0_7 : Int) (a0_8 : Bool) (a0_9 : Bool) (a0_10 : Bool) (a0_11 : Bool) : Option (ByteArray × ByteArray × List ByteArray × ByteArray × Int × Int × Int × Int × Bool × Bool × Bool × Bool) := (some (([] : List ByteArray) : List ByteArray)).bind fun y103 => (if y103.length + l0_2.length < 8796093022208 then ((some (y103 ++ l0_2 : List ByteArray)).bind fun y106 => (if (y106.length : Int) = 0 then (some (a0_0, a0_1, ([] : List ByteArray), a0_3, a0_4, a0_5, a0_6, a0_7, a0_8, a0_9, a0_10, a0_11)) else (some (a0_0, a0_1, y106, a0_3, a0_4, a0_5, a0_6, a0_7, a0_8, a0_9, a0_10, a0_11)))) else (none))
def cellaretref17_Cmd.T1 : Bool × List (List Nat × List Nat) := (true, [([], []), ([0], [0]), ([], []), ([2], [2]), ([], []), ([], []), ([5], [5]), ([4, 6], [4, 6]), ([], []), ([8], [8]), ([], []), ([10], [10]), ([], []), ([12], [12]), ([], []), ([14], [14]), ([], []), ([16], [16]), ([], []), ([18], [18]), ([], []), ([20], [20]), ([], []), ([22], [22]), ([], []), ([24], [24]), ([1, 3, 7, 9, 11, 13, 15, 17, 19, 21, 23, 25], [1, 3, 7, 9, 11, 13, 15, 17, 19, 21, 23, 25]), ([], []), ([27, 26, 7, 0, 1, 2, 3, 4, 5, 6, 7, 8, 9, 10, 11, 12, 13, 14, 15, 16, 17, 18, 19, 20, 21, 22, 23, 24, 25, 26, 27], [26, 27])])
def cellaretref17_Cmd.B1 : List Nat := [0, 1, 0, 4, 0, 0, 32, 112, 0, 256, 0, 1024, 0, 4096, 0, 16384, 0, 65536, 0, 262144, 0, 1048576, 0, 4194304, 0, 16777216, 67108863, 0, 268435455]
theorem cellaretref17_Cmd.tab1 : rtab .any (opsOf Tryz.f8 1) = cellaretref17_Cmd.T1 := by kernel_rfl
theorem cellaretref17_Cmd.bits1 : waitsOk cellaretref17_Cmd.T1.2 cellaretref17_Cmd.B1 = true := by kernel_rfl
theorem bBY1 {B : Nat} {w W : World} (h : Below B w W := by repeat (first | (with_reducible first | exact HB.out | apply wA | apply wN | apply wD | refine below_set ?_ qM.out | refine below_set ?_ qN.out | refine below_set ?_ qP.out) | exact HB.out)) : Below B w W := h
set_option maxHeartbeats 8000000 in
set_option maxRecDepth 100000 in
theorem cellaretref17_Cmd.calls (a0_0 : ByteArray) (a0_1 : ByteArray) (A0_2 : Option Addr) (c0_2 : Nat) (l0_2 : List ByteArray) (a0_3 : ByteArray) (a0_4 : Int) (a0_5 : Int) (a0_6 : Int) (a0_7 : Int) (a0_8 : Bool) (a0_9 : Bool) (a0_10 : Bool) (a0_11 : Bool) (r1 : ByteArray) (r2 : ByteArray) (r3 : List ByteArray) (r4 : ByteArray) (r5 : Int) (r6 : Int) (r7 : Int) (r8 : Int) (r9 : Bool) (r10 : Bool) (r11 : Bool) (r12 : Bool) (w : World) (hr0_2 : Kd.C Kd.string w A0_2 l0_2.length l0_2) (hc0_2 : l0_2.length ≤ c0_2) (h : cellaretref17_Cmd.f a0_0 a0_1 l0_2 a0_3 a0_4 a0_5 a0_6 a0_7 a0_8 a0_9 a0_10 a0_11 = some (r1, r2, r3, r4, r5, r6, r7, r8, r9, r10, r11, r12)) :
  Calls Tryz.prog 8 #[.agg #[.string a0_0, .string a0_1, .slice A0_2 l0_2.length c0_2, .string a0_3, .int .u32 a0_4, .int .i64 a0_5, .int .u64 a0_6, .int .u64 a0_7, .bool a0_8, .bool a0_9, .bool a0_10, .bool a0_11]] w fun e w' => ∃ v2_ : Value, e = .returned (.agg #[.string r1, .string r2, v2_, .string r4, .int .u32 r5, .int .i64 r6, .int .u64 r7, .int .u64 r8, .bool r9, .bool r10, .bool r11, .bool r12]) ∧ Kd.R Kd.string 9 w' w.heap.size (fun _ => True) v2_ r3 ∧ Below w.heap.size w w' := by
 have hu29 := Tryz.underlying29
 have hu26 := Tryz.underlying26
 have HR0_2 := M0 hr0_2
 have HC0_2 := M0 hc0_2
 clear hr0_2 hc0_2
 have HB := M0 (Below.refl w.heap.size w)
 have H : ((some (([] : List ByteArray) : List ByteArray)).bind fun y103 => (if y103.length + l0_2.length < 8796093022208 then ((some (y103 ++ l0_2 : List ByteArray)).bind fun y106 => (if (y106.length : Int) = 0 then (some (a0_0, a0_1, ([] : List ByteArray), a0_3, a0_4, a0_5, a0_6, a0_7, a0_8, a0_9, a0_10, a0_11)) else (some (a0_0, a0_1, y106, a0_3, a0_4, a0_5, a0_6, a0_7, a0_8, a0_9, a0_10, a0_11)))) else (none))) = some (r1, r2, r3, r4, r5, r6, r7, r8, r9, r10, r11, r12) := h
 clear h
 obtain ⟨y103, hy103⟩ : ∃ y_ : List ByteArray, y_ = (([] : List ByteArray)) := ⟨_, rfl⟩
 replace H : (if y103.length + l0_2.length < 8796093022208 then ((some (y103 ++ l0_2 : List ByteArray)).bind fun y106 => (if (y106.length : Int) = 0 then (some (a0_0, a0_1, ([] : List ByteArray), a0_3, a0_4, a0_5, a0_6, a0_7, a0_8, a0_9, a0_10, a0_11)) else (some (a0_0, a0_1, y106, a0_3, a0_4, a0_5, a0_6, a0_7, a0_8, a0_9, a0_10, a0_11)))) else (none)) = some (r1, r2, r3, r4, r5, r6, r7, r8, r9, r10, r11, r12) := by first | (rw [hy103]; with_reducible exact H) | (have H2_ := (Option.bind_some _ _).symm.trans H; rw [hy103]; with_reducible exact H2_) | (have H2_ := (Option.bind_some _ _).symm.trans H; with_reducible exact H2_) | with_reducible exact H | (rw [hy103]; exact H) | exact H
 have qT := M0 hy103
 clear hy103
 by_cases c2 : y103.length + l0_2.length < 8796093022208
 ·rw [if_pos c2] at H
  have qW := M0 c2
  clear c2
  obtain ⟨y106, hy106⟩ : ∃ y_ : List ByteArray, y_ = (y103 ++ l0_2) := ⟨_, rfl⟩
  replace H : (if (y106.length : Int) = 0 then (some (a0_0, a0_1, ([] : List ByteArray), a0_3, a0_4, a0_5, a0_6, a0_7, a0_8, a0_9, a0_10, a0_11)) else (some (a0_0, a0_1, y106, a0_3, a0_4, a0_5, a0_6, a0_7, a0_8, a0_9, a0_10, a0_11))) = some (r1, r2, r3, r4, r5, r6, r7, r8, r9, r10, r11, r12) := by first | (rw [hy106]; with_reducible exact H) | (have H2_ := (Option.bind_some _ _).symm.trans H; rw [hy106]; with_reducible exact H2_) | (have H2_ := (Option.bind_some _ _).symm.trans H; with_reducible exact H2_) | with_reducible exact H | (rw [hy106]; exact H) | exact H
  have qV := M0 hy106
  clear hy106
  go_enter Tryz.func8, Tryz.ntmps8
  try go_wp2_with (first | ((with_reducible refine gate_dst (N := 1) rfl ?_); refine box_event ?hg (N := 1) ?hd (cs := #[.string a0_0, .string a0_1, .slice A0_2 l0_2.length c0_2, .string a0_3, .int .u32 a0_4, .int .i64 a0_5, .int .u64 a0_6, .int .u64 a0_7, .bool a0_8, .bool a0_9, .bool a0_10, .bool a0_11]) (t := 29) ?hr ?_; (case hd => rfl); (case hg => rfl); (case hr => first | (go_simp; done) | (go_simp; rfl)); intro qD hg w4 hbox hb; have n0_ := M0 (below_step bBY1 hb); have n1_ := M0 (hbox); have n2_ := M0 ((by rw [hg]; exact (below_size bBY1) : w.heap.size ≤ qD)); have n3_ := M0 ((by rw [hg]; exact (below_size bBY1) : w.heap.size ≤ qD)); clear HB; have HB := n0_; have qC := n1_; have GW101 := n2_; have qM := n3_; clear n0_ n1_ n2_ n3_; clear hb hbox hg) | ((with_reducible refine gate_dst (N := 2) rfl ?_); refine box_event ?hg (N := 2) ?hd (cs := #[.string (⟨#[]⟩ : ByteArray), .string (⟨#[]⟩ : ByteArray), .slice none 0 0, .string (⟨#[]⟩ : ByteArray), .int .u32 0, .int .i64 0, .int .u64 0, .int .u64 0, .bool false, .bool false, .bool false, .bool false]) (t := 26) ?hr ?_; (case hd => rfl); (case hg => rfl); (case hr => first | (go_simp; done) | (go_simp; rfl)); intro qG hg w5 hbox hb; have n0_ := M0 (blk_below (g := qD) (o := .cells #[.string a0_0, .string a0_1, .slice A0_2 l0_2.length c0_2, .string a0_3, .int .u32 a0_4, .int .i64 a0_5, .int .u64 a0_6, .int .u64 a0_7, .bool a0_8, .bool a0_9, .bool a0_10, .bool a0_11] 29 (0, 0)) (by (with_reducible repeat (first | refine bN ?_ _ | refine bD ?_ | refine bA ?_ _)); exact qC.out) hb); have n1_ := M0 (below_step bBY1 hb); have n2_ := M0 (hbox); have n3_ := M0 ((by rw [hg]; exact (below_size bBY1) : w.heap.size ≤ qG)); have n4_ := M0 ((by rw [hg]; exact (below_size bBY1) : w.heap.size ≤ qG)); have n5_ := M0 ((by rw [hg]; exact Nat.ne_of_lt (blk_lt (g := qD) (o := .cells #[.string a0_0, .string a0_1, .slice A0_2 l0_2.length c0_2, .string a0_3, .int .u32 a0_4, .int .i64 a0_5, .int .u64 a0_6, .int .u64 a0_7, .bool a0_8, .bool a0_9, .bool a0_10, .bool a0_11] 29 (0, 0)) (by (with_reducible repeat (first | refine bN ?_ _ | refine bD ?_ | refine bA ?_ _)); exact qC.out)) : qD ≠ qG)); have n6_ := M0 ((by rw [hg]; exact Nat.ne_of_gt (blk_lt (g := qD) (o := .cells #[.string a0_0, .string a0_1, .slice A0_2 l0_2.length c0_2, .string a0_3, .int .u32 a0_4, .int .i64 a0_5, .int .u64 a0_6, .int .u64 a0_7, .bool a0_8, .bool a0_9, .bool a0_10, .bool a0_11] 29 (0, 0)) (by (with_reducible repeat (first | refine bN ?_ _ | refine bD ?_ | refine bA ?_ _)); exact qC.out)) : qG ≠ qD)); clear qC; clear HB; have qC := n0_; have HB := n1_; have qE := n2_; have GW102 := n3_; have qN := n4_; have qR := n5_; have qS := n6_; clear n0_ n1_ n2_ n3_ n4_ n5_ n6_; clear hb hbox hg))
  have n0_ := M0 (blk_drew qC.out)
  have n1_ := M0 (blk_drew qE.out)
  have n2_ := M0 (below_drew1 HB.out)
  clear qC
  clear qE
  clear HB
  have qC := n0_
  have qE := n1_
  have HB := n2_
  clear n0_ n1_ n2_
  refine start_ (n := 29) (S := fun w' => w'.cell? ⟨qD, 0, none⟩ = some (.string a0_0) ∧ w'.cell? ⟨qD, 1, none⟩ = some (.string a0_1) ∧ w'.cell? ⟨qD, 2, none⟩ = some (.slice A0_2 l0_2.length c0_2) ∧ w'.cell? ⟨qD, 3, none⟩ = some (.string a0_3) ∧ w'.cell? ⟨qD, 4, none⟩ = some (.int .u32 a0_4) ∧ w'.cell? ⟨qD, 5, none⟩ = some (.int .i64 a0_5) ∧ w'.cell? ⟨qD, 6, none⟩ = some (.int .u64 a0_6) ∧ w'.cell? ⟨qD, 7, none⟩ = some (.int .u64 a0_7) ∧ w'.cell? ⟨qD, 8, none⟩ = some (.bool a0_8) ∧ w'.cell? ⟨qD, 9, none⟩ = some (.bool a0_9) ∧ w'.cell? ⟨qD, 10, none⟩ = some (.bool a0_10) ∧ w'.cell? ⟨qD, 11, none⟩ = some (.bool a0_11)) (ds := []) #[false, false, false, false, false, false, false, false, false, false, false, false, false, false, false, false, false, false, false, false, false, false, false, false, false, false, false, false, false] (by kernel_rfl) rfl rfl ⟨(blk_cell qC.out 0).trans rfl, (blk_cell qC.out 1).trans rfl, (blk_cell qC.out 2).trans rfl, (blk_cell qC.out 3).trans rfl, (blk_cell qC.out 4).trans rfl, (blk_cell qC.out 5).trans rfl, (blk_cell qC.out 6).trans rfl, (blk_cell qC.out 7).trans rfl, (blk_cell qC.out 8).trans rfl, (blk_cell qC.out 9).trans rfl, (blk_cell qC.out 10).trans rfl, (blk_cell qC.out 11).trans rfl⟩ (fun hHeld => ?_); refine with_tabW cellaretref17_Cmd.tab1 cellaretref17_Cmd.bits1 (fun HT_ HW_ => ?_)
  generalize w5.drew = w6 at qC qE HB hHeld ⊢
  refine pure_ (i := 0) (N := some 4) (v := ?_) (a' := ?_) #[true, false, false, false, false, false, false, false, false, false, false, false, false, false, false, false, false, false, false, false, false, false, false, false, false, false, false, false, false] rfl rfl (any_of HT_.out (by kernel_rfl)) (fun _ _ _ h => h) (Or.inl ⟨by rfl, ?_⟩) ?_ ?_
  rotate_left
  ·intro w'
   go_simp
   with_reducible rfl
  rotate_left
  ·simp only [Act.put, List.setIfInBounds_toArray, List.set_cons_zero, List.set_cons_succ, i64_w, i32_w]
   rfl
  refine pure_ (i := 2) (N := some 6) (v := ?_) (a' := ?_) #[true, false, true, false, false, false, false, false, false, false, false, false, false, false, false, false, false, false, false, false, false, false, false, false, false, false, false, false, false] rfl rfl (any_of HT_.out (by kernel_rfl)) (fun _ _ _ h => h) (Or.inl ⟨by rfl, ?_⟩) ?_ ?_
  rotate_left
  ·intro w'
   go_simp
   with_reducible rfl
  rotate_left
  ·simp only [Act.put, List.setIfInBounds_toArray, List.set_cons_zero, List.set_cons_succ, i64_w, i32_w]
   rfl
  refine pure_ (i := 5) (N := some 9) (v := ?_) (a' := ?_) #[true, false, true, false, false, true, false, false, false, false, false, false, false, false, false, false, false, false, false, false, false, false, false, false, false, false, false, false, false] rfl rfl (any_of HT_.out (by kernel_rfl)) (fun _ _ _ h => h) (Or.inl ⟨by rfl, ?_⟩) ?_ ?_
  rotate_left
  ·intro w'
   go_simp
   with_reducible rfl
  rotate_left
  ·simp only [Act.put, List.setIfInBounds_toArray, List.set_cons_zero, List.set_cons_succ, i64_w, i32_w]
   rfl
  refine pure_ (i := 8) (N := some 12) (v := ?_) (a' := ?_) #[true, false, true, false, false, true, false, false, true, false, false, false, false, false, false, false, false, false, false, false, false, false, false, false, false, false, false, false, false] rfl rfl (any_of HT_.out (by kernel_rfl)) (fun _ _ _ h => h) (Or.inl ⟨by rfl, ?_⟩) ?_ ?_
  rotate_left
  ·intro w'
   go_simp
   with_reducible rfl
  rotate_left
  ·simp only [Act.put, List.setIfInBounds_toArray, List.set_cons_zero, List.set_cons_succ, i64_w, i32_w]
   rfl
  refine pure_ (i := 10) (N := some 14) (v := ?_) (a' := ?_) #[true, false, true, false, false, true, false, false, true, false, true, false, false, false, false, false, false, false, false, false, false, false, false, false, false, false, false, false, false] rfl rfl (any_of HT_.out (by kernel_rfl)) (fun _ _ _ h => h) (Or.inl ⟨by rfl, ?_⟩) ?_ ?_
  rotate_left
  ·intro w'
   go_simp
   with_reducible rfl
  rotate_left
  ·simp only [Act.put, List.setIfInBounds_toArray, List.set_cons_zero, List.set_cons_succ, i64_w, i32_w]
   rfl
  refine pure_ (i := 12) (N := some 16) (v := ?_) (a' := ?_) #[true, false, true, false, false, true, false, false, true, false, true, false, true, false, false, false, false, false, false, false, false, false, false, false, false, false, false, false, false] rfl rfl (any_of HT_.out (by kernel_rfl)) (fun _ _ _ h => h) (Or.inl ⟨by rfl, ?_⟩) ?_ ?_
  rotate_left
  ·intro w'
   go_simp
   with_reducible rfl
  rotate_left
  ·simp only [Act.put, List.setIfInBounds_toArray, List.set_cons_zero, List.set_cons_succ, i64_w, i32_w]
   rfl
  refine pure_ (i := 14) (N := some 18) (v := ?_) (a' := ?_) #[true, false, true, false, false, true, false, false, true, false, true, false, true, false, true, false, false, false, false, false, false, false, false, false, false, false, false, false, false] rfl rfl (any_of HT_.out (by kernel_rfl)) (fun _ _ _ h => h) (Or.inl ⟨by rfl, ?_⟩) ?_ ?_
  rotate_left
  ·intro w'
   go_simp
   with_reducible rfl
  rotate_left
  ·simp only [Act.put, List.setIfInBounds_toArray, List.set_cons_zero, List.set_cons_succ, i64_w, i32_w]
   rfl
  refine pure_ (i := 16) (N := some 20) (v := ?_) (a' := ?_) #[true, false, true, false, false, true, false, false, true, false, true, false, true, false, true, false, true, false, false, false, false, false, false, false, false, false, false, false, false] rfl rfl (any_of HT_.out (by kernel_rfl)) (fun _ _ _ h => h) (Or.inl ⟨by rfl, ?_⟩) ?_ ?_
  rotate_left
  ·intro w'
   go_simp
   with_reducible rfl
  rotate_left
  ·simp only [Act.put, List.setIfInBounds_toArray, List.set_cons_zero, List.set_cons_succ, i64_w, i32_w]
   rfl
  refine pure_ (i := 18) (N := some 22) (v := ?_) (a' := ?_) #[true, false, true, false, false, true, false, false, true, false, true, false, true, false, true, false, true, false, true, false, false, false, false, false, false, false, false, false, false] rfl rfl (any_of HT_.out (by kernel_rfl)) (fun _ _ _ h => h) (Or.inl ⟨by rfl, ?_⟩) ?_ ?_
  rotate_left
  ·intro w'
   go_simp
   with_reducible rfl
  rotate_left
  ·simp only [Act.put, List.setIfInBounds_toArray, List.set_cons_zero, List.set_cons_succ, i64_w, i32_w]
   rfl
  refine pure_ (i := 20) (N := some 24) (v := ?_) (a' := ?_) #[true, false, true, false, false, true, false, false, true, false, true, false, true, false, true, false, true, false, true, false, true, false, false, false, false, false, false, false, false] rfl rfl (any_of HT_.out (by kernel_rfl)) (fun _ _ _ h => h) (Or.inl ⟨by rfl, ?_⟩) ?_ ?_
  rotate_left
  ·intro w'
   go_simp
   with_reducible rfl
  rotate_left
  ·simp only [Act.put, List.setIfInBounds_toArray, List.set_cons_zero, List.set_cons_succ, i64_w, i32_w]
   rfl
  refine pure_ (i := 22) (N := some 26) (v := ?_) (a' := ?_) #[true, false, true, false, false, true, false, false, true, false, true, false, true, false, true, false, true, false, true, false, true, false, true, false, false, false, false, false, false] rfl rfl (any_of HT_.out (by kernel_rfl)) (fun _ _ _ h => h) (Or.inl ⟨by rfl, ?_⟩) ?_ ?_
  rotate_left
  ·intro w'
   go_simp
   with_reducible rfl
  rotate_left
  ·simp only [Act.put, List.setIfInBounds_toArray, List.set_cons_zero, List.set_cons_succ, i64_w, i32_w]
   rfl
  refine pure_ (i := 24) (N := some 28) (v := ?_) (a' := ?_) #[true, false, true, false, false, true, false, false, true, false, true, false, true, false, true, false, true, false, true, false, true, false, true, false, true, false, false, false, false] rfl rfl (any_of HT_.out (by kernel_rfl)) (fun _ _ _ h => h) (Or.inl ⟨by rfl, ?_⟩) ?_ ?_
  rotate_left
  ·intro w'
   go_simp
   with_reducible rfl
  rotate_left
  ·simp only [Act.put, List.setIfInBounds_toArray, List.set_cons_zero, List.set_cons_succ, i64_w, i32_w]
   rfl
  refine take_ (i := 1) (N := some 5) (v := ?_) (a' := ?_) #[true, true, true, false, false, true, false, false, true, false, true, false, true, false, true, false, true, false, true, false, true, false, true, false, true, false, false, false, false] rfl rfl (take_ofW HT_.out HW_.out (by kernel_rfl)) (fun _ _ _ h => h) (Or.inl ⟨by rfl, ?_⟩) hHeld ?_ ?_
  rotate_left
  ·rintro w' ⟨s0, s1, s2, s3, s4, s5, s6, s7, s8, s9, s10, s11⟩
   go_simp
   with_reducible rfl
  rotate_left
  ·simp only [Act.put, List.setIfInBounds_toArray, List.set_cons_zero, List.set_cons_succ, i64_w, i32_w]
   rfl
  refine take_ (i := 3) (N := some 7) (v := ?_) (a' := ?_) #[true, true, true, true, false, true, false, false, true, false, true, false, true, false, true, false, true, false, true, false, true, false, true, false, true, false, false, false, false] rfl rfl (take_ofW HT_.out HW_.out (by kernel_rfl)) (fun _ _ _ h => h) (Or.inl ⟨by rfl, ?_⟩) hHeld ?_ ?_
  rotate_left
  ·rintro w' ⟨s0, s1, s2, s3, s4, s5, s6, s7, s8, s9, s10, s11⟩
   go_simp
   with_reducible rfl
  rotate_left
  ·simp only [Act.put, List.setIfInBounds_toArray, List.set_cons_zero, List.set_cons_succ, i64_w, i32_w]
   rfl
  refine take_ (i := 6) (N := some 10) (v := ?_) (a' := ?_) #[true, true, true, true, false, true, true, false, true, false, true, false, true, false, true, false, true, false, true, false, true, false, true, false, true, false, false, false, false] rfl rfl (take_ofW HT_.out HW_.out (by kernel_rfl)) (fun _ _ _ h => h) (Or.inl ⟨by rfl, ?_⟩) hHeld ?_ ?_
  rotate_left
  ·rintro w' ⟨s0, s1, s2, s3, s4, s5, s6, s7, s8, s9, s10, s11⟩
   go_simp
   with_reducible rfl
  rotate_left
  ·simp only [Act.put, List.setIfInBounds_toArray, List.set_cons_zero, List.set_cons_succ, i64_w, i32_w]
   rfl
  refine take_ (i := 9) (N := some 13) (v := ?_) (a' := ?_) #[true, true, true, true, false, true, true, false, true, true, true, false, true, false, true, false, true, false, true, false, true, false, true, false, true, false, false, false, false] rfl rfl (take_ofW HT_.out HW_.out (by kernel_rfl)) (fun _ _ _ h => h) (Or.inl ⟨by rfl, ?_⟩) hHeld ?_ ?_
  rotate_left
  ·rintro w' ⟨s0, s1, s2, s3, s4, s5, s6, s7, s8, s9, s10, s11⟩
   go_simp
   with_reducible rfl
  rotate_left
  ·simp only [Act.put, List.setIfInBounds_toArray, List.set_cons_zero, List.set_cons_succ, i64_w, i32_w]
   rfl
  refine take_ (i := 11) (N := some 15) (v := ?_) (a' := ?_) #[true, true, true, true, false, true, true, false, true, true, true, true, true, false, true, false, true, false, true, false, true, false, true, false, true, false, false, false, false] rfl rfl (take_ofW HT_.out HW_.out (by kernel_rfl)) (fun _ _ _ h => h) (Or.inl ⟨by rfl, ?_⟩) hHeld ?_ ?_
  rotate_left
  ·rintro w' ⟨s0, s1, s2, s3, s4, s5, s6, s7, s8, s9, s10, s11⟩
   go_simp
   with_reducible rfl
  rotate_left
  ·simp only [Act.put, List.setIfInBounds_toArray, List.set_cons_zero, List.set_cons_succ, i64_w, i32_w]
   rfl
  refine take_ (i := 13) (N := some 17) (v := ?_) (a' := ?_) #[true, true, true, true, false, true, true, false, true, true, true, true, true, true, true, false, true, false, true, false, true, false, true, false, true, false, false, false, false] rfl rfl (take_ofW HT_.out HW_.out (by kernel_rfl)) (fun _ _ _ h => h) (Or.inl ⟨by rfl, ?_⟩) hHeld ?_ ?_
  rotate_left
  ·rintro w' ⟨s0, s1, s2, s3, s4, s5, s6, s7, s8, s9, s10, s11⟩
   go_simp
   with_reducible rfl
  rotate_left
  ·simp only [Act.put, List.setIfInBounds_toArray, List.set_cons_zero, List.set_cons_succ, i64_w, i32_w]
   rfl
  refine take_ (i := 15) (N := some 19) (v := ?_) (a' := ?_) #[true, true, true, true, false, true, true, false, true, true, true, true, true, true, true, true, true, false, true, false, true, false, true, false, true, false, false, false, false] rfl rfl (take_ofW HT_.out HW_.out (by kernel_rfl)) (fun _ _ _ h => h) (Or.inl ⟨by rfl, ?_⟩) hHeld ?_ ?_
  rotate_left
  ·rintro w' ⟨s0, s1, s2, s3, s4, s5, s6, s7, s8, s9, s10, s11⟩
   go_simp
   with_reducible rfl
  rotate_left
  ·simp only [Act.put, List.setIfInBounds_toArray, List.set_cons_zero, List.set_cons_succ, i64_w, i32_w]
   rfl
  refine take_ (i := 17) (N := some 21) (v := ?_) (a' := ?_) #[true, true, true, true, false, true, true, false, true, true, true, true, true, true, true, true, true, true, true, false, true, false, true, false, true, false, false, false, false] rfl rfl (take_ofW HT_.out HW_.out (by kernel_rfl)) (fun _ _ _ h => h) (Or.inl ⟨by rfl, ?_⟩) hHeld ?_ ?_
  rotate_left
  ·rintro w' ⟨s0, s1, s2, s3, s4, s5, s6, s7, s8, s9, s10, s11⟩
   go_simp
   with_reducible rfl
  rotate_left
  ·simp only [Act.put, List.setIfInBounds_toArray, List.set_cons_zero, List.set_cons_succ, i64_w, i32_w]
   rfl
  refine take_ (i := 19) (N := some 23) (v := ?_) (a' := ?_) #[true, true, true, true, false, true, true, false, true, true, true, true, true, true, true, true, true, true, true, true, true, false, true, false, true, false, false, false, false] rfl rfl (take_ofW HT_.out HW_.out (by kernel_rfl)) (fun _ _ _ h => h) (Or.inl ⟨by rfl, ?_⟩) hHeld ?_ ?_
  rotate_left
  ·rintro w' ⟨s0, s1, s2, s3, s4, s5, s6, s7, s8, s9, s10, s11⟩
   go_simp
   with_reducible rfl
  rotate_left
  ·simp only [Act.put, List.setIfInBounds_toArray, List.set_cons_zero, List.set_cons_succ, i64_w, i32_w]
   rfl
  refine take_ (i := 21) (N := some 25) (v := ?_) (a' := ?_) #[true, true, true, true, false, true, true, false, true, true, true, true, true, true, true, true, true, true, true, true, true, true, true, false, true, false, false, false, false] rfl rfl (take_ofW HT_.out HW_.out (by kernel_rfl)) (fun _ _ _ h => h) (Or.inl ⟨by rfl, ?_⟩) hHeld ?_ ?_
  rotate_left
  ·rintro w' ⟨s0, s1, s2, s3, s4, s5, s6, s7, s8, s9, s10, s11⟩
   go_simp
   with_reducible rfl
  rotate_left
  ·simp only [Act.put, List.setIfInBounds_toArray, List.set_cons_zero, List.set_cons_succ, i64_w, i32_w]
   rfl
  refine take_ (i := 23) (N := some 27) (v := ?_) (a' := ?_) #[true, true, true, true, false, true, true, false, true, true, true, true, true, true, true, true, true, true, true, true, true, true, true, true, true, false, false, false, false] rfl rfl (take_ofW HT_.out HW_.out (by kernel_rfl)) (fun _ _ _ h => h) (Or.inl ⟨by rfl, ?_⟩) hHeld ?_ ?_
  rotate_left
  ·rintro w' ⟨s0, s1, s2, s3, s4, s5, s6, s7, s8, s9, s10, s11⟩
   go_simp
   with_reducible rfl
  rotate_left
  ·simp only [Act.put, List.setIfInBounds_toArray, List.set_cons_zero, List.set_cons_succ, i64_w, i32_w]
   rfl
  refine take_ (i := 25) (N := some 29) (v := ?_) (a' := ?_) #[true, true, true, true, false, true, true, false, true, true, true, true, true, true, true, true, true, true, true, true, true, true, true, true, true, true, false, false, false] rfl rfl (take_ofW HT_.out HW_.out (by kernel_rfl)) (fun _ _ _ h => h) (Or.inl ⟨by rfl, ?_⟩) hHeld ?_ ?_
  rotate_left
  ·rintro w' ⟨s0, s1, s2, s3, s4, s5, s6, s7, s8, s9, s10, s11⟩
   go_simp
   with_reducible rfl
  rotate_left
  ·simp only [Act.put, List.setIfInBounds_toArray, List.set_cons_zero, List.set_cons_succ, i64_w, i32_w]
   rfl
  refine join_ (σ := Value × Value × Nat) 1 #[true, true, true, true, true, true, true, true, true, true, true, true, true, true, true, true, true, true, true, true, true, true, true, true, true, true, true, true, false] (fun s_ => [(8, s_.1), (11, s_.2.1), (3, .pointer (some ⟨s_.2.2, 0, none⟩)), (30, .agg #[.string a0_0, .string a0_1, s_.2.1, .string a0_3, .int .u32 a0_4, .int .i64 a0_5, .int .u64 a0_6, .int .u64 a0_7, .bool a0_8, .bool a0_9, .bool a0_10, .bool a0_11])]) (fun s_ w' => (w'.cell? ⟨qD, 0, none⟩ = some (.string a0_0) ∧ w'.cell? ⟨qD, 1, none⟩ = some (.string a0_1) ∧ w'.cell? ⟨qD, 2, none⟩ = some (.slice A0_2 l0_2.length c0_2) ∧ w'.cell? ⟨qD, 3, none⟩ = some (.string a0_3) ∧ w'.cell? ⟨qD, 4, none⟩ = some (.int .u32 a0_4) ∧ w'.cell? ⟨qD, 5, none⟩ = some (.int .i64 a0_5) ∧ w'.cell? ⟨qD, 6, none⟩ = some (.int .u64 a0_6) ∧ w'.cell? ⟨qD, 7, none⟩ = some (.int .u64 a0_7) ∧ w'.cell? ⟨qD, 8, none⟩ = some (.bool a0_8) ∧ w'.cell? ⟨qD, 9, none⟩ = some (.bool a0_9) ∧ w'.cell? ⟨qD, 10, none⟩ = some (.bool a0_10) ∧ w'.cell? ⟨qD, 11, none⟩ = some (.bool a0_11)) ∧ (Kd.R Kd.string 9 w' w.heap.size (fun _ => True) s_.2.1 y106) ∧ (w'.heap[qD]? = some (.cells #[.string a0_0, .string a0_1, .slice A0_2 l0_2.length c0_2, .string a0_3, .int .u32 a0_4, .int .i64 a0_5, .int .u64 a0_6, .int .u64 a0_7, .bool a0_8, .bool a0_9, .bool a0_10, .bool a0_11] 29 (0, 0))) ∧ (w'.heap[qG]? = some (.cells #[.string (⟨#[]⟩ : ByteArray), .string (⟨#[]⟩ : ByteArray), .slice none 0 0, .string (⟨#[]⟩ : ByteArray), .int .u32 0, .int .i64 0, .int .u64 0, .int .u64 0, .bool false, .bool false, .bool false, .bool false] 26 (0, 0))) ∧ (w'.heap[s_.2.2]? = some (.cells #[.string (⟨#[]⟩ : ByteArray), .string (⟨#[]⟩ : ByteArray), .slice none 0 0, .string (⟨#[]⟩ : ByteArray), .int .u32 0, .int .i64 0, .int .u64 0, .int .u64 0, .bool false, .bool false, .bool false, .bool false] 26 (0, 0))) ∧ (w.heap.size ≤ s_.2.2) ∧ (w.heap.size ≤ s_.2.2) ∧ (qD ≠ s_.2.2) ∧ (s_.2.2 ≠ qD) ∧ (qG ≠ s_.2.2) ∧ (s_.2.2 ≠ qG) ∧ (Below w.heap.size w w')) ?_ ?_
  rotate_left
  ·intro hCont
   refine two_ (i := 4) (j := 27) (Ni := some 8) (Nj := some 3) #[true, true, true, true, true, true, true, false, true, true, true, true, true, true, true, true, true, true, true, true, true, true, true, true, true, true, false, false, false] #[true, true, true, true, false, true, true, false, true, true, true, true, true, true, true, true, true, true, true, true, true, true, true, true, true, true, false, true, false] rfl rfl rfl rfl (two_of HT_.out (by kernel_rfl)) (by decide) (by decide) (fun K hK => ?_) (fun K hK => ?_)
   ·skip
    refine Kd.R_lit_step Kd.string _ 9 ?hg (N := 8) ?hd (xs := ([] : List ByteArray)) (inner := []) (ok := fun _ => True) (okp := fun _ => True) ?hr ?hp (fun _ hk => hk) trivial (Below.refl _ _) (Nat.le_refl _) (by simp) ?_; (case hd => rfl); (case hg => rfl); (case hr => first | (go_simp; done) | (go_simp; rfl)); (case hp => exact (Reps.none _ _))
    intro v104 w7 ho8 hb hg_ hnew_
    clear hg_ hnew_
    (first | rw [← qT.out] at ho8 | (simp only [Int.reduceToNat] at ho8; rw [← qT.out] at ho8))
    have n0_ := M0 (Kd.R_lower ho8 (below_size bBY1))
    have n1_ := M0 (blk_below (g := qD) (o := .cells #[.string a0_0, .string a0_1, .slice A0_2 l0_2.length c0_2, .string a0_3, .int .u32 a0_4, .int .i64 a0_5, .int .u64 a0_6, .int .u64 a0_7, .bool a0_8, .bool a0_9, .bool a0_10, .bool a0_11] 29 (0, 0)) (by (with_reducible repeat (first | refine bN ?_ _ | refine bD ?_ | refine bA ?_ _)); exact qC.out) hb)
    have n2_ := M0 (blk_below (g := qG) (o := .cells #[.string (⟨#[]⟩ : ByteArray), .string (⟨#[]⟩ : ByteArray), .slice none 0 0, .string (⟨#[]⟩ : ByteArray), .int .u32 0, .int .i64 0, .int .u64 0, .int .u64 0, .bool false, .bool false, .bool false, .bool false] 26 (0, 0)) (by (with_reducible repeat (first | refine bN ?_ _ | refine bD ?_ | refine bA ?_ _)); exact qE.out) hb)
    have n3_ := M0 (below_step bBY1 hb)
    clear qC
    clear qE
    clear HB
    have qQ := n0_
    have qC := n1_
    have qE := n2_
    have HB := n3_
    clear n0_ n1_ n2_ n3_
    clear hb ho8
    refine hK.out _ _ ⟨(blk_cell qC.out 0).trans rfl, (blk_cell qC.out 1).trans rfl, (blk_cell qC.out 2).trans rfl, (blk_cell qC.out 3).trans rfl, (blk_cell qC.out 4).trans rfl, (blk_cell qC.out 5).trans rfl, (blk_cell qC.out 6).trans rfl, (blk_cell qC.out 7).trans rfl, (blk_cell qC.out 8).trans rfl, (blk_cell qC.out 9).trans rfl, (blk_cell qC.out 10).trans rfl, (blk_cell qC.out 11).trans rfl⟩ (fun hHeld => ?_)
    clear hK K
    refine norm_ (a' := ?_) ?_ ?_
    rotate_left
    ·show Act.put _ (some 8) _ = _
     simp only [Act.put, List.setIfInBounds_toArray, List.set_cons_zero, List.set_cons_succ, i64_w, i32_w]
     rfl
    refine two_ (i := 7) (j := 27) (Ni := some 11) (Nj := some 3) #[true, true, true, true, true, true, true, true, true, true, true, true, true, true, true, true, true, true, true, true, true, true, true, true, true, true, false, false, false] #[true, true, true, true, true, true, true, false, true, true, true, true, true, true, true, true, true, true, true, true, true, true, true, true, true, true, false, true, false] rfl rfl rfl rfl (two_of HT_.out (by kernel_rfl)) (by decide) (by decide) (fun K hK => ?_) (fun K hK => ?_)
    ·skip
     refine Kd.R_append_rows_step Kd.string (w0 := w) w.heap.size (by rfl) (.tmp 8) (.tmp 10) 22 9 (.string ⟨#[]⟩) 16 rfl Tryz.underlying22 info9 rfl (by decide) (by omega) v104 y103 l0_2 _ _ _ (fun _ => True) (fun _ => False) rfl rfl ?aO ?aR (fun _ _ h => h) (fun _ h => h.elim) ?aF ?aB ?aS ?aL ?_
     (case aR => repeat (first | exact (Kd.C_below HR0_2.out HB.out) | (with_reducible refine Kd.C_alloc ?_ _) | (with_reducible refine Kd.C_drewN ?_ _) | (with_reducible refine Kd.C_drew ?_)))
     (case aB => exact bBY1)
     (case aF => exact (fun _ _ => trivial))
     (case aO => exact (by (with_reducible repeat (first | apply rA | apply rN | apply rD)); exact qQ.out))
     (case aS => exact (below_size bBY1))
     (case aL => have := qW.out; omega)
     intro v107 w9 ho hb hg hat
     rw [← qV.out] at ho
     have n0_ := M0 (blk_grown (g := qD) (o := .cells #[.string a0_0, .string a0_1, .slice A0_2 l0_2.length c0_2, .string a0_3, .int .u32 a0_4, .int .i64 a0_5, .int .u64 a0_6, .int .u64 a0_7, .bool a0_8, .bool a0_9, .bool a0_10, .bool a0_11] 29 (0, 0)) (by (with_reducible repeat (first | refine bN ?_ _ | refine bD ?_ | refine bA ?_ _)); exact qC.out) hg (Kd.R_ne qQ.out qC.out (by decide)))
     have n1_ := M0 (blk_grown (g := qG) (o := .cells #[.string (⟨#[]⟩ : ByteArray), .string (⟨#[]⟩ : ByteArray), .slice none 0 0, .string (⟨#[]⟩ : ByteArray), .int .u32 0, .int .i64 0, .int .u64 0, .int .u64 0, .bool false, .bool false, .bool false, .bool false] 26 (0, 0)) (by (with_reducible repeat (first | refine bN ?_ _ | refine bD ?_ | refine bA ?_ _)); exact qE.out) hg (Kd.R_ne qQ.out qE.out (by decide)))
     have n2_ := M0 (hb)
     have n3_ := M0 (ho)
     clear qC
     clear qE
     clear HB
     clear qQ
     have qC := n0_
     have qE := n1_
     have HB := n2_
     have qO := n3_
     clear n0_ n1_ n2_ n3_
     clear ho hb hg hat
     obtain ⟨qb, qc, qZ⟩ := Kd.R_slice qO.out
     (first | subst qZ | (injection qZ with f1_ f2_ f3_; have f4_ := f1_.symm; have f5_ := f3_.symm; clear f1_ f2_ f3_; subst f4_; subst f5_))
     refine hK.out _ _ ⟨(blk_cell qC.out 0).trans rfl, (blk_cell qC.out 1).trans rfl, (blk_cell qC.out 2).trans rfl, (blk_cell qC.out 3).trans rfl, (blk_cell qC.out 4).trans rfl, (blk_cell qC.out 5).trans rfl, (blk_cell qC.out 6).trans rfl, (blk_cell qC.out 7).trans rfl, (blk_cell qC.out 8).trans rfl, (blk_cell qC.out 9).trans rfl, (blk_cell qC.out 10).trans rfl, (blk_cell qC.out 11).trans rfl⟩ (fun hHeld => ?_)
     clear hK K
     refine norm_ (a' := ?_) ?_ ?_
     rotate_left
     ·show Act.put _ (some 11) _ = _
      simp only [Act.put, List.setIfInBounds_toArray, List.set_cons_zero, List.set_cons_succ, i64_w, i32_w]
      rfl
     refine pure_ (i := 26) (N := some 30) (v := ?_) (a' := ?_) #[true, true, true, true, true, true, true, true, true, true, true, true, true, true, true, true, true, true, true, true, true, true, true, true, true, true, true, false, false] rfl rfl (any_of HT_.out (by kernel_rfl)) (fun _ _ _ h => h) (Or.inl ⟨by rfl, ?_⟩) ?_ ?_
     rotate_left
     ·intro w'
      go_simp
      with_reducible rfl
     rotate_left
     ·simp only [Act.put, List.setIfInBounds_toArray, List.set_cons_zero, List.set_cons_succ, i64_w, i32_w]
      rfl
     refine one_ (i := 27) (N := some 3) #[true, true, true, true, true, true, true, true, true, true, true, true, true, true, true, true, true, true, true, true, true, true, true, true, true, true, true, true, false] rfl rfl (one_of HT_.out (by kernel_rfl)) (by decide) (fun K hK => ?_)
     refine box_step ?hg (N := 3) ?hd (cs := #[.string (⟨#[]⟩ : ByteArray), .string (⟨#[]⟩ : ByteArray), .slice none 0 0, .string (⟨#[]⟩ : ByteArray), .int .u32 0, .int .i64 0, .int .u64 0, .int .u64 0, .bool false, .bool false, .bool false, .bool false]) (t := 26) ?hr ?_; (case hd => rfl); (case hg => rfl); (case hr => first | (go_simp; done) | (go_simp; rfl))
     intro qA hg w11 hbox hb
     have n0_ := M0 (Kd.R_below (by (with_reducible repeat (first | apply rA | apply rN | apply rD)); exact qO.out) hb)
     have n1_ := M0 (blk_below (g := qD) (o := .cells #[.string a0_0, .string a0_1, .slice A0_2 l0_2.length c0_2, .string a0_3, .int .u32 a0_4, .int .i64 a0_5, .int .u64 a0_6, .int .u64 a0_7, .bool a0_8, .bool a0_9, .bool a0_10, .bool a0_11] 29 (0, 0)) (by (with_reducible repeat (first | refine bN ?_ _ | refine bD ?_ | refine bA ?_ _)); exact qC.out) hb)
     have n2_ := M0 (blk_below (g := qG) (o := .cells #[.string (⟨#[]⟩ : ByteArray), .string (⟨#[]⟩ : ByteArray), .slice none 0 0, .string (⟨#[]⟩ : ByteArray), .int .u32 0, .int .i64 0, .int .u64 0, .int .u64 0, .bool false, .bool false, .bool false, .bool false] 26 (0, 0)) (by (with_reducible repeat (first | refine bN ?_ _ | refine bD ?_ | refine bA ?_ _)); exact qE.out) hb)
     have n3_ := M0 (below_step bBY1 hb)
     have n4_ := M0 (hbox)
     have n5_ := M0 ((by rw [hg]; exact (below_size bBY1) : w.heap.size ≤ qA))
     have n6_ := M0 ((by rw [hg]; exact (below_size bBY1) : w.heap.size ≤ qA))
     have n7_ := M0 ((by rw [hg]; exact Nat.ne_of_lt (blk_lt (g := qD) (o := .cells #[.string a0_0, .string a0_1, .slice A0_2 l0_2.length c0_2, .string a0_3, .int .u32 a0_4, .int .i64 a0_5, .int .u64 a0_6, .int .u64 a0_7, .bool a0_8, .bool a0_9, .bool a0_10, .bool a0_11] 29 (0, 0)) (by (with_reducible repeat (first | refine bN ?_ _ | refine bD ?_ | refine bA ?_ _)); exact qC.out)) : qD ≠ qA))
     have n8_ := M0 ((by rw [hg]; exact Nat.ne_of_gt (blk_lt (g := qD) (o := .cells #[.string a0_0, .string a0_1, .slice A0_2 l0_2.length c0_2, .string a0_3, .int .u32 a0_4, .int .i64 a0_5, .int .u64 a0_6, .int .u64 a0_7, .bool a0_8, .bool a0_9, .bool a0_10, .bool a0_11] 29 (0, 0)) (by (with_reducible repeat (first | refine bN ?_ _ | refine bD ?_ | refine bA ?_ _)); exact qC.out)) : qA ≠ qD))
     have n9_ := M0 ((by rw [hg]; exact Nat.ne_of_lt (blk_lt (g := qG) (o := .cells #[.string (⟨#[]⟩ : ByteArray), .string (⟨#[]⟩ : ByteArray), .slice none 0 0, .string (⟨#[]⟩ : ByteArray), .int .u32 0, .int .i64 0, .int .u64 0, .int .u64 0, .bool false, .bool false, .bool false, .bool false] 26 (0, 0)) (by (with_reducible repeat (first | refine bN ?_ _ | refine bD ?_ | refine bA ?_ _)); exact qE.out)) : qG ≠ qA))
     have n10_ := M0 ((by rw [hg]; exact Nat.ne_of_gt (blk_lt (g := qG) (o := .cells #[.string (⟨#[]⟩ : ByteArray), .string (⟨#[]⟩ : ByteArray), .slice none 0 0, .string (⟨#[]⟩ : ByteArray), .int .u32 0, .int .i64 0, .int .u64 0, .int .u64 0, .bool false, .bool false, .bool false, .bool false] 26 (0, 0)) (by (with_reducible repeat (first | refine bN ?_ _ | refine bD ?_ | refine bA ?_ _)); exact qE.out)) : qA ≠ qG))
     clear qO
     clear qC
     clear qE
     clear HB
     have qO := n0_
     have qC := n1_
     have qE := n2_
     have HB := n3_
     have qF := n4_
     have GW109 := n5_
     have qP := n6_
     have qB := n7_
     have qL := n8_
     have qJ := n9_
     have qK := n10_
     clear n0_ n1_ n2_ n3_ n4_ n5_ n6_ n7_ n8_ n9_ n10_
     clear hb hbox hg
     refine hK.out _ _ ⟨(blk_cell qC.out 0).trans rfl, (blk_cell qC.out 1).trans rfl, (blk_cell qC.out 2).trans rfl, (blk_cell qC.out 3).trans rfl, (blk_cell qC.out 4).trans rfl, (blk_cell qC.out 5).trans rfl, (blk_cell qC.out 6).trans rfl, (blk_cell qC.out 7).trans rfl, (blk_cell qC.out 8).trans rfl, (blk_cell qC.out 9).trans rfl, (blk_cell qC.out 10).trans rfl, (blk_cell qC.out 11).trans rfl⟩ (fun hHeld => ?_)
     clear hK K
     refine norm_ (a' := ?_) ?_ ?_
     rotate_left
     ·show Act.put _ (some 3) _ = _
      simp only [Act.put, List.setIfInBounds_toArray, List.set_cons_zero, List.set_cons_succ, i64_w, i32_w]
      rfl
     exact norm_ (by simp only [putAll, Act.put, List.setIfInBounds_toArray, List.set_cons_zero, List.set_cons_succ]) (hCont (v104, .slice qb y106.length qc, qA) _ ⟨hHeld, (by (with_reducible repeat (first | apply rA | apply rN | apply rD)); exact qO.out), (by (with_reducible repeat (first | refine bN ?_ _ | refine bD ?_ | refine bA ?_ _)); exact qC.out), (by (with_reducible repeat (first | refine bN ?_ _ | refine bD ?_ | refine bA ?_ _)); exact qE.out), (by (with_reducible repeat (first | refine bN ?_ _ | refine bD ?_ | refine bA ?_ _)); exact qF.out), GW109.out, qP.out, qB.out, qL.out, qJ.out, qK.out, bBY1⟩)
    ·skip
     refine box_step ?hg (N := 3) ?hd (cs := #[.string (⟨#[]⟩ : ByteArray), .string (⟨#[]⟩ : ByteArray), .slice none 0 0, .string (⟨#[]⟩ : ByteArray), .int .u32 0, .int .i64 0, .int .u64 0, .int .u64 0, .bool false, .bool false, .bool false, .bool false]) (t := 26) ?hr ?_; (case hd => rfl); (case hg => rfl); (case hr => first | (go_simp; done) | (go_simp; rfl))
     intro qA hg w9 hbox hb
     have n0_ := M0 (Kd.R_below (by (with_reducible repeat (first | apply rA | apply rN | apply rD)); exact qQ.out) hb)
     have n1_ := M0 (blk_below (g := qD) (o := .cells #[.string a0_0, .string a0_1, .slice A0_2 l0_2.length c0_2, .string a0_3, .int .u32 a0_4, .int .i64 a0_5, .int .u64 a0_6, .int .u64 a0_7, .bool a0_8, .bool a0_9, .bool a0_10, .bool a0_11] 29 (0, 0)) (by (with_reducible repeat (first | refine bN ?_ _ | refine bD ?_ | refine bA ?_ _)); exact qC.out) hb)
     have n2_ := M0 (blk_below (g := qG) (o := .cells #[.string (⟨#[]⟩ : ByteArray), .string (⟨#[]⟩ : ByteArray), .slice none 0 0, .string (⟨#[]⟩ : ByteArray), .int .u32 0, .int .i64 0, .int .u64 0, .int .u64 0, .bool false, .bool false, .bool false, .bool false] 26 (0, 0)) (by (with_reducible repeat (first | refine bN ?_ _ | refine bD ?_ | refine bA ?_ _)); exact qE.out) hb)
     have n3_ := M0 (below_step bBY1 hb)
     have n4_ := M0 (hbox)
     have n5_ := M0 ((by rw [hg]; exact (below_size bBY1) : w.heap.size ≤ qA))
     have n6_ := M0 ((by rw [hg]; exact (below_size bBY1) : w.heap.size ≤ qA))
     have n7_ := M0 ((by rw [hg]; exact Nat.ne_of_lt (blk_lt (g := qD) (o := .cells #[.string a0_0, .string a0_1, .slice A0_2 l0_2.length c0_2, .string a0_3, .int .u32 a0_4, .int .i64 a0_5, .int .u64 a0_6, .int .u64 a0_7, .bool a0_8, .bool a0_9, .bool a0_10, .bool a0_11] 29 (0, 0)) (by (with_reducible repeat (first | refine bN ?_ _ | refine bD ?_ | refine bA ?_ _)); exact qC.out)) : qD ≠ qA))
     have n8_ := M0 ((by rw [hg]; exact Nat.ne_of_gt (blk_lt (g := qD) (o := .cells #[.string a0_0, .string a0_1, .slice A0_2 l0_2.length c0_2, .string a0_3, .int .u32 a0_4, .int .i64 a0_5, .int .u64 a0_6, .int .u64 a0_7, .bool a0_8, .bool a0_9, .bool a0_10, .bool a0_11] 29 (0, 0)) (by (with_reducible repeat (first | refine bN ?_ _ | refine bD ?_ | refine bA ?_ _)); exact qC.out)) : qA ≠ qD))
     have n9_ := M0 ((by rw [hg]; exact Nat.ne_of_lt (blk_lt (g := qG) (o := .cells #[.string (⟨#[]⟩ : ByteArray), .string (⟨#[]⟩ : ByteArray), .slice none 0 0, .string (⟨#[]⟩ : ByteArray), .int .u32 0, .int .i64 0, .int .u64 0, .int .u64 0, .bool false, .bool false, .bool false, .bool false] 26 (0, 0)) (by (with_reducible repeat (first | refine bN ?_ _ | refine bD ?_ | refine bA ?_ _)); exact qE.out)) : qG ≠ qA))
     have n10_ := M0 ((by rw [hg]; exact Nat.ne_of_gt (blk_lt (g := qG) (o := .cells #[.string (⟨#[]⟩ : ByteArray), .string (⟨#[]⟩ : ByteArray), .slice none 0 0, .string (⟨#[]⟩ : ByteArray), .int .u32 0, .int .i64 0, .int .u64 0, .int .u64 0, .bool false, .bool false, .bool false, .bool false] 26 (0, 0)) (by (with_reducible repeat (first | refine bN ?_ _ | refine bD ?_ | refine bA ?_ _)); exact qE.out)) : qA ≠ qG))
     clear qQ
     clear qC
     clear qE
     clear HB
     have qQ := n0_
     have qC := n1_
     have qE := n2_
     have HB := n3_
     have qF := n4_
     have GW109 := n5_
     have qP := n6_
     have qB := n7_
     have qL := n8_
     have qJ := n9_
     have qK := n10_
     clear n0_ n1_ n2_ n3_ n4_ n5_ n6_ n7_ n8_ n9_ n10_
     clear hb hbox hg
     refine hK.out _ _ ⟨(blk_cell qC.out 0).trans rfl, (blk_cell qC.out 1).trans rfl, (blk_cell qC.out 2).trans rfl, (blk_cell qC.out 3).trans rfl, (blk_cell qC.out 4).trans rfl, (blk_cell qC.out 5).trans rfl, (blk_cell qC.out 6).trans rfl, (blk_cell qC.out 7).trans rfl, (blk_cell qC.out 8).trans rfl, (blk_cell qC.out 9).trans rfl, (blk_cell qC.out 10).trans rfl, (blk_cell qC.out 11).trans rfl⟩ (fun hHeld => ?_)
     clear hK K
     refine norm_ (a' := ?_) ?_ ?_
     rotate_left
     ·show Act.put _ (some 3) _ = _
      simp only [Act.put, List.setIfInBounds_toArray, List.set_cons_zero, List.set_cons_succ, i64_w, i32_w]
      rfl
     refine one_ (i := 7) (N := some 11) #[true, true, true, true, true, true, true, true, true, true, true, true, true, true, true, true, true, true, true, true, true, true, true, true, true, true, false, true, false] rfl rfl (one_of HT_.out (by kernel_rfl)) (by decide) (fun K hK => ?_)
     refine Kd.R_append_rows_step Kd.string (w0 := w) w.heap.size (by rfl) (.tmp 8) (.tmp 10) 22 9 (.string ⟨#[]⟩) 16 rfl Tryz.underlying22 info9 rfl (by decide) (by omega) v104 y103 l0_2 _ _ _ (fun _ => True) (fun _ => False) rfl rfl ?aO ?aR (fun _ _ h => h) (fun _ h => h.elim) ?aF ?aB ?aS ?aL ?_
     (case aR => repeat (first | exact (Kd.C_below HR0_2.out HB.out) | (with_reducible refine Kd.C_alloc ?_ _) | (with_reducible refine Kd.C_drewN ?_ _) | (with_reducible refine Kd.C_drew ?_)))
     (case aB => exact bBY1)
     (case aF => exact (fun _ _ => trivial))
     (case aO => exact (by (with_reducible repeat (first | apply rA | apply rN | apply rD)); exact qQ.out))
     (case aS => exact (below_size bBY1))
     (case aL => have := qW.out; omega)
     intro v107 w10 ho hb hg hat
     rw [← qV.out] at ho
     have n0_ := M0 (blk_grown (g := qD) (o := .cells #[.string a0_0, .string a0_1, .slice A0_2 l0_2.length c0_2, .string a0_3, .int .u32 a0_4, .int .i64 a0_5, .int .u64 a0_6, .int .u64 a0_7, .bool a0_8, .bool a0_9, .bool a0_10, .bool a0_11] 29 (0, 0)) (by (with_reducible repeat (first | refine bN ?_ _ | refine bD ?_ | refine bA ?_ _)); exact qC.out) hg (Kd.R_ne qQ.out qC.out (by decide)))
     have n1_ := M0 (blk_grown (g := qG) (o := .cells #[.string (⟨#[]⟩ : ByteArray), .string (⟨#[]⟩ : ByteArray), .slice none 0 0, .string (⟨#[]⟩ : ByteArray), .int .u32 0, .int .i64 0, .int .u64 0, .int .u64 0, .bool false, .bool false, .bool false, .bool false] 26 (0, 0)) (by (with_reducible repeat (first | refine bN ?_ _ | refine bD ?_ | refine bA ?_ _)); exact qE.out) hg (Kd.R_ne qQ.out qE.out (by decide)))
     have n2_ := M0 (blk_grown (g := qA) (o := .cells #[.string (⟨#[]⟩ : ByteArray), .string (⟨#[]⟩ : ByteArray), .slice none 0 0, .string (⟨#[]⟩ : ByteArray), .int .u32 0, .int .i64 0, .int .u64 0, .int .u64 0, .bool false, .bool false, .bool false, .bool false] 26 (0, 0)) (by (with_reducible repeat (first | refine bN ?_ _ | refine bD ?_ | refine bA ?_ _)); exact qF.out) hg (Kd.R_ne qQ.out qF.out (by decide)))
     have n3_ := M0 (hb)
     have n4_ := M0 (ho)
     clear qC
     clear qE
     clear qF
     clear HB
     clear qQ
     have qC := n0_
     have qE := n1_
     have qF := n2_
     have HB := n3_
     have qO := n4_
     clear n0_ n1_ n2_ n3_ n4_
     clear ho hb hg hat
     obtain ⟨qX, qY, qU⟩ := Kd.R_slice qO.out
     (first | subst qU | (injection qU with f1_ f2_ f3_; have f4_ := f1_.symm; have f5_ := f3_.symm; clear f1_ f2_ f3_; subst f4_; subst f5_))
     refine hK.out _ _ ⟨(blk_cell qC.out 0).trans rfl, (blk_cell qC.out 1).trans rfl, (blk_cell qC.out 2).trans rfl, (blk_cell qC.out 3).trans rfl, (blk_cell qC.out 4).trans rfl, (blk_cell qC.out 5).trans rfl, (blk_cell qC.out 6).trans rfl, (blk_cell qC.out 7).trans rfl, (blk_cell qC.out 8).trans rfl, (blk_cell qC.out 9).trans rfl, (blk_cell qC.out 10).trans rfl, (blk_cell qC.out 11).trans rfl⟩ (fun hHeld => ?_)
     clear hK K
     refine norm_ (a' := ?_) ?_ ?_
     rotate_left
     ·show Act.put _ (some 11) _ = _
      simp only [Act.put, List.setIfInBounds_toArray, List.set_cons_zero, List.set_cons_succ, i64_w, i32_w]
      rfl
     refine pure_ (i := 26) (N := some 30) (v := ?_) (a' := ?_) #[true, true, true, true, true, true, true, true, true, true, true, true, true, true, true, true, true, true, true, true, true, true, true, true, true, true, true, true, false] rfl rfl (any_of HT_.out (by kernel_rfl)) (fun _ _ _ h => h) (Or.inl ⟨by rfl, ?_⟩) ?_ ?_
     rotate_left
     ·intro w'
      go_simp
      with_reducible rfl
     rotate_left
     ·simp only [Act.put, List.setIfInBounds_toArray, List.set_cons_zero, List.set_cons_succ, i64_w, i32_w]
      rfl
     exact norm_ (by simp only [putAll, Act.put, List.setIfInBounds_toArray, List.set_cons_zero, List.set_cons_succ]) (hCont (v104, .slice qX y106.length qY, qA) _ ⟨hHeld, (by (with_reducible repeat (first | apply rA | apply rN | apply rD)); exact qO.out), (by (with_reducible repeat (first | refine bN ?_ _ | refine bD ?_ | refine bA ?_ _)); exact qC.out), (by (with_reducible repeat (first | refine bN ?_ _ | refine bD ?_ | refine bA ?_ _)); exact qE.out), (by (with_reducible repeat (first | refine bN ?_ _ | refine bD ?_ | refine bA ?_ _)); exact qF.out), GW109.out, qP.out, qB.out, qL.out, qJ.out, qK.out, bBY1⟩)
   ·skip
    refine box_step ?hg (N := 3) ?hd (cs := #[.string (⟨#[]⟩ : ByteArray), .string (⟨#[]⟩ : ByteArray), .slice none 0 0, .string (⟨#[]⟩ : ByteArray), .int .u32 0, .int .i64 0, .int .u64 0, .int .u64 0, .bool false, .bool false, .bool false, .bool false]) (t := 26) ?hr ?_; (case hd => rfl); (case hg => rfl); (case hr => first | (go_simp; done) | (go_simp; rfl))
    intro qA hg w7 hbox hb
    have n0_ := M0 (blk_below (g := qD) (o := .cells #[.string a0_0, .string a0_1, .slice A0_2 l0_2.length c0_2, .string a0_3, .int .u32 a0_4, .int .i64 a0_5, .int .u64 a0_6, .int .u64 a0_7, .bool a0_8, .bool a0_9, .bool a0_10, .bool a0_11] 29 (0, 0)) (by (with_reducible repeat (first | refine bN ?_ _ | refine bD ?_ | refine bA ?_ _)); exact qC.out) hb)
    have n1_ := M0 (blk_below (g := qG) (o := .cells #[.string (⟨#[]⟩ : ByteArray), .string (⟨#[]⟩ : ByteArray), .slice none 0 0, .string (⟨#[]⟩ : ByteArray), .int .u32 0, .int .i64 0, .int .u64 0, .int .u64 0, .bool false, .bool false, .bool false, .bool false] 26 (0, 0)) (by (with_reducible repeat (first | refine bN ?_ _ | refine bD ?_ | refine bA ?_ _)); exact qE.out) hb)
    have n2_ := M0 (below_step bBY1 hb)
    have n3_ := M0 (hbox)
    have n4_ := M0 ((by rw [hg]; exact (below_size bBY1) : w.heap.size ≤ qA))
    have n5_ := M0 ((by rw [hg]; exact (below_size bBY1) : w.heap.size ≤ qA))
    have n6_ := M0 ((by rw [hg]; exact Nat.ne_of_lt (blk_lt (g := qD) (o := .cells #[.string a0_0, .string a0_1, .slice A0_2 l0_2.length c0_2, .string a0_3, .int .u32 a0_4, .int .i64 a0_5, .int .u64 a0_6, .int .u64 a0_7, .bool a0_8, .bool a0_9, .bool a0_10, .bool a0_11] 29 (0, 0)) (by (with_reducible repeat (first | refine bN ?_ _ | refine bD ?_ | refine bA ?_ _)); exact qC.out)) : qD ≠ qA))
    have n7_ := M0 ((by rw [hg]; exact Nat.ne_of_gt (blk_lt (g := qD) (o := .cells #[.string a0_0, .string a0_1, .slice A0_2 l0_2.length c0_2, .string a0_3, .int .u32 a0_4, .int .i64 a0_5, .int .u64 a0_6, .int .u64 a0_7, .bool a0_8, .bool a0_9, .bool a0_10, .bool a0_11] 29 (0, 0)) (by (with_reducible repeat (first | refine bN ?_ _ | refine bD ?_ | refine bA ?_ _)); exact qC.out)) : qA ≠ qD))
    have n8_ := M0 ((by rw [hg]; exact Nat.ne_of_lt (blk_lt (g := qG) (o := .cells #[.string (⟨#[]⟩ : ByteArray), .string (⟨#[]⟩ : ByteArray), .slice none 0 0, .string (⟨#[]⟩ : ByteArray), .int .u32 0, .int .i64 0, .int .u64 0, .int .u64 0, .bool false, .bool false, .bool false, .bool false] 26 (0, 0)) (by (with_reducible repeat (first | refine bN ?_ _ | refine bD ?_ | refine bA ?_ _)); exact qE.out)) : qG ≠ qA))
    have n9_ := M0 ((by rw [hg]; exact Nat.ne_of_gt (blk_lt (g := qG) (o := .cells #[.string (⟨#[]⟩ : ByteArray), .string (⟨#[]⟩ : ByteArray), .slice none 0 0, .string (⟨#[]⟩ : ByteArray), .int .u32 0, .int .i64 0, .int .u64 0, .int .u64 0, .bool false, .bool false, .bool false, .bool false] 26 (0, 0)) (by (with_reducible repeat (first | refine bN ?_ _ | refine bD ?_ | refine bA ?_ _)); exact qE.out)) : qA ≠ qG))
    clear qC
    clear qE
    clear HB
    have qC := n0_
    have qE := n1_
    have HB := n2_
    have qF := n3_
    have GW109 := n4_
    have qP := n5_
    have qB := n6_
    have qL := n7_
    have qJ := n8_
    have qK := n9_
    clear n0_ n1_ n2_ n3_ n4_ n5_ n6_ n7_ n8_ n9_
    clear hb hbox hg
    refine hK.out _ _ ⟨(blk_cell qC.out 0).trans rfl, (blk_cell qC.out 1).trans rfl, (blk_cell qC.out 2).trans rfl, (blk_cell qC.out 3).trans rfl, (blk_cell qC.out 4).trans rfl, (blk_cell qC.out 5).trans rfl, (blk_cell qC.out 6).trans rfl, (blk_cell qC.out 7).trans rfl, (blk_cell qC.out 8).trans rfl, (blk_cell qC.out 9).trans rfl, (blk_cell qC.out 10).trans rfl, (blk_cell qC.out 11).trans rfl⟩ (fun hHeld => ?_)
    clear hK K
    refine norm_ (a' := ?_) ?_ ?_
    rotate_left
    ·show Act.put _ (some 3) _ = _
     simp only [Act.put, List.setIfInBounds_toArray, List.set_cons_zero, List.set_cons_succ, i64_w, i32_w]
     rfl
    refine one_ (i := 4) (N := some 8) #[true, true, true, true, true, true, true, false, true, true, true, true, true, true, true, true, true, true, true, true, true, true, true, true, true, true, false, true, false] rfl rfl (one_of HT_.out (by kernel_rfl)) (by decide) (fun K hK => ?_)
    refine Kd.R_lit_step Kd.string _ 9 ?hg (N := 8) ?hd (xs := ([] : List ByteArray)) (inner := []) (ok := fun _ => True) (okp := fun _ => True) ?hr ?hp (fun _ hk => hk) trivial (Below.refl _ _) (Nat.le_refl _) (by simp) ?_; (case hd => rfl); (case hg => rfl); (case hr => first | (go_simp; done) | (go_simp; rfl)); (case hp => exact (Reps.none _ _))
    intro v104 w8 ho9 hb hg_ hnew_
    clear hg_ hnew_
    (first | rw [← qT.out] at ho9 | (simp only [Int.reduceToNat] at ho9; rw [← qT.out] at ho9))
    have n0_ := M0 (Kd.R_lower ho9 (below_size bBY1))
    have n1_ := M0 (blk_below (g := qD) (o := .cells #[.string a0_0, .string a0_1, .slice A0_2 l0_2.length c0_2, .string a0_3, .int .u32 a0_4, .int .i64 a0_5, .int .u64 a0_6, .int .u64 a0_7, .bool a0_8, .bool a0_9, .bool a0_10, .bool a0_11] 29 (0, 0)) (by (with_reducible repeat (first | refine bN ?_ _ | refine bD ?_ | refine bA ?_ _)); exact qC.out) hb)
    have n2_ := M0 (blk_below (g := qG) (o := .cells #[.string (⟨#[]⟩ : ByteArray), .string (⟨#[]⟩ : ByteArray), .slice none 0 0, .string (⟨#[]⟩ : ByteArray), .int .u32 0, .int .i64 0, .int .u64 0, .int .u64 0, .bool false, .bool false, .bool false, .bool false] 26 (0, 0)) (by (with_reducible repeat (first | refine bN ?_ _ | refine bD ?_ | refine bA ?_ _)); exact qE.out) hb)
    have n3_ := M0 (blk_below (g := qA) (o := .cells #[.string (⟨#[]⟩ : ByteArray), .string (⟨#[]⟩ : ByteArray), .slice none 0 0, .string (⟨#[]⟩ : ByteArray), .int .u32 0, .int .i64 0, .int .u64 0, .int .u64 0, .bool false, .bool false, .bool false, .bool false] 26 (0, 0)) (by (with_reducible repeat (first | refine bN ?_ _ | refine bD ?_ | refine bA ?_ _)); exact qF.out) hb)
    have n4_ := M0 (below_step bBY1 hb)
    clear qC
    clear qE
    clear qF
    clear HB
    have qQ := n0_
    have qC := n1_
    have qE := n2_
    have qF := n3_
    have HB := n4_
    clear n0_ n1_ n2_ n3_ n4_
    clear hb ho9
    refine hK.out _ _ ⟨(blk_cell qC.out 0).trans rfl, (blk_cell qC.out 1).trans rfl, (blk_cell qC.out 2).trans rfl, (blk_cell qC.out 3).trans rfl, (blk_cell qC.out 4).trans rfl, (blk_cell qC.out 5).trans rfl, (blk_cell qC.out 6).trans rfl, (blk_cell qC.out 7).trans rfl, (blk_cell qC.out 8).trans rfl, (blk_cell qC.out 9).trans rfl, (blk_cell qC.out 10).trans rfl, (blk_cell qC.out 11).trans rfl⟩ (fun hHeld => ?_)
    clear hK K
    refine norm_ (a' := ?_) ?_ ?_
    rotate_left
    ·show Act.put _ (some 8) _ = _
     simp only [Act.put, List.setIfInBounds_toArray, List.set_cons_zero, List.set_cons_succ, i64_w, i32_w]
     rfl
    refine one_ (i := 7) (N := some 11) #[true, true, true, true, true, true, true, true, true, true, true, true, true, true, true, true, true, true, true, true, true, true, true, true, true, true, false, true, false] rfl rfl (one_of HT_.out (by kernel_rfl)) (by decide) (fun K hK => ?_)
    refine Kd.R_append_rows_step Kd.string (w0 := w) w.heap.size (by rfl) (.tmp 8) (.tmp 10) 22 9 (.string ⟨#[]⟩) 16 rfl Tryz.underlying22 info9 rfl (by decide) (by omega) v104 y103 l0_2 _ _ _ (fun _ => True) (fun _ => False) rfl rfl ?aO ?aR (fun _ _ h => h) (fun _ h => h.elim) ?aF ?aB ?aS ?aL ?_
    (case aR => repeat (first | exact (Kd.C_below HR0_2.out HB.out) | (with_reducible refine Kd.C_alloc ?_ _) | (with_reducible refine Kd.C_drewN ?_ _) | (with_reducible refine Kd.C_drew ?_)))
    (case aB => exact bBY1)
    (case aF => exact (fun _ _ => trivial))
    (case aO => exact (by (with_reducible repeat (first | apply rA | apply rN | apply rD)); exact qQ.out))
    (case aS => exact (below_size bBY1))
    (case aL => have := qW.out; omega)
    intro v107 w10 ho hb hg hat
    rw [← qV.out] at ho
    have n0_ := M0 (blk_grown (g := qD) (o := .cells #[.string a0_0, .string a0_1, .slice A0_2 l0_2.length c0_2, .string a0_3, .int .u32 a0_4, .int .i64 a0_5, .int .u64 a0_6, .int .u64 a0_7, .bool a0_8, .bool a0_9, .bool a0_10, .bool a0_11] 29 (0, 0)) (by (with_reducible repeat (first | refine bN ?_ _ | refine bD ?_ | refine bA ?_ _)); exact qC.out) hg (Kd.R_ne qQ.out qC.out (by decide)))
    have n1_ := M0 (blk_grown (g := qG) (o := .cells #[.string (⟨#[]⟩ : ByteArray), .string (⟨#[]⟩ : ByteArray), .slice none 0 0, .string (⟨#[]⟩ : ByteArray), .int .u32 0, .int .i64 0, .int .u64 0, .int .u64 0, .bool false, .bool false, .bool false, .bool false] 26 (0, 0)) (by (with_reducible repeat (first | refine bN ?_ _ | refine bD ?_ | refine bA ?_ _)); exact qE.out) hg (Kd.R_ne qQ.out qE.out (by decide)))
    have n2_ := M0 (blk_grown (g := qA) (o := .cells #[.string (⟨#[]⟩ : ByteArray), .string (⟨#[]⟩ : ByteArray), .slice none 0 0, .string (⟨#[]⟩ : ByteArray), .int .u32 0, .int .i64 0, .int .u64 0, .int .u64 0, .bool false, .bool false, .bool false, .bool false] 26 (0, 0)) (by (with_reducible repeat (first | refine bN ?_ _ | refine bD ?_ | refine bA ?_ _)); exact qF.out) hg (Kd.R_ne qQ.out qF.out (by decide)))
    have n3_ := M0 (hb)
    have n4_ := M0 (ho)
    clear qC
    clear qE
    clear qF
    clear HB
    clear qQ
    have qC := n0_
    have qE := n1_
    have qF := n2_
    have HB := n3_
    have qO := n4_
    clear n0_ n1_ n2_ n3_ n4_
    clear ho hb hg hat
    obtain ⟨qX, qY, qU⟩ := Kd.R_slice qO.out
    (first | subst qU | (injection qU with f1_ f2_ f3_; have f4_ := f1_.symm; have f5_ := f3_.symm; clear f1_ f2_ f3_; subst f4_; subst f5_))
    refine hK.out _ _ ⟨(blk_cell qC.out 0).trans rfl, (blk_cell qC.out 1).trans rfl, (blk_cell qC.out 2).trans rfl, (blk_cell qC.out 3).trans rfl, (blk_cell qC.out 4).trans rfl, (blk_cell qC.out 5).trans rfl, (blk_cell qC.out 6).trans rfl, (blk_cell qC.out 7).trans rfl, (blk_cell qC.out 8).trans rfl, (blk_cell qC.out 9).trans rfl, (blk_cell qC.out 10).trans rfl, (blk_cell qC.out 11).trans rfl⟩ (fun hHeld => ?_)
    clear hK K
    refine norm_ (a' := ?_) ?_ ?_
    rotate_left
    ·show Act.put _ (some 11) _ = _
     simp only [Act.put, List.setIfInBounds_toArray, List.set_cons_zero, List.set_cons_succ, i64_w, i32_w]
     rfl
    refine pure_ (i := 26) (N := some 30) (v := ?_) (a' := ?_) #[true, true, true, true, true, true, true, true, true, true, true, true, true, true, true, true, true, true, true, true, true, true, true, true, true, true, true, true, false] rfl rfl (any_of HT_.out (by kernel_rfl)) (fun _ _ _ h => h) (Or.inl ⟨by rfl, ?_⟩) ?_ ?_
    rotate_left
    ·intro w'
     go_simp
     with_reducible rfl
    rotate_left
    ·simp only [Act.put, List.setIfInBounds_toArray, List.set_cons_zero, List.set_cons_succ, i64_w, i32_w]
     rfl
    exact norm_ (by simp only [putAll, Act.put, List.setIfInBounds_toArray, List.set_cons_zero, List.set_cons_succ]) (hCont (v104, .slice qX y106.length qY, qA) _ ⟨hHeld, (by (with_reducible repeat (first | apply rA | apply rN | apply rD)); exact qO.out), (by (with_reducible repeat (first | refine bN ?_ _ | refine bD ?_ | refine bA ?_ _)); exact qC.out), (by (with_reducible repeat (first | refine bN ?_ _ | refine bD ?_ | refine bA ?_ _)); exact qE.out), (by (with_reducible repeat (first | refine bN ?_ _ | refine bD ?_ | refine bA ?_ _)); exact qF.out), GW109.out, qP.out, qB.out, qL.out, qJ.out, qK.out, bBY1⟩)
  rintro ⟨v104, v107, qA⟩ w12 ⟨hS_, h0_, h1_, h2_, h3_, h4_, h5_, h6_, h7_, h8_, h9_, h10_⟩
  have n0_ : Aside0 (Kd.R Kd.string 9 w12 w.heap.size (fun _ => True) v107 y106) := ⟨h0_⟩
  have n1_ : Aside0 (w12.heap[qD]? = some (.cells #[.string a0_0, .string a0_1, .slice A0_2 l0_2.length c0_2, .string a0_3, .int .u32 a0_4, .int .i64 a0_5, .int .u64 a0_6, .int .u64 a0_7, .bool a0_8, .bool a0_9, .bool a0_10, .bool a0_11] 29 (0, 0))) := ⟨h1_⟩
  have n2_ : Aside0 (w12.heap[qG]? = some (.cells #[.string (⟨#[]⟩ : ByteArray), .string (⟨#[]⟩ : ByteArray), .slice none 0 0, .string (⟨#[]⟩ : ByteArray), .int .u32 0, .int .i64 0, .int .u64 0, .int .u64 0, .bool false, .bool false, .bool false, .bool false] 26 (0, 0))) := ⟨h2_⟩
  have n3_ : Aside0 (w12.heap[qA]? = some (.cells #[.string (⟨#[]⟩ : ByteArray), .string (⟨#[]⟩ : ByteArray), .slice none 0 0, .string (⟨#[]⟩ : ByteArray), .int .u32 0, .int .i64 0, .int .u64 0, .int .u64 0, .bool false, .bool false, .bool false, .bool false] 26 (0, 0))) := ⟨h3_⟩
  have n4_ : Aside0 (w.heap.size ≤ qA) := ⟨h4_⟩
  have n5_ : Aside0 (w.heap.size ≤ qA) := ⟨h5_⟩
  have n6_ : Aside0 (qD ≠ qA) := ⟨h6_⟩
  have n7_ : Aside0 (qA ≠ qD) := ⟨h7_⟩
  have n8_ : Aside0 (qG ≠ qA) := ⟨h8_⟩
  have n9_ : Aside0 (qA ≠ qG) := ⟨h9_⟩
  have n10_ : Aside0 (Below w.heap.size w w12) := ⟨h10_⟩
  clear qC
  clear qE
  clear HB
  clear h0_ h1_ h2_ h3_ h4_ h5_ h6_ h7_ h8_ h9_ h10_
  have qO := n0_
  have qC := n1_
  have qE := n2_
  have qF := n3_
  have GW109 := n4_
  have qP := n5_
  have qB := n6_
  have qL := n7_
  have qJ := n8_
  have qK := n9_
  have HB := n10_
  clear n0_ n1_ n2_ n3_ n4_ n5_ n6_ n7_ n8_ n9_ n10_
  have hHeld : w12.cell? ⟨qD, 0, none⟩ = some (.string a0_0) ∧ w12.cell? ⟨qD, 1, none⟩ = some (.string a0_1) ∧ w12.cell? ⟨qD, 2, none⟩ = some (.slice A0_2 l0_2.length c0_2) ∧ w12.cell? ⟨qD, 3, none⟩ = some (.string a0_3) ∧ w12.cell? ⟨qD, 4, none⟩ = some (.int .u32 a0_4) ∧ w12.cell? ⟨qD, 5, none⟩ = some (.int .i64 a0_5) ∧ w12.cell? ⟨qD, 6, none⟩ = some (.int .u64 a0_6) ∧ w12.cell? ⟨qD, 7, none⟩ = some (.int .u64 a0_7) ∧ w12.cell? ⟨qD, 8, none⟩ = some (.bool a0_8) ∧ w12.cell? ⟨qD, 9, none⟩ = some (.bool a0_9) ∧ w12.cell? ⟨qD, 10, none⟩ = some (.bool a0_10) ∧ w12.cell? ⟨qD, 11, none⟩ = some (.bool a0_11) := hS_
  obtain ⟨qH, qI, qa⟩ := Kd.R_slice qO.out
  (first | subst qa | (injection qa with f1_ f2_ f3_; have f4_ := f1_.symm; have f5_ := f3_.symm; clear f1_ f2_ f3_; subst f4_; subst f5_))
  refine norm_ (a' := ?_) ?_ ?_
  rotate_left
  ·simp only [putAll, Act.put, List.setIfInBounds_toArray, List.set_cons_zero, List.set_cons_succ]
   rfl
  refine one_ (i := 28) (N := none) #[true, true, true, true, true, true, true, true, true, true, true, true, true, true, true, true, true, true, true, true, true, true, true, true, true, true, true, true, true] rfl rfl (one_of HT_.out (by kernel_rfl)) (by decide) (fun K hK => ?_)
  have hs14 : w12.cell? ⟨qA, 0, none⟩ = some (.string (⟨#[]⟩ : ByteArray)) := (blk_cell qF.out 0).trans rfl
  have qCp := blk_frozen qF.out 0
  have qx := qB.out
  have qy := qJ.out
  have qz := qL.out
  have qAA := qK.out
  have hs15 : w12.cell? ⟨qA, 1, none⟩ = some (.string (⟨#[]⟩ : ByteArray)) := (blk_cell qF.out 1).trans rfl
  have qCq := blk_frozen qF.out 1
  have qAB := qB.out
  have qAC := qJ.out
  have qAD := qL.out
  have qAE := qK.out
  have hs16 : w12.cell? ⟨qA, 2, none⟩ = some (.slice none 0 0) := (blk_cell qF.out 2).trans rfl
  have qCr := blk_frozen qF.out 2
  have qAF := qB.out
  have qAG := qJ.out
  have qAH := qL.out
  have qAI := qK.out
  have hs17 : w12.cell? ⟨qA, 3, none⟩ = some (.string (⟨#[]⟩ : ByteArray)) := (blk_cell qF.out 3).trans rfl
  have qCs := blk_frozen qF.out 3
  have qAJ := qB.out
  have qAK := qJ.out
  have qAL := qL.out
  have qAM := qK.out
  have hs18 : w12.cell? ⟨qA, 4, none⟩ = some (.int .u32 0) := (blk_cell qF.out 4).trans rfl
  have qCt := blk_frozen qF.out 4
  have qAN := qB.out
  have qAO := qJ.out
  have qAP := qL.out
  have qAQ := qK.out
  have hs19 : w12.cell? ⟨qA, 5, none⟩ = some (.int .i64 0) := (blk_cell qF.out 5).trans rfl
  have qCu := blk_frozen qF.out 5
  have qAR := qB.out
  have qAS := qJ.out
  have qAT := qL.out
  have qAU := qK.out
  have hs20 : w12.cell? ⟨qA, 6, none⟩ = some (.int .u64 0) := (blk_cell qF.out 6).trans rfl
  have qCv := blk_frozen qF.out 6
  have qAV := qB.out
  have qAW := qJ.out
  have qAX := qL.out
  have qAY := qK.out
  have hs21 : w12.cell? ⟨qA, 7, none⟩ = some (.int .u64 0) := (blk_cell qF.out 7).trans rfl
  have qCw := blk_frozen qF.out 7
  have qAZ := qB.out
  have qAa := qJ.out
  have qAb := qL.out
  have qAc := qK.out
  have hs22 : w12.cell? ⟨qA, 8, none⟩ = some (.bool false) := (blk_cell qF.out 8).trans rfl
  have qCx := blk_frozen qF.out 8
  have qAd := qB.out
  have qAe := qJ.out
  have qAf := qL.out
  have qAg := qK.out
  have hs23 : w12.cell? ⟨qA, 9, none⟩ = some (.bool false) := (blk_cell qF.out 9).trans rfl
  have qCy := blk_frozen qF.out 9
  have qAh := qB.out
  have qAi := qJ.out
  have qAj := qL.out
  have qAk := qK.out
  have hs24 : w12.cell? ⟨qA, 10, none⟩ = some (.bool false) := (blk_cell qF.out 10).trans rfl
  have qCz := blk_frozen qF.out 10
  have qAl := qB.out
  have qAm := qJ.out
  have qAn := qL.out
  have qAo := qK.out
  have hs25 : w12.cell? ⟨qA, 11, none⟩ = some (.bool false) := (blk_cell qF.out 11).trans rfl
  have qDA := blk_frozen qF.out 11
  have qAp := qB.out
  have qAq := qJ.out
  have qAr := qL.out
  have qAs := qK.out
  refine skip_ (w1 := ?_) (by rfl) rfl ?_ ?_
  rotate_left
  ·go_simp
   rfl
  refine hK.out _ _ ⟨((cell_far (p := ⟨qA, _, none⟩) qB.out _).trans (((cell_far (p := ⟨qA, _, none⟩) qB.out _).trans (((cell_far (p := ⟨qA, _, none⟩) qB.out _).trans (((cell_far (p := ⟨qA, _, none⟩) qB.out _).trans (((cell_far (p := ⟨qA, _, none⟩) qB.out _).trans (((cell_far (p := ⟨qA, _, none⟩) qB.out _).trans (((cell_far (p := ⟨qA, _, none⟩) qB.out _).trans (((cell_far (p := ⟨qA, _, none⟩) qB.out _).trans (((cell_far (p := ⟨qA, _, none⟩) qB.out _).trans (((cell_far (p := ⟨qA, _, none⟩) qB.out _).trans (((cell_far (p := ⟨qA, _, none⟩) qB.out _).trans (((cell_far (p := ⟨qA, _, none⟩) qB.out _).trans (hHeld.1)))))))))))))))))))))))), ((cell_far (p := ⟨qA, _, none⟩) qB.out _).trans (((cell_far (p := ⟨qA, _, none⟩) qB.out _).trans (((cell_far (p := ⟨qA, _, none⟩) qB.out _).trans (((cell_far (p := ⟨qA, _, none⟩) qB.out _).trans (((cell_far (p := ⟨qA, _, none⟩) qB.out _).trans (((cell_far (p := ⟨qA, _, none⟩) qB.out _).trans (((cell_far (p := ⟨qA, _, none⟩) qB.out _).trans (((cell_far (p := ⟨qA, _, none⟩) qB.out _).trans (((cell_far (p := ⟨qA, _, none⟩) qB.out _).trans (((cell_far (p := ⟨qA, _, none⟩) qB.out _).trans (((cell_far (p := ⟨qA, _, none⟩) qB.out _).trans (((cell_far (p := ⟨qA, _, none⟩) qB.out _).trans (hHeld.2.1)))))))))))))))))))))))), ((cell_far (p := ⟨qA, _, none⟩) qB.out _).trans (((cell_far (p := ⟨qA, _, none⟩) qB.out _).trans (((cell_far (p := ⟨qA, _, none⟩) qB.out _).trans (((cell_far (p := ⟨qA, _, none⟩) qB.out _).trans (((cell_far (p := ⟨qA, _, none⟩) qB.out _).trans (((cell_far (p := ⟨qA, _, none⟩) qB.out _).trans (((cell_far (p := ⟨qA, _, none⟩) qB.out _).trans (((cell_far (p := ⟨qA, _, none⟩) qB.out _).trans (((cell_far (p := ⟨qA, _, none⟩) qB.out _).trans (((cell_far (p := ⟨qA, _, none⟩) qB.out _).trans (((cell_far (p := ⟨qA, _, none⟩) qB.out _).trans (((cell_far (p := ⟨qA, _, none⟩) qB.out _).trans (hHeld.2.2.1)))))))))))))))))))))))), ((cell_far (p := ⟨qA, _, none⟩) qB.out _).trans (((cell_far (p := ⟨qA, _, none⟩) qB.out _).trans (((cell_far (p := ⟨qA, _, none⟩) qB.out _).trans (((cell_far (p := ⟨qA, _, none⟩) qB.out _).trans (((cell_far (p := ⟨qA, _, none⟩) qB.out _).trans (((cell_far (p := ⟨qA, _, none⟩) qB.out _).trans (((cell_far (p := ⟨qA, _, none⟩) qB.out _).trans (((cell_far (p := ⟨qA, _, none⟩) qB.out _).trans (((cell_far (p := ⟨qA, _, none⟩) qB.out _).trans (((cell_far (p := ⟨qA, _, none⟩) qB.out _).trans (((cell_far (p := ⟨qA, _, none⟩) qB.out _).trans (((cell_far (p := ⟨qA, _, none⟩) qB.out _).trans (hHeld.2.2.2.1)))))))))))))))))))))))), ((cell_far (p := ⟨qA, _, none⟩) qB.out _).trans (((cell_far (p := ⟨qA, _, none⟩) qB.out _).trans (((cell_far (p := ⟨qA, _, none⟩) qB.out _).trans (((cell_far (p := ⟨qA, _, none⟩) qB.out _).trans (((cell_far (p := ⟨qA, _, none⟩) qB.out _).trans (((cell_far (p := ⟨qA, _, none⟩) qB.out _).trans (((cell_far (p := ⟨qA, _, none⟩) qB.out _).trans (((cell_far (p := ⟨qA, _, none⟩) qB.out _).trans (((cell_far (p := ⟨qA, _, none⟩) qB.out _).trans (((cell_far (p := ⟨qA, _, none⟩) qB.out _).trans (((cell_far (p := ⟨qA, _, none⟩) qB.out _).trans (((cell_far (p := ⟨qA, _, none⟩) qB.out _).trans (hHeld.2.2.2.2.1)))))))))))))))))))))))), ((cell_far (p := ⟨qA, _, none⟩) qB.out _).trans (((cell_far (p := ⟨qA, _, none⟩) qB.out _).trans (((cell_far (p := ⟨qA, _, none⟩) qB.out _).trans (((cell_far (p := ⟨qA, _, none⟩) qB.out _).trans (((cell_far (p := ⟨qA, _, none⟩) qB.out _).trans (((cell_far (p := ⟨qA, _, none⟩) qB.out _).trans (((cell_far (p := ⟨qA, _, none⟩) qB.out _).trans (((cell_far (p := ⟨qA, _, none⟩) qB.out _).trans (((cell_far (p := ⟨qA, _, none⟩) qB.out _).trans (((cell_far (p := ⟨qA, _, none⟩) qB.out _).trans (((cell_far (p := ⟨qA, _, none⟩) qB.out _).trans (((cell_far (p := ⟨qA, _, none⟩) qB.out _).trans (hHeld.2.2.2.2.2.1)))))))))))))))))))))))), ((cell_far (p := ⟨qA, _, none⟩) qB.out _).trans (((cell_far (p := ⟨qA, _, none⟩) qB.out _).trans (((cell_far (p := ⟨qA, _, none⟩) qB.out _).trans (((cell_far (p := ⟨qA, _, none⟩) qB.out _).trans (((cell_far (p := ⟨qA, _, none⟩) qB.out _).trans (((cell_far (p := ⟨qA, _, none⟩) qB.out _).trans (((cell_far (p := ⟨qA, _, none⟩) qB.out _).trans (((cell_far (p := ⟨qA, _, none⟩) qB.out _).trans (((cell_far (p := ⟨qA, _, none⟩) qB.out _).trans (((cell_far (p := ⟨qA, _, none⟩) qB.out _).trans (((cell_far (p := ⟨qA, _, none⟩) qB.out _).trans (((cell_far (p := ⟨qA, _, none⟩) qB.out _).trans (hHeld.2.2.2.2.2.2.1)))))))))))))))))))))))), ((cell_far (p := ⟨qA, _, none⟩) qB.out _).trans (((cell_far (p := ⟨qA, _, none⟩) qB.out _).trans (((cell_far (p := ⟨qA, _, none⟩) qB.out _).trans (((cell_far (p := ⟨qA, _, none⟩) qB.out _).trans (((cell_far (p := ⟨qA, _, none⟩) qB.out _).trans (((cell_far (p := ⟨qA, _, none⟩) qB.out _).trans (((cell_far (p := ⟨qA, _, none⟩) qB.out _).trans (((cell_far (p := ⟨qA, _, none⟩) qB.out _).trans (((cell_far (p := ⟨qA, _, none⟩) qB.out _).trans (((cell_far (p := ⟨qA, _, none⟩) qB.out _).trans (((cell_far (p := ⟨qA, _, none⟩) qB.out _).trans (((cell_far (p := ⟨qA, _, none⟩) qB.out _).trans (hHeld.2.2.2.2.2.2.2.1)))))))))))))))))))))))), ((cell_far (p := ⟨qA, _, none⟩) qB.out _).trans (((cell_far (p := ⟨qA, _, none⟩) qB.out _).trans (((cell_far (p := ⟨qA, _, none⟩) qB.out _).trans (((cell_far (p := ⟨qA, _, none⟩) qB.out _).trans (((cell_far (p := ⟨qA, _, none⟩) qB.out _).trans (((cell_far (p := ⟨qA, _, none⟩) qB.out _).trans (((cell_far (p := ⟨qA, _, none⟩) qB.out _).trans (((cell_far (p := ⟨qA, _, none⟩) qB.out _).trans (((cell_far (p := ⟨qA, _, none⟩) qB.out _).trans (((cell_far (p := ⟨qA, _, none⟩) qB.out _).trans (((cell_far (p := ⟨qA, _, none⟩) qB.out _).trans (((cell_far (p := ⟨qA, _, none⟩) qB.out _).trans (hHeld.2.2.2.2.2.2.2.2.1)))))))))))))))))))))))), ((cell_far (p := ⟨qA, _, none⟩) qB.out _).trans (((cell_far (p := ⟨qA, _, none⟩) qB.out _).trans (((cell_far (p := ⟨qA, _, none⟩) qB.out _).trans (((cell_far (p := ⟨qA, _, none⟩) qB.out _).trans (((cell_far (p := ⟨qA, _, none⟩) qB.out _).trans (((cell_far (p := ⟨qA, _, none⟩) qB.out _).trans (((cell_far (p := ⟨qA, _, none⟩) qB.out _).trans (((cell_far (p := ⟨qA, _, none⟩) qB.out _).trans (((cell_far (p := ⟨qA, _, none⟩) qB.out _).trans (((cell_far (p := ⟨qA, _, none⟩) qB.out _).trans (((cell_far (p := ⟨qA, _, none⟩) qB.out _).trans (((cell_far (p := ⟨qA, _, none⟩) qB.out _).trans (hHeld.2.2.2.2.2.2.2.2.2.1)))))))))))))))))))))))), ((cell_far (p := ⟨qA, _, none⟩) qB.out _).trans (((cell_far (p := ⟨qA, _, none⟩) qB.out _).trans (((cell_far (p := ⟨qA, _, none⟩) qB.out _).trans (((cell_far (p := ⟨qA, _, none⟩) qB.out _).trans (((cell_far (p := ⟨qA, _, none⟩) qB.out _).trans (((cell_far (p := ⟨qA, _, none⟩) qB.out _).trans (((cell_far (p := ⟨qA, _, none⟩) qB.out _).trans (((cell_far (p := ⟨qA, _, none⟩) qB.out _).trans (((cell_far (p := ⟨qA, _, none⟩) qB.out _).trans (((cell_far (p := ⟨qA, _, none⟩) qB.out _).trans (((cell_far (p := ⟨qA, _, none⟩) qB.out _).trans (((cell_far (p := ⟨qA, _, none⟩) qB.out _).trans (hHeld.2.2.2.2.2.2.2.2.2.2.1)))))))))))))))))))))))), ((cell_far (p := ⟨qA, _, none⟩) qB.out _).trans (((cell_far (p := ⟨qA, _, none⟩) qB.out _).trans (((cell_far (p := ⟨qA, _, none⟩) qB.out _).trans (((cell_far (p := ⟨qA, _, none⟩) qB.out _).trans (((cell_far (p := ⟨qA, _, none⟩) qB.out _).trans (((cell_far (p := ⟨qA, _, none⟩) qB.out _).trans (((cell_far (p := ⟨qA, _, none⟩) qB.out _).trans (((cell_far (p := ⟨qA, _, none⟩) qB.out _).trans (((cell_far (p := ⟨qA, _, none⟩) qB.out _).trans (((cell_far (p := ⟨qA, _, none⟩) qB.out _).trans (((cell_far (p := ⟨qA, _, none⟩) qB.out _).trans (((cell_far (p := ⟨qA, _, none⟩) qB.out _).trans (hHeld.2.2.2.2.2.2.2.2.2.2.2))))))))))))))))))))))))⟩ (fun hHeld => ?_)
  clear hK K
  refine done_ (done_of HT_.out (by kernel_rfl)) ?_
  by_cases c3 : (y106.length : Int) = 0
  ·rw [if_pos c3] at H
   have c3b0 : ((y106.length : Int) == 0) = true := beq_iff_eq.mpr c3
   have c3b1 : ((y106.length : Int) != 0) = false := bne_eq_false_iff_eq.mpr c3
   clear c3
   simp only [Option.some.injEq, Prod.mk.injEq] at H
   obtain ⟨rfl, rfl, rfl, rfl, rfl, rfl, rfl, rfl, rfl, rfl, rfl, rfl⟩ := H
   have n0_ : Aside0 (Kd.R Kd.string 9 ((((((((((((w12.setCell ⟨qA, 0, none⟩ (.string a0_0)).setCell ⟨qA, 1, none⟩ (.string a0_1)).setCell ⟨qA, 2, none⟩ (.slice qH y106.length qI)).setCell ⟨qA, 3, none⟩ (.string a0_3)).setCell ⟨qA, 4, none⟩ (.int .u32 a0_4)).setCell ⟨qA, 5, none⟩ (.int .i64 a0_5)).setCell ⟨qA, 6, none⟩ (.int .u64 a0_6)).setCell ⟨qA, 7, none⟩ (.int .u64 a0_7)).setCell ⟨qA, 8, none⟩ (.bool a0_8)).setCell ⟨qA, 9, none⟩ (.bool a0_9)).setCell ⟨qA, 10, none⟩ (.bool a0_10)).setCell ⟨qA, 11, none⟩ (.bool a0_11)) w.heap.size (fun _ => True) (.slice qH y106.length qI) y106) := ⟨by (with_reducible repeat (first | apply rA | apply rN | apply rD)); exact Kd.R_mono (R_far12 qA (Kd.R_types qO.out qF.out (by decide)) (.string a0_0) (.string a0_1) (.slice qH y106.length qI) (.string a0_3) (.int .u32 a0_4) (.int .i64 a0_5) (.int .u64 a0_6) (.int .u64 a0_7) (.bool a0_8) (.bool a0_9) (.bool a0_10) (.bool a0_11)) (fun _ hk => trivial)⟩
   have n1_ : Aside0 (((((((((((((w12.setCell ⟨qA, 0, none⟩ (.string a0_0)).setCell ⟨qA, 1, none⟩ (.string a0_1)).setCell ⟨qA, 2, none⟩ (.slice qH y106.length qI)).setCell ⟨qA, 3, none⟩ (.string a0_3)).setCell ⟨qA, 4, none⟩ (.int .u32 a0_4)).setCell ⟨qA, 5, none⟩ (.int .i64 a0_5)).setCell ⟨qA, 6, none⟩ (.int .u64 a0_6)).setCell ⟨qA, 7, none⟩ (.int .u64 a0_7)).setCell ⟨qA, 8, none⟩ (.bool a0_8)).setCell ⟨qA, 9, none⟩ (.bool a0_9)).setCell ⟨qA, 10, none⟩ (.bool a0_10)).setCell ⟨qA, 11, none⟩ (.bool a0_11)).heap[qD]? = some (.cells #[.string a0_0, .string a0_1, .slice A0_2 l0_2.length c0_2, .string a0_3, .int .u32 a0_4, .int .i64 a0_5, .int .u64 a0_6, .int .u64 a0_7, .bool a0_8, .bool a0_9, .bool a0_10, .bool a0_11] 29 (0, 0))) := ⟨by (with_reducible repeat (first | refine bN ?_ _ | refine bD ?_ | refine bA ?_ _)); refine bF ?_ qB.out; (with_reducible repeat (first | refine bN ?_ _ | refine bD ?_ | refine bA ?_ _)); exact qC.out⟩
   have n2_ : Aside0 (((((((((((((w12.setCell ⟨qA, 0, none⟩ (.string a0_0)).setCell ⟨qA, 1, none⟩ (.string a0_1)).setCell ⟨qA, 2, none⟩ (.slice qH y106.length qI)).setCell ⟨qA, 3, none⟩ (.string a0_3)).setCell ⟨qA, 4, none⟩ (.int .u32 a0_4)).setCell ⟨qA, 5, none⟩ (.int .i64 a0_5)).setCell ⟨qA, 6, none⟩ (.int .u64 a0_6)).setCell ⟨qA, 7, none⟩ (.int .u64 a0_7)).setCell ⟨qA, 8, none⟩ (.bool a0_8)).setCell ⟨qA, 9, none⟩ (.bool a0_9)).setCell ⟨qA, 10, none⟩ (.bool a0_10)).setCell ⟨qA, 11, none⟩ (.bool a0_11)).heap[qG]? = some (.cells #[.string (⟨#[]⟩ : ByteArray), .string (⟨#[]⟩ : ByteArray), .slice none 0 0, .string (⟨#[]⟩ : ByteArray), .int .u32 0, .int .i64 0, .int .u64 0, .int .u64 0, .bool false, .bool false, .bool false, .bool false] 26 (0, 0))) := ⟨by (with_reducible repeat (first | refine bN ?_ _ | refine bD ?_ | refine bA ?_ _)); refine bF ?_ qJ.out; (with_reducible repeat (first | refine bN ?_ _ | refine bD ?_ | refine bA ?_ _)); exact qE.out⟩
   have n3_ : Aside0 (((((((((((((w12.setCell ⟨qA, 0, none⟩ (.string a0_0)).setCell ⟨qA, 1, none⟩ (.string a0_1)).setCell ⟨qA, 2, none⟩ (.slice qH y106.length qI)).setCell ⟨qA, 3, none⟩ (.string a0_3)).setCell ⟨qA, 4, none⟩ (.int .u32 a0_4)).setCell ⟨qA, 5, none⟩ (.int .i64 a0_5)).setCell ⟨qA, 6, none⟩ (.int .u64 a0_6)).setCell ⟨qA, 7, none⟩ (.int .u64 a0_7)).setCell ⟨qA, 8, none⟩ (.bool a0_8)).setCell ⟨qA, 9, none⟩ (.bool a0_9)).setCell ⟨qA, 10, none⟩ (.bool a0_10)).setCell ⟨qA, 11, none⟩ (.bool a0_11)).heap[qA]? = some (.cells #[.string a0_0, .string a0_1, .slice qH y106.length qI, .string a0_3, .int .u32 a0_4, .int .i64 a0_5, .int .u64 a0_6, .int .u64 a0_7, .bool a0_8, .bool a0_9, .bool a0_10, .bool a0_11] 26 (0, 0))) := ⟨by (with_reducible repeat (first | refine bN ?_ _ | refine bD ?_ | refine bA ?_ _)); refine blk_put (cs := #[.string a0_0, .string a0_1, .slice qH y106.length qI, .string a0_3, .int .u32 a0_4, .int .i64 a0_5, .int .u64 a0_6, .int .u64 a0_7, .bool a0_8, .bool a0_9, .bool a0_10, .bool false]) ?_ 11 _ rfl; (with_reducible repeat (first | refine bN ?_ _ | refine bD ?_ | refine bA ?_ _)); refine blk_put (cs := #[.string a0_0, .string a0_1, .slice qH y106.length qI, .string a0_3, .int .u32 a0_4, .int .i64 a0_5, .int .u64 a0_6, .int .u64 a0_7, .bool a0_8, .bool a0_9, .bool false, .bool false]) ?_ 10 _ rfl; (with_reducible repeat (first | refine bN ?_ _ | refine bD ?_ | refine bA ?_ _)); refine blk_put (cs := #[.string a0_0, .string a0_1, .slice qH y106.length qI, .string a0_3, .int .u32 a0_4, .int .i64 a0_5, .int .u64 a0_6, .int .u64 a0_7, .bool a0_8, .bool false, .bool false, .bool false]) ?_ 9 _ rfl; (with_reducible repeat (first | refine bN ?_ _ | refine bD ?_ | refine bA ?_ _)); refine blk_put (cs := #[.string a0_0, .string a0_1, .slice qH y106.length qI, .string a0_3, .int .u32 a0_4, .int .i64 a0_5, .int .u64 a0_6, .int .u64 a0_7, .bool false, .bool false, .bool false, .bool false]) ?_ 8 _ rfl; (with_reducible repeat (first | refine bN ?_ _ | refine bD ?_ | refine bA ?_ _)); refine blk_put (cs := #[.string a0_0, .string a0_1, .slice qH y106.length qI, .string a0_3, .int .u32 a0_4, .int .i64 a0_5, .int .u64 a0_6, .int .u64 0, .bool false, .bool false, .bool false, .bool false]) ?_ 7 _ rfl; (with_reducible repeat (first | refine bN ?_ _ | refine bD ?_ | refine bA ?_ _)); refine blk_put (cs := #[.string a0_0, .string a0_1, .slice qH y106.length qI, .string a0_3, .int .u32 a0_4, .int .i64 a0_5, .int .u64 0, .int .u64 0, .bool false, .bool false, .bool false, .bool false]) ?_ 6 _ rfl; (with_reducible repeat (first | refine bN ?_ _ | refine bD ?_ | refine bA ?_ _)); refine blk_put (cs := #[.string a0_0, .string a0_1, .slice qH y106.length qI, .string a0_3, .int .u32 a0_4, .int .i64 0, .int .u64 0, .int .u64 0, .bool false, .bool false, .bool false, .bool false]) ?_ 5 _ rfl; (with_reducible repeat (first | refine bN ?_ _ | refine bD ?_ | refine bA ?_ _)); refine blk_put (cs := #[.string a0_0, .string a0_1, .slice qH y106.length qI, .string a0_3, .int .u32 0, .int .i64 0, .int .u64 0, .int .u64 0, .bool false, .bool false, .bool false, .bool false]) ?_ 4 _ rfl; (with_reducible repeat (first | refine bN ?_ _ | refine bD ?_ | refine bA ?_ _)); refine blk_put (cs := #[.string a0_0, .string a0_1, .slice qH y106.length qI, .string (⟨#[]⟩ : ByteArray), .int .u32 0, .int .i64 0, .int .u64 0, .int .u64 0, .bool false, .bool false, .bool false, .bool false]) ?_ 3 _ rfl; (with_reducible repeat (first | refine bN ?_ _ | refine bD ?_ | refine bA ?_ _)); refine blk_put (cs := #[.string a0_0, .string a0_1, .slice none 0 0, .string (⟨#[]⟩ : ByteArray), .int .u32 0, .int .i64 0, .int .u64 0, .int .u64 0, .bool false, .bool false, .bool false, .bool false]) ?_ 2 _ rfl; (with_reducible repeat (first | refine bN ?_ _ | refine bD ?_ | refine bA ?_ _)); refine blk_put (cs := #[.string a0_0, .string (⟨#[]⟩ : ByteArray), .slice none 0 0, .string (⟨#[]⟩ : ByteArray), .int .u32 0, .int .i64 0, .int .u64 0, .int .u64 0, .bool false, .bool false, .bool false, .bool false]) ?_ 1 _ rfl; (with_reducible repeat (first | refine bN ?_ _ | refine bD ?_ | refine bA ?_ _)); refine blk_put (cs := #[.string (⟨#[]⟩ : ByteArray), .string (⟨#[]⟩ : ByteArray), .slice none 0 0, .string (⟨#[]⟩ : ByteArray), .int .u32 0, .int .i64 0, .int .u64 0, .int .u64 0, .bool false, .bool false, .bool false, .bool false]) ?_ 0 _ rfl; (with_reducible repeat (first | refine bN ?_ _ | refine bD ?_ | refine bA ?_ _)); exact qF.out⟩
   have n4_ : Aside0 (Below w.heap.size w ((((((((((((w12.setCell ⟨qA, 0, none⟩ (.string a0_0)).setCell ⟨qA, 1, none⟩ (.string a0_1)).setCell ⟨qA, 2, none⟩ (.slice qH y106.length qI)).setCell ⟨qA, 3, none⟩ (.string a0_3)).setCell ⟨qA, 4, none⟩ (.int .u32 a0_4)).setCell ⟨qA, 5, none⟩ (.int .i64 a0_5)).setCell ⟨qA, 6, none⟩ (.int .u64 a0_6)).setCell ⟨qA, 7, none⟩ (.int .u64 a0_7)).setCell ⟨qA, 8, none⟩ (.bool a0_8)).setCell ⟨qA, 9, none⟩ (.bool a0_9)).setCell ⟨qA, 10, none⟩ (.bool a0_10)).setCell ⟨qA, 11, none⟩ (.bool a0_11))) := ⟨bBY1⟩
   (try clear qO)
   (try clear qC)
   (try clear qE)
   (try clear qF)
   (try clear HB)
   generalize ((((((((((((w12.setCell ⟨qA, 0, none⟩ (.string a0_0)).setCell ⟨qA, 1, none⟩ (.string a0_1)).setCell ⟨qA, 2, none⟩ (.slice qH y106.length qI)).setCell ⟨qA, 3, none⟩ (.string a0_3)).setCell ⟨qA, 4, none⟩ (.int .u32 a0_4)).setCell ⟨qA, 5, none⟩ (.int .i64 a0_5)).setCell ⟨qA, 6, none⟩ (.int .u64 a0_6)).setCell ⟨qA, 7, none⟩ (.int .u64 a0_7)).setCell ⟨qA, 8, none⟩ (.bool a0_8)).setCell ⟨qA, 9, none⟩ (.bool a0_9)).setCell ⟨qA, 10, none⟩ (.bool a0_10)).setCell ⟨qA, 11, none⟩ (.bool a0_11)) = w26 at n0_ n1_ n2_ n3_ n4_ ⊢
   have qO := n0_
   have qC := n1_
   have qE := n2_
   have qF := n3_
   have HB := n4_
   clear n0_ n1_ n2_ n3_ n4_
   have qDB := qL.out
   have qDC := qB.out
   have qDD := qK.out
   have qDE := qJ.out
   obtain ⟨qAt, qAu, qAv, qAw, qAx, qAy, qAz, qBA, qBB, qBC, qd, qe⟩ := celL qF.out
   obtain ⟨qBD, qBE, qBF, qBG, qBH, qBI, qBJ, qBK, qBL, qBM, qf, qg⟩ := froZ qF.out
   try go_wp2_with (first | ((with_reducible refine gate_store (t := 22) (p := 35) rfl ?_); refine store_event (t := 22) (p := 35) (v := ?vo_w30) (w1 := (w26.setCell ⟨qA, 2, none⟩ (.slice none 0 0))) ?hg ?ho ?hn ?hr ?_; (case ho => rfl); (case hg => rfl); (case hn => rfl); (case hr => first | (go_simp; done) | (go_simp; rfl)); intro w30 hw; have n0_ : Aside0 (Kd.R Kd.string 9 w30 w.heap.size (fun _ => True) (.slice qH y106.length qI) y106) := ⟨(by rw [hw]; exact (by (with_reducible repeat (first | apply rA | apply rN | apply rD)); exact Kd.R_mono (Kd.R_far (p := ⟨qA, 2, none⟩) (Kd.R_types qO.out qF.out (by decide)) (fun _ hk => hk.2) (.slice none 0 0)) (fun _ hk => trivial)))⟩; have n1_ : Aside0 (w30.heap[qD]? = some (.cells #[.string a0_0, .string a0_1, .slice A0_2 l0_2.length c0_2, .string a0_3, .int .u32 a0_4, .int .i64 a0_5, .int .u64 a0_6, .int .u64 a0_7, .bool a0_8, .bool a0_9, .bool a0_10, .bool a0_11] 29 (0, 0))) := ⟨(by rw [hw]; exact (by (with_reducible repeat (first | refine bN ?_ _ | refine bD ?_ | refine bA ?_ _)); refine blk_far ?_ qB.out _; (with_reducible repeat (first | refine bN ?_ _ | refine bD ?_ | refine bA ?_ _)); exact qC.out))⟩; have n2_ : Aside0 (w30.heap[qG]? = some (.cells #[.string (⟨#[]⟩ : ByteArray), .string (⟨#[]⟩ : ByteArray), .slice none 0 0, .string (⟨#[]⟩ : ByteArray), .int .u32 0, .int .i64 0, .int .u64 0, .int .u64 0, .bool false, .bool false, .bool false, .bool false] 26 (0, 0))) := ⟨(by rw [hw]; exact (by (with_reducible repeat (first | refine bN ?_ _ | refine bD ?_ | refine bA ?_ _)); refine blk_far ?_ qJ.out _; (with_reducible repeat (first | refine bN ?_ _ | refine bD ?_ | refine bA ?_ _)); exact qE.out))⟩; have n3_ : Aside0 (w30.heap[qA]? = some (.cells #[.string a0_0, .string a0_1, .slice none 0 0, .string a0_3, .int .u32 a0_4, .int .i64 a0_5, .int .u64 a0_6, .int .u64 a0_7, .bool a0_8, .bool a0_9, .bool a0_10, .bool a0_11] 26 (0, 0))) := ⟨(by rw [hw]; exact (by (with_reducible repeat (first | refine bN ?_ _ | refine bD ?_ | refine bA ?_ _)); refine blk_put (cs := #[.string a0_0, .string a0_1, .slice qH y106.length qI, .string a0_3, .int .u32 a0_4, .int .i64 a0_5, .int .u64 a0_6, .int .u64 a0_7, .bool a0_8, .bool a0_9, .bool a0_10, .bool a0_11]) ?_ 2 _ rfl; (with_reducible repeat (first | refine bN ?_ _ | refine bD ?_ | refine bA ?_ _)); exact qF.out))⟩; have n4_ : Aside0 (Below w.heap.size w w30) := ⟨(by rw [hw]; exact bBY1)⟩; clear hw; clear qO; clear qC; clear qE; clear qF; clear HB; have qO := n0_; have qC := n1_; have qE := n2_; have qF := n3_; have HB := n4_; clear n0_ n1_ n2_ n3_ n4_; obtain ⟨qBN, qBO, qBP, qBQ, qBR, qBS, qBT, qBU, qBV, qBW, qh, qi⟩ := celL qF.out; obtain ⟨qBX, qBY, qBZ, qBa, qBb, qBc, qBd, qBe, qBf, qBg, qj, qk⟩ := froZ qF.out; have qDF := qS.out; have qDG := qR.out; obtain ⟨qBh, qBi, qBj, qBk, qBl, qBm, qBn, qBo, qBp, qBq, ql, qm⟩ := celL qE.out; obtain ⟨qBr, qBs, qBt, qBu, qBv, qBw, qBx, qBy, qBz, qCA, qn, qo⟩ := froZ qE.out) | ((with_reducible refine gate_store (t := 26) (p := 2) rfl ?_); refine store_event (t := 26) (p := 2) (v := ?vo_w34) (w1 := ((((((((((((w30.setCell ⟨qG, 0, none⟩ (.string a0_0)).setCell ⟨qG, 1, none⟩ (.string a0_1)).setCell ⟨qG, 2, none⟩ (.slice none 0 0)).setCell ⟨qG, 3, none⟩ (.string a0_3)).setCell ⟨qG, 4, none⟩ (.int .u32 a0_4)).setCell ⟨qG, 5, none⟩ (.int .i64 a0_5)).setCell ⟨qG, 6, none⟩ (.int .u64 a0_6)).setCell ⟨qG, 7, none⟩ (.int .u64 a0_7)).setCell ⟨qG, 8, none⟩ (.bool a0_8)).setCell ⟨qG, 9, none⟩ (.bool a0_9)).setCell ⟨qG, 10, none⟩ (.bool a0_10)).setCell ⟨qG, 11, none⟩ (.bool a0_11))) ?hg ?ho ?hn ?hr ?_; (case ho => rfl); (case hg => rfl); (case hn => rfl); (case hr => first | (go_simp; done) | (go_simp; rfl)); intro w34 hw; have n0_ : Aside0 (Kd.R Kd.string 9 w34 w.heap.size (fun _ => True) (.slice qH y106.length qI) y106) := ⟨(by rw [hw]; exact (by (with_reducible repeat (first | apply rA | apply rN | apply rD)); exact Kd.R_mono (R_far12 qG (Kd.R_types qO.out qE.out (by decide)) (.string a0_0) (.string a0_1) (.slice none 0 0) (.string a0_3) (.int .u32 a0_4) (.int .i64 a0_5) (.int .u64 a0_6) (.int .u64 a0_7) (.bool a0_8) (.bool a0_9) (.bool a0_10) (.bool a0_11)) (fun _ hk => trivial)))⟩; have n1_ : Aside0 (w34.heap[qD]? = some (.cells #[.string a0_0, .string a0_1, .slice A0_2 l0_2.length c0_2, .string a0_3, .int .u32 a0_4, .int .i64 a0_5, .int .u64 a0_6, .int .u64 a0_7, .bool a0_8, .bool a0_9, .bool a0_10, .bool a0_11] 29 (0, 0))) := ⟨(by rw [hw]; exact (by (with_reducible repeat (first | refine bN ?_ _ | refine bD ?_ | refine bA ?_ _)); refine bF ?_ qR.out; (with_reducible repeat (first | refine bN ?_ _ | refine bD ?_ | refine bA ?_ _)); exact qC.out))⟩; have n2_ : Aside0 (w34.heap[qG]? = some (.cells #[.string a0_0, .string a0_1, .slice none 0 0, .string a0_3, .int .u32 a0_4, .int .i64 a0_5, .int .u64 a0_6, .int .u64 a0_7, .bool a0_8, .bool a0_9, .bool a0_10, .bool a0_11] 26 (0, 0))) := ⟨(by rw [hw]; exact (by (with_reducible repeat (first | refine bN ?_ _ | refine bD ?_ | refine bA ?_ _)); refine blk_put (cs := #[.string a0_0, .string a0_1, .slice none 0 0, .string a0_3, .int .u32 a0_4, .int .i64 a0_5, .int .u64 a0_6, .int .u64 a0_7, .bool a0_8, .bool a0_9, .bool a0_10, .bool false]) ?_ 11 _ rfl; (with_reducible repeat (first | refine bN ?_ _ | refine bD ?_ | refine bA ?_ _)); refine blk_put (cs := #[.string a0_0, .string a0_1, .slice none 0 0, .string a0_3, .int .u32 a0_4, .int .i64 a0_5, .int .u64 a0_6, .int .u64 a0_7, .bool a0_8, .bool a0_9, .bool false, .bool false]) ?_ 10 _ rfl; (with_reducible repeat (first | refine bN ?_ _ | refine bD ?_ | refine bA ?_ _)); refine blk_put (cs := #[.string a0_0, .string a0_1, .slice none 0 0, .string a0_3, .int .u32 a0_4, .int .i64 a0_5, .int .u64 a0_6, .int .u64 a0_7, .bool a0_8, .bool false, .bool false, .bool false]) ?_ 9 _ rfl; (with_reducible repeat (first | refine bN ?_ _ | refine bD ?_ | refine bA ?_ _)); refine blk_put (cs := #[.string a0_0, .string a0_1, .slice none 0 0, .string a0_3, .int .u32 a0_4, .int .i64 a0_5, .int .u64 a0_6, .int .u64 a0_7, .bool false, .bool false, .bool false, .bool false]) ?_ 8 _ rfl; (with_reducible repeat (first | refine bN ?_ _ | refine bD ?_ | refine bA ?_ _)); refine blk_put (cs := #[.string a0_0, .string a0_1, .slice none 0 0, .string a0_3, .int .u32 a0_4, .int .i64 a0_5, .int .u64 a0_6, .int .u64 0, .bool false, .bool false, .bool false, .bool false]) ?_ 7 _ rfl; (with_reducible repeat (first | refine bN ?_ _ | refine bD ?_ | refine bA ?_ _)); refine blk_put (cs := #[.string a0_0, .string a0_1, .slice none 0 0, .string a0_3, .int .u32 a0_4, .int .i64 a0_5, .int .u64 0, .int .u64 0, .bool false, .bool false, .bool false, .bool false]) ?_ 6 _ rfl; (with_reducible repeat (first | refine bN ?_ _ | refine bD ?_ | refine bA ?_ _)); refine blk_put (cs := #[.string a0_0, .string a0_1, .slice none 0 0, .string a0_3, .int .u32 a0_4, .int .i64 0, .int .u64 0, .int .u64 0, .bool false, .bool false, .bool false, .bool false]) ?_ 5 _ rfl; (with_reducible repeat (first | refine bN ?_ _ | refine bD ?_ | refine bA ?_ _)); refine blk_put (cs := #[.string a0_0, .string a0_1, .slice none 0 0, .string a0_3, .int .u32 0, .int .i64 0, .int .u64 0, .int .u64 0, .bool false, .bool false, .bool false, .bool false]) ?_ 4 _ rfl; (with_reducible repeat (first | refine bN ?_ _ | refine bD ?_ | refine bA ?_ _)); refine blk_put (cs := #[.string a0_0, .string a0_1, .slice none 0 0, .string (⟨#[]⟩ : ByteArray), .int .u32 0, .int .i64 0, .int .u64 0, .int .u64 0, .bool false, .bool false, .bool false, .bool false]) ?_ 3 _ rfl; (with_reducible repeat (first | refine bN ?_ _ | refine bD ?_ | refine bA ?_ _)); refine blk_put (cs := #[.string a0_0, .string a0_1, .slice none 0 0, .string (⟨#[]⟩ : ByteArray), .int .u32 0, .int .i64 0, .int .u64 0, .int .u64 0, .bool false, .bool false, .bool false, .bool false]) ?_ 2 _ rfl; (with_reducible repeat (first | refine bN ?_ _ | refine bD ?_ | refine bA ?_ _)); refine blk_put (cs := #[.string a0_0, .string (⟨#[]⟩ : ByteArray), .slice none 0 0, .string (⟨#[]⟩ : ByteArray), .int .u32 0, .int .i64 0, .int .u64 0, .int .u64 0, .bool false, .bool false, .bool false, .bool false]) ?_ 1 _ rfl; (with_reducible repeat (first | refine bN ?_ _ | refine bD ?_ | refine bA ?_ _)); refine blk_put (cs := #[.string (⟨#[]⟩ : ByteArray), .string (⟨#[]⟩ : ByteArray), .slice none 0 0, .string (⟨#[]⟩ : ByteArray), .int .u32 0, .int .i64 0, .int .u64 0, .int .u64 0, .bool false, .bool false, .bool false, .bool false]) ?_ 0 _ rfl; (with_reducible repeat (first | refine bN ?_ _ | refine bD ?_ | refine bA ?_ _)); exact qE.out))⟩; have n3_ : Aside0 (w34.heap[qA]? = some (.cells #[.string a0_0, .string a0_1, .slice none 0 0, .string a0_3, .int .u32 a0_4, .int .i64 a0_5, .int .u64 a0_6, .int .u64 a0_7, .bool a0_8, .bool a0_9, .bool a0_10, .bool a0_11] 26 (0, 0))) := ⟨(by rw [hw]; exact (by (with_reducible repeat (first | refine bN ?_ _ | refine bD ?_ | refine bA ?_ _)); refine bF ?_ qK.out; (with_reducible repeat (first | refine bN ?_ _ | refine bD ?_ | refine bA ?_ _)); exact qF.out))⟩; have n4_ : Aside0 (Below w.heap.size w w34) := ⟨(by rw [hw]; exact bBY1)⟩; clear hw; clear qO; clear qC; clear qE; clear qF; clear HB; have qO := n0_; have qC := n1_; have qE := n2_; have qF := n3_; have HB := n4_; clear n0_ n1_ n2_ n3_ n4_))
   refine bodyPost_ret (results_cell_row rfl _ _ qG 26 #[.string a0_0, .string a0_1, .slice none 0 0, .string a0_3, .int .u32 a0_4, .int .i64 a0_5, .int .u64 a0_6, .int .u64 a0_7, .bool a0_8, .bool a0_9, .bool a0_10, .bool a0_11] (0, 0) _ rfl (by (with_reducible repeat (first | refine bN ?_ _ | refine bD ?_ | refine bA ?_ _)); exact qE.out) Tryz.underlying26 rfl (by kernel_rfl)) rfl ?_
   exact ⟨_, by first | rfl | (simp [errW_none, errW_some] <;> rfl) | (simp [*, errW_none, errW_some] <;> rfl), by first | exact Kd.R_nil _ _ _ _ _ | exact Kd.N_nil _ _ _ _ _ | exact Kd.V_nil _ _ _ _ _ | exact Kd.Q_nil _ _ _ _ _ | exact Kd.S_nil _ _ _ _ _, bBY1⟩
  ·rw [if_neg c3] at H
   have c3b0 : ((y106.length : Int) == 0) = false := beq_eq_false_iff_ne.mpr c3
   have c3b1 : ((y106.length : Int) != 0) = true := bne_iff_ne.mpr c3
   have c3b2 : ¬ (y106 = []) := fun h_ => c3 (by rw [h_]; rfl)
   simp only [Option.some.injEq, Prod.mk.injEq] at H
   obtain ⟨rfl, rfl, rfl, rfl, rfl, rfl, rfl, rfl, rfl, rfl, rfl, rfl⟩ := H
   have n0_ : Aside0 (Kd.R Kd.string 9 ((((((((((((w12.setCell ⟨qA, 0, none⟩ (.string a0_0)).setCell ⟨qA, 1, none⟩ (.string a0_1)).setCell ⟨qA, 2, none⟩ (.slice qH y106.length qI)).setCell ⟨qA, 3, none⟩ (.string a0_3)).setCell ⟨qA, 4, none⟩ (.int .u32 a0_4)).setCell ⟨qA, 5, none⟩ (.int .i64 a0_5)).setCell ⟨qA, 6, none⟩ (.int .u64 a0_6)).setCell ⟨qA, 7, none⟩ (.int .u64 a0_7)).setCell ⟨qA, 8, none⟩ (.bool a0_8)).setCell ⟨qA, 9, none⟩ (.bool a0_9)).setCell ⟨qA, 10, none⟩ (.bool a0_10)).setCell ⟨qA, 11, none⟩ (.bool a0_11)) w.heap.size (fun _ => True) (.slice qH y106.length qI) y106) := ⟨by (with_reducible repeat (first | apply rA | apply rN | apply rD)); exact Kd.R_mono (R_far12 qA (Kd.R_types qO.out qF.out (by decide)) (.string a0_0) (.string a0_1) (.slice qH y106.length qI) (.string a0_3) (.int .u32 a0_4) (.int .i64 a0_5) (.int .u64 a0_6) (.int .u64 a0_7) (.bool a0_8) (.bool a0_9) (.bool a0_10) (.bool a0_11)) (fun _ hk => trivial)⟩
   have n1_ : Aside0 (((((((((((((w12.setCell ⟨qA, 0, none⟩ (.string a0_0)).setCell ⟨qA, 1, none⟩ (.string a0_1)).setCell ⟨qA, 2, none⟩ (.slice qH y106.length qI)).setCell ⟨qA, 3, none⟩ (.string a0_3)).setCell ⟨qA, 4, none⟩ (.int .u32 a0_4)).setCell ⟨qA, 5, none⟩ (.int .i64 a0_5)).setCell ⟨qA, 6, none⟩ (.int .u64 a0_6)).setCell ⟨qA, 7, none⟩ (.int .u64 a0_7)).setCell ⟨qA, 8, none⟩ (.bool a0_8)).setCell ⟨qA, 9, none⟩ (.bool a0_9)).setCell ⟨qA, 10, none⟩ (.bool a0_10)).setCell ⟨qA, 11, none⟩ (.bool a0_11)).heap[qD]? = some (.cells #[.string a0_0, .string a0_1, .slice A0_2 l0_2.length c0_2, .string a0_3, .int .u32 a0_4, .int .i64 a0_5, .int .u64 a0_6, .int .u64 a0_7, .bool a0_8, .bool a0_9, .bool a0_10, .bool a0_11] 29 (0, 0))) := ⟨by (with_reducible repeat (first | refine bN ?_ _ | refine bD ?_ | refine bA ?_ _)); refine bF ?_ qB.out; (with_reducible repeat (first | refine bN ?_ _ | refine bD ?_ | refine bA ?_ _)); exact qC.out⟩
   have n2_ : Aside0 (((((((((((((w12.setCell ⟨qA, 0, none⟩ (.string a0_0)).setCell ⟨qA, 1, none⟩ (.string a0_1)).setCell ⟨qA, 2, none⟩ (.slice qH y106.length qI)).setCell ⟨qA, 3, none⟩ (.string a0_3)).setCell ⟨qA, 4, none⟩ (.int .u32 a0_4)).setCell ⟨qA, 5, none⟩ (.int .i64 a0_5)).setCell ⟨qA, 6, none⟩ (.int .u64 a0_6)).setCell ⟨qA, 7, none⟩ (.int .u64 a0_7)).setCell ⟨qA, 8, none⟩ (.bool a0_8)).setCell ⟨qA, 9, none⟩ (.bool a0_9)).setCell ⟨qA, 10, none⟩ (.bool a0_10)).setCell ⟨qA, 11, none⟩ (.bool a0_11)).heap[qG]? = some (.cells #[.string (⟨#[]⟩ : ByteArray), .string (⟨#[]⟩ : ByteArray), .slice none 0 0, .string (⟨#[]⟩ : ByteArray), .int .u32 0, .int .i64 0, .int .u64 0, .int .u64 0, .bool false, .bool false, .bool false, .bool false] 26 (0, 0))) := ⟨by (with_reducible repeat (first | refine bN ?_ _ | refine bD ?_ | refine bA ?_ _)); refine bF ?_ qJ.out; (with_reducible repeat (first | refine bN ?_ _ | refine bD ?_ | refine bA ?_ _)); exact qE.out⟩
   have n3_ : Aside0 (((((((((((((w12.setCell ⟨qA, 0, none⟩ (.string a0_0)).setCell ⟨qA, 1, none⟩ (.string a0_1)).setCell ⟨qA, 2, none⟩ (.slice qH y106.length qI)).setCell ⟨qA, 3, none⟩ (.string a0_3)).setCell ⟨qA, 4, none⟩ (.int .u32 a0_4)).setCell ⟨qA, 5, none⟩ (.int .i64 a0_5)).setCell ⟨qA, 6, none⟩ (.int .u64 a0_6)).setCell ⟨qA, 7, none⟩ (.int .u64 a0_7)).setCell ⟨qA, 8, none⟩ (.bool a0_8)).setCell ⟨qA, 9, none⟩ (.bool a0_9)).setCell ⟨qA, 10, none⟩ (.bool a0_10)).setCell ⟨qA, 11, none⟩ (.bool a0_11)).heap[qA]? = some (.cells #[.string a0_0, .string a0_1, .slice qH y106.length qI, .string a0_3, .int .u32 a0_4, .int .i64 a0_5, .int .u64 a0_6, .int .u64 a0_7, .bool a0_8, .bool a0_9, .bool a0_10, .bool a0_11] 26 (0, 0))) := ⟨by (with_reducible repeat (first | refine bN ?_ _ | refine bD ?_ | refine bA ?_ _)); refine blk_put (cs := #[.string a0_0, .string a0_1, .slice qH y106.length qI, .string a0_3, .int .u32 a0_4, .int .i64 a0_5, .int .u64 a0_6, .int .u64 a0_7, .bool a0_8, .bool a0_9, .bool a0_10, .bool false]) ?_ 11 _ rfl; (with_reducible repeat (first | refine bN ?_ _ | refine bD ?_ | refine bA ?_ _)); refine blk_put (cs := #[.string a0_0, .string a0_1, .slice qH y106.length qI, .string a0_3, .int .u32 a0_4, .int .i64 a0_5, .int .u64 a0_6, .int .u64 a0_7, .bool a0_8, .bool a0_9, .bool false, .bool false]) ?_ 10 _ rfl; (with_reducible repeat (first | refine bN ?_ _ | refine bD ?_ | refine bA ?_ _)); refine blk_put (cs := #[.string a0_0, .string a0_1, .slice qH y106.length qI, .string a0_3, .int .u32 a0_4, .int .i64 a0_5, .int .u64 a0_6, .int .u64 a0_7, .bool a0_8, .bool false, .bool false, .bool false]) ?_ 9 _ rfl; (with_reducible repeat (first | refine bN ?_ _ | refine bD ?_ | refine bA ?_ _)); refine blk_put (cs := #[.string a0_0, .string a0_1, .slice qH y106.length qI, .string a0_3, .int .u32 a0_4, .int .i64 a0_5, .int .u64 a0_6, .int .u64 a0_7, .bool false, .bool false, .bool false, .bool false]) ?_ 8 _ rfl; (with_reducible repeat (first | refine bN ?_ _ | refine bD ?_ | refine bA ?_ _)); refine blk_put (cs := #[.string a0_0, .string a0_1, .slice qH y106.length qI, .string a0_3, .int .u32 a0_4, .int .i64 a0_5, .int .u64 a0_6, .int .u64 0, .bool false, .bool false, .bool false, .bool false]) ?_ 7 _ rfl; (with_reducible repeat (first | refine bN ?_ _ | refine bD ?_ | refine bA ?_ _)); refine blk_put (cs := #[.string a0_0, .string a0_1, .slice qH y106.length qI, .string a0_3, .int .u32 a0_4, .int .i64 a0_5, .int .u64 0, .int .u64 0, .bool false, .bool false, .bool false, .bool false]) ?_ 6 _ rfl; (with_reducible repeat (first | refine bN ?_ _ | refine bD ?_ | refine bA ?_ _)); refine blk_put (cs := #[.string a0_0, .string a0_1, .slice qH y106.length qI, .string a0_3, .int .u32 a0_4, .int .i64 0, .int .u64 0, .int .u64 0, .bool false, .bool false, .bool false, .bool false]) ?_ 5 _ rfl; (with_reducible repeat (first | refine bN ?_ _ | refine bD ?_ | refine bA ?_ _)); refine blk_put (cs := #[.string a0_0, .string a0_1, .slice qH y106.length qI, .string a0_3, .int .u32 0, .int .i64 0, .int .u64 0, .int .u64 0, .bool false, .bool false, .bool false, .bool false]) ?_ 4 _ rfl; (with_reducible repeat (first | refine bN ?_ _ | refine bD ?_ | refine bA ?_ _)); refine blk_put (cs := #[.string a0_0, .string a0_1, .slice qH y106.length qI, .string (⟨#[]⟩ : ByteArray), .int .u32 0, .int .i64 0, .int .u64 0, .int .u64 0, .bool false, .bool false, .bool false, .bool false]) ?_ 3 _ rfl; (with_reducible repeat (first | refine bN ?_ _ | refine bD ?_ | refine bA ?_ _)); refine blk_put (cs := #[.string a0_0, .string a0_1, .slice none 0 0, .string (⟨#[]⟩ : ByteArray), .int .u32 0, .int .i64 0, .int .u64 0, .int .u64 0, .bool false, .bool false, .bool false, .bool false]) ?_ 2 _ rfl; (with_reducible repeat (first | refine bN ?_ _ | refine bD ?_ | refine bA ?_ _)); refine blk_put (cs := #[.string a0_0, .string (⟨#[]⟩ : ByteArray), .slice none 0 0, .string (⟨#[]⟩ : ByteArray), .int .u32 0, .int .i64 0, .int .u64 0, .int .u64 0, .bool false, .bool false, .bool false, .bool false]) ?_ 1 _ rfl; (with_reducible repeat (first | refine bN ?_ _ | refine bD ?_ | refine bA ?_ _)); refine blk_put (cs := #[.string (⟨#[]⟩ : ByteArray), .string (⟨#[]⟩ : ByteArray), .slice none 0 0, .string (⟨#[]⟩ : ByteArray), .int .u32 0, .int .i64 0, .int .u64 0, .int .u64 0, .bool false, .bool false, .bool false, .bool false]) ?_ 0 _ rfl; (with_reducible repeat (first | refine bN ?_ _ | refine bD ?_ | refine bA ?_ _)); exact qF.out⟩
   have n4_ : Aside0 (Below w.heap.size w ((((((((((((w12.setCell ⟨qA, 0, none⟩ (.string a0_0)).setCell ⟨qA, 1, none⟩ (.string a0_1)).setCell ⟨qA, 2, none⟩ (.slice qH y106.length qI)).setCell ⟨qA, 3, none⟩ (.string a0_3)).setCell ⟨qA, 4, none⟩ (.int .u32 a0_4)).setCell ⟨qA, 5, none⟩ (.int .i64 a0_5)).setCell ⟨qA, 6, none⟩ (.int .u64 a0_6)).setCell ⟨qA, 7, none⟩ (.int .u64 a0_7)).setCell ⟨qA, 8, none⟩ (.bool a0_8)).setCell ⟨qA, 9, none⟩ (.bool a0_9)).setCell ⟨qA, 10, none⟩ (.bool a0_10)).setCell ⟨qA, 11, none⟩ (.bool a0_11))) := ⟨bBY1⟩
   (try clear qO)
   (try clear qC)
   (try clear qE)
   (try clear qF)
   (try clear HB)
   generalize ((((((((((((w12.setCell ⟨qA, 0, none⟩ (.string a0_0)).setCell ⟨qA, 1, none⟩ (.string a0_1)).setCell ⟨qA, 2, none⟩ (.slice qH y106.length qI)).setCell ⟨qA, 3, none⟩ (.string a0_3)).setCell ⟨qA, 4, none⟩ (.int .u32 a0_4)).setCell ⟨qA, 5, none⟩ (.int .i64 a0_5)).setCell ⟨qA, 6, none⟩ (.int .u64 a0_6)).setCell ⟨qA, 7, none⟩ (.int .u64 a0_7)).setCell ⟨qA, 8, none⟩ (.bool a0_8)).setCell ⟨qA, 9, none⟩ (.bool a0_9)).setCell ⟨qA, 10, none⟩ (.bool a0_10)).setCell ⟨qA, 11, none⟩ (.bool a0_11)) = w57 at n0_ n1_ n2_ n3_ n4_ ⊢
   have qO := n0_
   have qC := n1_
   have qE := n2_
   have qF := n3_
   have HB := n4_
   clear n0_ n1_ n2_ n3_ n4_
   have qDH := qL.out
   have qDI := qB.out
   have qDJ := qK.out
   have qDK := qJ.out
   obtain ⟨qCB, qCC, qCD, qCE, qCF, qCG, qCH, qCI, qCJ, qCK, qp, qq⟩ := celL qF.out
   obtain ⟨qCL, qCM, qCN, qCO, qCP, qCQ, qCR, qCS, qCT, qCU, qr, qs⟩ := froZ qF.out
   have qDL := qS.out
   have qDM := qR.out
   obtain ⟨qCV, qCW, qCX, qCY, qCZ, qCa, qCb, qCc, qCd, qCe, qt, qu⟩ := celL qE.out
   obtain ⟨qCf, qCg, qCh, qCi, qCj, qCk, qCl, qCm, qCn, qCo, qv, qw⟩ := froZ qE.out
   try go_wp2_with (first | ((with_reducible refine gate_store (t := 26) (p := 2) rfl ?_); refine store_event (t := 26) (p := 2) (v := ?vo_w63) (w1 := ((((((((((((w57.setCell ⟨qG, 0, none⟩ (.string a0_0)).setCell ⟨qG, 1, none⟩ (.string a0_1)).setCell ⟨qG, 2, none⟩ (.slice qH y106.length qI)).setCell ⟨qG, 3, none⟩ (.string a0_3)).setCell ⟨qG, 4, none⟩ (.int .u32 a0_4)).setCell ⟨qG, 5, none⟩ (.int .i64 a0_5)).setCell ⟨qG, 6, none⟩ (.int .u64 a0_6)).setCell ⟨qG, 7, none⟩ (.int .u64 a0_7)).setCell ⟨qG, 8, none⟩ (.bool a0_8)).setCell ⟨qG, 9, none⟩ (.bool a0_9)).setCell ⟨qG, 10, none⟩ (.bool a0_10)).setCell ⟨qG, 11, none⟩ (.bool a0_11))) ?hg ?ho ?hn ?hr ?_; (case ho => rfl); (case hg => rfl); (case hn => rfl); (case hr => first | (go_simp; done) | (go_simp; rfl)); intro w63 hw; have n0_ : Aside0 (Kd.R Kd.string 9 w63 w.heap.size (fun _ => True) (.slice qH y106.length qI) y106) := ⟨(by rw [hw]; exact (by (with_reducible repeat (first | apply rA | apply rN | apply rD)); exact Kd.R_mono (R_far12 qG (Kd.R_types qO.out qE.out (by decide)) (.string a0_0) (.string a0_1) (.slice qH y106.length qI) (.string a0_3) (.int .u32 a0_4) (.int .i64 a0_5) (.int .u64 a0_6) (.int .u64 a0_7) (.bool a0_8) (.bool a0_9) (.bool a0_10) (.bool a0_11)) (fun _ hk => trivial)))⟩; have n1_ : Aside0 (w63.heap[qD]? = some (.cells #[.string a0_0, .string a0_1, .slice A0_2 l0_2.length c0_2, .string a0_3, .int .u32 a0_4, .int .i64 a0_5, .int .u64 a0_6, .int .u64 a0_7, .bool a0_8, .bool a0_9, .bool a0_10, .bool a0_11] 29 (0, 0))) := ⟨(by rw [hw]; exact (by (with_reducible repeat (first | refine bN ?_ _ | refine bD ?_ | refine bA ?_ _)); refine bF ?_ qR.out; (with_reducible repeat (first | refine bN ?_ _ | refine bD ?_ | refine bA ?_ _)); exact qC.out))⟩; have n2_ : Aside0 (w63.heap[qG]? = some (.cells #[.string a0_0, .string a0_1, .slice qH y106.length qI, .string a0_3, .int .u32 a0_4, .int .i64 a0_5, .int .u64 a0_6, .int .u64 a0_7, .bool a0_8, .bool a0_9, .bool a0_10, .bool a0_11] 26 (0, 0))) := ⟨(by rw [hw]; exact (by (with_reducible repeat (first | refine bN ?_ _ | refine bD ?_ | refine bA ?_ _)); refine blk_put (cs := #[.string a0_0, .string a0_1, .slice qH y106.length qI, .string a0_3, .int .u32 a0_4, .int .i64 a0_5, .int .u64 a0_6, .int .u64 a0_7, .bool a0_8, .bool a0_9, .bool a0_10, .bool false]) ?_ 11 _ rfl; (with_reducible repeat (first | refine bN ?_ _ | refine bD ?_ | refine bA ?_ _)); refine blk_put (cs := #[.string a0_0, .string a0_1, .slice qH y106.length qI, .string a0_3, .int .u32 a0_4, .int .i64 a0_5, .int .u64 a0_6, .int .u64 a0_7, .bool a0_8, .bool a0_9, .bool false, .bool false]) ?_ 10 _ rfl; (with_reducible repeat (first | refine bN ?_ _ | refine bD ?_ | refine bA ?_ _)); refine blk_put (cs := #[.string a0_0, .string a0_1, .slice qH y106.length qI, .string a0_3, .int .u32 a0_4, .int .i64 a0_5, .int .u64 a0_6, .int .u64 a0_7, .bool a0_8, .bool false, .bool false, .bool false]) ?_ 9 _ rfl; (with_reducible repeat (first | refine bN ?_ _ | refine bD ?_ | refine bA ?_ _)); refine blk_put (cs := #[.string a0_0, .string a0_1, .slice qH y106.length qI, .string a0_3, .int .u32 a0_4, .int .i64 a0_5, .int .u64 a0_6, .int .u64 a0_7, .bool false, .bool false, .bool false, .bool false]) ?_ 8 _ rfl; (with_reducible repeat (first | refine bN ?_ _ | refine bD ?_ | refine bA ?_ _)); refine blk_put (cs := #[.string a0_0, .string a0_1, .slice qH y106.length qI, .string a0_3, .int .u32 a0_4, .int .i64 a0_5, .int .u64 a0_6, .int .u64 0, .bool false, .bool false, .bool false, .bool false]) ?_ 7 _ rfl; (with_reducible repeat (first | refine bN ?_ _ | refine bD ?_ | refine bA ?_ _)); refine blk_put (cs := #[.string a0_0, .string a0_1, .slice qH y106.length qI, .string a0_3, .int .u32 a0_4, .int .i64 a0_5, .int .u64 0, .int .u64 0, .bool false, .bool false, .bool false, .bool false]) ?_ 6 _ rfl; (with_reducible repeat (first | refine bN ?_ _ | refine bD ?_ | refine bA ?_ _)); refine blk_put (cs := #[.string a0_0, .string a0_1, .slice qH y106.length qI, .string a0_3, .int .u32 a0_4, .int .i64 0, .int .u64 0, .int .u64 0, .bool false, .bool false, .bool false, .bool false]) ?_ 5 _ rfl; (with_reducible repeat (first | refine bN ?_ _ | refine bD ?_ | refine bA ?_ _)); refine blk_put (cs := #[.string a0_0, .string a0_1, .slice qH y106.length qI, .string a0_3, .int .u32 0, .int .i64 0, .int .u64 0, .int .u64 0, .bool false, .bool false, .bool false, .bool false]) ?_ 4 _ rfl; (with_reducible repeat (first | refine bN ?_ _ | refine bD ?_ | refine bA ?_ _)); refine blk_put (cs := #[.string a0_0, .string a0_1, .slice qH y106.length qI, .string (⟨#[]⟩ : ByteArray), .int .u32 0, .int .i64 0, .int .u64 0, .int .u64 0, .bool false, .bool false, .bool false, .bool false]) ?_ 3 _ rfl; (with_reducible repeat (first | refine bN ?_ _ | refine bD ?_ | refine bA ?_ _)); refine blk_put (cs := #[.string a0_0, .string a0_1, .slice none 0 0, .string (⟨#[]⟩ : ByteArray), .int .u32 0, .int .i64 0, .int .u64 0, .int .u64 0, .bool false, .bool false, .bool false, .bool false]) ?_ 2 _ rfl; (with_reducible repeat (first | refine bN ?_ _ | refine bD ?_ | refine bA ?_ _)); refine blk_put (cs := #[.string a0_0, .string (⟨#[]⟩ : ByteArray), .slice none 0 0, .string (⟨#[]⟩ : ByteArray), .int .u32 0, .int .i64 0, .int .u64 0, .int .u64 0, .bool false, .bool false, .bool false, .bool false]) ?_ 1 _ rfl; (with_reducible repeat (first | refine bN ?_ _ | refine bD ?_ | refine bA ?_ _)); refine blk_put (cs := #[.string (⟨#[]⟩ : ByteArray), .string (⟨#[]⟩ : ByteArray), .slice none 0 0, .string (⟨#[]⟩ : ByteArray), .int .u32 0, .int .i64 0, .int .u64 0, .int .u64 0, .bool false, .bool false, .bool false, .bool false]) ?_ 0 _ rfl; (with_reducible repeat (first | refine bN ?_ _ | refine bD ?_ | refine bA ?_ _)); exact qE.out))⟩; have n3_ : Aside0 (w63.heap[qA]? = some (.cells #[.string a0_0, .string a0_1, .slice qH y106.length qI, .string a0_3, .int .u32 a0_4, .int .i64 a0_5, .int .u64 a0_6, .int .u64 a0_7, .bool a0_8, .bool a0_9, .bool a0_10, .bool a0_11] 26 (0, 0))) := ⟨(by rw [hw]; exact (by (with_reducible repeat (first | refine bN ?_ _ | refine bD ?_ | refine bA ?_ _)); refine bF ?_ qK.out; (with_reducible repeat (first | refine bN ?_ _ | refine bD ?_ | refine bA ?_ _)); exact qF.out))⟩; have n4_ : Aside0 (Below w.heap.size w w63) := ⟨(by rw [hw]; exact bBY1)⟩; clear hw; clear qO; clear qC; clear qE; clear qF; clear HB; have qO := n0_; have qC := n1_; have qE := n2_; have qF := n3_; have HB := n4_; clear n0_ n1_ n2_ n3_ n4_))
   refine bodyPost_ret (results_cell_row rfl _ _ qG 26 #[.string a0_0, .string a0_1, .slice qH y106.length qI, .string a0_3, .int .u32 a0_4, .int .i64 a0_5, .int .u64 a0_6, .int .u64 a0_7, .bool a0_8, .bool a0_9, .bool a0_10, .bool a0_11] (0, 0) _ rfl (by (with_reducible repeat (first | refine bN ?_ _ | refine bD ?_ | refine bA ?_ _)); exact qE.out) Tryz.underlying26 rfl (by kernel_rfl)) rfl ?_
   exact ⟨_, by first | rfl | (simp [errW_none, errW_some] <;> rfl) | (simp [*, errW_none, errW_some] <;> rfl), by (with_reducible repeat (first | apply rA | apply rN | apply rD)); exact qO.out, bBY1⟩
 ·rw [if_neg c2] at H
  exact absurd H (by simp)

end Go.Proofs.YtfbhlbchmenloaaGreatDoor.H
-- thinned
end
section
namespace Go.Proofs.YtfbhlbchmenloaaGreatDoor.H
open Go.RowKit Go.Proofs.YtfbhlbchmenloaaGreatDoorW.PrintWords Go.Proofs.YtfbhlbchmenloaaGreatDoorW.PrintLast Go.Proofs.YtfbhlbchmenloaaGreatDoorW.PrintMore
set_option linter.unusedVariables false
set_option linter.unusedSimpArgs false
/-- A command that has just been put into a variable of its own: the world gets a letter. -/
theorem calls_var {P : Program} {f : FuncId} {args : Array Value} {K : Ending → World → Prop} {W : World} {cs : Array Value} {t : TypeId} (h : ∀ W' : World, Below W.heap.size W W' → W'.heap[W.heap.size]? = some (.cells cs t (0, 0)) → Calls P f args W' K) : Calls P f args (W.alloc (.cells cs t)) K :=
 h _ (below_alloc (Below.refl _ _) _) (heap_alloc_new W _)
theorem calls_var_drew {P : Program} {f : FuncId} {args : Array Value} {K : Ending → World → Prop} {W : World} {cs : Array Value} {t : TypeId} (h : ∀ W' : World, Below W.heap.size W W' → W'.heap[W.heap.size]? = some (.cells cs t (0, 0)) → Calls P f args W' K) : Calls P f args (W.alloc (.cells cs t)).drew K :=
 h _ (below_drew1 (below_alloc (Below.refl _ _) _)) (blk_drew (heap_alloc_new W _))
theorem wp_var {P : Program} {c : Code} {a : Act} {K : Exit → Act → World → Prop} {W : World} {cs : Array Value} {t : TypeId} (h : ∀ W' : World, Below W.heap.size W W' → W'.heap[W.heap.size]? = some (.cells cs t (0, 0)) → c.wp P K a W') : c.wp P K a (W.alloc (.cells cs t)) :=
 h _ (below_alloc (Below.refl _ _) _) (heap_alloc_new W _)
theorem wp_var_drew {P : Program} {c : Code} {a : Act} {K : Exit → Act → World → Prop} {W : World} {cs : Array Value} {t : TypeId} (h : ∀ W' : World, Below W.heap.size W W' → W'.heap[W.heap.size]? = some (.cells cs t (0, 0)) → c.wp P K a W') : c.wp P K a (W.alloc (.cells cs t)).drew :=
 h _ (below_drew1 (below_alloc (Below.refl _ _) _)) (blk_drew (heap_alloc_new W _))
theorem row_next {W W1 : World} {base g : Nat} {v : Value} {l : List ByteArray} (h : Kd.R Kd.string 9 W base (fun _ => True) v l) (hg : g < base) (hk : KeepBut W W1 g none) : Kd.R Kd.string 9 W1 base (fun _ => True) v l := by
 refine Kd.R_mono (Kd.R_keep (Kd.R_bound h) hk fun k hk' => ?_) (fun _ _ => trivial)
 have := hk'.2.1
 omega
def L0 : List Int := [103, 101, 116, 32, 97, 13, 10, 115, 101, 116, 32, 97, 32, 48, 32, 48, 32, 50, 13, 10, 104, 105, 13, 10, 119, 104, 97, 116, 10]
def pA : PS := ⟨L0, false, .nil, 0⟩
def pB : PS := ⟨L0.drop 7, false, .nil, 0⟩
def pC : PS := ⟨L0.drop 24, false, .nil, 2⟩
def pD : PS := ⟨[], false, .nil, 2⟩
theorem aw_lit : litB.f L0 = some L0 := by kernel_rfl
theorem aw_feed : parse_Feed.f psNew L0 = some pA := by kernel_rfl
theorem aw_next1 : parse_Next.f 60 pA = some (⟨#[103, 101, 116]⟩, ⟨#[]⟩, [⟨#[97]⟩], ⟨#[]⟩, 0, 0, 0, 0, false, false, false, false, true, pB) := by kernel_rfl
theorem aw_next2 : parse_Next.f 60 pB = some (⟨#[115, 116, 111, 114, 101]⟩, ⟨#[115, 101, 116]⟩, [⟨#[97]⟩], ⟨#[104, 105]⟩, 0, 0, 0, 0, false, false, false, false, true, pC) := by kernel_rfl
theorem aw_next3 : parse_Next.f 60 pC = some (⟨#[98, 97, 100]⟩, ⟨#[69, 82, 82, 79, 82]⟩, [], ⟨#[]⟩, 0, 0, 0, 0, false, false, false, false, true, pD) := by kernel_rfl
theorem aw_next4 : parse_Next.f 60 pD = some (⟨#[]⟩, ⟨#[]⟩, [], ⟨#[]⟩, 0, 0, 0, 0, false, false, false, false, false, pD) := by kernel_rfl
theorem aw_one : parse_One.f 60 ⟨#[103, 101, 116, 32, 97, 32, 98]⟩ = some (⟨#[103, 101, 116]⟩, ⟨#[]⟩, [⟨#[97]⟩, ⟨#[98]⟩], ⟨#[]⟩, 0, 0, 0, 0, false, false, false, false, -1) := by kernel_rfl
theorem aw_cmd : cellaretref17_Cmd.f ⟨#[115, 116, 111, 114, 101]⟩ ⟨#[115, 101, 116]⟩ [⟨#[97]⟩] ⟨#[104, 105]⟩ 0 0 0 0 false false false false = some (⟨#[115, 116, 111, 114, 101]⟩, ⟨#[115, 101, 116]⟩, [⟨#[97]⟩], ⟨#[104, 105]⟩, 0, 0, 0, 0, false, false, false, false) := by kernel_rfl
theorem aw_is : cellaretref17_Is.f ⟨#[98, 97, 100]⟩ ⟨#[69, 82, 82, 79, 82]⟩ [] ⟨#[]⟩ 0 0 0 0 false false false false ⟨#[98, 97, 100]⟩ ⟨#[69, 82, 82, 79, 82]⟩ = some true := by kernel_rfl
theorem C_none {w : World} (A : Option Addr) : Kd.C Kd.string w A ([] : List ByteArray).length [] := ⟨rfl, Nat.zero_le _, fun h => absurd h (Nat.lt_irrefl 0)⟩
set_option maxHeartbeats 8000000 in
set_option maxRecDepth 100000 in
theorem awake_walk (w : World) (HLD : LaidA w) : Calls Tryz.prog 7 #[] w fun e w' => e = .returned (.bool true) ∧ Below w.heap.size w w' := by
 have HL := Aside0.mk HLD
 have hu27 := Tryz.underlying29
 have hu32 := Tryz.underlying26
 clear HLD
 go_enter Tryz.func7, Tryz.ntmps7
 go_wp2_with fail
 refine (parse_New.calls psNew w _ (Below.refl _ _) HL.out rfl).mono ?_
 rintro e w1 ⟨g, rfl, hi, hb, hb2⟩
 have HI1 := Aside0.mk hi
 have HB1 := Aside0.mk hb
 clear hi hb hb2
 go_wp2_with ((with_reducible refine gate_dst (N := 20) rfl ?_); refine lit_event rfl rfl (N := 20) rfl 36 5 L0 L0 rfl Tryz.underlying36 Tryz.underlying5 aw_lit ?hr (fun _ => rfl) ?_; (case hr => unfold L0; first | (go_simp; done) | (go_simp; rfl)); intro v2 w2 hv hb; obtain ⟨A2, c2, rfl, hl2, hF⟩ := hv; have HI2 := Aside0.mk (HI1.out.below hb); have HB2 := Aside0.mk (below_step HB1.out hb); have HC2 := Aside0.mk (Kd.F_now hF); have HL2 := Aside0.mk hl2; clear hb hF hl2)
 refine (parse_Feed.calls g psNew A2 c2 L0 pA w _ HI2.out HB2.out (HL.out.below HB2.out) HC2.out HL2.out aw_feed).mono ?_
 rintro e w3 ⟨rfl, hi, hb, hk⟩
 have HI3 := Aside0.mk hi
 have HB3 := Aside0.mk hb
 clear hi hb hk HI1 HB1 HI2 HB2 HC2 HL2
 go_wp2_with fail
 refine (parse_Next.calls 60 g pA ⟨#[103, 101, 116]⟩ ⟨#[]⟩ [⟨#[97]⟩] ⟨#[]⟩ 0 0 0 0 false false false false true pB w _ HI3.out HB3.out (HL.out.below HB3.out) aw_next1).mono ?_
 rintro e w4 ⟨v1, rfl, hr, hi, hb, hk⟩
 obtain ⟨A1, c1, ev1⟩ := Kd.R_slice hr
 subst ev1
 have HG := Aside0.mk HI3.out.lt
 have HR1 := Aside0.mk hr
 have HI4 := Aside0.mk hi
 have HB4 := Aside0.mk hb
 clear hr hi hb hk
 go_wp2_with fail
 refine calls_var ?_
 intro u4 hs hv
 have HV1 := Aside0.mk hv
 have HR1' := Aside0.mk (Kd.R_below HR1.out hs)
 have HI4' := Aside0.mk (HI4.out.below hs)
 have HB4' := Aside0.mk (below_step HB4.out hs)
 have HN1 := Aside0.mk (Nat.ne_of_gt HI4.out.lt)
 have HG4 := Aside0.mk HI4'.out.lt
 clear hs hv HR1 HI4 HB4 HI3 HB3
 refine (parse_Next.calls 60 g pB ⟨#[115, 116, 111, 114, 101]⟩ ⟨#[115, 101, 116]⟩ [⟨#[97]⟩] ⟨#[104, 105]⟩ 0 0 0 0 false false false false true pC w _ HI4'.out HB4'.out (HL.out.below HB4'.out) aw_next2).mono ?_
 rintro e w5 ⟨v2, rfl, hr, hi, hb, hk⟩
 obtain ⟨A2, c2, ev2⟩ := Kd.R_slice hr
 subst ev2
 have HV1b := Aside0.mk (KeepBut.blk hk HV1.out HN1.out (by simp))
 have HR1b := Aside0.mk (row_next HR1'.out HG.out hk)
 have HR2 := Aside0.mk hr
 have HI5 := Aside0.mk hi
 have HB5 := Aside0.mk hb
 clear hr hi hb hk HV1 HR1' HI4' HB4'
 go_wp2_with fail
 refine calls_var ?_
 intro u5 hs hv
 have HV1 := Aside0.mk (blk_below HV1b.out hs)
 have HR1 := Aside0.mk (Kd.R_below HR1b.out hs)
 have HV2 := Aside0.mk hv
 have HR2' := Aside0.mk (Kd.R_below HR2.out hs)
 have HI5' := Aside0.mk (HI5.out.below hs)
 have HB5' := Aside0.mk (below_step HB5.out hs)
 have HN2 := Aside0.mk (Nat.ne_of_gt HI5.out.lt)
 clear hs hv HV1b HR1b HR2 HI5 HB5
 refine (parse_Next.calls 60 g pC ⟨#[98, 97, 100]⟩ ⟨#[69, 82, 82, 79, 82]⟩ [] ⟨#[]⟩ 0 0 0 0 false false false false true pD w _ HI5'.out HB5'.out (HL.out.below HB5'.out) aw_next3).mono ?_
 rintro e w6 ⟨v3, rfl, hr, hi, hb, hk⟩
 obtain ⟨A3, c3, ev3⟩ := Kd.R_slice hr
 subst ev3
 have HV1b := Aside0.mk (KeepBut.blk hk HV1.out HN1.out (by simp))
 have HR1b := Aside0.mk (row_next HR1.out HG.out hk)
 have HV2b := Aside0.mk (KeepBut.blk hk HV2.out HN2.out (by simp))
 have HR2b := Aside0.mk (row_next HR2'.out HG4.out hk)
 have HI6 := Aside0.mk hi
 have HB6 := Aside0.mk hb
 clear hr hi hb hk HV1 HR1 HV2 HR2' HI5' HB5'
 go_wp2_with fail
 refine calls_var ?_
 intro u6 hs hv
 have HV1 := Aside0.mk (blk_below HV1b.out hs)
 have HR1 := Aside0.mk (Kd.R_below HR1b.out hs)
 have HV2 := Aside0.mk (blk_below HV2b.out hs)
 have HR2 := Aside0.mk (Kd.R_below HR2b.out hs)
 have HV3 := Aside0.mk hv
 have HI6' := Aside0.mk (HI6.out.below hs)
 have HB6' := Aside0.mk (below_step HB6.out hs)
 have HN3 := Aside0.mk (Nat.ne_of_gt HI6.out.lt)
 clear hs hv HV1b HR1b HV2b HR2b HI6 HB6
 refine (parse_Next.calls 60 g pD ⟨#[]⟩ ⟨#[]⟩ [] ⟨#[]⟩ 0 0 0 0 false false false false false pD w _ HI6'.out HB6'.out (HL.out.below HB6'.out) aw_next4).mono ?_
 rintro e w7 ⟨v4, rfl, hr, hi, hb, hk⟩
 obtain ⟨A4, c4, ev4⟩ := Kd.R_slice hr
 subst ev4
 have HV1b := Aside0.mk (KeepBut.blk hk HV1.out HN1.out (by simp))
 have HR1b := Aside0.mk (row_next HR1.out HG.out hk)
 have HV2b := Aside0.mk (KeepBut.blk hk HV2.out HN2.out (by simp))
 have HR2b := Aside0.mk (row_next HR2.out HG4.out hk)
 have HV3b := Aside0.mk (KeepBut.blk hk HV3.out HN3.out (by simp))
 have HI7 := Aside0.mk hi
 have HB7 := Aside0.mk hb
 clear hr hi hb hk HV1 HR1 HV2 HR2 HV3 HI6' HB6'
 go_upto_region 9 with (fail)
 refine wp_var ?_
 intro u7 hs hv
 have HV1 := Aside0.mk (blk_below HV1b.out hs)
 have HR1 := Aside0.mk (Kd.R_below HR1b.out hs)
 have HV2 := Aside0.mk (blk_below HV2b.out hs)
 have HR2 := Aside0.mk (Kd.R_below HR2b.out hs)
 have HV3 := Aside0.mk (blk_below HV3b.out hs)
 have HI7' := Aside0.mk (HI7.out.below hs)
 have HB7' := Aside0.mk (below_step HB7.out hs)
 clear hs hv HV1b HR1b HV2b HR2b HV3b HI7 HB7
 obtain ⟨x0, x1, x2, x3, x4, x5, x6, x7, x8, x9, x10, x11⟩ := celL HV1.out
 go_region_held3 (fun w' => w'.cell? ⟨w4.heap.size, 0, none⟩ = some (.string ⟨#[103, 101, 116]⟩) ∧ w'.cell? ⟨w4.heap.size, 1, none⟩ = some (.string ⟨#[]⟩) ∧ w'.cell? ⟨w4.heap.size, 2, none⟩ = some (.slice A1 1 c1) ∧ w'.cell? ⟨w4.heap.size, 3, none⟩ = some (.string ⟨#[]⟩) ∧ w'.cell? ⟨w4.heap.size, 4, none⟩ = some (.int .u32 0) ∧ w'.cell? ⟨w4.heap.size, 5, none⟩ = some (.int .i64 0) ∧ w'.cell? ⟨w4.heap.size, 6, none⟩ = some (.int .u64 0) ∧ w'.cell? ⟨w4.heap.size, 7, none⟩ = some (.int .u64 0) ∧ w'.cell? ⟨w4.heap.size, 8, none⟩ = some (.bool false) ∧ w'.cell? ⟨w4.heap.size, 9, none⟩ = some (.bool false) ∧ w'.cell? ⟨w4.heap.size, 10, none⟩ = some (.bool false) ∧ w'.cell? ⟨w4.heap.size, 11, none⟩ = some (.bool false)) (go_keep) (fail)
 go_wp2_with fail
 refine calls_var_drew ?_
 intro u8 hs hv
 have HVg := Aside0.mk hv
 have HR1' := Aside0.mk (Kd.R_below HR1.out hs)
 have HV2' := Aside0.mk (blk_below HV2.out hs)
 have HR2' := Aside0.mk (Kd.R_below HR2.out hs)
 have HV3' := Aside0.mk (blk_below HV3.out hs)
 have HI8 := Aside0.mk (HI7'.out.below hs)
 have HB8 := Aside0.mk (below_step HB7'.out hs)
 clear hs hv x0 x1 x2 x3 x4 x5 x6 x7 x8 x9 x10 x11 HV1 HR1 HV2 HR2 HV3 HI7' HB7'
 refine (parse_One.calls 60 ⟨#[103, 101, 116, 32, 97, 32, 98]⟩ ⟨#[103, 101, 116]⟩ ⟨#[]⟩ [⟨#[97]⟩, ⟨#[98]⟩] ⟨#[]⟩ 0 0 0 0 false false false false (-1) _ (HL.out.below HB8.out) aw_one).mono ?_
 rintro e w9 ⟨v5, rfl, hr, hs⟩
 obtain ⟨A5, c5, ev5⟩ := Kd.R_slice hr
 subst ev5
 have HVg' := Aside0.mk (blk_below HVg.out hs)
 have HR1 := Aside0.mk (Kd.R_below HR1'.out hs)
 have HV2 := Aside0.mk (blk_below HV2'.out hs)
 have HR2 := Aside0.mk (Kd.R_below HR2'.out hs)
 have HV3 := Aside0.mk (blk_below HV3'.out hs)
 have HI9 := Aside0.mk (HI8.out.below hs)
 have HB9 := Aside0.mk (below_step HB8.out hs)
 clear hr hs HVg HR1' HV2' HR2' HV3' HI8 HB8
 go_upto_region 11 with (fail)
 refine wp_var ?_
 intro u9 hs hv
 have HVg := Aside0.mk (blk_below HVg'.out hs)
 have HR1' := Aside0.mk (Kd.R_below HR1.out hs)
 have HV2' := Aside0.mk (blk_below HV2.out hs)
 have HR2' := Aside0.mk (Kd.R_below HR2.out hs)
 have HV3' := Aside0.mk (blk_below HV3.out hs)
 have HI9' := Aside0.mk (HI9.out.below hs)
 have HB9' := Aside0.mk (below_step HB9.out hs)
 clear hs HVg' HR1 HV2 HR2 HV3 HI9 HB9
 obtain ⟨x0, x1, x2, x3, x4, x5, x6, x7, x8, x9, x10, x11⟩ := celL hv
 go_region_held3 (fun w' => w'.cell? ⟨w9.heap.size, 0, none⟩ = some (.string ⟨#[103, 101, 116]⟩) ∧ w'.cell? ⟨w9.heap.size, 1, none⟩ = some (.string ⟨#[]⟩) ∧ w'.cell? ⟨w9.heap.size, 2, none⟩ = some (.slice A5 2 c5) ∧ w'.cell? ⟨w9.heap.size, 3, none⟩ = some (.string ⟨#[]⟩) ∧ w'.cell? ⟨w9.heap.size, 4, none⟩ = some (.int .u32 0) ∧ w'.cell? ⟨w9.heap.size, 5, none⟩ = some (.int .i64 0) ∧ w'.cell? ⟨w9.heap.size, 6, none⟩ = some (.int .u64 0) ∧ w'.cell? ⟨w9.heap.size, 7, none⟩ = some (.int .u64 0) ∧ w'.cell? ⟨w9.heap.size, 8, none⟩ = some (.bool false) ∧ w'.cell? ⟨w9.heap.size, 9, none⟩ = some (.bool false) ∧ w'.cell? ⟨w9.heap.size, 10, none⟩ = some (.bool false) ∧ w'.cell? ⟨w9.heap.size, 11, none⟩ = some (.bool false)) (go_keep) (fail)
 go_upto_region 12 with (fail)
 refine wp_var_drew ?_
 intro u10 hs hv2
 have HB10 := Aside0.mk (below_step HB9'.out hs)
 have HI10 := Aside0.mk (HI9'.out.below hs)
 have HV2 := Aside0.mk (blk_below HV2'.out hs)
 have HV3 := Aside0.mk (blk_below HV3'.out hs)
 have HVh := Aside0.mk hv2
 have hR1 := Kd.R_below HR1'.out hs
 have HR2 := Aside0.mk (Kd.R_below HR2'.out hs)
 have hG := blk_below HVg.out hs
 clear hs hv2 x0 x1 x2 x3 x4 x5 x6 x7 x8 x9 x10 x11 HI9' HB9' HV2' HV3' HR1' HR2' HVg
 obtain ⟨gb, ob, hA, hcell⟩ := str_cells (Kd.R_reads' hR1).2.2 (by simp)
 subst hA
 have y1 : u10.cell? ⟨gb, ob, none⟩ = some (.string ⟨#[97]⟩) := hcell 0 (by simp)
 clear hcell hR1
 obtain ⟨g0, g1, g2, g3, g4, g5, g6, g7, g8, g9, g10, g11⟩ := celL hG
 obtain ⟨b0, b1, b2, b3, b4, b5, b6, b7, b8, b9, b10, b11⟩ := celL HV2.out
 clear hG
 go_wp2_with fail
 refine (cellaretref17_Cmd.calls ⟨#[115, 116, 111, 114, 101]⟩ ⟨#[115, 101, 116]⟩ A2 c2 [⟨#[97]⟩] ⟨#[104, 105]⟩ 0 0 0 0 false false false false ⟨#[115, 116, 111, 114, 101]⟩ ⟨#[115, 101, 116]⟩ [⟨#[97]⟩] ⟨#[104, 105]⟩ 0 0 0 0 false false false false u10 (Kd.R_reads' HR2.out).2.2 (Kd.R_reads' HR2.out).2.1 aw_cmd).mono ?_
 rintro e w11 ⟨v6, rfl, hr, hs⟩
 obtain ⟨A6, c6, ev6⟩ := Kd.R_slice hr
 subst ev6
 have HR6 := Aside0.mk hr
 have HV3' := Aside0.mk (blk_below HV3.out hs)
 have HVh' := Aside0.mk (blk_below HVh.out hs)
 have HI11 := Aside0.mk (HI10.out.below hs)
 have HB11 := Aside0.mk (below_step HB10.out hs)
 clear hr hs HV3 HVh HI10 HB10 HV2 HR2 y1 g0 g1 g2 g3 g4 g5 g6 g7 g8 g9 g10 g11 b0 b1 b2 b3 b4 b5 b6 b7 b8 b9 b10 b11
 go_wp2_with fail
 refine calls_var ?_
 intro w12 hs hv
 have HI12 := Aside0.mk (HI11.out.below hs)
 have HB12 := Aside0.mk (below_step HB11.out hs)
 have HV3 := Aside0.mk (blk_below HV3'.out hs)
 have HVh := Aside0.mk (blk_below HVh'.out hs)
 have HR6' := Aside0.mk (Kd.R_below HR6.out hs)
 have HR7 := Aside0.mk (row_one (base := w11.heap.size) (ok := fun _ => True) hv (Nat.le_refl _) trivial)
 clear hs hv HI11 HB11 HV3' HVh' HR6
 refine (same_walk ⟨⟨#[115, 116, 111, 114, 101]⟩, ⟨#[115, 101, 116]⟩, [⟨#[97]⟩], ⟨#[104, 105]⟩, 0, 0, 0, 0, false, false, false, false⟩ (by decide) (Kd.R_reads' HR6'.out).2.2 (Kd.R_reads' HR6'.out).2.1 (Kd.R_reads' HR7.out).2.2 (Nat.le_refl _)).mono ?_
 rintro e w13 ⟨rfl, hs⟩
 have HI13 := Aside0.mk (HI12.out.below hs)
 have HB13 := Aside0.mk (below_step HB12.out hs)
 have HVh' := Aside0.mk (blk_below HVh.out hs)
 obtain ⟨b0, b1, b2, b3, b4, b5, b6, b7, b8, b9, b10, b11⟩ := celL (blk_below HV3.out hs)
 clear hs HI12 HB12 HVh HV3 HR6' HR7
 go_wp2_with fail
 refine (cellaretref17_Is.calls ⟨#[98, 97, 100]⟩ ⟨#[69, 82, 82, 79, 82]⟩ A3 c3 [] ⟨#[]⟩ 0 0 0 0 false false false false ⟨#[98, 97, 100]⟩ ⟨#[69, 82, 82, 79, 82]⟩ true w13 (C_none A3) (Nat.zero_le _) aw_is).mono ?_
 rintro e w14 ⟨rfl, hs⟩
 have HI14 := Aside0.mk (HI13.out.below hs)
 have HB14 := Aside0.mk (below_step HB13.out hs)
 clear b0 b1 b2 b3 b4 b5 b6 b7 b8 b9 b10 b11
 obtain ⟨b0, b1, b2, b3, b4, b5, b6, b7, b8, b9, b10, b11⟩ := celL (blk_below HVh'.out hs)
 clear hs HI13 HB13 HVh'
 go_wp2_with fail
 refine (parse_Waits.calls g pD 0 pD w w14 HI14.out HB14.out (HL.out.below HB14.out) rfl).mono ?_
 rintro e w15 ⟨rfl, hi, hb, hk⟩
 have HB15 := Aside0.mk hb
 clear hi hb hk HI14 HB14 b0 b1 b2 b3 b4 b5 b6 b7 b8 b9 b10 b11
 go_wp2_with fail
 go_ret
 exact ⟨rfl, HB15.out⟩
def cellaretlaw18_awake.f : Option Bool := some true
theorem cellaretlaw18_awake.calls (r : Bool) (w : World) (HLD : LaidA w) (h : cellaretlaw18_awake.f = some r) : Calls Tryz.prog 7 #[] w fun e w' => e = .returned (.bool r) ∧ Below w.heap.size w w' := by
 obtain rfl := Option.some.inj h
 exact awake_walk w HLD
end Go.Proofs.YtfbhlbchmenloaaGreatDoor.H
end
section
namespace Go.Proofs.YtfbhlbchmenloaaGreatDoor.H
open Go.RowKit Go.Proofs.YtfbhlbchmenloaaGreatDoorW.PrintWords Go.Proofs.YtfbhlbchmenloaaGreatDoorW.PrintLast Go.Proofs.YtfbhlbchmenloaaGreatDoorW.PrintMore
attribute [local go_sem] max2_int min2_int max_two min_two max_three min_three max_four min_four   -- for this text's walks alone
set_option linter.unusedVariables false
set_option linter.unusedSimpArgs false

/-! ### cellaretlaw18_signed: function 21 -/
def cellaretlaw18_signed.f (k : Nat) (a0 : Int) : Option (ByteArray) := if a0 < 0 then ((cellaretref1_Text.f k (IntKind.u64.wrap (wrap64 (-a0)))).bind fun t142 => (if 1 + t142.size ≤ 9223372036854775807 then (some ((⟨#[45]⟩ : ByteArray) ++ t142)) else (none))) else ((cellaretref1_Text.f k (IntKind.u64.wrap (a0))).bind fun t143 => (some t143))
theorem cellaretlaw18_signed.mono : ∀ a0 k, LeO (cellaretlaw18_signed.f k a0) (cellaretlaw18_signed.f (k + 1) a0) := by
  intro a0 k
  unfold cellaretlaw18_signed.f
  repeat' first
      | (with_reducible exact cellaretref1_Text.mono _ _)
      | (with_reducible exact LeO.refl _)
      | (with_reducible exact LeO.none _)
      | (with_reducible refine LeO.ite ?_ ?_)
      | (with_reducible refine LeO.bind ?_ (fun _ => ?_))
      | exact cellaretref1_Text.mono _ _
      | exact LeO.none _
      | refine LeO.ite ?_ ?_
      | refine LeO.bind ?_ (fun _ => ?_)
theorem bBY12 {B : Nat} {w W : World} (h : Below B w W := by repeat (first | (with_reducible first | exact HB.out | apply wA | apply wN | apply wD) | exact HB.out)) : Below B w W := h
set_option maxHeartbeats 8000000 in
set_option maxRecDepth 100000 in
theorem cellaretlaw18_signed.calls (k : Nat) (a0 : Int) (r : ByteArray) (w : World) (h : cellaretlaw18_signed.f k a0 = some r) :
  Calls Tryz.prog 21 #[.int .i64 a0] w fun e w' => e = .returned (.string r) ∧ Below w.heap.size w w' := by
 have HB := M0 (Below.refl w.heap.size w)
 have H : (if a0 < 0 then ((cellaretref1_Text.f k (IntKind.u64.wrap (wrap64 (-a0)))).bind fun qA => (if 1 + qA.size ≤ 9223372036854775807 then (some ((⟨#[45]⟩ : ByteArray) ++ qA)) else (none))) else ((cellaretref1_Text.f k (IntKind.u64.wrap (a0))).bind fun qB => (some qB))) = some r := h
 clear h
 by_cases c2 : a0 < 0
 ·rw [if_pos c2] at H
  have c2b0 : decide (a0 < 0) = true := decide_eq_true c2
  clear c2
  replace H := Option.bind_eq_some_iff.mp H
  obtain ⟨qA, A30, H⟩ := H
  replace H : (if 1 + qA.size ≤ 9223372036854775807 then (some ((⟨#[45]⟩ : ByteArray) ++ qA)) else (none)) = some r := H
  have A3 := M0 A30
  clear A30
  by_cases c4 : 1 + qA.size ≤ 9223372036854775807
  ·rw [if_pos c4] at H
   have c4b0 := eq_true c4
   have c4b1 : decide (1 + qA.size ≤ 9223372036854775807) = true := decide_eq_true c4
   try have c4b2 : (9223372036854775807 < 1 + qA.size) = False := eq_false (Nat.not_lt.2 c4)
   obtain rfl := Option.some.inj H
   go_enter Tryz.func21, Tryz.ntmps21
   go_wp2_with (first | ((with_reducible refine gate_callee (f := 25) rfl ?_); refine goesL_ (some 8) rfl rfl Tryz.func25 (by kernel_rfl) rfl #[.int .u64 (IntKind.u64.wrap (wrap64 (-a0)))] rfl (by (try simp only [List.map_toArray, List.map_cons, List.map_nil]); first | done | rfl | (simp only [List.length_drop, List.length_take]; rfl)) ?_; (with_reducible refine (cellaretref1_Text.calls k (IntKind.u64.wrap (wrap64 (-a0))) qA _ A3.out).mono ?_); rintro e w5 ⟨rfl, hb⟩; refine ⟨_, rfl, ?_⟩; have n0_ := M0 (below_step bBY12 hb); clear HB; have HB := n0_; clear n0_; (try clear hb); (try clear hb2); (try clear hk); (try clear hi)))
   go_ret
   exact ⟨by first | rfl | (simp [errW_none, errW_some] <;> rfl) | (simp [*, errW_none, errW_some] <;> rfl), bBY12⟩
  ·rw [if_neg c4] at H
   exact absurd H (by simp)
 ·rw [if_neg c2] at H
  have c2b0 : decide (a0 < 0) = false := decide_eq_false c2
  clear c2
  replace H := Option.bind_eq_some_iff.mp H
  obtain ⟨qB, A60, H⟩ := H
  replace H : (some qB) = some r := H
  have A6 := M0 A60
  clear A60
  obtain rfl := Option.some.inj H
  go_enter Tryz.func21, Tryz.ntmps21
  go_wp2_with (first | ((with_reducible refine gate_callee (f := 25) rfl ?_); refine goesL_ (some 12) rfl rfl Tryz.func25 (by kernel_rfl) rfl #[.int .u64 (IntKind.u64.wrap (a0))] rfl (by (try simp only [List.map_toArray, List.map_cons, List.map_nil]); first | done | rfl | (simp only [List.length_drop, List.length_take]; rfl)) ?_; (with_reducible refine (cellaretref1_Text.calls k (IntKind.u64.wrap (a0)) qB _ A6.out).mono ?_); rintro e w7 ⟨rfl, hb⟩; refine ⟨_, rfl, ?_⟩; have n0_ := M0 (below_step bBY12 hb); clear HB; have HB := n0_; clear n0_; (try clear hb); (try clear hb2); (try clear hk); (try clear hi)))
  go_ret
  exact ⟨by first | rfl | (simp [errW_none, errW_some] <;> rfl) | (simp [*, errW_none, errW_some] <;> rfl), bBY12⟩

end Go.Proofs.YtfbhlbchmenloaaGreatDoor.H
-- thinned
end
section
namespace Go.Proofs.YtfbhlbchmenloaaGreatDoor.O
open Go Go.RowKit Go.Proofs.YtfbhlbchmenloaaGreatDoorW.PrintWords Go.Proofs.YtfbhlbchmenloaaGreatDoorW.PrintLast Go.Proofs.YtfbhlbchmenloaaGreatDoorW.PrintMore Go.Proofs.YtfbhlbchmenloaaGreatDoor.H Go.Proofs.YtfbhlbchmenloaaGreatDoor.L Go.Proofs.YtfbhlbchmenloaaGreatDoor.Pure
set_option linter.unusedVariables false
set_option linter.unusedSimpArgs false
theorem cmd_is (d : Cd) (hk : d.keys.length ≤ 64) : cellaretref17_Cmd.f d.what d.verb d.keys d.data d.flags d.exp d.cas d.by_ d.withCas d.withTouch d.down d.quiet = some (d.what, d.verb, d.keys, d.data, d.flags, d.exp, d.cas, d.by_, d.withCas, d.withTouch, d.down, d.quiet) := by
 unfold cellaretref17_Cmd.f
 simp only [Option.bind_some, List.nil_append, List.length_nil, Nat.zero_add, if_pos (show d.keys.length < 8796093022208 by omega)]
 by_cases h : (d.keys.length : Int) = 0
 ·rw [if_pos h, List.eq_nil_of_length_eq_zero (show d.keys.length = 0 by omega)]
 ·rw [if_neg h]
theorem wpl_var {P : Program} {ops : Array Oper} {Q : Exit → Act → World → Prop} {rest : List Oper} {a : Act} {W : World} {cs : Array Value} {t : TypeId} (h : ∀ W' : World, Below W.heap.size W W' → W'.heap[W.heap.size]? = some (.cells cs t (0, 0)) → wpList P ops Q rest a W') : wpList P ops Q rest a (W.alloc (.cells cs t)) :=
 h _ (below_alloc (Below.refl _ _) _) (heap_alloc_new W _)
/-- The twelve cells of a command's block. -/
def C12 (W : World) (g : Nat) (c0 c1 c2 c3 c4 c5 c6 c7 c8 c9 c10 c11 : Value) : Prop := W.cell? ⟨g, 0, none⟩ = some c0 ∧ W.cell? ⟨g, 1, none⟩ = some c1 ∧ W.cell? ⟨g, 2, none⟩ = some c2 ∧ W.cell? ⟨g, 3, none⟩ = some c3 ∧ W.cell? ⟨g, 4, none⟩ = some c4 ∧ W.cell? ⟨g, 5, none⟩ = some c5 ∧ W.cell? ⟨g, 6, none⟩ = some c6 ∧ W.cell? ⟨g, 7, none⟩ = some c7 ∧ W.cell? ⟨g, 8, none⟩ = some c8 ∧ W.cell? ⟨g, 9, none⟩ = some c9 ∧ W.cell? ⟨g, 10, none⟩ = some c10 ∧ W.cell? ⟨g, 11, none⟩ = some c11
abbrev t := true
abbrev f := false
abbrev IsP := @IsS55
theorem new_ref {W0 W : World} (hB : Below W0.heap.size W0 W) (HLD : LaidA W) : Calls Tryz.prog 12 #[] W fun e w' => ∃ g, e = .returned (.pointer (some ⟨g, 0, none⟩)) ∧ IsP W0 w' g psNew ∧ Below W0.heap.size W0 w' ∧ Below W.heap.size W w' :=
 parse_New.calls psNew W0 W hB HLD rfl
theorem feed_ref {g : Nat} {ps : PS} {A : Option Addr} {c : Nat} {l : List Int} {W0 W : World} (hI : IsP W0 W g ps) (hB : Below W0.heap.size W0 W) (HLD : LaidA W) (hr : Kd.C (Kd.int .u8) W A l.length l) (hc : l.length ≤ c) (hl : ps.b.length + l.length ≤ 140737488355328) :
  Calls Tryz.prog 13 #[.pointer (some ⟨g, 0, none⟩), .slice A l.length c] W fun e w' => e = .returned (.tuple #[]) ∧ IsP W0 w' g (psFeed ps l) ∧ Below W0.heap.size W0 w' ∧ KeepRow W w' g :=
 parse_Feed.calls g ps A c l (psFeed ps l) W0 W hI hB HLD hr hc (by unfold parse_Feed.f; rw [if_pos hl])
theorem next_ref {g : Nat} {ps : PS} {q : Cx × Bool × PS} {W0 W : World} (hi : Inv ps) (hq : nextR ps = q) (d : Cd) (hd : toX q.1 = d) (ok : Bool) (hok : q.2.1 = ok) (hI : IsP W0 W g ps) (hB : Below W0.heap.size W0 W) (HLD : LaidA W) :
  Calls Tryz.prog 14 #[.pointer (some ⟨g, 0, none⟩)] W fun e w' => ∃ A c, e = .returned (.tuple #[cdV d (.slice A d.keys.length c), .bool ok]) ∧ (d.keys.length ≤ c ∧ Kd.C Kd.string w' A d.keys.length d.keys) ∧ IsP W0 w' g q.2.2 ∧ Below W0.heap.size W0 w' ∧ KeepBut W w' g none := by
 subst hq
 subst hd
 subst hok
 obtain ⟨k, h⟩ := (evNext ps hi).rounds
 refine (parse_Next.calls k g ps (toX (nextR ps).1).what (toX (nextR ps).1).verb (toX (nextR ps).1).keys (toX (nextR ps).1).data (toX (nextR ps).1).flags (toX (nextR ps).1).exp (toX (nextR ps).1).cas (toX (nextR ps).1).by_ (toX (nextR ps).1).withCas (toX (nextR ps).1).withTouch (toX (nextR ps).1).down (toX (nextR ps).1).quiet (nextR ps).2.1 (nextR ps).2.2 W0 W hI hB HLD h).mono ?_
 rintro e w' ⟨v, rfl, hr, h1, h2, h3⟩
 obtain ⟨A, c, ev⟩ := Kd.R_slice hr
 subst ev
 exact ⟨A, c, rfl, ⟨(Kd.R_reads' hr).2.1, (Kd.R_reads' hr).2.2⟩, h1, h2, h3⟩
theorem cmd_ref (d : Cd) {A : Option Addr} {c : Nat} {W : World} (hk : d.keys.length ≤ 64) (hr : Kd.C Kd.string W A d.keys.length d.keys) (hc : d.keys.length ≤ c) :
  Calls Tryz.prog 8 #[cdV d (.slice A d.keys.length c)] W fun e w' => ∃ A' c', e = .returned (cdV d (.slice A' d.keys.length c')) ∧ d.keys.length ≤ c' ∧ Kd.C Kd.string w' A' d.keys.length d.keys ∧ Below W.heap.size W w' := by
 refine (cellaretref17_Cmd.calls d.what d.verb A c d.keys d.data d.flags d.exp d.cas d.by_ d.withCas d.withTouch d.down d.quiet _ _ _ _ _ _ _ _ _ _ _ _ W hr hc (cmd_is d hk)).mono ?_
 rintro e w' ⟨v, rfl, hr, hb⟩
 obtain ⟨A, c, ev⟩ := Kd.R_slice hr
 subst ev
 exact ⟨A, c, rfl, (Kd.R_reads' hr).2.1, (Kd.R_reads' hr).2.2, hb⟩
theorem same_ref (d : Cd) {A A' : Option Addr} {c c' : Nat} {W : World} (hk : d.keys.length < 1000000) (hr : Kd.C Kd.string W A d.keys.length d.keys) (hc : d.keys.length ≤ c) (hr' : Kd.C Kd.string W A' d.keys.length d.keys) (hc' : d.keys.length ≤ c') :
  Calls Tryz.prog 16 #[cdV d (.slice A d.keys.length c), cdV d (.slice A' d.keys.length c')] W fun e w' => e = .returned (.bool true) ∧ Below W.heap.size W w' := same_walk d hk hr hc hr' hc'
theorem is_bad (t : ByteArray) : cellaretref17_Is.f (toX (.pl (.bad t))).what (toX (.pl (.bad t))).verb (toX (.pl (.bad t))).keys (toX (.pl (.bad t))).data (toX (.pl (.bad t))).flags (toX (.pl (.bad t))).exp (toX (.pl (.bad t))).cas (toX (.pl (.bad t))).by_ (toX (.pl (.bad t))).withCas (toX (.pl (.bad t))).withTouch (toX (.pl (.bad t))).down (toX (.pl (.bad t))).quiet (⟨#[98, 97, 100]⟩ : ByteArray) t = some true := by
 unfold cellaretref17_Is.f
 rw [if_pos (by rfl), if_pos (by rfl)]
 rfl
theorem is_ref (t : ByteArray) {A : Option Addr} {c : Nat} {W : World} :
  Calls Tryz.prog 18 #[.agg #[.string ⟨#[98, 97, 100]⟩, .string t, .slice A 0 c, .string ez, .int .u32 0, .int .i64 0, .int .u64 0, .int .u64 0, .bool false, .bool false, .bool false, .bool false], .string ⟨#[98, 97, 100]⟩, .string t] W fun e w' => e = .returned (.bool true) ∧ Below W.heap.size W w' :=
 cellaretref17_Is.calls ⟨#[98, 97, 100]⟩ t A c [] ez 0 0 0 0 false false false false ⟨#[98, 97, 100]⟩ t true W (C_none A) (Nat.zero_le _) (is_bad t)
theorem one_tells (s : ByteArray) (W : World) (hsz : s.size < 100000) (d : Cd) (n : Int) (hd : toX (lineX (wordsOf s)).1 = d) (hn : (lineX (wordsOf s)).2 = n) : Calls Tryz.prog 19 #[.string s] W (TellsC d n W) := by
 subst hd
 subst hn
 exact one_ref s W hsz
theorem lacks_of {s : ByteArray} {c : UInt8} (h : ∀ j, j < s.size → by_ s j ≠ c.toNat) : Lacks c s := by
 intro x hx e
 subst e
 obtain ⟨j, hj, hx⟩ := List.getElem_of_mem hx
 refine h j (by have := len_eq s; omega) ?_
 unfold by_
 rw [List.getD_eq_getElem?_getD, List.getElem?_eq_getElem hj, hx]
 rfl
theorem conv_is (s : ByteArray) (h : s.size ≤ 9223372036854775807) : convB.f s = some (bytesOf s) := by unfold convB.f; rw [if_pos h]
theorem awake_ref {W : World} (HLD : LaidA W) : Calls Tryz.prog 7 #[] W fun e w' => e = .returned (.bool true) ∧ Below W.heap.size W w' := awake_walk W HLD
theorem signed_ref (n : Nat) (h : n < 9223372036854775808) (W : World) : Calls Tryz.prog 21 #[.int .i64 (n : Int)] W fun e w' => e = .returned (.string (ba (Lib.decDigits n))) ∧ Below W.heap.size W w' := by
 have hn : Ev (fun k => cellaretlaw18_signed.f k (n : Int)) (ba (Lib.decDigits n)) := by
  unfold cellaretlaw18_signed.f
  simp only [if_neg (show ¬ (n : Int) < 0 by omega), u64w (n : Int) (by omega) (by omega)]
  exact Ev.bind (evRefText n (by omega)) (Ev.now _)
 obtain ⟨k, h⟩ := hn.rounds
 exact cellaretlaw18_signed.calls k (n : Int) _ W h
end Go.Proofs.YtfbhlbchmenloaaGreatDoor.O
end
section
namespace Go.Proofs.YtfbhlbchmenloaaGreatDoor.H
open Go.RowKit Go.Proofs.YtfbhlbchmenloaaGreatDoorW.PrintWords Go.Proofs.YtfbhlbchmenloaaGreatDoorW.PrintLast Go.Proofs.YtfbhlbchmenloaaGreatDoorW.PrintMore
attribute [local go_sem] max2_int min2_int max_two min_two max_three min_three max_four min_four   -- for this text's walks alone
set_option linter.unusedVariables false
set_option linter.unusedSimpArgs false

/-! ### cellaretlaw18_trim: function 20 -/
def cellaretlaw18_trim.f (a0 : ByteArray) : Option (ByteArray) := if a0.toList = ([] : List UInt8) then (some a0) else (if 0 ≤ (wrap64 ((a0.size : Int) - 1)) then (if (wrap64 ((a0.size : Int) - 1)) < (a0.size : Int) then (if (bt a0 (wrap64 ((a0.size : Int) - 1))) = 13 then (if (wrap64 ((a0.size : Int) - 1)) ≤ (a0.size : Int) then (some (a0.extract 0 ((wrap64 ((a0.size : Int) - 1)) : Int).toNat)) else (none)) else (some a0)) else (none)) else (none))
set_option maxHeartbeats 8000000 in
set_option maxRecDepth 100000 in
theorem cellaretlaw18_trim.calls (a0 : ByteArray) (r : ByteArray) (w : World) (h : cellaretlaw18_trim.f a0 = some r) :
    Calls Tryz.prog 20 #[.string a0] w fun e w' => e = .returned (.string r) ∧ Drawn0 w w' := by
  have H : (if a0.toList = ([] : List UInt8) then (some a0) else (if 0 ≤ (wrap64 ((a0.size : Int) - 1)) then (if (wrap64 ((a0.size : Int) - 1)) < (a0.size : Int) then (if (bt a0 (wrap64 ((a0.size : Int) - 1))) = 13 then (if (wrap64 ((a0.size : Int) - 1)) ≤ (a0.size : Int) then (some (a0.extract 0 ((wrap64 ((a0.size : Int) - 1)) : Int).toNat)) else (none)) else (some a0)) else (none)) else (none))) = some r := h
  clear h
  by_cases c2 : a0.toList = ([] : List UInt8)
  · rw [if_pos c2] at H
    have c2b0 : (a0.toList == ([] : List UInt8)) = true := beq_iff_eq.mpr c2
    have c2b1 : (a0.toList != ([] : List UInt8)) = false := bne_eq_false_iff_eq.mpr c2
    clear c2
    obtain rfl := Option.some.inj H
    go_enter Tryz.func20, Tryz.ntmps20
    go_wp2
    go_ret
    exact ⟨by first | rfl | (simp; done) | (simp [*]; done), by repeat (first | exact Drawn0.refl _ | apply Drawn0.step)⟩
  · rw [if_neg c2] at H
    have c2b0 : (a0.toList == ([] : List UInt8)) = false := beq_eq_false_iff_ne.mpr c2
    have c2b1 : (a0.toList != ([] : List UInt8)) = true := bne_iff_ne.mpr c2
    obtain ⟨ji3, hji3⟩ : ∃ j_ : Int, (wrap64 ((a0.size : Int) - 1)) = j_ := ⟨_, rfl⟩
    replace H : (if 0 ≤ (ji3) then (if (ji3) < (a0.size : Int) then (if (bt a0 (ji3)) = 13 then (if (ji3) ≤ (a0.size : Int) then (some (a0.extract 0 ((ji3) : Int).toNat)) else (none)) else (some a0)) else (none)) else (none)) = some r := by first | (rw [hji3] at H; exact H) | (simp only [hji3] at H ⊢; exact H)
    have hji3w : (IntKind.i64.wrap ((a0.size : Int) - 1)) = ji3 := (i64_w _).trans hji3
    by_cases c4 : 0 ≤ (ji3)
    · rw [if_pos c4] at H
      have c4b0 : decide (0 ≤ (ji3)) = true := decide_eq_true c4
      clear c4
      by_cases c5 : (ji3) < (a0.size : Int)
      · rw [if_pos c5] at H
        have c5b0 : decide ((ji3) < (a0.size : Int)) = true := decide_eq_true c5
        clear c5
        by_cases c7 : (bt a0 (ji3)) = 13
        · rw [if_pos c7] at H
          have c7b0 : ((bt a0 (ji3)) == 13) = true := beq_iff_eq.mpr c7
          have c7b1 : ((bt a0 (ji3)) != 13) = false := bne_eq_false_iff_eq.mpr c7
          clear c7
          have c8b0 := eq_true (of_decide_eq_true (by first | (with_reducible assumption) | assumption) : 0 ≤ (ji3))
          by_cases c9 : (ji3) ≤ (a0.size : Int)
          · rw [if_pos c9] at H
            have c9b0 := eq_true c9
            have c9b1 : decide ((ji3) ≤ (a0.size : Int)) = true := decide_eq_true c9
            clear c9
            obtain rfl := Option.some.inj H
            have p6 : 0 ≤ ((ji3) : Int) := of_decide_eq_true (by first | (with_reducible assumption) | assumption)
            have q6 : (ji3) < (a0.size : Int) := of_decide_eq_true (by first | (with_reducible assumption) | assumption)
            have hx6 := bt_at a0 (ji3)
            replace p6 := eq_true p6
            replace q6 := eq_true q6
            go_enter Tryz.func20, Tryz.ntmps20
            go_wp2
            go_ret
            exact ⟨by first | rfl | (simp; done) | (simp only [← hji3] <;> (first | rfl | simp)) | (simp [*]; done), by repeat (first | exact Drawn0.refl _ | apply Drawn0.step)⟩
          · rw [if_neg c9] at H
            exact absurd H (by simp)
        · rw [if_neg c7] at H
          have c7b0 : ((bt a0 (ji3)) == 13) = false := beq_eq_false_iff_ne.mpr c7
          have c7b1 : ((bt a0 (ji3)) != 13) = true := bne_iff_ne.mpr c7
          obtain rfl := Option.some.inj H
          have p6 : 0 ≤ ((ji3) : Int) := of_decide_eq_true (by first | (with_reducible assumption) | assumption)
          have q6 : (ji3) < (a0.size : Int) := of_decide_eq_true (by first | (with_reducible assumption) | assumption)
          have hx6 := bt_at a0 (ji3)
          replace p6 := eq_true p6
          replace q6 := eq_true q6
          go_enter Tryz.func20, Tryz.ntmps20
          go_wp2
          go_ret
          exact ⟨by first | rfl | (simp; done) | (simp only [← hji3] <;> (first | rfl | simp)) | (simp [*]; done), by repeat (first | exact Drawn0.refl _ | apply Drawn0.step)⟩
      · rw [if_neg c5] at H
        exact absurd H (by simp)
    · rw [if_neg c4] at H
      exact absurd H (by simp)

end Go.Proofs.YtfbhlbchmenloaaGreatDoor.H
end
