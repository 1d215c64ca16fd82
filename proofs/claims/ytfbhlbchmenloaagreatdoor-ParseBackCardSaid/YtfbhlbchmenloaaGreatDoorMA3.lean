/-
  The law's own walk, its plain statement and its row: the law holds. Its condition: none beside the given row's own.
-/
import Derived.Test.YtfbhlbchmenloaaGreatDoorMA0
import Derived.Test.YtfbhlbchmenloaaGreatDoorMA2
import Derived.Deep.RegionHeld3
import Derived.KernelRfl
section
namespace Go.Proofs.YtfbhlbchmenloaaGreatDoor.H
open Go.RowKit Go.Proofs.YtfbhlbchmenloaaGreatDoorW.PrintWords Go.Proofs.YtfbhlbchmenloaaGreatDoorW.PrintLast Go.Proofs.YtfbhlbchmenloaaGreatDoorW.PrintMore
attribute [local go_sem] max2_int min2_int max_two min_two max_three min_three max_four min_four   -- for this text's walks alone
set_option linter.unusedVariables false
set_option linter.unusedSimpArgs false

/-! ### cellaretref17_Cmd: function 8 -/
def cellaretref17_Cmd.f (a0_0:ByteArray) (a0_1:ByteArray) (l0_2:List ByteArray) (a0_3:ByteArray) (a0_4:Int) (a0_5:Int) (a0_6:Int) (a0_7:Int) (a0_8:Bool) (a0_9:Bool) (a0_10:Bool) (a0_11:Bool):Option (ByteArray×ByteArray×List ByteArray×ByteArray×Int×Int×Int×Int×Bool×Bool×Bool×Bool):=(some (([]:List ByteArray):List ByteArray)).bind fun y103=>(if y103.length + l0_2.length < 8796093022208 then ((some (y103++l0_2:List ByteArray)).bind fun y106=>(if (y106.length:Int)=0 then (some (a0_0,a0_1,([]:List ByteArray),a0_3,a0_4,a0_5,a0_6,a0_7,a0_8,a0_9,a0_10,a0_11)) else (some (a0_0,a0_1,y106,a0_3,a0_4,a0_5,a0_6,a0_7,a0_8,a0_9,a0_10,a0_11)))) else (none))
def cellaretref17_Cmd.T1:Bool×List (List Nat×List Nat):=(true,[([],[]),([0],[0]),([],[]),([2],[2]),([],[]),([],[]),([5],[5]),([4,6],[4,6]),([],[]),([8],[8]),([],[]),([10],[10]),([],[]),([12],[12]),([],[]),([14],[14]),([],[]),([16],[16]),([],[]),([18],[18]),([],[]),([20],[20]),([],[]),([22],[22]),([],[]),([24],[24]),([1,3,7,9,11,13,15,17,19,21,23,25],[1,3,7,9,11,13,15,17,19,21,23,25]),([],[]),([27,26,7,0,1,2,3,4,5,6,7,8,9,10,11,12,13,14,15,16,17,18,19,20,21,22,23,24,25,26,27],[26,27])])
def cellaretref17_Cmd.B1:List Nat:=[0,1,0,4,0,0,32,112,0,256,0,1024,0,4096,0,16384,0,65536,0,262144,0,1048576,0,4194304,0,16777216,67108863,0,268435455]
theorem cellaretref17_Cmd.tab1:rtab .any (opsOf Tryz.f8 1)=cellaretref17_Cmd.T1:=by kernel_rfl
theorem cellaretref17_Cmd.bits1:waitsOk cellaretref17_Cmd.T1.2 cellaretref17_Cmd.B1=true:=by kernel_rfl
theorem bBY1 {B:Nat} {w W:World} (h:Below B w W:=by repeat (first | (with_reducible first | exact HB.out | apply wA | apply wN | apply wD | refine below_set ?_ qM.out | refine below_set ?_ qN.out | refine below_set ?_ qP.out) | exact HB.out)):Below B w W:=h
set_option maxHeartbeats 8000000 in
set_option maxRecDepth 100000 in
theorem cellaretref17_Cmd.calls (a0_0:ByteArray) (a0_1:ByteArray) (A0_2:Option Addr) (c0_2:Nat) (l0_2:List ByteArray) (a0_3:ByteArray) (a0_4:Int) (a0_5:Int) (a0_6:Int) (a0_7:Int) (a0_8:Bool) (a0_9:Bool) (a0_10:Bool) (a0_11:Bool) (r1:ByteArray) (r2:ByteArray) (r3:List ByteArray) (r4:ByteArray) (r5:Int) (r6:Int) (r7:Int) (r8:Int) (r9:Bool) (r10:Bool) (r11:Bool) (r12:Bool) (w:World) (hr0_2:Kd.C Kd.string w A0_2 l0_2.length l0_2) (hc0_2:l0_2.length≤c0_2) (h:cellaretref17_Cmd.f a0_0 a0_1 l0_2 a0_3 a0_4 a0_5 a0_6 a0_7 a0_8 a0_9 a0_10 a0_11=some (r1,r2,r3,r4,r5,r6,r7,r8,r9,r10,r11,r12)) :
  Calls Tryz.prog 8 #[.agg #[.string a0_0,.string a0_1,.slice A0_2 l0_2.length c0_2,.string a0_3,.int .u32 a0_4,.int .i64 a0_5,.int .u64 a0_6,.int .u64 a0_7,.bool a0_8,.bool a0_9,.bool a0_10,.bool a0_11]] w fun e w'=>∃ v2_:Value,e=.returned (.agg #[.string r1,.string r2,v2_,.string r4,.int .u32 r5,.int .i64 r6,.int .u64 r7,.int .u64 r8,.bool r9,.bool r10,.bool r11,.bool r12])∧Kd.R Kd.string 9 w' w.heap.size (fun _=>True) v2_ r3∧Below w.heap.size w w':=by
 have hu29:=Tryz.underlying29
 have hu26:=Tryz.underlying26
 have HR0_2:=M0 hr0_2
 have HC0_2:=M0 hc0_2
 clear hr0_2 hc0_2
 have HB:=M0 (Below.refl w.heap.size w)
 have H:((some (([]:List ByteArray):List ByteArray)).bind fun y103=>(if y103.length + l0_2.length < 8796093022208 then ((some (y103++l0_2:List ByteArray)).bind fun y106=>(if (y106.length:Int)=0 then (some (a0_0,a0_1,([]:List ByteArray),a0_3,a0_4,a0_5,a0_6,a0_7,a0_8,a0_9,a0_10,a0_11)) else (some (a0_0,a0_1,y106,a0_3,a0_4,a0_5,a0_6,a0_7,a0_8,a0_9,a0_10,a0_11)))) else (none)))=some (r1,r2,r3,r4,r5,r6,r7,r8,r9,r10,r11,r12):=h
 clear h
 obtain ⟨y103,hy103⟩:∃ y_:List ByteArray,y_=(([]:List ByteArray)):=⟨_,rfl⟩
 replace H:(if y103.length + l0_2.length < 8796093022208 then ((some (y103++l0_2:List ByteArray)).bind fun y106=>(if (y106.length:Int)=0 then (some (a0_0,a0_1,([]:List ByteArray),a0_3,a0_4,a0_5,a0_6,a0_7,a0_8,a0_9,a0_10,a0_11)) else (some (a0_0,a0_1,y106,a0_3,a0_4,a0_5,a0_6,a0_7,a0_8,a0_9,a0_10,a0_11)))) else (none))=some (r1,r2,r3,r4,r5,r6,r7,r8,r9,r10,r11,r12):=by first | (rw [hy103];with_reducible exact H) | (have H2_:=(Option.bind_some _ _).symm.trans H;rw [hy103];with_reducible exact H2_) | (have H2_:=(Option.bind_some _ _).symm.trans H;with_reducible exact H2_) | with_reducible exact H | (rw [hy103];exact H) | exact H
 have qT:=M0 hy103
 clear hy103
 by_cases c2:y103.length + l0_2.length < 8796093022208
 ·rw [if_pos c2] at H
  have qW:=M0 c2
  clear c2
  obtain ⟨y106,hy106⟩:∃ y_:List ByteArray,y_=(y103++l0_2):=⟨_,rfl⟩
  replace H:(if (y106.length:Int)=0 then (some (a0_0,a0_1,([]:List ByteArray),a0_3,a0_4,a0_5,a0_6,a0_7,a0_8,a0_9,a0_10,a0_11)) else (some (a0_0,a0_1,y106,a0_3,a0_4,a0_5,a0_6,a0_7,a0_8,a0_9,a0_10,a0_11)))=some (r1,r2,r3,r4,r5,r6,r7,r8,r9,r10,r11,r12):=by first | (rw [hy106];with_reducible exact H) | (have H2_:=(Option.bind_some _ _).symm.trans H;rw [hy106];with_reducible exact H2_) | (have H2_:=(Option.bind_some _ _).symm.trans H;with_reducible exact H2_) | with_reducible exact H | (rw [hy106];exact H) | exact H
  have qV:=M0 hy106
  clear hy106
  go_enter Tryz.func8,Tryz.ntmps8
  try go_wp2_with (first | ((with_reducible refine gate_dst (N:=1) rfl ?_);refine box_event ?hg (N:=1) ?hd (cs:=#[.string a0_0,.string a0_1,.slice A0_2 l0_2.length c0_2,.string a0_3,.int .u32 a0_4,.int .i64 a0_5,.int .u64 a0_6,.int .u64 a0_7,.bool a0_8,.bool a0_9,.bool a0_10,.bool a0_11]) (t:=29) ?hr ?_;(case hd=>rfl);(case hg=>rfl);(case hr=>first | (go_simp;done) | (go_simp;rfl));intro qD hg w4 hbox hb;have n0_:=M0 (below_step bBY1 hb);have n1_:=M0 (hbox);have n2_:=M0 ((by rw [hg];exact (below_size bBY1):w.heap.size≤qD));have n3_:=M0 ((by rw [hg];exact (below_size bBY1):w.heap.size≤qD));clear HB;have HB:=n0_;have qC:=n1_;have GW101:=n2_;have qM:=n3_;clear n0_ n1_ n2_ n3_;clear hb hbox hg) | ((with_reducible refine gate_dst (N:=2) rfl ?_);refine box_event ?hg (N:=2) ?hd (cs:=#[.string (⟨#[]⟩:ByteArray),.string (⟨#[]⟩:ByteArray),.slice none 0 0,.string (⟨#[]⟩:ByteArray),.int .u32 0,.int .i64 0,.int .u64 0,.int .u64 0,.bool false,.bool false,.bool false,.bool false]) (t:=26) ?hr ?_;(case hd=>rfl);(case hg=>rfl);(case hr=>first | (go_simp;done) | (go_simp;rfl));intro qG hg w5 hbox hb;have n0_:=M0 (blk_below (g:=qD) (o:=.cells #[.string a0_0,.string a0_1,.slice A0_2 l0_2.length c0_2,.string a0_3,.int .u32 a0_4,.int .i64 a0_5,.int .u64 a0_6,.int .u64 a0_7,.bool a0_8,.bool a0_9,.bool a0_10,.bool a0_11] 29 (0,0)) (by (with_reducible repeat (first | refine bN ?_ _ | refine bD ?_ | refine bA ?_ _));exact qC.out) hb);have n1_:=M0 (below_step bBY1 hb);have n2_:=M0 (hbox);have n3_:=M0 ((by rw [hg];exact (below_size bBY1):w.heap.size≤qG));have n4_:=M0 ((by rw [hg];exact (below_size bBY1):w.heap.size≤qG));have n5_:=M0 ((by rw [hg];exact Nat.ne_of_lt (blk_lt (g:=qD) (o:=.cells #[.string a0_0,.string a0_1,.slice A0_2 l0_2.length c0_2,.string a0_3,.int .u32 a0_4,.int .i64 a0_5,.int .u64 a0_6,.int .u64 a0_7,.bool a0_8,.bool a0_9,.bool a0_10,.bool a0_11] 29 (0,0)) (by (with_reducible repeat (first | refine bN ?_ _ | refine bD ?_ | refine bA ?_ _));exact qC.out)):qD≠qG));have n6_:=M0 ((by rw [hg];exact Nat.ne_of_gt (blk_lt (g:=qD) (o:=.cells #[.string a0_0,.string a0_1,.slice A0_2 l0_2.length c0_2,.string a0_3,.int .u32 a0_4,.int .i64 a0_5,.int .u64 a0_6,.int .u64 a0_7,.bool a0_8,.bool a0_9,.bool a0_10,.bool a0_11] 29 (0,0)) (by (with_reducible repeat (first | refine bN ?_ _ | refine bD ?_ | refine bA ?_ _));exact qC.out)):qG≠qD));clear qC;clear HB;have qC:=n0_;have HB:=n1_;have qE:=n2_;have GW102:=n3_;have qN:=n4_;have qR:=n5_;have qS:=n6_;clear n0_ n1_ n2_ n3_ n4_ n5_ n6_;clear hb hbox hg))
  have n0_:=M0 (blk_drew qC.out)
  have n1_:=M0 (blk_drew qE.out)
  have n2_:=M0 (below_drew1 HB.out)
  clear qC
  clear qE
  clear HB
  have qC:=n0_
  have qE:=n1_
  have HB:=n2_
  clear n0_ n1_ n2_
  refine start_ (n:=29) (S:=fun w'=>w'.cell? ⟨qD,0,none⟩=some (.string a0_0)∧w'.cell? ⟨qD,1,none⟩=some (.string a0_1)∧w'.cell? ⟨qD,2,none⟩=some (.slice A0_2 l0_2.length c0_2)∧w'.cell? ⟨qD,3,none⟩=some (.string a0_3)∧w'.cell? ⟨qD,4,none⟩=some (.int .u32 a0_4)∧w'.cell? ⟨qD,5,none⟩=some (.int .i64 a0_5)∧w'.cell? ⟨qD,6,none⟩=some (.int .u64 a0_6)∧w'.cell? ⟨qD,7,none⟩=some (.int .u64 a0_7)∧w'.cell? ⟨qD,8,none⟩=some (.bool a0_8)∧w'.cell? ⟨qD,9,none⟩=some (.bool a0_9)∧w'.cell? ⟨qD,10,none⟩=some (.bool a0_10)∧w'.cell? ⟨qD,11,none⟩=some (.bool a0_11)) (ds:=[]) #[false,false,false,false,false,false,false,false,false,false,false,false,false,false,false,false,false,false,false,false,false,false,false,false,false,false,false,false,false] (by kernel_rfl) rfl rfl ⟨(blk_cell qC.out 0).trans rfl,(blk_cell qC.out 1).trans rfl,(blk_cell qC.out 2).trans rfl,(blk_cell qC.out 3).trans rfl,(blk_cell qC.out 4).trans rfl,(blk_cell qC.out 5).trans rfl,(blk_cell qC.out 6).trans rfl,(blk_cell qC.out 7).trans rfl,(blk_cell qC.out 8).trans rfl,(blk_cell qC.out 9).trans rfl,(blk_cell qC.out 10).trans rfl,(blk_cell qC.out 11).trans rfl⟩ (fun hHeld=>?_);refine with_tabW cellaretref17_Cmd.tab1 cellaretref17_Cmd.bits1 (fun HT_ HW_=>?_)
  generalize w5.drew=w6 at qC qE HB hHeld ⊢
  refine pure_ (i:=0) (N:=some 4) (v:=?_) (a':=?_) #[true,false,false,false,false,false,false,false,false,false,false,false,false,false,false,false,false,false,false,false,false,false,false,false,false,false,false,false,false] rfl rfl (any_of HT_.out (by kernel_rfl)) (fun _ _ _ h=>h) (Or.inl ⟨by rfl,?_⟩) ?_ ?_
  rotate_left
  ·intro w'
   go_simp
   with_reducible rfl
  rotate_left
  ·simp only [pS]
   rfl
  refine pure_ (i:=2) (N:=some 6) (v:=?_) (a':=?_) #[true,false,true,false,false,false,false,false,false,false,false,false,false,false,false,false,false,false,false,false,false,false,false,false,false,false,false,false,false] rfl rfl (any_of HT_.out (by kernel_rfl)) (fun _ _ _ h=>h) (Or.inl ⟨by rfl,?_⟩) ?_ ?_
  rotate_left
  ·intro w'
   go_simp
   with_reducible rfl
  rotate_left
  ·simp only [pS]
   rfl
  refine pure_ (i:=5) (N:=some 9) (v:=?_) (a':=?_) #[true,false,true,false,false,true,false,false,false,false,false,false,false,false,false,false,false,false,false,false,false,false,false,false,false,false,false,false,false] rfl rfl (any_of HT_.out (by kernel_rfl)) (fun _ _ _ h=>h) (Or.inl ⟨by rfl,?_⟩) ?_ ?_
  rotate_left
  ·intro w'
   go_simp
   with_reducible rfl
  rotate_left
  ·simp only [pS]
   rfl
  refine pure_ (i:=8) (N:=some 12) (v:=?_) (a':=?_) #[true,false,true,false,false,true,false,false,true,false,false,false,false,false,false,false,false,false,false,false,false,false,false,false,false,false,false,false,false] rfl rfl (any_of HT_.out (by kernel_rfl)) (fun _ _ _ h=>h) (Or.inl ⟨by rfl,?_⟩) ?_ ?_
  rotate_left
  ·intro w'
   go_simp
   with_reducible rfl
  rotate_left
  ·simp only [pS]
   rfl
  refine pure_ (i:=10) (N:=some 14) (v:=?_) (a':=?_) #[true,false,true,false,false,true,false,false,true,false,true,false,false,false,false,false,false,false,false,false,false,false,false,false,false,false,false,false,false] rfl rfl (any_of HT_.out (by kernel_rfl)) (fun _ _ _ h=>h) (Or.inl ⟨by rfl,?_⟩) ?_ ?_
  rotate_left
  ·intro w'
   go_simp
   with_reducible rfl
  rotate_left
  ·simp only [pS]
   rfl
  refine pure_ (i:=12) (N:=some 16) (v:=?_) (a':=?_) #[true,false,true,false,false,true,false,false,true,false,true,false,true,false,false,false,false,false,false,false,false,false,false,false,false,false,false,false,false] rfl rfl (any_of HT_.out (by kernel_rfl)) (fun _ _ _ h=>h) (Or.inl ⟨by rfl,?_⟩) ?_ ?_
  rotate_left
  ·intro w'
   go_simp
   with_reducible rfl
  rotate_left
  ·simp only [pS]
   rfl
  refine pure_ (i:=14) (N:=some 18) (v:=?_) (a':=?_) #[true,false,true,false,false,true,false,false,true,false,true,false,true,false,true,false,false,false,false,false,false,false,false,false,false,false,false,false,false] rfl rfl (any_of HT_.out (by kernel_rfl)) (fun _ _ _ h=>h) (Or.inl ⟨by rfl,?_⟩) ?_ ?_
  rotate_left
  ·intro w'
   go_simp
   with_reducible rfl
  rotate_left
  ·simp only [pS]
   rfl
  refine pure_ (i:=16) (N:=some 20) (v:=?_) (a':=?_) #[true,false,true,false,false,true,false,false,true,false,true,false,true,false,true,false,true,false,false,false,false,false,false,false,false,false,false,false,false] rfl rfl (any_of HT_.out (by kernel_rfl)) (fun _ _ _ h=>h) (Or.inl ⟨by rfl,?_⟩) ?_ ?_
  rotate_left
  ·intro w'
   go_simp
   with_reducible rfl
  rotate_left
  ·simp only [pS]
   rfl
  refine pure_ (i:=18) (N:=some 22) (v:=?_) (a':=?_) #[true,false,true,false,false,true,false,false,true,false,true,false,true,false,true,false,true,false,true,false,false,false,false,false,false,false,false,false,false] rfl rfl (any_of HT_.out (by kernel_rfl)) (fun _ _ _ h=>h) (Or.inl ⟨by rfl,?_⟩) ?_ ?_
  rotate_left
  ·intro w'
   go_simp
   with_reducible rfl
  rotate_left
  ·simp only [pS]
   rfl
  refine pure_ (i:=20) (N:=some 24) (v:=?_) (a':=?_) #[true,false,true,false,false,true,false,false,true,false,true,false,true,false,true,false,true,false,true,false,true,false,false,false,false,false,false,false,false] rfl rfl (any_of HT_.out (by kernel_rfl)) (fun _ _ _ h=>h) (Or.inl ⟨by rfl,?_⟩) ?_ ?_
  rotate_left
  ·intro w'
   go_simp
   with_reducible rfl
  rotate_left
  ·simp only [pS]
   rfl
  refine pure_ (i:=22) (N:=some 26) (v:=?_) (a':=?_) #[true,false,true,false,false,true,false,false,true,false,true,false,true,false,true,false,true,false,true,false,true,false,true,false,false,false,false,false,false] rfl rfl (any_of HT_.out (by kernel_rfl)) (fun _ _ _ h=>h) (Or.inl ⟨by rfl,?_⟩) ?_ ?_
  rotate_left
  ·intro w'
   go_simp
   with_reducible rfl
  rotate_left
  ·simp only [pS]
   rfl
  refine pure_ (i:=24) (N:=some 28) (v:=?_) (a':=?_) #[true,false,true,false,false,true,false,false,true,false,true,false,true,false,true,false,true,false,true,false,true,false,true,false,true,false,false,false,false] rfl rfl (any_of HT_.out (by kernel_rfl)) (fun _ _ _ h=>h) (Or.inl ⟨by rfl,?_⟩) ?_ ?_
  rotate_left
  ·intro w'
   go_simp
   with_reducible rfl
  rotate_left
  ·simp only [pS]
   rfl
  refine take_ (i:=1) (N:=some 5) (v:=?_) (a':=?_) #[true,true,true,false,false,true,false,false,true,false,true,false,true,false,true,false,true,false,true,false,true,false,true,false,true,false,false,false,false] rfl rfl (take_ofW HT_.out HW_.out (by kernel_rfl)) (fun _ _ _ h=>h) (Or.inl ⟨by rfl,?_⟩) hHeld ?_ ?_
  rotate_left
  ·rintro w' ⟨s0,s1,s2,s3,s4,s5,s6,s7,s8,s9,s10,s11⟩
   go_simp
   with_reducible rfl
  rotate_left
  ·simp only [pS]
   rfl
  refine take_ (i:=3) (N:=some 7) (v:=?_) (a':=?_) #[true,true,true,true,false,true,false,false,true,false,true,false,true,false,true,false,true,false,true,false,true,false,true,false,true,false,false,false,false] rfl rfl (take_ofW HT_.out HW_.out (by kernel_rfl)) (fun _ _ _ h=>h) (Or.inl ⟨by rfl,?_⟩) hHeld ?_ ?_
  rotate_left
  ·rintro w' ⟨s0,s1,s2,s3,s4,s5,s6,s7,s8,s9,s10,s11⟩
   go_simp
   with_reducible rfl
  rotate_left
  ·simp only [pS]
   rfl
  refine take_ (i:=6) (N:=some 10) (v:=?_) (a':=?_) #[true,true,true,true,false,true,true,false,true,false,true,false,true,false,true,false,true,false,true,false,true,false,true,false,true,false,false,false,false] rfl rfl (take_ofW HT_.out HW_.out (by kernel_rfl)) (fun _ _ _ h=>h) (Or.inl ⟨by rfl,?_⟩) hHeld ?_ ?_
  rotate_left
  ·rintro w' ⟨s0,s1,s2,s3,s4,s5,s6,s7,s8,s9,s10,s11⟩
   go_simp
   with_reducible rfl
  rotate_left
  ·simp only [pS]
   rfl
  refine take_ (i:=9) (N:=some 13) (v:=?_) (a':=?_) #[true,true,true,true,false,true,true,false,true,true,true,false,true,false,true,false,true,false,true,false,true,false,true,false,true,false,false,false,false] rfl rfl (take_ofW HT_.out HW_.out (by kernel_rfl)) (fun _ _ _ h=>h) (Or.inl ⟨by rfl,?_⟩) hHeld ?_ ?_
  rotate_left
  ·rintro w' ⟨s0,s1,s2,s3,s4,s5,s6,s7,s8,s9,s10,s11⟩
   go_simp
   with_reducible rfl
  rotate_left
  ·simp only [pS]
   rfl
  refine take_ (i:=11) (N:=some 15) (v:=?_) (a':=?_) #[true,true,true,true,false,true,true,false,true,true,true,true,true,false,true,false,true,false,true,false,true,false,true,false,true,false,false,false,false] rfl rfl (take_ofW HT_.out HW_.out (by kernel_rfl)) (fun _ _ _ h=>h) (Or.inl ⟨by rfl,?_⟩) hHeld ?_ ?_
  rotate_left
  ·rintro w' ⟨s0,s1,s2,s3,s4,s5,s6,s7,s8,s9,s10,s11⟩
   go_simp
   with_reducible rfl
  rotate_left
  ·simp only [pS]
   rfl
  refine take_ (i:=13) (N:=some 17) (v:=?_) (a':=?_) #[true,true,true,true,false,true,true,false,true,true,true,true,true,true,true,false,true,false,true,false,true,false,true,false,true,false,false,false,false] rfl rfl (take_ofW HT_.out HW_.out (by kernel_rfl)) (fun _ _ _ h=>h) (Or.inl ⟨by rfl,?_⟩) hHeld ?_ ?_
  rotate_left
  ·rintro w' ⟨s0,s1,s2,s3,s4,s5,s6,s7,s8,s9,s10,s11⟩
   go_simp
   with_reducible rfl
  rotate_left
  ·simp only [pS]
   rfl
  refine take_ (i:=15) (N:=some 19) (v:=?_) (a':=?_) #[true,true,true,true,false,true,true,false,true,true,true,true,true,true,true,true,true,false,true,false,true,false,true,false,true,false,false,false,false] rfl rfl (take_ofW HT_.out HW_.out (by kernel_rfl)) (fun _ _ _ h=>h) (Or.inl ⟨by rfl,?_⟩) hHeld ?_ ?_
  rotate_left
  ·rintro w' ⟨s0,s1,s2,s3,s4,s5,s6,s7,s8,s9,s10,s11⟩
   go_simp
   with_reducible rfl
  rotate_left
  ·simp only [pS]
   rfl
  refine take_ (i:=17) (N:=some 21) (v:=?_) (a':=?_) #[true,true,true,true,false,true,true,false,true,true,true,true,true,true,true,true,true,true,true,false,true,false,true,false,true,false,false,false,false] rfl rfl (take_ofW HT_.out HW_.out (by kernel_rfl)) (fun _ _ _ h=>h) (Or.inl ⟨by rfl,?_⟩) hHeld ?_ ?_
  rotate_left
  ·rintro w' ⟨s0,s1,s2,s3,s4,s5,s6,s7,s8,s9,s10,s11⟩
   go_simp
   with_reducible rfl
  rotate_left
  ·simp only [pS]
   rfl
  refine take_ (i:=19) (N:=some 23) (v:=?_) (a':=?_) #[true,true,true,true,false,true,true,false,true,true,true,true,true,true,true,true,true,true,true,true,true,false,true,false,true,false,false,false,false] rfl rfl (take_ofW HT_.out HW_.out (by kernel_rfl)) (fun _ _ _ h=>h) (Or.inl ⟨by rfl,?_⟩) hHeld ?_ ?_
  rotate_left
  ·rintro w' ⟨s0,s1,s2,s3,s4,s5,s6,s7,s8,s9,s10,s11⟩
   go_simp
   with_reducible rfl
  rotate_left
  ·simp only [pS]
   rfl
  refine take_ (i:=21) (N:=some 25) (v:=?_) (a':=?_) #[true,true,true,true,false,true,true,false,true,true,true,true,true,true,true,true,true,true,true,true,true,true,true,false,true,false,false,false,false] rfl rfl (take_ofW HT_.out HW_.out (by kernel_rfl)) (fun _ _ _ h=>h) (Or.inl ⟨by rfl,?_⟩) hHeld ?_ ?_
  rotate_left
  ·rintro w' ⟨s0,s1,s2,s3,s4,s5,s6,s7,s8,s9,s10,s11⟩
   go_simp
   with_reducible rfl
  rotate_left
  ·simp only [pS]
   rfl
  refine take_ (i:=23) (N:=some 27) (v:=?_) (a':=?_) #[true,true,true,true,false,true,true,false,true,true,true,true,true,true,true,true,true,true,true,true,true,true,true,true,true,false,false,false,false] rfl rfl (take_ofW HT_.out HW_.out (by kernel_rfl)) (fun _ _ _ h=>h) (Or.inl ⟨by rfl,?_⟩) hHeld ?_ ?_
  rotate_left
  ·rintro w' ⟨s0,s1,s2,s3,s4,s5,s6,s7,s8,s9,s10,s11⟩
   go_simp
   with_reducible rfl
  rotate_left
  ·simp only [pS]
   rfl
  refine take_ (i:=25) (N:=some 29) (v:=?_) (a':=?_) #[true,true,true,true,false,true,true,false,true,true,true,true,true,true,true,true,true,true,true,true,true,true,true,true,true,true,false,false,false] rfl rfl (take_ofW HT_.out HW_.out (by kernel_rfl)) (fun _ _ _ h=>h) (Or.inl ⟨by rfl,?_⟩) hHeld ?_ ?_
  rotate_left
  ·rintro w' ⟨s0,s1,s2,s3,s4,s5,s6,s7,s8,s9,s10,s11⟩
   go_simp
   with_reducible rfl
  rotate_left
  ·simp only [pS]
   rfl
  refine join_ (σ:=Value×Value×Nat) 1 #[true,true,true,true,true,true,true,true,true,true,true,true,true,true,true,true,true,true,true,true,true,true,true,true,true,true,true,true,false] (fun s_=>[(8,s_.1),(11,s_.2.1),(3,.pointer (some ⟨s_.2.2,0,none⟩)),(30,.agg #[.string a0_0,.string a0_1,s_.2.1,.string a0_3,.int .u32 a0_4,.int .i64 a0_5,.int .u64 a0_6,.int .u64 a0_7,.bool a0_8,.bool a0_9,.bool a0_10,.bool a0_11])]) (fun s_ w'=>(w'.cell? ⟨qD,0,none⟩=some (.string a0_0)∧w'.cell? ⟨qD,1,none⟩=some (.string a0_1)∧w'.cell? ⟨qD,2,none⟩=some (.slice A0_2 l0_2.length c0_2)∧w'.cell? ⟨qD,3,none⟩=some (.string a0_3)∧w'.cell? ⟨qD,4,none⟩=some (.int .u32 a0_4)∧w'.cell? ⟨qD,5,none⟩=some (.int .i64 a0_5)∧w'.cell? ⟨qD,6,none⟩=some (.int .u64 a0_6)∧w'.cell? ⟨qD,7,none⟩=some (.int .u64 a0_7)∧w'.cell? ⟨qD,8,none⟩=some (.bool a0_8)∧w'.cell? ⟨qD,9,none⟩=some (.bool a0_9)∧w'.cell? ⟨qD,10,none⟩=some (.bool a0_10)∧w'.cell? ⟨qD,11,none⟩=some (.bool a0_11))∧(Kd.R Kd.string 9 w' w.heap.size (fun _=>True) s_.2.1 y106)∧(w'.heap[qD]? = some (.cells #[.string a0_0,.string a0_1,.slice A0_2 l0_2.length c0_2,.string a0_3,.int .u32 a0_4,.int .i64 a0_5,.int .u64 a0_6,.int .u64 a0_7,.bool a0_8,.bool a0_9,.bool a0_10,.bool a0_11] 29 (0,0)))∧(w'.heap[qG]? = some (.cells #[.string (⟨#[]⟩:ByteArray),.string (⟨#[]⟩:ByteArray),.slice none 0 0,.string (⟨#[]⟩:ByteArray),.int .u32 0,.int .i64 0,.int .u64 0,.int .u64 0,.bool false,.bool false,.bool false,.bool false] 26 (0,0)))∧(w'.heap[s_.2.2]? = some (.cells #[.string (⟨#[]⟩:ByteArray),.string (⟨#[]⟩:ByteArray),.slice none 0 0,.string (⟨#[]⟩:ByteArray),.int .u32 0,.int .i64 0,.int .u64 0,.int .u64 0,.bool false,.bool false,.bool false,.bool false] 26 (0,0)))∧(w.heap.size≤s_.2.2)∧(w.heap.size≤s_.2.2)∧(qD≠s_.2.2)∧(s_.2.2≠qD)∧(qG≠s_.2.2)∧(s_.2.2≠qG)∧(Below w.heap.size w w')) ?_ ?_
  rotate_left
  ·intro hCont
   refine two_ (i:=4) (j:=27) (Ni:=some 8) (Nj:=some 3) #[true,true,true,true,true,true,true,false,true,true,true,true,true,true,true,true,true,true,true,true,true,true,true,true,true,true,false,false,false] #[true,true,true,true,false,true,true,false,true,true,true,true,true,true,true,true,true,true,true,true,true,true,true,true,true,true,false,true,false] rfl rfl rfl rfl (two_of HT_.out (by kernel_rfl)) (by decide) (by decide) (fun K hK=>?_) (fun K hK=>?_)
   ·skip
    refine Kd.R_lit_step Kd.string _ 9 ?hg (N:=8) ?hd (xs:=([]:List ByteArray)) (inner:=[]) (ok:=fun _=>True) (okp:=fun _=>True) ?hr ?hp (fun _ hk=>hk) trivial (Below.refl _ _) (Nat.le_refl _) (by simp) ?_;(case hd=>rfl);(case hg=>rfl);(case hr=>first | (go_simp;done) | (go_simp;rfl));(case hp=>exact (Reps.none _ _))
    intro v104 w7 ho8 hb hg_ hnew_
    clear hg_ hnew_
    (first | rw [← qT.out] at ho8 | (simp only [Int.reduceToNat] at ho8;rw [← qT.out] at ho8))
    have n0_:=M0 (Kd.R_lower ho8 (below_size bBY1))
    have n1_:=M0 (blk_below (g:=qD) (o:=.cells #[.string a0_0,.string a0_1,.slice A0_2 l0_2.length c0_2,.string a0_3,.int .u32 a0_4,.int .i64 a0_5,.int .u64 a0_6,.int .u64 a0_7,.bool a0_8,.bool a0_9,.bool a0_10,.bool a0_11] 29 (0,0)) (by (with_reducible repeat (first | refine bN ?_ _ | refine bD ?_ | refine bA ?_ _));exact qC.out) hb)
    have n2_:=M0 (blk_below (g:=qG) (o:=.cells #[.string (⟨#[]⟩:ByteArray),.string (⟨#[]⟩:ByteArray),.slice none 0 0,.string (⟨#[]⟩:ByteArray),.int .u32 0,.int .i64 0,.int .u64 0,.int .u64 0,.bool false,.bool false,.bool false,.bool false] 26 (0,0)) (by (with_reducible repeat (first | refine bN ?_ _ | refine bD ?_ | refine bA ?_ _));exact qE.out) hb)
    have n3_:=M0 (below_step bBY1 hb)
    clear qC
    clear qE
    clear HB
    have qQ:=n0_
    have qC:=n1_
    have qE:=n2_
    have HB:=n3_
    clear n0_ n1_ n2_ n3_
    clear hb ho8
    refine hK.out _ _ ⟨(blk_cell qC.out 0).trans rfl,(blk_cell qC.out 1).trans rfl,(blk_cell qC.out 2).trans rfl,(blk_cell qC.out 3).trans rfl,(blk_cell qC.out 4).trans rfl,(blk_cell qC.out 5).trans rfl,(blk_cell qC.out 6).trans rfl,(blk_cell qC.out 7).trans rfl,(blk_cell qC.out 8).trans rfl,(blk_cell qC.out 9).trans rfl,(blk_cell qC.out 10).trans rfl,(blk_cell qC.out 11).trans rfl⟩ (fun hHeld=>?_)
    clear hK K
    refine norm_ (a':=?_) ?_ ?_
    rotate_left
    ·show Act.put _ (some 8) _=_
     simp only [pS]
     rfl
    refine two_ (i:=7) (j:=27) (Ni:=some 11) (Nj:=some 3) #[true,true,true,true,true,true,true,true,true,true,true,true,true,true,true,true,true,true,true,true,true,true,true,true,true,true,false,false,false] #[true,true,true,true,true,true,true,false,true,true,true,true,true,true,true,true,true,true,true,true,true,true,true,true,true,true,false,true,false] rfl rfl rfl rfl (two_of HT_.out (by kernel_rfl)) (by decide) (by decide) (fun K hK=>?_) (fun K hK=>?_)
    ·skip
     refine Kd.R_append_rows_step Kd.string (w0:=w) w.heap.size (by rfl) (.tmp 8) (.tmp 10) 22 9 (.string ⟨#[]⟩) 16 rfl Tryz.underlying22 info9 rfl (by decide) (by omega) v104 y103 l0_2 _ _ _ (fun _=>True) (fun _=>False) rfl rfl ?aO ?aR (fun _ _ h=>h) (fun _ h=>h.elim) ?aF ?aB ?aS ?aL ?_
     (case aR=>repeat (first | exact (Kd.C_below HR0_2.out HB.out) | (with_reducible refine Kd.C_alloc ?_ _) | (with_reducible refine Kd.C_drewN ?_ _) | (with_reducible refine Kd.C_drew ?_)))
     (case aB=>exact bBY1)
     (case aF=>exact (fun _ _=>trivial))
     (case aO=>exact (by (with_reducible repeat (first | apply rA | apply rN | apply rD));exact qQ.out))
     (case aS=>exact (below_size bBY1))
     (case aL=>have:=qW.out;omega)
     intro v107 w9 ho hb hg hat
     rw [← qV.out] at ho
     have n0_:=M0 (blk_grown (g:=qD) (o:=.cells #[.string a0_0,.string a0_1,.slice A0_2 l0_2.length c0_2,.string a0_3,.int .u32 a0_4,.int .i64 a0_5,.int .u64 a0_6,.int .u64 a0_7,.bool a0_8,.bool a0_9,.bool a0_10,.bool a0_11] 29 (0,0)) (by (with_reducible repeat (first | refine bN ?_ _ | refine bD ?_ | refine bA ?_ _));exact qC.out) hg (Kd.R_ne qQ.out qC.out (by decide)))
     have n1_:=M0 (blk_grown (g:=qG) (o:=.cells #[.string (⟨#[]⟩:ByteArray),.string (⟨#[]⟩:ByteArray),.slice none 0 0,.string (⟨#[]⟩:ByteArray),.int .u32 0,.int .i64 0,.int .u64 0,.int .u64 0,.bool false,.bool false,.bool false,.bool false] 26 (0,0)) (by (with_reducible repeat (first | refine bN ?_ _ | refine bD ?_ | refine bA ?_ _));exact qE.out) hg (Kd.R_ne qQ.out qE.out (by decide)))
     have n2_:=M0 (hb)
     have n3_:=M0 (ho)
     clear qC
     clear qE
     clear HB
     clear qQ
     have qC:=n0_
     have qE:=n1_
     have HB:=n2_
     have qO:=n3_
     clear n0_ n1_ n2_ n3_
     clear ho hb hg hat
     obtain ⟨qb,qc,qZ⟩:=Kd.R_slice qO.out
     (first | subst qZ | (injection qZ with f1_ f2_ f3_;have f4_:=f1_.symm;have f5_:=f3_.symm;clear f1_ f2_ f3_;subst f4_;subst f5_))
     refine hK.out _ _ ⟨(blk_cell qC.out 0).trans rfl,(blk_cell qC.out 1).trans rfl,(blk_cell qC.out 2).trans rfl,(blk_cell qC.out 3).trans rfl,(blk_cell qC.out 4).trans rfl,(blk_cell qC.out 5).trans rfl,(blk_cell qC.out 6).trans rfl,(blk_cell qC.out 7).trans rfl,(blk_cell qC.out 8).trans rfl,(blk_cell qC.out 9).trans rfl,(blk_cell qC.out 10).trans rfl,(blk_cell qC.out 11).trans rfl⟩ (fun hHeld=>?_)
     clear hK K
     refine norm_ (a':=?_) ?_ ?_
     rotate_left
     ·show Act.put _ (some 11) _=_
      simp only [pS]
      rfl
     refine pure_ (i:=26) (N:=some 30) (v:=?_) (a':=?_) #[true,true,true,true,true,true,true,true,true,true,true,true,true,true,true,true,true,true,true,true,true,true,true,true,true,true,true,false,false] rfl rfl (any_of HT_.out (by kernel_rfl)) (fun _ _ _ h=>h) (Or.inl ⟨by rfl,?_⟩) ?_ ?_
     rotate_left
     ·intro w'
      go_simp
      with_reducible rfl
     rotate_left
     ·simp only [pS]
      rfl
     refine one_ (i:=27) (N:=some 3) #[true,true,true,true,true,true,true,true,true,true,true,true,true,true,true,true,true,true,true,true,true,true,true,true,true,true,true,true,false] rfl rfl (one_of HT_.out (by kernel_rfl)) (by decide) (fun K hK=>?_)
     refine box_step ?hg (N:=3) ?hd (cs:=#[.string (⟨#[]⟩:ByteArray),.string (⟨#[]⟩:ByteArray),.slice none 0 0,.string (⟨#[]⟩:ByteArray),.int .u32 0,.int .i64 0,.int .u64 0,.int .u64 0,.bool false,.bool false,.bool false,.bool false]) (t:=26) ?hr ?_;(case hd=>rfl);(case hg=>rfl);(case hr=>first | (go_simp;done) | (go_simp;rfl))
     intro qA hg w11 hbox hb
     have n0_:=M0 (Kd.R_below (by (with_reducible repeat (first | apply rA | apply rN | apply rD));exact qO.out) hb)
     have n1_:=M0 (blk_below (g:=qD) (o:=.cells #[.string a0_0,.string a0_1,.slice A0_2 l0_2.length c0_2,.string a0_3,.int .u32 a0_4,.int .i64 a0_5,.int .u64 a0_6,.int .u64 a0_7,.bool a0_8,.bool a0_9,.bool a0_10,.bool a0_11] 29 (0,0)) (by (with_reducible repeat (first | refine bN ?_ _ | refine bD ?_ | refine bA ?_ _));exact qC.out) hb)
     have n2_:=M0 (blk_below (g:=qG) (o:=.cells #[.string (⟨#[]⟩:ByteArray),.string (⟨#[]⟩:ByteArray),.slice none 0 0,.string (⟨#[]⟩:ByteArray),.int .u32 0,.int .i64 0,.int .u64 0,.int .u64 0,.bool false,.bool false,.bool false,.bool false] 26 (0,0)) (by (with_reducible repeat (first | refine bN ?_ _ | refine bD ?_ | refine bA ?_ _));exact qE.out) hb)
     have n3_:=M0 (below_step bBY1 hb)
     have n4_:=M0 (hbox)
     have n5_:=M0 ((by rw [hg];exact (below_size bBY1):w.heap.size≤qA))
     have n6_:=M0 ((by rw [hg];exact (below_size bBY1):w.heap.size≤qA))
     have n7_:=M0 ((by rw [hg];exact Nat.ne_of_lt (blk_lt (g:=qD) (o:=.cells #[.string a0_0,.string a0_1,.slice A0_2 l0_2.length c0_2,.string a0_3,.int .u32 a0_4,.int .i64 a0_5,.int .u64 a0_6,.int .u64 a0_7,.bool a0_8,.bool a0_9,.bool a0_10,.bool a0_11] 29 (0,0)) (by (with_reducible repeat (first | refine bN ?_ _ | refine bD ?_ | refine bA ?_ _));exact qC.out)):qD≠qA))
     have n8_:=M0 ((by rw [hg];exact Nat.ne_of_gt (blk_lt (g:=qD) (o:=.cells #[.string a0_0,.string a0_1,.slice A0_2 l0_2.length c0_2,.string a0_3,.int .u32 a0_4,.int .i64 a0_5,.int .u64 a0_6,.int .u64 a0_7,.bool a0_8,.bool a0_9,.bool a0_10,.bool a0_11] 29 (0,0)) (by (with_reducible repeat (first | refine bN ?_ _ | refine bD ?_ | refine bA ?_ _));exact qC.out)):qA≠qD))
     have n9_:=M0 ((by rw [hg];exact Nat.ne_of_lt (blk_lt (g:=qG) (o:=.cells #[.string (⟨#[]⟩:ByteArray),.string (⟨#[]⟩:ByteArray),.slice none 0 0,.string (⟨#[]⟩:ByteArray),.int .u32 0,.int .i64 0,.int .u64 0,.int .u64 0,.bool false,.bool false,.bool false,.bool false] 26 (0,0)) (by (with_reducible repeat (first | refine bN ?_ _ | refine bD ?_ | refine bA ?_ _));exact qE.out)):qG≠qA))
     have n10_:=M0 ((by rw [hg];exact Nat.ne_of_gt (blk_lt (g:=qG) (o:=.cells #[.string (⟨#[]⟩:ByteArray),.string (⟨#[]⟩:ByteArray),.slice none 0 0,.string (⟨#[]⟩:ByteArray),.int .u32 0,.int .i64 0,.int .u64 0,.int .u64 0,.bool false,.bool false,.bool false,.bool false] 26 (0,0)) (by (with_reducible repeat (first | refine bN ?_ _ | refine bD ?_ | refine bA ?_ _));exact qE.out)):qA≠qG))
     clear qO
     clear qC
     clear qE
     clear HB
     have qO:=n0_
     have qC:=n1_
     have qE:=n2_
     have HB:=n3_
     have qF:=n4_
     have GW109:=n5_
     have qP:=n6_
     have qB:=n7_
     have qL:=n8_
     have qJ:=n9_
     have qK:=n10_
     clear n0_ n1_ n2_ n3_ n4_ n5_ n6_ n7_ n8_ n9_ n10_
     clear hb hbox hg
     refine hK.out _ _ ⟨(blk_cell qC.out 0).trans rfl,(blk_cell qC.out 1).trans rfl,(blk_cell qC.out 2).trans rfl,(blk_cell qC.out 3).trans rfl,(blk_cell qC.out 4).trans rfl,(blk_cell qC.out 5).trans rfl,(blk_cell qC.out 6).trans rfl,(blk_cell qC.out 7).trans rfl,(blk_cell qC.out 8).trans rfl,(blk_cell qC.out 9).trans rfl,(blk_cell qC.out 10).trans rfl,(blk_cell qC.out 11).trans rfl⟩ (fun hHeld=>?_)
     clear hK K
     refine norm_ (a':=?_) ?_ ?_
     rotate_left
     ·show Act.put _ (some 3) _=_
      simp only [pS]
      rfl
     exact norm_ (by simp only [putAll,Act.put,List.setIfInBounds_toArray,List.set_cons_zero,List.set_cons_succ]) (hCont (v104,.slice qb y106.length qc,qA) _ ⟨hHeld,(by (with_reducible repeat (first | apply rA | apply rN | apply rD));exact qO.out),(by (with_reducible repeat (first | refine bN ?_ _ | refine bD ?_ | refine bA ?_ _));exact qC.out),(by (with_reducible repeat (first | refine bN ?_ _ | refine bD ?_ | refine bA ?_ _));exact qE.out),(by (with_reducible repeat (first | refine bN ?_ _ | refine bD ?_ | refine bA ?_ _));exact qF.out),GW109.out,qP.out,qB.out,qL.out,qJ.out,qK.out,bBY1⟩)
    ·skip
     refine box_step ?hg (N:=3) ?hd (cs:=#[.string (⟨#[]⟩:ByteArray),.string (⟨#[]⟩:ByteArray),.slice none 0 0,.string (⟨#[]⟩:ByteArray),.int .u32 0,.int .i64 0,.int .u64 0,.int .u64 0,.bool false,.bool false,.bool false,.bool false]) (t:=26) ?hr ?_;(case hd=>rfl);(case hg=>rfl);(case hr=>first | (go_simp;done) | (go_simp;rfl))
     intro qA hg w9 hbox hb
     have n0_:=M0 (Kd.R_below (by (with_reducible repeat (first | apply rA | apply rN | apply rD));exact qQ.out) hb)
     have n1_:=M0 (blk_below (g:=qD) (o:=.cells #[.string a0_0,.string a0_1,.slice A0_2 l0_2.length c0_2,.string a0_3,.int .u32 a0_4,.int .i64 a0_5,.int .u64 a0_6,.int .u64 a0_7,.bool a0_8,.bool a0_9,.bool a0_10,.bool a0_11] 29 (0,0)) (by (with_reducible repeat (first | refine bN ?_ _ | refine bD ?_ | refine bA ?_ _));exact qC.out) hb)
     have n2_:=M0 (blk_below (g:=qG) (o:=.cells #[.string (⟨#[]⟩:ByteArray),.string (⟨#[]⟩:ByteArray),.slice none 0 0,.string (⟨#[]⟩:ByteArray),.int .u32 0,.int .i64 0,.int .u64 0,.int .u64 0,.bool false,.bool false,.bool false,.bool false] 26 (0,0)) (by (with_reducible repeat (first | refine bN ?_ _ | refine bD ?_ | refine bA ?_ _));exact qE.out) hb)
     have n3_:=M0 (below_step bBY1 hb)
     have n4_:=M0 (hbox)
     have n5_:=M0 ((by rw [hg];exact (below_size bBY1):w.heap.size≤qA))
     have n6_:=M0 ((by rw [hg];exact (below_size bBY1):w.heap.size≤qA))
     have n7_:=M0 ((by rw [hg];exact Nat.ne_of_lt (blk_lt (g:=qD) (o:=.cells #[.string a0_0,.string a0_1,.slice A0_2 l0_2.length c0_2,.string a0_3,.int .u32 a0_4,.int .i64 a0_5,.int .u64 a0_6,.int .u64 a0_7,.bool a0_8,.bool a0_9,.bool a0_10,.bool a0_11] 29 (0,0)) (by (with_reducible repeat (first | refine bN ?_ _ | refine bD ?_ | refine bA ?_ _));exact qC.out)):qD≠qA))
     have n8_:=M0 ((by rw [hg];exact Nat.ne_of_gt (blk_lt (g:=qD) (o:=.cells #[.string a0_0,.string a0_1,.slice A0_2 l0_2.length c0_2,.string a0_3,.int .u32 a0_4,.int .i64 a0_5,.int .u64 a0_6,.int .u64 a0_7,.bool a0_8,.bool a0_9,.bool a0_10,.bool a0_11] 29 (0,0)) (by (with_reducible repeat (first | refine bN ?_ _ | refine bD ?_ | refine bA ?_ _));exact qC.out)):qA≠qD))
     have n9_:=M0 ((by rw [hg];exact Nat.ne_of_lt (blk_lt (g:=qG) (o:=.cells #[.string (⟨#[]⟩:ByteArray),.string (⟨#[]⟩:ByteArray),.slice none 0 0,.string (⟨#[]⟩:ByteArray),.int .u32 0,.int .i64 0,.int .u64 0,.int .u64 0,.bool false,.bool false,.bool false,.bool false] 26 (0,0)) (by (with_reducible repeat (first | refine bN ?_ _ | refine bD ?_ | refine bA ?_ _));exact qE.out)):qG≠qA))
     have n10_:=M0 ((by rw [hg];exact Nat.ne_of_gt (blk_lt (g:=qG) (o:=.cells #[.string (⟨#[]⟩:ByteArray),.string (⟨#[]⟩:ByteArray),.slice none 0 0,.string (⟨#[]⟩:ByteArray),.int .u32 0,.int .i64 0,.int .u64 0,.int .u64 0,.bool false,.bool false,.bool false,.bool false] 26 (0,0)) (by (with_reducible repeat (first | refine bN ?_ _ | refine bD ?_ | refine bA ?_ _));exact qE.out)):qA≠qG))
     clear qQ
     clear qC
     clear qE
     clear HB
     have qQ:=n0_
     have qC:=n1_
     have qE:=n2_
     have HB:=n3_
     have qF:=n4_
     have GW109:=n5_
     have qP:=n6_
     have qB:=n7_
     have qL:=n8_
     have qJ:=n9_
     have qK:=n10_
     clear n0_ n1_ n2_ n3_ n4_ n5_ n6_ n7_ n8_ n9_ n10_
     clear hb hbox hg
     refine hK.out _ _ ⟨(blk_cell qC.out 0).trans rfl,(blk_cell qC.out 1).trans rfl,(blk_cell qC.out 2).trans rfl,(blk_cell qC.out 3).trans rfl,(blk_cell qC.out 4).trans rfl,(blk_cell qC.out 5).trans rfl,(blk_cell qC.out 6).trans rfl,(blk_cell qC.out 7).trans rfl,(blk_cell qC.out 8).trans rfl,(blk_cell qC.out 9).trans rfl,(blk_cell qC.out 10).trans rfl,(blk_cell qC.out 11).trans rfl⟩ (fun hHeld=>?_)
     clear hK K
     refine norm_ (a':=?_) ?_ ?_
     rotate_left
     ·show Act.put _ (some 3) _=_
      simp only [pS]
      rfl
     refine one_ (i:=7) (N:=some 11) #[true,true,true,true,true,true,true,true,true,true,true,true,true,true,true,true,true,true,true,true,true,true,true,true,true,true,false,true,false] rfl rfl (one_of HT_.out (by kernel_rfl)) (by decide) (fun K hK=>?_)
     refine Kd.R_append_rows_step Kd.string (w0:=w) w.heap.size (by rfl) (.tmp 8) (.tmp 10) 22 9 (.string ⟨#[]⟩) 16 rfl Tryz.underlying22 info9 rfl (by decide) (by omega) v104 y103 l0_2 _ _ _ (fun _=>True) (fun _=>False) rfl rfl ?aO ?aR (fun _ _ h=>h) (fun _ h=>h.elim) ?aF ?aB ?aS ?aL ?_
     (case aR=>repeat (first | exact (Kd.C_below HR0_2.out HB.out) | (with_reducible refine Kd.C_alloc ?_ _) | (with_reducible refine Kd.C_drewN ?_ _) | (with_reducible refine Kd.C_drew ?_)))
     (case aB=>exact bBY1)
     (case aF=>exact (fun _ _=>trivial))
     (case aO=>exact (by (with_reducible repeat (first | apply rA | apply rN | apply rD));exact qQ.out))
     (case aS=>exact (below_size bBY1))
     (case aL=>have:=qW.out;omega)
     intro v107 w10 ho hb hg hat
     rw [← qV.out] at ho
     have n0_:=M0 (blk_grown (g:=qD) (o:=.cells #[.string a0_0,.string a0_1,.slice A0_2 l0_2.length c0_2,.string a0_3,.int .u32 a0_4,.int .i64 a0_5,.int .u64 a0_6,.int .u64 a0_7,.bool a0_8,.bool a0_9,.bool a0_10,.bool a0_11] 29 (0,0)) (by (with_reducible repeat (first | refine bN ?_ _ | refine bD ?_ | refine bA ?_ _));exact qC.out) hg (Kd.R_ne qQ.out qC.out (by decide)))
     have n1_:=M0 (blk_grown (g:=qG) (o:=.cells #[.string (⟨#[]⟩:ByteArray),.string (⟨#[]⟩:ByteArray),.slice none 0 0,.string (⟨#[]⟩:ByteArray),.int .u32 0,.int .i64 0,.int .u64 0,.int .u64 0,.bool false,.bool false,.bool false,.bool false] 26 (0,0)) (by (with_reducible repeat (first | refine bN ?_ _ | refine bD ?_ | refine bA ?_ _));exact qE.out) hg (Kd.R_ne qQ.out qE.out (by decide)))
     have n2_:=M0 (blk_grown (g:=qA) (o:=.cells #[.string (⟨#[]⟩:ByteArray),.string (⟨#[]⟩:ByteArray),.slice none 0 0,.string (⟨#[]⟩:ByteArray),.int .u32 0,.int .i64 0,.int .u64 0,.int .u64 0,.bool false,.bool false,.bool false,.bool false] 26 (0,0)) (by (with_reducible repeat (first | refine bN ?_ _ | refine bD ?_ | refine bA ?_ _));exact qF.out) hg (Kd.R_ne qQ.out qF.out (by decide)))
     have n3_:=M0 (hb)
     have n4_:=M0 (ho)
     clear qC
     clear qE
     clear qF
     clear HB
     clear qQ
     have qC:=n0_
     have qE:=n1_
     have qF:=n2_
     have HB:=n3_
     have qO:=n4_
     clear n0_ n1_ n2_ n3_ n4_
     clear ho hb hg hat
     obtain ⟨qX,qY,qU⟩:=Kd.R_slice qO.out
     (first | subst qU | (injection qU with f1_ f2_ f3_;have f4_:=f1_.symm;have f5_:=f3_.symm;clear f1_ f2_ f3_;subst f4_;subst f5_))
     refine hK.out _ _ ⟨(blk_cell qC.out 0).trans rfl,(blk_cell qC.out 1).trans rfl,(blk_cell qC.out 2).trans rfl,(blk_cell qC.out 3).trans rfl,(blk_cell qC.out 4).trans rfl,(blk_cell qC.out 5).trans rfl,(blk_cell qC.out 6).trans rfl,(blk_cell qC.out 7).trans rfl,(blk_cell qC.out 8).trans rfl,(blk_cell qC.out 9).trans rfl,(blk_cell qC.out 10).trans rfl,(blk_cell qC.out 11).trans rfl⟩ (fun hHeld=>?_)
     clear hK K
     refine norm_ (a':=?_) ?_ ?_
     rotate_left
     ·show Act.put _ (some 11) _=_
      simp only [pS]
      rfl
     refine pure_ (i:=26) (N:=some 30) (v:=?_) (a':=?_) #[true,true,true,true,true,true,true,true,true,true,true,true,true,true,true,true,true,true,true,true,true,true,true,true,true,true,true,true,false] rfl rfl (any_of HT_.out (by kernel_rfl)) (fun _ _ _ h=>h) (Or.inl ⟨by rfl,?_⟩) ?_ ?_
     rotate_left
     ·intro w'
      go_simp
      with_reducible rfl
     rotate_left
     ·simp only [pS]
      rfl
     exact norm_ (by simp only [putAll,Act.put,List.setIfInBounds_toArray,List.set_cons_zero,List.set_cons_succ]) (hCont (v104,.slice qX y106.length qY,qA) _ ⟨hHeld,(by (with_reducible repeat (first | apply rA | apply rN | apply rD));exact qO.out),(by (with_reducible repeat (first | refine bN ?_ _ | refine bD ?_ | refine bA ?_ _));exact qC.out),(by (with_reducible repeat (first | refine bN ?_ _ | refine bD ?_ | refine bA ?_ _));exact qE.out),(by (with_reducible repeat (first | refine bN ?_ _ | refine bD ?_ | refine bA ?_ _));exact qF.out),GW109.out,qP.out,qB.out,qL.out,qJ.out,qK.out,bBY1⟩)
   ·skip
    refine box_step ?hg (N:=3) ?hd (cs:=#[.string (⟨#[]⟩:ByteArray),.string (⟨#[]⟩:ByteArray),.slice none 0 0,.string (⟨#[]⟩:ByteArray),.int .u32 0,.int .i64 0,.int .u64 0,.int .u64 0,.bool false,.bool false,.bool false,.bool false]) (t:=26) ?hr ?_;(case hd=>rfl);(case hg=>rfl);(case hr=>first | (go_simp;done) | (go_simp;rfl))
    intro qA hg w7 hbox hb
    have n0_:=M0 (blk_below (g:=qD) (o:=.cells #[.string a0_0,.string a0_1,.slice A0_2 l0_2.length c0_2,.string a0_3,.int .u32 a0_4,.int .i64 a0_5,.int .u64 a0_6,.int .u64 a0_7,.bool a0_8,.bool a0_9,.bool a0_10,.bool a0_11] 29 (0,0)) (by (with_reducible repeat (first | refine bN ?_ _ | refine bD ?_ | refine bA ?_ _));exact qC.out) hb)
    have n1_:=M0 (blk_below (g:=qG) (o:=.cells #[.string (⟨#[]⟩:ByteArray),.string (⟨#[]⟩:ByteArray),.slice none 0 0,.string (⟨#[]⟩:ByteArray),.int .u32 0,.int .i64 0,.int .u64 0,.int .u64 0,.bool false,.bool false,.bool false,.bool false] 26 (0,0)) (by (with_reducible repeat (first | refine bN ?_ _ | refine bD ?_ | refine bA ?_ _));exact qE.out) hb)
    have n2_:=M0 (below_step bBY1 hb)
    have n3_:=M0 (hbox)
    have n4_:=M0 ((by rw [hg];exact (below_size bBY1):w.heap.size≤qA))
    have n5_:=M0 ((by rw [hg];exact (below_size bBY1):w.heap.size≤qA))
    have n6_:=M0 ((by rw [hg];exact Nat.ne_of_lt (blk_lt (g:=qD) (o:=.cells #[.string a0_0,.string a0_1,.slice A0_2 l0_2.length c0_2,.string a0_3,.int .u32 a0_4,.int .i64 a0_5,.int .u64 a0_6,.int .u64 a0_7,.bool a0_8,.bool a0_9,.bool a0_10,.bool a0_11] 29 (0,0)) (by (with_reducible repeat (first | refine bN ?_ _ | refine bD ?_ | refine bA ?_ _));exact qC.out)):qD≠qA))
    have n7_:=M0 ((by rw [hg];exact Nat.ne_of_gt (blk_lt (g:=qD) (o:=.cells #[.string a0_0,.string a0_1,.slice A0_2 l0_2.length c0_2,.string a0_3,.int .u32 a0_4,.int .i64 a0_5,.int .u64 a0_6,.int .u64 a0_7,.bool a0_8,.bool a0_9,.bool a0_10,.bool a0_11] 29 (0,0)) (by (with_reducible repeat (first | refine bN ?_ _ | refine bD ?_ | refine bA ?_ _));exact qC.out)):qA≠qD))
    have n8_:=M0 ((by rw [hg];exact Nat.ne_of_lt (blk_lt (g:=qG) (o:=.cells #[.string (⟨#[]⟩:ByteArray),.string (⟨#[]⟩:ByteArray),.slice none 0 0,.string (⟨#[]⟩:ByteArray),.int .u32 0,.int .i64 0,.int .u64 0,.int .u64 0,.bool false,.bool false,.bool false,.bool false] 26 (0,0)) (by (with_reducible repeat (first | refine bN ?_ _ | refine bD ?_ | refine bA ?_ _));exact qE.out)):qG≠qA))
    have n9_:=M0 ((by rw [hg];exact Nat.ne_of_gt (blk_lt (g:=qG) (o:=.cells #[.string (⟨#[]⟩:ByteArray),.string (⟨#[]⟩:ByteArray),.slice none 0 0,.string (⟨#[]⟩:ByteArray),.int .u32 0,.int .i64 0,.int .u64 0,.int .u64 0,.bool false,.bool false,.bool false,.bool false] 26 (0,0)) (by (with_reducible repeat (first | refine bN ?_ _ | refine bD ?_ | refine bA ?_ _));exact qE.out)):qA≠qG))
    clear qC
    clear qE
    clear HB
    have qC:=n0_
    have qE:=n1_
    have HB:=n2_
    have qF:=n3_
    have GW109:=n4_
    have qP:=n5_
    have qB:=n6_
    have qL:=n7_
    have qJ:=n8_
    have qK:=n9_
    clear n0_ n1_ n2_ n3_ n4_ n5_ n6_ n7_ n8_ n9_
    clear hb hbox hg
    refine hK.out _ _ ⟨(blk_cell qC.out 0).trans rfl,(blk_cell qC.out 1).trans rfl,(blk_cell qC.out 2).trans rfl,(blk_cell qC.out 3).trans rfl,(blk_cell qC.out 4).trans rfl,(blk_cell qC.out 5).trans rfl,(blk_cell qC.out 6).trans rfl,(blk_cell qC.out 7).trans rfl,(blk_cell qC.out 8).trans rfl,(blk_cell qC.out 9).trans rfl,(blk_cell qC.out 10).trans rfl,(blk_cell qC.out 11).trans rfl⟩ (fun hHeld=>?_)
    clear hK K
    refine norm_ (a':=?_) ?_ ?_
    rotate_left
    ·show Act.put _ (some 3) _=_
     simp only [pS]
     rfl
    refine one_ (i:=4) (N:=some 8) #[true,true,true,true,true,true,true,false,true,true,true,true,true,true,true,true,true,true,true,true,true,true,true,true,true,true,false,true,false] rfl rfl (one_of HT_.out (by kernel_rfl)) (by decide) (fun K hK=>?_)
    refine Kd.R_lit_step Kd.string _ 9 ?hg (N:=8) ?hd (xs:=([]:List ByteArray)) (inner:=[]) (ok:=fun _=>True) (okp:=fun _=>True) ?hr ?hp (fun _ hk=>hk) trivial (Below.refl _ _) (Nat.le_refl _) (by simp) ?_;(case hd=>rfl);(case hg=>rfl);(case hr=>first | (go_simp;done) | (go_simp;rfl));(case hp=>exact (Reps.none _ _))
    intro v104 w8 ho9 hb hg_ hnew_
    clear hg_ hnew_
    (first | rw [← qT.out] at ho9 | (simp only [Int.reduceToNat] at ho9;rw [← qT.out] at ho9))
    have n0_:=M0 (Kd.R_lower ho9 (below_size bBY1))
    have n1_:=M0 (blk_below (g:=qD) (o:=.cells #[.string a0_0,.string a0_1,.slice A0_2 l0_2.length c0_2,.string a0_3,.int .u32 a0_4,.int .i64 a0_5,.int .u64 a0_6,.int .u64 a0_7,.bool a0_8,.bool a0_9,.bool a0_10,.bool a0_11] 29 (0,0)) (by (with_reducible repeat (first | refine bN ?_ _ | refine bD ?_ | refine bA ?_ _));exact qC.out) hb)
    have n2_:=M0 (blk_below (g:=qG) (o:=.cells #[.string (⟨#[]⟩:ByteArray),.string (⟨#[]⟩:ByteArray),.slice none 0 0,.string (⟨#[]⟩:ByteArray),.int .u32 0,.int .i64 0,.int .u64 0,.int .u64 0,.bool false,.bool false,.bool false,.bool false] 26 (0,0)) (by (with_reducible repeat (first | refine bN ?_ _ | refine bD ?_ | refine bA ?_ _));exact qE.out) hb)
    have n3_:=M0 (blk_below (g:=qA) (o:=.cells #[.string (⟨#[]⟩:ByteArray),.string (⟨#[]⟩:ByteArray),.slice none 0 0,.string (⟨#[]⟩:ByteArray),.int .u32 0,.int .i64 0,.int .u64 0,.int .u64 0,.bool false,.bool false,.bool false,.bool false] 26 (0,0)) (by (with_reducible repeat (first | refine bN ?_ _ | refine bD ?_ | refine bA ?_ _));exact qF.out) hb)
    have n4_:=M0 (below_step bBY1 hb)
    clear qC
    clear qE
    clear qF
    clear HB
    have qQ:=n0_
    have qC:=n1_
    have qE:=n2_
    have qF:=n3_
    have HB:=n4_
    clear n0_ n1_ n2_ n3_ n4_
    clear hb ho9
    refine hK.out _ _ ⟨(blk_cell qC.out 0).trans rfl,(blk_cell qC.out 1).trans rfl,(blk_cell qC.out 2).trans rfl,(blk_cell qC.out 3).trans rfl,(blk_cell qC.out 4).trans rfl,(blk_cell qC.out 5).trans rfl,(blk_cell qC.out 6).trans rfl,(blk_cell qC.out 7).trans rfl,(blk_cell qC.out 8).trans rfl,(blk_cell qC.out 9).trans rfl,(blk_cell qC.out 10).trans rfl,(blk_cell qC.out 11).trans rfl⟩ (fun hHeld=>?_)
    clear hK K
    refine norm_ (a':=?_) ?_ ?_
    rotate_left
    ·show Act.put _ (some 8) _=_
     simp only [pS]
     rfl
    refine one_ (i:=7) (N:=some 11) #[true,true,true,true,true,true,true,true,true,true,true,true,true,true,true,true,true,true,true,true,true,true,true,true,true,true,false,true,false] rfl rfl (one_of HT_.out (by kernel_rfl)) (by decide) (fun K hK=>?_)
    refine Kd.R_append_rows_step Kd.string (w0:=w) w.heap.size (by rfl) (.tmp 8) (.tmp 10) 22 9 (.string ⟨#[]⟩) 16 rfl Tryz.underlying22 info9 rfl (by decide) (by omega) v104 y103 l0_2 _ _ _ (fun _=>True) (fun _=>False) rfl rfl ?aO ?aR (fun _ _ h=>h) (fun _ h=>h.elim) ?aF ?aB ?aS ?aL ?_
    (case aR=>repeat (first | exact (Kd.C_below HR0_2.out HB.out) | (with_reducible refine Kd.C_alloc ?_ _) | (with_reducible refine Kd.C_drewN ?_ _) | (with_reducible refine Kd.C_drew ?_)))
    (case aB=>exact bBY1)
    (case aF=>exact (fun _ _=>trivial))
    (case aO=>exact (by (with_reducible repeat (first | apply rA | apply rN | apply rD));exact qQ.out))
    (case aS=>exact (below_size bBY1))
    (case aL=>have:=qW.out;omega)
    intro v107 w10 ho hb hg hat
    rw [← qV.out] at ho
    have n0_:=M0 (blk_grown (g:=qD) (o:=.cells #[.string a0_0,.string a0_1,.slice A0_2 l0_2.length c0_2,.string a0_3,.int .u32 a0_4,.int .i64 a0_5,.int .u64 a0_6,.int .u64 a0_7,.bool a0_8,.bool a0_9,.bool a0_10,.bool a0_11] 29 (0,0)) (by (with_reducible repeat (first | refine bN ?_ _ | refine bD ?_ | refine bA ?_ _));exact qC.out) hg (Kd.R_ne qQ.out qC.out (by decide)))
    have n1_:=M0 (blk_grown (g:=qG) (o:=.cells #[.string (⟨#[]⟩:ByteArray),.string (⟨#[]⟩:ByteArray),.slice none 0 0,.string (⟨#[]⟩:ByteArray),.int .u32 0,.int .i64 0,.int .u64 0,.int .u64 0,.bool false,.bool false,.bool false,.bool false] 26 (0,0)) (by (with_reducible repeat (first | refine bN ?_ _ | refine bD ?_ | refine bA ?_ _));exact qE.out) hg (Kd.R_ne qQ.out qE.out (by decide)))
    have n2_:=M0 (blk_grown (g:=qA) (o:=.cells #[.string (⟨#[]⟩:ByteArray),.string (⟨#[]⟩:ByteArray),.slice none 0 0,.string (⟨#[]⟩:ByteArray),.int .u32 0,.int .i64 0,.int .u64 0,.int .u64 0,.bool false,.bool false,.bool false,.bool false] 26 (0,0)) (by (with_reducible repeat (first | refine bN ?_ _ | refine bD ?_ | refine bA ?_ _));exact qF.out) hg (Kd.R_ne qQ.out qF.out (by decide)))
    have n3_:=M0 (hb)
    have n4_:=M0 (ho)
    clear qC
    clear qE
    clear qF
    clear HB
    clear qQ
    have qC:=n0_
    have qE:=n1_
    have qF:=n2_
    have HB:=n3_
    have qO:=n4_
    clear n0_ n1_ n2_ n3_ n4_
    clear ho hb hg hat
    obtain ⟨qX,qY,qU⟩:=Kd.R_slice qO.out
    (first | subst qU | (injection qU with f1_ f2_ f3_;have f4_:=f1_.symm;have f5_:=f3_.symm;clear f1_ f2_ f3_;subst f4_;subst f5_))
    refine hK.out _ _ ⟨(blk_cell qC.out 0).trans rfl,(blk_cell qC.out 1).trans rfl,(blk_cell qC.out 2).trans rfl,(blk_cell qC.out 3).trans rfl,(blk_cell qC.out 4).trans rfl,(blk_cell qC.out 5).trans rfl,(blk_cell qC.out 6).trans rfl,(blk_cell qC.out 7).trans rfl,(blk_cell qC.out 8).trans rfl,(blk_cell qC.out 9).trans rfl,(blk_cell qC.out 10).trans rfl,(blk_cell qC.out 11).trans rfl⟩ (fun hHeld=>?_)
    clear hK K
    refine norm_ (a':=?_) ?_ ?_
    rotate_left
    ·show Act.put _ (some 11) _=_
     simp only [pS]
     rfl
    refine pure_ (i:=26) (N:=some 30) (v:=?_) (a':=?_) #[true,true,true,true,true,true,true,true,true,true,true,true,true,true,true,true,true,true,true,true,true,true,true,true,true,true,true,true,false] rfl rfl (any_of HT_.out (by kernel_rfl)) (fun _ _ _ h=>h) (Or.inl ⟨by rfl,?_⟩) ?_ ?_
    rotate_left
    ·intro w'
     go_simp
     with_reducible rfl
    rotate_left
    ·simp only [pS]
     rfl
    exact norm_ (by simp only [putAll,Act.put,List.setIfInBounds_toArray,List.set_cons_zero,List.set_cons_succ]) (hCont (v104,.slice qX y106.length qY,qA) _ ⟨hHeld,(by (with_reducible repeat (first | apply rA | apply rN | apply rD));exact qO.out),(by (with_reducible repeat (first | refine bN ?_ _ | refine bD ?_ | refine bA ?_ _));exact qC.out),(by (with_reducible repeat (first | refine bN ?_ _ | refine bD ?_ | refine bA ?_ _));exact qE.out),(by (with_reducible repeat (first | refine bN ?_ _ | refine bD ?_ | refine bA ?_ _));exact qF.out),GW109.out,qP.out,qB.out,qL.out,qJ.out,qK.out,bBY1⟩)
  rintro ⟨v104,v107,qA⟩ w12 ⟨hS_,h0_,h1_,h2_,h3_,h4_,h5_,h6_,h7_,h8_,h9_,h10_⟩
  have n0_:Aside0 (Kd.R Kd.string 9 w12 w.heap.size (fun _=>True) v107 y106):=⟨h0_⟩
  have n1_:Aside0 (w12.heap[qD]? = some (.cells #[.string a0_0,.string a0_1,.slice A0_2 l0_2.length c0_2,.string a0_3,.int .u32 a0_4,.int .i64 a0_5,.int .u64 a0_6,.int .u64 a0_7,.bool a0_8,.bool a0_9,.bool a0_10,.bool a0_11] 29 (0,0))):=⟨h1_⟩
  have n2_:Aside0 (w12.heap[qG]? = some (.cells #[.string (⟨#[]⟩:ByteArray),.string (⟨#[]⟩:ByteArray),.slice none 0 0,.string (⟨#[]⟩:ByteArray),.int .u32 0,.int .i64 0,.int .u64 0,.int .u64 0,.bool false,.bool false,.bool false,.bool false] 26 (0,0))):=⟨h2_⟩
  have n3_:Aside0 (w12.heap[qA]? = some (.cells #[.string (⟨#[]⟩:ByteArray),.string (⟨#[]⟩:ByteArray),.slice none 0 0,.string (⟨#[]⟩:ByteArray),.int .u32 0,.int .i64 0,.int .u64 0,.int .u64 0,.bool false,.bool false,.bool false,.bool false] 26 (0,0))):=⟨h3_⟩
  have n4_:Aside0 (w.heap.size≤qA):=⟨h4_⟩
  have n5_:Aside0 (w.heap.size≤qA):=⟨h5_⟩
  have n6_:Aside0 (qD≠qA):=⟨h6_⟩
  have n7_:Aside0 (qA≠qD):=⟨h7_⟩
  have n8_:Aside0 (qG≠qA):=⟨h8_⟩
  have n9_:Aside0 (qA≠qG):=⟨h9_⟩
  have n10_:Aside0 (Below w.heap.size w w12):=⟨h10_⟩
  clear qC
  clear qE
  clear HB
  clear h0_ h1_ h2_ h3_ h4_ h5_ h6_ h7_ h8_ h9_ h10_
  have qO:=n0_
  have qC:=n1_
  have qE:=n2_
  have qF:=n3_
  have GW109:=n4_
  have qP:=n5_
  have qB:=n6_
  have qL:=n7_
  have qJ:=n8_
  have qK:=n9_
  have HB:=n10_
  clear n0_ n1_ n2_ n3_ n4_ n5_ n6_ n7_ n8_ n9_ n10_
  have hHeld:w12.cell? ⟨qD,0,none⟩=some (.string a0_0)∧w12.cell? ⟨qD,1,none⟩=some (.string a0_1)∧w12.cell? ⟨qD,2,none⟩=some (.slice A0_2 l0_2.length c0_2)∧w12.cell? ⟨qD,3,none⟩=some (.string a0_3)∧w12.cell? ⟨qD,4,none⟩=some (.int .u32 a0_4)∧w12.cell? ⟨qD,5,none⟩=some (.int .i64 a0_5)∧w12.cell? ⟨qD,6,none⟩=some (.int .u64 a0_6)∧w12.cell? ⟨qD,7,none⟩=some (.int .u64 a0_7)∧w12.cell? ⟨qD,8,none⟩=some (.bool a0_8)∧w12.cell? ⟨qD,9,none⟩=some (.bool a0_9)∧w12.cell? ⟨qD,10,none⟩=some (.bool a0_10)∧w12.cell? ⟨qD,11,none⟩=some (.bool a0_11):=hS_
  obtain ⟨qH,qI,qa⟩:=Kd.R_slice qO.out
  (first | subst qa | (injection qa with f1_ f2_ f3_;have f4_:=f1_.symm;have f5_:=f3_.symm;clear f1_ f2_ f3_;subst f4_;subst f5_))
  refine norm_ (a':=?_) ?_ ?_
  rotate_left
  ·simp only [putAll,Act.put,List.setIfInBounds_toArray,List.set_cons_zero,List.set_cons_succ]
   rfl
  refine one_ (i:=28) (N:=none) #[true,true,true,true,true,true,true,true,true,true,true,true,true,true,true,true,true,true,true,true,true,true,true,true,true,true,true,true,true] rfl rfl (one_of HT_.out (by kernel_rfl)) (by decide) (fun K hK=>?_)
  have hs14:w12.cell? ⟨qA,0,none⟩=some (.string (⟨#[]⟩:ByteArray)):=(blk_cell qF.out 0).trans rfl
  have qCp:=blk_frozen qF.out 0
  have qx:=qB.out
  have qy:=qJ.out
  have qz:=qL.out
  have qAA:=qK.out
  have hs15:w12.cell? ⟨qA,1,none⟩=some (.string (⟨#[]⟩:ByteArray)):=(blk_cell qF.out 1).trans rfl
  have qCq:=blk_frozen qF.out 1
  have qAB:=qB.out
  have qAC:=qJ.out
  have qAD:=qL.out
  have qAE:=qK.out
  have hs16:w12.cell? ⟨qA,2,none⟩=some (.slice none 0 0):=(blk_cell qF.out 2).trans rfl
  have qCr:=blk_frozen qF.out 2
  have qAF:=qB.out
  have qAG:=qJ.out
  have qAH:=qL.out
  have qAI:=qK.out
  have hs17:w12.cell? ⟨qA,3,none⟩=some (.string (⟨#[]⟩:ByteArray)):=(blk_cell qF.out 3).trans rfl
  have qCs:=blk_frozen qF.out 3
  have qAJ:=qB.out
  have qAK:=qJ.out
  have qAL:=qL.out
  have qAM:=qK.out
  have hs18:w12.cell? ⟨qA,4,none⟩=some (.int .u32 0):=(blk_cell qF.out 4).trans rfl
  have qCt:=blk_frozen qF.out 4
  have qAN:=qB.out
  have qAO:=qJ.out
  have qAP:=qL.out
  have qAQ:=qK.out
  have hs19:w12.cell? ⟨qA,5,none⟩=some (.int .i64 0):=(blk_cell qF.out 5).trans rfl
  have qCu:=blk_frozen qF.out 5
  have qAR:=qB.out
  have qAS:=qJ.out
  have qAT:=qL.out
  have qAU:=qK.out
  have hs20:w12.cell? ⟨qA,6,none⟩=some (.int .u64 0):=(blk_cell qF.out 6).trans rfl
  have qCv:=blk_frozen qF.out 6
  have qAV:=qB.out
  have qAW:=qJ.out
  have qAX:=qL.out
  have qAY:=qK.out
  have hs21:w12.cell? ⟨qA,7,none⟩=some (.int .u64 0):=(blk_cell qF.out 7).trans rfl
  have qCw:=blk_frozen qF.out 7
  have qAZ:=qB.out
  have qAa:=qJ.out
  have qAb:=qL.out
  have qAc:=qK.out
  have hs22:w12.cell? ⟨qA,8,none⟩=some (.bool false):=(blk_cell qF.out 8).trans rfl
  have qCx:=blk_frozen qF.out 8
  have qAd:=qB.out
  have qAe:=qJ.out
  have qAf:=qL.out
  have qAg:=qK.out
  have hs23:w12.cell? ⟨qA,9,none⟩=some (.bool false):=(blk_cell qF.out 9).trans rfl
  have qCy:=blk_frozen qF.out 9
  have qAh:=qB.out
  have qAi:=qJ.out
  have qAj:=qL.out
  have qAk:=qK.out
  have hs24:w12.cell? ⟨qA,10,none⟩=some (.bool false):=(blk_cell qF.out 10).trans rfl
  have qCz:=blk_frozen qF.out 10
  have qAl:=qB.out
  have qAm:=qJ.out
  have qAn:=qL.out
  have qAo:=qK.out
  have hs25:w12.cell? ⟨qA,11,none⟩=some (.bool false):=(blk_cell qF.out 11).trans rfl
  have qDA:=blk_frozen qF.out 11
  have qAp:=qB.out
  have qAq:=qJ.out
  have qAr:=qL.out
  have qAs:=qK.out
  refine skip_ (w1:=?_) (by rfl) rfl ?_ ?_
  rotate_left
  ·go_simp
   rfl
  refine hK.out _ _ ⟨((cell_far (p:=⟨qA,_,none⟩) qB.out _).trans (((cell_far (p:=⟨qA,_,none⟩) qB.out _).trans (((cell_far (p:=⟨qA,_,none⟩) qB.out _).trans (((cell_far (p:=⟨qA,_,none⟩) qB.out _).trans (((cell_far (p:=⟨qA,_,none⟩) qB.out _).trans (((cell_far (p:=⟨qA,_,none⟩) qB.out _).trans (((cell_far (p:=⟨qA,_,none⟩) qB.out _).trans (((cell_far (p:=⟨qA,_,none⟩) qB.out _).trans (((cell_far (p:=⟨qA,_,none⟩) qB.out _).trans (((cell_far (p:=⟨qA,_,none⟩) qB.out _).trans (((cell_far (p:=⟨qA,_,none⟩) qB.out _).trans (((cell_far (p:=⟨qA,_,none⟩) qB.out _).trans (hHeld.1)))))))))))))))))))))))),((cell_far (p:=⟨qA,_,none⟩) qB.out _).trans (((cell_far (p:=⟨qA,_,none⟩) qB.out _).trans (((cell_far (p:=⟨qA,_,none⟩) qB.out _).trans (((cell_far (p:=⟨qA,_,none⟩) qB.out _).trans (((cell_far (p:=⟨qA,_,none⟩) qB.out _).trans (((cell_far (p:=⟨qA,_,none⟩) qB.out _).trans (((cell_far (p:=⟨qA,_,none⟩) qB.out _).trans (((cell_far (p:=⟨qA,_,none⟩) qB.out _).trans (((cell_far (p:=⟨qA,_,none⟩) qB.out _).trans (((cell_far (p:=⟨qA,_,none⟩) qB.out _).trans (((cell_far (p:=⟨qA,_,none⟩) qB.out _).trans (((cell_far (p:=⟨qA,_,none⟩) qB.out _).trans (hHeld.2.1)))))))))))))))))))))))),((cell_far (p:=⟨qA,_,none⟩) qB.out _).trans (((cell_far (p:=⟨qA,_,none⟩) qB.out _).trans (((cell_far (p:=⟨qA,_,none⟩) qB.out _).trans (((cell_far (p:=⟨qA,_,none⟩) qB.out _).trans (((cell_far (p:=⟨qA,_,none⟩) qB.out _).trans (((cell_far (p:=⟨qA,_,none⟩) qB.out _).trans (((cell_far (p:=⟨qA,_,none⟩) qB.out _).trans (((cell_far (p:=⟨qA,_,none⟩) qB.out _).trans (((cell_far (p:=⟨qA,_,none⟩) qB.out _).trans (((cell_far (p:=⟨qA,_,none⟩) qB.out _).trans (((cell_far (p:=⟨qA,_,none⟩) qB.out _).trans (((cell_far (p:=⟨qA,_,none⟩) qB.out _).trans (hHeld.2.2.1)))))))))))))))))))))))),((cell_far (p:=⟨qA,_,none⟩) qB.out _).trans (((cell_far (p:=⟨qA,_,none⟩) qB.out _).trans (((cell_far (p:=⟨qA,_,none⟩) qB.out _).trans (((cell_far (p:=⟨qA,_,none⟩) qB.out _).trans (((cell_far (p:=⟨qA,_,none⟩) qB.out _).trans (((cell_far (p:=⟨qA,_,none⟩) qB.out _).trans (((cell_far (p:=⟨qA,_,none⟩) qB.out _).trans (((cell_far (p:=⟨qA,_,none⟩) qB.out _).trans (((cell_far (p:=⟨qA,_,none⟩) qB.out _).trans (((cell_far (p:=⟨qA,_,none⟩) qB.out _).trans (((cell_far (p:=⟨qA,_,none⟩) qB.out _).trans (((cell_far (p:=⟨qA,_,none⟩) qB.out _).trans (hHeld.2.2.2.1)))))))))))))))))))))))),((cell_far (p:=⟨qA,_,none⟩) qB.out _).trans (((cell_far (p:=⟨qA,_,none⟩) qB.out _).trans (((cell_far (p:=⟨qA,_,none⟩) qB.out _).trans (((cell_far (p:=⟨qA,_,none⟩) qB.out _).trans (((cell_far (p:=⟨qA,_,none⟩) qB.out _).trans (((cell_far (p:=⟨qA,_,none⟩) qB.out _).trans (((cell_far (p:=⟨qA,_,none⟩) qB.out _).trans (((cell_far (p:=⟨qA,_,none⟩) qB.out _).trans (((cell_far (p:=⟨qA,_,none⟩) qB.out _).trans (((cell_far (p:=⟨qA,_,none⟩) qB.out _).trans (((cell_far (p:=⟨qA,_,none⟩) qB.out _).trans (((cell_far (p:=⟨qA,_,none⟩) qB.out _).trans (hHeld.2.2.2.2.1)))))))))))))))))))))))),((cell_far (p:=⟨qA,_,none⟩) qB.out _).trans (((cell_far (p:=⟨qA,_,none⟩) qB.out _).trans (((cell_far (p:=⟨qA,_,none⟩) qB.out _).trans (((cell_far (p:=⟨qA,_,none⟩) qB.out _).trans (((cell_far (p:=⟨qA,_,none⟩) qB.out _).trans (((cell_far (p:=⟨qA,_,none⟩) qB.out _).trans (((cell_far (p:=⟨qA,_,none⟩) qB.out _).trans (((cell_far (p:=⟨qA,_,none⟩) qB.out _).trans (((cell_far (p:=⟨qA,_,none⟩) qB.out _).trans (((cell_far (p:=⟨qA,_,none⟩) qB.out _).trans (((cell_far (p:=⟨qA,_,none⟩) qB.out _).trans (((cell_far (p:=⟨qA,_,none⟩) qB.out _).trans (hHeld.2.2.2.2.2.1)))))))))))))))))))))))),((cell_far (p:=⟨qA,_,none⟩) qB.out _).trans (((cell_far (p:=⟨qA,_,none⟩) qB.out _).trans (((cell_far (p:=⟨qA,_,none⟩) qB.out _).trans (((cell_far (p:=⟨qA,_,none⟩) qB.out _).trans (((cell_far (p:=⟨qA,_,none⟩) qB.out _).trans (((cell_far (p:=⟨qA,_,none⟩) qB.out _).trans (((cell_far (p:=⟨qA,_,none⟩) qB.out _).trans (((cell_far (p:=⟨qA,_,none⟩) qB.out _).trans (((cell_far (p:=⟨qA,_,none⟩) qB.out _).trans (((cell_far (p:=⟨qA,_,none⟩) qB.out _).trans (((cell_far (p:=⟨qA,_,none⟩) qB.out _).trans (((cell_far (p:=⟨qA,_,none⟩) qB.out _).trans (hHeld.2.2.2.2.2.2.1)))))))))))))))))))))))),((cell_far (p:=⟨qA,_,none⟩) qB.out _).trans (((cell_far (p:=⟨qA,_,none⟩) qB.out _).trans (((cell_far (p:=⟨qA,_,none⟩) qB.out _).trans (((cell_far (p:=⟨qA,_,none⟩) qB.out _).trans (((cell_far (p:=⟨qA,_,none⟩) qB.out _).trans (((cell_far (p:=⟨qA,_,none⟩) qB.out _).trans (((cell_far (p:=⟨qA,_,none⟩) qB.out _).trans (((cell_far (p:=⟨qA,_,none⟩) qB.out _).trans (((cell_far (p:=⟨qA,_,none⟩) qB.out _).trans (((cell_far (p:=⟨qA,_,none⟩) qB.out _).trans (((cell_far (p:=⟨qA,_,none⟩) qB.out _).trans (((cell_far (p:=⟨qA,_,none⟩) qB.out _).trans (hHeld.2.2.2.2.2.2.2.1)))))))))))))))))))))))),((cell_far (p:=⟨qA,_,none⟩) qB.out _).trans (((cell_far (p:=⟨qA,_,none⟩) qB.out _).trans (((cell_far (p:=⟨qA,_,none⟩) qB.out _).trans (((cell_far (p:=⟨qA,_,none⟩) qB.out _).trans (((cell_far (p:=⟨qA,_,none⟩) qB.out _).trans (((cell_far (p:=⟨qA,_,none⟩) qB.out _).trans (((cell_far (p:=⟨qA,_,none⟩) qB.out _).trans (((cell_far (p:=⟨qA,_,none⟩) qB.out _).trans (((cell_far (p:=⟨qA,_,none⟩) qB.out _).trans (((cell_far (p:=⟨qA,_,none⟩) qB.out _).trans (((cell_far (p:=⟨qA,_,none⟩) qB.out _).trans (((cell_far (p:=⟨qA,_,none⟩) qB.out _).trans (hHeld.2.2.2.2.2.2.2.2.1)))))))))))))))))))))))),((cell_far (p:=⟨qA,_,none⟩) qB.out _).trans (((cell_far (p:=⟨qA,_,none⟩) qB.out _).trans (((cell_far (p:=⟨qA,_,none⟩) qB.out _).trans (((cell_far (p:=⟨qA,_,none⟩) qB.out _).trans (((cell_far (p:=⟨qA,_,none⟩) qB.out _).trans (((cell_far (p:=⟨qA,_,none⟩) qB.out _).trans (((cell_far (p:=⟨qA,_,none⟩) qB.out _).trans (((cell_far (p:=⟨qA,_,none⟩) qB.out _).trans (((cell_far (p:=⟨qA,_,none⟩) qB.out _).trans (((cell_far (p:=⟨qA,_,none⟩) qB.out _).trans (((cell_far (p:=⟨qA,_,none⟩) qB.out _).trans (((cell_far (p:=⟨qA,_,none⟩) qB.out _).trans (hHeld.2.2.2.2.2.2.2.2.2.1)))))))))))))))))))))))),((cell_far (p:=⟨qA,_,none⟩) qB.out _).trans (((cell_far (p:=⟨qA,_,none⟩) qB.out _).trans (((cell_far (p:=⟨qA,_,none⟩) qB.out _).trans (((cell_far (p:=⟨qA,_,none⟩) qB.out _).trans (((cell_far (p:=⟨qA,_,none⟩) qB.out _).trans (((cell_far (p:=⟨qA,_,none⟩) qB.out _).trans (((cell_far (p:=⟨qA,_,none⟩) qB.out _).trans (((cell_far (p:=⟨qA,_,none⟩) qB.out _).trans (((cell_far (p:=⟨qA,_,none⟩) qB.out _).trans (((cell_far (p:=⟨qA,_,none⟩) qB.out _).trans (((cell_far (p:=⟨qA,_,none⟩) qB.out _).trans (((cell_far (p:=⟨qA,_,none⟩) qB.out _).trans (hHeld.2.2.2.2.2.2.2.2.2.2.1)))))))))))))))))))))))),((cell_far (p:=⟨qA,_,none⟩) qB.out _).trans (((cell_far (p:=⟨qA,_,none⟩) qB.out _).trans (((cell_far (p:=⟨qA,_,none⟩) qB.out _).trans (((cell_far (p:=⟨qA,_,none⟩) qB.out _).trans (((cell_far (p:=⟨qA,_,none⟩) qB.out _).trans (((cell_far (p:=⟨qA,_,none⟩) qB.out _).trans (((cell_far (p:=⟨qA,_,none⟩) qB.out _).trans (((cell_far (p:=⟨qA,_,none⟩) qB.out _).trans (((cell_far (p:=⟨qA,_,none⟩) qB.out _).trans (((cell_far (p:=⟨qA,_,none⟩) qB.out _).trans (((cell_far (p:=⟨qA,_,none⟩) qB.out _).trans (((cell_far (p:=⟨qA,_,none⟩) qB.out _).trans (hHeld.2.2.2.2.2.2.2.2.2.2.2))))))))))))))))))))))))⟩ (fun hHeld=>?_)
  clear hK K
  refine done_ (done_of HT_.out (by kernel_rfl)) ?_
  by_cases c3:(y106.length:Int)=0
  ·rw [if_pos c3] at H
   have c3b0:((y106.length:Int)==0)=true:=beq_iff_eq.mpr c3
   have c3b1:((y106.length:Int) != 0)=false:=bne_eq_false_iff_eq.mpr c3
   clear c3
   simp only [Option.some.injEq,Prod.mk.injEq] at H
   obtain ⟨rfl,rfl,rfl,rfl,rfl,rfl,rfl,rfl,rfl,rfl,rfl,rfl⟩:=H
   have n0_:Aside0 (Kd.R Kd.string 9 ((((((((((((w12.setCell ⟨qA,0,none⟩ (.string a0_0)).setCell ⟨qA,1,none⟩ (.string a0_1)).setCell ⟨qA,2,none⟩ (.slice qH y106.length qI)).setCell ⟨qA,3,none⟩ (.string a0_3)).setCell ⟨qA,4,none⟩ (.int .u32 a0_4)).setCell ⟨qA,5,none⟩ (.int .i64 a0_5)).setCell ⟨qA,6,none⟩ (.int .u64 a0_6)).setCell ⟨qA,7,none⟩ (.int .u64 a0_7)).setCell ⟨qA,8,none⟩ (.bool a0_8)).setCell ⟨qA,9,none⟩ (.bool a0_9)).setCell ⟨qA,10,none⟩ (.bool a0_10)).setCell ⟨qA,11,none⟩ (.bool a0_11)) w.heap.size (fun _=>True) (.slice qH y106.length qI) y106):=⟨by (with_reducible repeat (first | apply rA | apply rN | apply rD));exact Kd.R_mono (R_far12 qA (Kd.R_types qO.out qF.out (by decide)) (.string a0_0) (.string a0_1) (.slice qH y106.length qI) (.string a0_3) (.int .u32 a0_4) (.int .i64 a0_5) (.int .u64 a0_6) (.int .u64 a0_7) (.bool a0_8) (.bool a0_9) (.bool a0_10) (.bool a0_11)) (fun _ hk=>trivial)⟩
   have n1_:Aside0 (((((((((((((w12.setCell ⟨qA,0,none⟩ (.string a0_0)).setCell ⟨qA,1,none⟩ (.string a0_1)).setCell ⟨qA,2,none⟩ (.slice qH y106.length qI)).setCell ⟨qA,3,none⟩ (.string a0_3)).setCell ⟨qA,4,none⟩ (.int .u32 a0_4)).setCell ⟨qA,5,none⟩ (.int .i64 a0_5)).setCell ⟨qA,6,none⟩ (.int .u64 a0_6)).setCell ⟨qA,7,none⟩ (.int .u64 a0_7)).setCell ⟨qA,8,none⟩ (.bool a0_8)).setCell ⟨qA,9,none⟩ (.bool a0_9)).setCell ⟨qA,10,none⟩ (.bool a0_10)).setCell ⟨qA,11,none⟩ (.bool a0_11)).heap[qD]? = some (.cells #[.string a0_0,.string a0_1,.slice A0_2 l0_2.length c0_2,.string a0_3,.int .u32 a0_4,.int .i64 a0_5,.int .u64 a0_6,.int .u64 a0_7,.bool a0_8,.bool a0_9,.bool a0_10,.bool a0_11] 29 (0,0))):=⟨by (with_reducible repeat (first | refine bN ?_ _ | refine bD ?_ | refine bA ?_ _));refine bF ?_ qB.out;(with_reducible repeat (first | refine bN ?_ _ | refine bD ?_ | refine bA ?_ _));exact qC.out⟩
   have n2_:Aside0 (((((((((((((w12.setCell ⟨qA,0,none⟩ (.string a0_0)).setCell ⟨qA,1,none⟩ (.string a0_1)).setCell ⟨qA,2,none⟩ (.slice qH y106.length qI)).setCell ⟨qA,3,none⟩ (.string a0_3)).setCell ⟨qA,4,none⟩ (.int .u32 a0_4)).setCell ⟨qA,5,none⟩ (.int .i64 a0_5)).setCell ⟨qA,6,none⟩ (.int .u64 a0_6)).setCell ⟨qA,7,none⟩ (.int .u64 a0_7)).setCell ⟨qA,8,none⟩ (.bool a0_8)).setCell ⟨qA,9,none⟩ (.bool a0_9)).setCell ⟨qA,10,none⟩ (.bool a0_10)).setCell ⟨qA,11,none⟩ (.bool a0_11)).heap[qG]? = some (.cells #[.string (⟨#[]⟩:ByteArray),.string (⟨#[]⟩:ByteArray),.slice none 0 0,.string (⟨#[]⟩:ByteArray),.int .u32 0,.int .i64 0,.int .u64 0,.int .u64 0,.bool false,.bool false,.bool false,.bool false] 26 (0,0))):=⟨by (with_reducible repeat (first | refine bN ?_ _ | refine bD ?_ | refine bA ?_ _));refine bF ?_ qJ.out;(with_reducible repeat (first | refine bN ?_ _ | refine bD ?_ | refine bA ?_ _));exact qE.out⟩
   have n3_:Aside0 (((((((((((((w12.setCell ⟨qA,0,none⟩ (.string a0_0)).setCell ⟨qA,1,none⟩ (.string a0_1)).setCell ⟨qA,2,none⟩ (.slice qH y106.length qI)).setCell ⟨qA,3,none⟩ (.string a0_3)).setCell ⟨qA,4,none⟩ (.int .u32 a0_4)).setCell ⟨qA,5,none⟩ (.int .i64 a0_5)).setCell ⟨qA,6,none⟩ (.int .u64 a0_6)).setCell ⟨qA,7,none⟩ (.int .u64 a0_7)).setCell ⟨qA,8,none⟩ (.bool a0_8)).setCell ⟨qA,9,none⟩ (.bool a0_9)).setCell ⟨qA,10,none⟩ (.bool a0_10)).setCell ⟨qA,11,none⟩ (.bool a0_11)).heap[qA]? = some (.cells #[.string a0_0,.string a0_1,.slice qH y106.length qI,.string a0_3,.int .u32 a0_4,.int .i64 a0_5,.int .u64 a0_6,.int .u64 a0_7,.bool a0_8,.bool a0_9,.bool a0_10,.bool a0_11] 26 (0,0))):=⟨by (with_reducible repeat (first | refine bN ?_ _ | refine bD ?_ | refine bA ?_ _));refine blk_put (cs:=#[.string a0_0,.string a0_1,.slice qH y106.length qI,.string a0_3,.int .u32 a0_4,.int .i64 a0_5,.int .u64 a0_6,.int .u64 a0_7,.bool a0_8,.bool a0_9,.bool a0_10,.bool false]) ?_ 11 _ rfl;(with_reducible repeat (first | refine bN ?_ _ | refine bD ?_ | refine bA ?_ _));refine blk_put (cs:=#[.string a0_0,.string a0_1,.slice qH y106.length qI,.string a0_3,.int .u32 a0_4,.int .i64 a0_5,.int .u64 a0_6,.int .u64 a0_7,.bool a0_8,.bool a0_9,.bool false,.bool false]) ?_ 10 _ rfl;(with_reducible repeat (first | refine bN ?_ _ | refine bD ?_ | refine bA ?_ _));refine blk_put (cs:=#[.string a0_0,.string a0_1,.slice qH y106.length qI,.string a0_3,.int .u32 a0_4,.int .i64 a0_5,.int .u64 a0_6,.int .u64 a0_7,.bool a0_8,.bool false,.bool false,.bool false]) ?_ 9 _ rfl;(with_reducible repeat (first | refine bN ?_ _ | refine bD ?_ | refine bA ?_ _));refine blk_put (cs:=#[.string a0_0,.string a0_1,.slice qH y106.length qI,.string a0_3,.int .u32 a0_4,.int .i64 a0_5,.int .u64 a0_6,.int .u64 a0_7,.bool false,.bool false,.bool false,.bool false]) ?_ 8 _ rfl;(with_reducible repeat (first | refine bN ?_ _ | refine bD ?_ | refine bA ?_ _));refine blk_put (cs:=#[.string a0_0,.string a0_1,.slice qH y106.length qI,.string a0_3,.int .u32 a0_4,.int .i64 a0_5,.int .u64 a0_6,.int .u64 0,.bool false,.bool false,.bool false,.bool false]) ?_ 7 _ rfl;(with_reducible repeat (first | refine bN ?_ _ | refine bD ?_ | refine bA ?_ _));refine blk_put (cs:=#[.string a0_0,.string a0_1,.slice qH y106.length qI,.string a0_3,.int .u32 a0_4,.int .i64 a0_5,.int .u64 0,.int .u64 0,.bool false,.bool false,.bool false,.bool false]) ?_ 6 _ rfl;(with_reducible repeat (first | refine bN ?_ _ | refine bD ?_ | refine bA ?_ _));refine blk_put (cs:=#[.string a0_0,.string a0_1,.slice qH y106.length qI,.string a0_3,.int .u32 a0_4,.int .i64 0,.int .u64 0,.int .u64 0,.bool false,.bool false,.bool false,.bool false]) ?_ 5 _ rfl;(with_reducible repeat (first | refine bN ?_ _ | refine bD ?_ | refine bA ?_ _));refine blk_put (cs:=#[.string a0_0,.string a0_1,.slice qH y106.length qI,.string a0_3,.int .u32 0,.int .i64 0,.int .u64 0,.int .u64 0,.bool false,.bool false,.bool false,.bool false]) ?_ 4 _ rfl;(with_reducible repeat (first | refine bN ?_ _ | refine bD ?_ | refine bA ?_ _));refine blk_put (cs:=#[.string a0_0,.string a0_1,.slice qH y106.length qI,.string (⟨#[]⟩:ByteArray),.int .u32 0,.int .i64 0,.int .u64 0,.int .u64 0,.bool false,.bool false,.bool false,.bool false]) ?_ 3 _ rfl;(with_reducible repeat (first | refine bN ?_ _ | refine bD ?_ | refine bA ?_ _));refine blk_put (cs:=#[.string a0_0,.string a0_1,.slice none 0 0,.string (⟨#[]⟩:ByteArray),.int .u32 0,.int .i64 0,.int .u64 0,.int .u64 0,.bool false,.bool false,.bool false,.bool false]) ?_ 2 _ rfl;(with_reducible repeat (first | refine bN ?_ _ | refine bD ?_ | refine bA ?_ _));refine blk_put (cs:=#[.string a0_0,.string (⟨#[]⟩:ByteArray),.slice none 0 0,.string (⟨#[]⟩:ByteArray),.int .u32 0,.int .i64 0,.int .u64 0,.int .u64 0,.bool false,.bool false,.bool false,.bool false]) ?_ 1 _ rfl;(with_reducible repeat (first | refine bN ?_ _ | refine bD ?_ | refine bA ?_ _));refine blk_put (cs:=#[.string (⟨#[]⟩:ByteArray),.string (⟨#[]⟩:ByteArray),.slice none 0 0,.string (⟨#[]⟩:ByteArray),.int .u32 0,.int .i64 0,.int .u64 0,.int .u64 0,.bool false,.bool false,.bool false,.bool false]) ?_ 0 _ rfl;(with_reducible repeat (first | refine bN ?_ _ | refine bD ?_ | refine bA ?_ _));exact qF.out⟩
   have n4_:Aside0 (Below w.heap.size w ((((((((((((w12.setCell ⟨qA,0,none⟩ (.string a0_0)).setCell ⟨qA,1,none⟩ (.string a0_1)).setCell ⟨qA,2,none⟩ (.slice qH y106.length qI)).setCell ⟨qA,3,none⟩ (.string a0_3)).setCell ⟨qA,4,none⟩ (.int .u32 a0_4)).setCell ⟨qA,5,none⟩ (.int .i64 a0_5)).setCell ⟨qA,6,none⟩ (.int .u64 a0_6)).setCell ⟨qA,7,none⟩ (.int .u64 a0_7)).setCell ⟨qA,8,none⟩ (.bool a0_8)).setCell ⟨qA,9,none⟩ (.bool a0_9)).setCell ⟨qA,10,none⟩ (.bool a0_10)).setCell ⟨qA,11,none⟩ (.bool a0_11))):=⟨bBY1⟩
   (try clear qO)
   (try clear qC)
   (try clear qE)
   (try clear qF)
   (try clear HB)
   generalize ((((((((((((w12.setCell ⟨qA,0,none⟩ (.string a0_0)).setCell ⟨qA,1,none⟩ (.string a0_1)).setCell ⟨qA,2,none⟩ (.slice qH y106.length qI)).setCell ⟨qA,3,none⟩ (.string a0_3)).setCell ⟨qA,4,none⟩ (.int .u32 a0_4)).setCell ⟨qA,5,none⟩ (.int .i64 a0_5)).setCell ⟨qA,6,none⟩ (.int .u64 a0_6)).setCell ⟨qA,7,none⟩ (.int .u64 a0_7)).setCell ⟨qA,8,none⟩ (.bool a0_8)).setCell ⟨qA,9,none⟩ (.bool a0_9)).setCell ⟨qA,10,none⟩ (.bool a0_10)).setCell ⟨qA,11,none⟩ (.bool a0_11))=w26 at n0_ n1_ n2_ n3_ n4_ ⊢
   have qO:=n0_
   have qC:=n1_
   have qE:=n2_
   have qF:=n3_
   have HB:=n4_
   clear n0_ n1_ n2_ n3_ n4_
   have qDB:=qL.out
   have qDC:=qB.out
   have qDD:=qK.out
   have qDE:=qJ.out
   obtain ⟨qAt,qAu,qAv,qAw,qAx,qAy,qAz,qBA,qBB,qBC,qd,qe⟩:=celL qF.out
   obtain ⟨qBD,qBE,qBF,qBG,qBH,qBI,qBJ,qBK,qBL,qBM,qf,qg⟩:=froZ qF.out
   try go_wp2_with (first | ((with_reducible refine gate_store (t:=22) (p:=35) rfl ?_);refine store_event (t:=22) (p:=35) (v:=?vo_w30) (w1:=(w26.setCell ⟨qA,2,none⟩ (.slice none 0 0))) ?hg ?ho ?hn ?hr ?_;(case ho=>rfl);(case hg=>rfl);(case hn=>rfl);(case hr=>first | (go_simp;done) | (go_simp;rfl));intro w30 hw;have n0_:Aside0 (Kd.R Kd.string 9 w30 w.heap.size (fun _=>True) (.slice qH y106.length qI) y106):=⟨(by rw [hw];exact (by (with_reducible repeat (first | apply rA | apply rN | apply rD));exact Kd.R_mono (Kd.R_far (p:=⟨qA,2,none⟩) (Kd.R_types qO.out qF.out (by decide)) (fun _ hk=>hk.2) (.slice none 0 0)) (fun _ hk=>trivial)))⟩;have n1_:Aside0 (w30.heap[qD]? = some (.cells #[.string a0_0,.string a0_1,.slice A0_2 l0_2.length c0_2,.string a0_3,.int .u32 a0_4,.int .i64 a0_5,.int .u64 a0_6,.int .u64 a0_7,.bool a0_8,.bool a0_9,.bool a0_10,.bool a0_11] 29 (0,0))):=⟨(by rw [hw];exact (by (with_reducible repeat (first | refine bN ?_ _ | refine bD ?_ | refine bA ?_ _));refine blk_far ?_ qB.out _;(with_reducible repeat (first | refine bN ?_ _ | refine bD ?_ | refine bA ?_ _));exact qC.out))⟩;have n2_:Aside0 (w30.heap[qG]? = some (.cells #[.string (⟨#[]⟩:ByteArray),.string (⟨#[]⟩:ByteArray),.slice none 0 0,.string (⟨#[]⟩:ByteArray),.int .u32 0,.int .i64 0,.int .u64 0,.int .u64 0,.bool false,.bool false,.bool false,.bool false] 26 (0,0))):=⟨(by rw [hw];exact (by (with_reducible repeat (first | refine bN ?_ _ | refine bD ?_ | refine bA ?_ _));refine blk_far ?_ qJ.out _;(with_reducible repeat (first | refine bN ?_ _ | refine bD ?_ | refine bA ?_ _));exact qE.out))⟩;have n3_:Aside0 (w30.heap[qA]? = some (.cells #[.string a0_0,.string a0_1,.slice none 0 0,.string a0_3,.int .u32 a0_4,.int .i64 a0_5,.int .u64 a0_6,.int .u64 a0_7,.bool a0_8,.bool a0_9,.bool a0_10,.bool a0_11] 26 (0,0))):=⟨(by rw [hw];exact (by (with_reducible repeat (first | refine bN ?_ _ | refine bD ?_ | refine bA ?_ _));refine blk_put (cs:=#[.string a0_0,.string a0_1,.slice qH y106.length qI,.string a0_3,.int .u32 a0_4,.int .i64 a0_5,.int .u64 a0_6,.int .u64 a0_7,.bool a0_8,.bool a0_9,.bool a0_10,.bool a0_11]) ?_ 2 _ rfl;(with_reducible repeat (first | refine bN ?_ _ | refine bD ?_ | refine bA ?_ _));exact qF.out))⟩;have n4_:Aside0 (Below w.heap.size w w30):=⟨(by rw [hw];exact bBY1)⟩;clear hw;clear qO;clear qC;clear qE;clear qF;clear HB;have qO:=n0_;have qC:=n1_;have qE:=n2_;have qF:=n3_;have HB:=n4_;clear n0_ n1_ n2_ n3_ n4_;obtain ⟨qBN,qBO,qBP,qBQ,qBR,qBS,qBT,qBU,qBV,qBW,qh,qi⟩:=celL qF.out;obtain ⟨qBX,qBY,qBZ,qBa,qBb,qBc,qBd,qBe,qBf,qBg,qj,qk⟩:=froZ qF.out;have qDF:=qS.out;have qDG:=qR.out;obtain ⟨qBh,qBi,qBj,qBk,qBl,qBm,qBn,qBo,qBp,qBq,ql,qm⟩:=celL qE.out;obtain ⟨qBr,qBs,qBt,qBu,qBv,qBw,qBx,qBy,qBz,qCA,qn,qo⟩:=froZ qE.out) | ((with_reducible refine gate_store (t:=26) (p:=2) rfl ?_);refine store_event (t:=26) (p:=2) (v:=?vo_w34) (w1:=((((((((((((w30.setCell ⟨qG,0,none⟩ (.string a0_0)).setCell ⟨qG,1,none⟩ (.string a0_1)).setCell ⟨qG,2,none⟩ (.slice none 0 0)).setCell ⟨qG,3,none⟩ (.string a0_3)).setCell ⟨qG,4,none⟩ (.int .u32 a0_4)).setCell ⟨qG,5,none⟩ (.int .i64 a0_5)).setCell ⟨qG,6,none⟩ (.int .u64 a0_6)).setCell ⟨qG,7,none⟩ (.int .u64 a0_7)).setCell ⟨qG,8,none⟩ (.bool a0_8)).setCell ⟨qG,9,none⟩ (.bool a0_9)).setCell ⟨qG,10,none⟩ (.bool a0_10)).setCell ⟨qG,11,none⟩ (.bool a0_11))) ?hg ?ho ?hn ?hr ?_;(case ho=>rfl);(case hg=>rfl);(case hn=>rfl);(case hr=>first | (go_simp;done) | (go_simp;rfl));intro w34 hw;have n0_:Aside0 (Kd.R Kd.string 9 w34 w.heap.size (fun _=>True) (.slice qH y106.length qI) y106):=⟨(by rw [hw];exact (by (with_reducible repeat (first | apply rA | apply rN | apply rD));exact Kd.R_mono (R_far12 qG (Kd.R_types qO.out qE.out (by decide)) (.string a0_0) (.string a0_1) (.slice none 0 0) (.string a0_3) (.int .u32 a0_4) (.int .i64 a0_5) (.int .u64 a0_6) (.int .u64 a0_7) (.bool a0_8) (.bool a0_9) (.bool a0_10) (.bool a0_11)) (fun _ hk=>trivial)))⟩;have n1_:Aside0 (w34.heap[qD]? = some (.cells #[.string a0_0,.string a0_1,.slice A0_2 l0_2.length c0_2,.string a0_3,.int .u32 a0_4,.int .i64 a0_5,.int .u64 a0_6,.int .u64 a0_7,.bool a0_8,.bool a0_9,.bool a0_10,.bool a0_11] 29 (0,0))):=⟨(by rw [hw];exact (by (with_reducible repeat (first | refine bN ?_ _ | refine bD ?_ | refine bA ?_ _));refine bF ?_ qR.out;(with_reducible repeat (first | refine bN ?_ _ | refine bD ?_ | refine bA ?_ _));exact qC.out))⟩;have n2_:Aside0 (w34.heap[qG]? = some (.cells #[.string a0_0,.string a0_1,.slice none 0 0,.string a0_3,.int .u32 a0_4,.int .i64 a0_5,.int .u64 a0_6,.int .u64 a0_7,.bool a0_8,.bool a0_9,.bool a0_10,.bool a0_11] 26 (0,0))):=⟨(by rw [hw];exact (by (with_reducible repeat (first | refine bN ?_ _ | refine bD ?_ | refine bA ?_ _));refine blk_put (cs:=#[.string a0_0,.string a0_1,.slice none 0 0,.string a0_3,.int .u32 a0_4,.int .i64 a0_5,.int .u64 a0_6,.int .u64 a0_7,.bool a0_8,.bool a0_9,.bool a0_10,.bool false]) ?_ 11 _ rfl;(with_reducible repeat (first | refine bN ?_ _ | refine bD ?_ | refine bA ?_ _));refine blk_put (cs:=#[.string a0_0,.string a0_1,.slice none 0 0,.string a0_3,.int .u32 a0_4,.int .i64 a0_5,.int .u64 a0_6,.int .u64 a0_7,.bool a0_8,.bool a0_9,.bool false,.bool false]) ?_ 10 _ rfl;(with_reducible repeat (first | refine bN ?_ _ | refine bD ?_ | refine bA ?_ _));refine blk_put (cs:=#[.string a0_0,.string a0_1,.slice none 0 0,.string a0_3,.int .u32 a0_4,.int .i64 a0_5,.int .u64 a0_6,.int .u64 a0_7,.bool a0_8,.bool false,.bool false,.bool false]) ?_ 9 _ rfl;(with_reducible repeat (first | refine bN ?_ _ | refine bD ?_ | refine bA ?_ _));refine blk_put (cs:=#[.string a0_0,.string a0_1,.slice none 0 0,.string a0_3,.int .u32 a0_4,.int .i64 a0_5,.int .u64 a0_6,.int .u64 a0_7,.bool false,.bool false,.bool false,.bool false]) ?_ 8 _ rfl;(with_reducible repeat (first | refine bN ?_ _ | refine bD ?_ | refine bA ?_ _));refine blk_put (cs:=#[.string a0_0,.string a0_1,.slice none 0 0,.string a0_3,.int .u32 a0_4,.int .i64 a0_5,.int .u64 a0_6,.int .u64 0,.bool false,.bool false,.bool false,.bool false]) ?_ 7 _ rfl;(with_reducible repeat (first | refine bN ?_ _ | refine bD ?_ | refine bA ?_ _));refine blk_put (cs:=#[.string a0_0,.string a0_1,.slice none 0 0,.string a0_3,.int .u32 a0_4,.int .i64 a0_5,.int .u64 0,.int .u64 0,.bool false,.bool false,.bool false,.bool false]) ?_ 6 _ rfl;(with_reducible repeat (first | refine bN ?_ _ | refine bD ?_ | refine bA ?_ _));refine blk_put (cs:=#[.string a0_0,.string a0_1,.slice none 0 0,.string a0_3,.int .u32 a0_4,.int .i64 0,.int .u64 0,.int .u64 0,.bool false,.bool false,.bool false,.bool false]) ?_ 5 _ rfl;(with_reducible repeat (first | refine bN ?_ _ | refine bD ?_ | refine bA ?_ _));refine blk_put (cs:=#[.string a0_0,.string a0_1,.slice none 0 0,.string a0_3,.int .u32 0,.int .i64 0,.int .u64 0,.int .u64 0,.bool false,.bool false,.bool false,.bool false]) ?_ 4 _ rfl;(with_reducible repeat (first | refine bN ?_ _ | refine bD ?_ | refine bA ?_ _));refine blk_put (cs:=#[.string a0_0,.string a0_1,.slice none 0 0,.string (⟨#[]⟩:ByteArray),.int .u32 0,.int .i64 0,.int .u64 0,.int .u64 0,.bool false,.bool false,.bool false,.bool false]) ?_ 3 _ rfl;(with_reducible repeat (first | refine bN ?_ _ | refine bD ?_ | refine bA ?_ _));refine blk_put (cs:=#[.string a0_0,.string a0_1,.slice none 0 0,.string (⟨#[]⟩:ByteArray),.int .u32 0,.int .i64 0,.int .u64 0,.int .u64 0,.bool false,.bool false,.bool false,.bool false]) ?_ 2 _ rfl;(with_reducible repeat (first | refine bN ?_ _ | refine bD ?_ | refine bA ?_ _));refine blk_put (cs:=#[.string a0_0,.string (⟨#[]⟩:ByteArray),.slice none 0 0,.string (⟨#[]⟩:ByteArray),.int .u32 0,.int .i64 0,.int .u64 0,.int .u64 0,.bool false,.bool false,.bool false,.bool false]) ?_ 1 _ rfl;(with_reducible repeat (first | refine bN ?_ _ | refine bD ?_ | refine bA ?_ _));refine blk_put (cs:=#[.string (⟨#[]⟩:ByteArray),.string (⟨#[]⟩:ByteArray),.slice none 0 0,.string (⟨#[]⟩:ByteArray),.int .u32 0,.int .i64 0,.int .u64 0,.int .u64 0,.bool false,.bool false,.bool false,.bool false]) ?_ 0 _ rfl;(with_reducible repeat (first | refine bN ?_ _ | refine bD ?_ | refine bA ?_ _));exact qE.out))⟩;have n3_:Aside0 (w34.heap[qA]? = some (.cells #[.string a0_0,.string a0_1,.slice none 0 0,.string a0_3,.int .u32 a0_4,.int .i64 a0_5,.int .u64 a0_6,.int .u64 a0_7,.bool a0_8,.bool a0_9,.bool a0_10,.bool a0_11] 26 (0,0))):=⟨(by rw [hw];exact (by (with_reducible repeat (first | refine bN ?_ _ | refine bD ?_ | refine bA ?_ _));refine bF ?_ qK.out;(with_reducible repeat (first | refine bN ?_ _ | refine bD ?_ | refine bA ?_ _));exact qF.out))⟩;have n4_:Aside0 (Below w.heap.size w w34):=⟨(by rw [hw];exact bBY1)⟩;clear hw;clear qO;clear qC;clear qE;clear qF;clear HB;have qO:=n0_;have qC:=n1_;have qE:=n2_;have qF:=n3_;have HB:=n4_;clear n0_ n1_ n2_ n3_ n4_))
   refine bodyPost_ret (results_cell_row rfl _ _ qG 26 #[.string a0_0,.string a0_1,.slice none 0 0,.string a0_3,.int .u32 a0_4,.int .i64 a0_5,.int .u64 a0_6,.int .u64 a0_7,.bool a0_8,.bool a0_9,.bool a0_10,.bool a0_11] (0,0) _ rfl (by (with_reducible repeat (first | refine bN ?_ _ | refine bD ?_ | refine bA ?_ _));exact qE.out) Tryz.underlying26 rfl (by kernel_rfl)) rfl ?_
   exact ⟨_,by first | rfl | (simp [errW_none,errW_some]<;>rfl) | (simp [*,errW_none,errW_some]<;>rfl),by first | exact Kd.R_nil _ _ _ _ _ | exact Kd.N_nil _ _ _ _ _ | exact Kd.V_nil _ _ _ _ _ | exact Kd.Q_nil _ _ _ _ _ | exact Kd.S_nil _ _ _ _ _,bBY1⟩
  ·rw [if_neg c3] at H
   have c3b0:((y106.length:Int)==0)=false:=beq_eq_false_iff_ne.mpr c3
   have c3b1:((y106.length:Int) != 0)=true:=bne_iff_ne.mpr c3
   have c3b2:¬ (y106=[]):=fun h_=>c3 (by rw [h_];rfl)
   simp only [Option.some.injEq,Prod.mk.injEq] at H
   obtain ⟨rfl,rfl,rfl,rfl,rfl,rfl,rfl,rfl,rfl,rfl,rfl,rfl⟩:=H
   have n0_:Aside0 (Kd.R Kd.string 9 ((((((((((((w12.setCell ⟨qA,0,none⟩ (.string a0_0)).setCell ⟨qA,1,none⟩ (.string a0_1)).setCell ⟨qA,2,none⟩ (.slice qH y106.length qI)).setCell ⟨qA,3,none⟩ (.string a0_3)).setCell ⟨qA,4,none⟩ (.int .u32 a0_4)).setCell ⟨qA,5,none⟩ (.int .i64 a0_5)).setCell ⟨qA,6,none⟩ (.int .u64 a0_6)).setCell ⟨qA,7,none⟩ (.int .u64 a0_7)).setCell ⟨qA,8,none⟩ (.bool a0_8)).setCell ⟨qA,9,none⟩ (.bool a0_9)).setCell ⟨qA,10,none⟩ (.bool a0_10)).setCell ⟨qA,11,none⟩ (.bool a0_11)) w.heap.size (fun _=>True) (.slice qH y106.length qI) y106):=⟨by (with_reducible repeat (first | apply rA | apply rN | apply rD));exact Kd.R_mono (R_far12 qA (Kd.R_types qO.out qF.out (by decide)) (.string a0_0) (.string a0_1) (.slice qH y106.length qI) (.string a0_3) (.int .u32 a0_4) (.int .i64 a0_5) (.int .u64 a0_6) (.int .u64 a0_7) (.bool a0_8) (.bool a0_9) (.bool a0_10) (.bool a0_11)) (fun _ hk=>trivial)⟩
   have n1_:Aside0 (((((((((((((w12.setCell ⟨qA,0,none⟩ (.string a0_0)).setCell ⟨qA,1,none⟩ (.string a0_1)).setCell ⟨qA,2,none⟩ (.slice qH y106.length qI)).setCell ⟨qA,3,none⟩ (.string a0_3)).setCell ⟨qA,4,none⟩ (.int .u32 a0_4)).setCell ⟨qA,5,none⟩ (.int .i64 a0_5)).setCell ⟨qA,6,none⟩ (.int .u64 a0_6)).setCell ⟨qA,7,none⟩ (.int .u64 a0_7)).setCell ⟨qA,8,none⟩ (.bool a0_8)).setCell ⟨qA,9,none⟩ (.bool a0_9)).setCell ⟨qA,10,none⟩ (.bool a0_10)).setCell ⟨qA,11,none⟩ (.bool a0_11)).heap[qD]? = some (.cells #[.string a0_0,.string a0_1,.slice A0_2 l0_2.length c0_2,.string a0_3,.int .u32 a0_4,.int .i64 a0_5,.int .u64 a0_6,.int .u64 a0_7,.bool a0_8,.bool a0_9,.bool a0_10,.bool a0_11] 29 (0,0))):=⟨by (with_reducible repeat (first | refine bN ?_ _ | refine bD ?_ | refine bA ?_ _));refine bF ?_ qB.out;(with_reducible repeat (first | refine bN ?_ _ | refine bD ?_ | refine bA ?_ _));exact qC.out⟩
   have n2_:Aside0 (((((((((((((w12.setCell ⟨qA,0,none⟩ (.string a0_0)).setCell ⟨qA,1,none⟩ (.string a0_1)).setCell ⟨qA,2,none⟩ (.slice qH y106.length qI)).setCell ⟨qA,3,none⟩ (.string a0_3)).setCell ⟨qA,4,none⟩ (.int .u32 a0_4)).setCell ⟨qA,5,none⟩ (.int .i64 a0_5)).setCell ⟨qA,6,none⟩ (.int .u64 a0_6)).setCell ⟨qA,7,none⟩ (.int .u64 a0_7)).setCell ⟨qA,8,none⟩ (.bool a0_8)).setCell ⟨qA,9,none⟩ (.bool a0_9)).setCell ⟨qA,10,none⟩ (.bool a0_10)).setCell ⟨qA,11,none⟩ (.bool a0_11)).heap[qG]? = some (.cells #[.string (⟨#[]⟩:ByteArray),.string (⟨#[]⟩:ByteArray),.slice none 0 0,.string (⟨#[]⟩:ByteArray),.int .u32 0,.int .i64 0,.int .u64 0,.int .u64 0,.bool false,.bool false,.bool false,.bool false] 26 (0,0))):=⟨by (with_reducible repeat (first | refine bN ?_ _ | refine bD ?_ | refine bA ?_ _));refine bF ?_ qJ.out;(with_reducible repeat (first | refine bN ?_ _ | refine bD ?_ | refine bA ?_ _));exact qE.out⟩
   have n3_:Aside0 (((((((((((((w12.setCell ⟨qA,0,none⟩ (.string a0_0)).setCell ⟨qA,1,none⟩ (.string a0_1)).setCell ⟨qA,2,none⟩ (.slice qH y106.length qI)).setCell ⟨qA,3,none⟩ (.string a0_3)).setCell ⟨qA,4,none⟩ (.int .u32 a0_4)).setCell ⟨qA,5,none⟩ (.int .i64 a0_5)).setCell ⟨qA,6,none⟩ (.int .u64 a0_6)).setCell ⟨qA,7,none⟩ (.int .u64 a0_7)).setCell ⟨qA,8,none⟩ (.bool a0_8)).setCell ⟨qA,9,none⟩ (.bool a0_9)).setCell ⟨qA,10,none⟩ (.bool a0_10)).setCell ⟨qA,11,none⟩ (.bool a0_11)).heap[qA]? = some (.cells #[.string a0_0,.string a0_1,.slice qH y106.length qI,.string a0_3,.int .u32 a0_4,.int .i64 a0_5,.int .u64 a0_6,.int .u64 a0_7,.bool a0_8,.bool a0_9,.bool a0_10,.bool a0_11] 26 (0,0))):=⟨by (with_reducible repeat (first | refine bN ?_ _ | refine bD ?_ | refine bA ?_ _));refine blk_put (cs:=#[.string a0_0,.string a0_1,.slice qH y106.length qI,.string a0_3,.int .u32 a0_4,.int .i64 a0_5,.int .u64 a0_6,.int .u64 a0_7,.bool a0_8,.bool a0_9,.bool a0_10,.bool false]) ?_ 11 _ rfl;(with_reducible repeat (first | refine bN ?_ _ | refine bD ?_ | refine bA ?_ _));refine blk_put (cs:=#[.string a0_0,.string a0_1,.slice qH y106.length qI,.string a0_3,.int .u32 a0_4,.int .i64 a0_5,.int .u64 a0_6,.int .u64 a0_7,.bool a0_8,.bool a0_9,.bool false,.bool false]) ?_ 10 _ rfl;(with_reducible repeat (first | refine bN ?_ _ | refine bD ?_ | refine bA ?_ _));refine blk_put (cs:=#[.string a0_0,.string a0_1,.slice qH y106.length qI,.string a0_3,.int .u32 a0_4,.int .i64 a0_5,.int .u64 a0_6,.int .u64 a0_7,.bool a0_8,.bool false,.bool false,.bool false]) ?_ 9 _ rfl;(with_reducible repeat (first | refine bN ?_ _ | refine bD ?_ | refine bA ?_ _));refine blk_put (cs:=#[.string a0_0,.string a0_1,.slice qH y106.length qI,.string a0_3,.int .u32 a0_4,.int .i64 a0_5,.int .u64 a0_6,.int .u64 a0_7,.bool false,.bool false,.bool false,.bool false]) ?_ 8 _ rfl;(with_reducible repeat (first | refine bN ?_ _ | refine bD ?_ | refine bA ?_ _));refine blk_put (cs:=#[.string a0_0,.string a0_1,.slice qH y106.length qI,.string a0_3,.int .u32 a0_4,.int .i64 a0_5,.int .u64 a0_6,.int .u64 0,.bool false,.bool false,.bool false,.bool false]) ?_ 7 _ rfl;(with_reducible repeat (first | refine bN ?_ _ | refine bD ?_ | refine bA ?_ _));refine blk_put (cs:=#[.string a0_0,.string a0_1,.slice qH y106.length qI,.string a0_3,.int .u32 a0_4,.int .i64 a0_5,.int .u64 0,.int .u64 0,.bool false,.bool false,.bool false,.bool false]) ?_ 6 _ rfl;(with_reducible repeat (first | refine bN ?_ _ | refine bD ?_ | refine bA ?_ _));refine blk_put (cs:=#[.string a0_0,.string a0_1,.slice qH y106.length qI,.string a0_3,.int .u32 a0_4,.int .i64 0,.int .u64 0,.int .u64 0,.bool false,.bool false,.bool false,.bool false]) ?_ 5 _ rfl;(with_reducible repeat (first | refine bN ?_ _ | refine bD ?_ | refine bA ?_ _));refine blk_put (cs:=#[.string a0_0,.string a0_1,.slice qH y106.length qI,.string a0_3,.int .u32 0,.int .i64 0,.int .u64 0,.int .u64 0,.bool false,.bool false,.bool false,.bool false]) ?_ 4 _ rfl;(with_reducible repeat (first | refine bN ?_ _ | refine bD ?_ | refine bA ?_ _));refine blk_put (cs:=#[.string a0_0,.string a0_1,.slice qH y106.length qI,.string (⟨#[]⟩:ByteArray),.int .u32 0,.int .i64 0,.int .u64 0,.int .u64 0,.bool false,.bool false,.bool false,.bool false]) ?_ 3 _ rfl;(with_reducible repeat (first | refine bN ?_ _ | refine bD ?_ | refine bA ?_ _));refine blk_put (cs:=#[.string a0_0,.string a0_1,.slice none 0 0,.string (⟨#[]⟩:ByteArray),.int .u32 0,.int .i64 0,.int .u64 0,.int .u64 0,.bool false,.bool false,.bool false,.bool false]) ?_ 2 _ rfl;(with_reducible repeat (first | refine bN ?_ _ | refine bD ?_ | refine bA ?_ _));refine blk_put (cs:=#[.string a0_0,.string (⟨#[]⟩:ByteArray),.slice none 0 0,.string (⟨#[]⟩:ByteArray),.int .u32 0,.int .i64 0,.int .u64 0,.int .u64 0,.bool false,.bool false,.bool false,.bool false]) ?_ 1 _ rfl;(with_reducible repeat (first | refine bN ?_ _ | refine bD ?_ | refine bA ?_ _));refine blk_put (cs:=#[.string (⟨#[]⟩:ByteArray),.string (⟨#[]⟩:ByteArray),.slice none 0 0,.string (⟨#[]⟩:ByteArray),.int .u32 0,.int .i64 0,.int .u64 0,.int .u64 0,.bool false,.bool false,.bool false,.bool false]) ?_ 0 _ rfl;(with_reducible repeat (first | refine bN ?_ _ | refine bD ?_ | refine bA ?_ _));exact qF.out⟩
   have n4_:Aside0 (Below w.heap.size w ((((((((((((w12.setCell ⟨qA,0,none⟩ (.string a0_0)).setCell ⟨qA,1,none⟩ (.string a0_1)).setCell ⟨qA,2,none⟩ (.slice qH y106.length qI)).setCell ⟨qA,3,none⟩ (.string a0_3)).setCell ⟨qA,4,none⟩ (.int .u32 a0_4)).setCell ⟨qA,5,none⟩ (.int .i64 a0_5)).setCell ⟨qA,6,none⟩ (.int .u64 a0_6)).setCell ⟨qA,7,none⟩ (.int .u64 a0_7)).setCell ⟨qA,8,none⟩ (.bool a0_8)).setCell ⟨qA,9,none⟩ (.bool a0_9)).setCell ⟨qA,10,none⟩ (.bool a0_10)).setCell ⟨qA,11,none⟩ (.bool a0_11))):=⟨bBY1⟩
   (try clear qO)
   (try clear qC)
   (try clear qE)
   (try clear qF)
   (try clear HB)
   generalize ((((((((((((w12.setCell ⟨qA,0,none⟩ (.string a0_0)).setCell ⟨qA,1,none⟩ (.string a0_1)).setCell ⟨qA,2,none⟩ (.slice qH y106.length qI)).setCell ⟨qA,3,none⟩ (.string a0_3)).setCell ⟨qA,4,none⟩ (.int .u32 a0_4)).setCell ⟨qA,5,none⟩ (.int .i64 a0_5)).setCell ⟨qA,6,none⟩ (.int .u64 a0_6)).setCell ⟨qA,7,none⟩ (.int .u64 a0_7)).setCell ⟨qA,8,none⟩ (.bool a0_8)).setCell ⟨qA,9,none⟩ (.bool a0_9)).setCell ⟨qA,10,none⟩ (.bool a0_10)).setCell ⟨qA,11,none⟩ (.bool a0_11))=w57 at n0_ n1_ n2_ n3_ n4_ ⊢
   have qO:=n0_
   have qC:=n1_
   have qE:=n2_
   have qF:=n3_
   have HB:=n4_
   clear n0_ n1_ n2_ n3_ n4_
   have qDH:=qL.out
   have qDI:=qB.out
   have qDJ:=qK.out
   have qDK:=qJ.out
   obtain ⟨qCB,qCC,qCD,qCE,qCF,qCG,qCH,qCI,qCJ,qCK,qp,qq⟩:=celL qF.out
   obtain ⟨qCL,qCM,qCN,qCO,qCP,qCQ,qCR,qCS,qCT,qCU,qr,qs⟩:=froZ qF.out
   have qDL:=qS.out
   have qDM:=qR.out
   obtain ⟨qCV,qCW,qCX,qCY,qCZ,qCa,qCb,qCc,qCd,qCe,qt,qu⟩:=celL qE.out
   obtain ⟨qCf,qCg,qCh,qCi,qCj,qCk,qCl,qCm,qCn,qCo,qv,qw⟩:=froZ qE.out
   try go_wp2_with (first | ((with_reducible refine gate_store (t:=26) (p:=2) rfl ?_);refine store_event (t:=26) (p:=2) (v:=?vo_w63) (w1:=((((((((((((w57.setCell ⟨qG,0,none⟩ (.string a0_0)).setCell ⟨qG,1,none⟩ (.string a0_1)).setCell ⟨qG,2,none⟩ (.slice qH y106.length qI)).setCell ⟨qG,3,none⟩ (.string a0_3)).setCell ⟨qG,4,none⟩ (.int .u32 a0_4)).setCell ⟨qG,5,none⟩ (.int .i64 a0_5)).setCell ⟨qG,6,none⟩ (.int .u64 a0_6)).setCell ⟨qG,7,none⟩ (.int .u64 a0_7)).setCell ⟨qG,8,none⟩ (.bool a0_8)).setCell ⟨qG,9,none⟩ (.bool a0_9)).setCell ⟨qG,10,none⟩ (.bool a0_10)).setCell ⟨qG,11,none⟩ (.bool a0_11))) ?hg ?ho ?hn ?hr ?_;(case ho=>rfl);(case hg=>rfl);(case hn=>rfl);(case hr=>first | (go_simp;done) | (go_simp;rfl));intro w63 hw;have n0_:Aside0 (Kd.R Kd.string 9 w63 w.heap.size (fun _=>True) (.slice qH y106.length qI) y106):=⟨(by rw [hw];exact (by (with_reducible repeat (first | apply rA | apply rN | apply rD));exact Kd.R_mono (R_far12 qG (Kd.R_types qO.out qE.out (by decide)) (.string a0_0) (.string a0_1) (.slice qH y106.length qI) (.string a0_3) (.int .u32 a0_4) (.int .i64 a0_5) (.int .u64 a0_6) (.int .u64 a0_7) (.bool a0_8) (.bool a0_9) (.bool a0_10) (.bool a0_11)) (fun _ hk=>trivial)))⟩;have n1_:Aside0 (w63.heap[qD]? = some (.cells #[.string a0_0,.string a0_1,.slice A0_2 l0_2.length c0_2,.string a0_3,.int .u32 a0_4,.int .i64 a0_5,.int .u64 a0_6,.int .u64 a0_7,.bool a0_8,.bool a0_9,.bool a0_10,.bool a0_11] 29 (0,0))):=⟨(by rw [hw];exact (by (with_reducible repeat (first | refine bN ?_ _ | refine bD ?_ | refine bA ?_ _));refine bF ?_ qR.out;(with_reducible repeat (first | refine bN ?_ _ | refine bD ?_ | refine bA ?_ _));exact qC.out))⟩;have n2_:Aside0 (w63.heap[qG]? = some (.cells #[.string a0_0,.string a0_1,.slice qH y106.length qI,.string a0_3,.int .u32 a0_4,.int .i64 a0_5,.int .u64 a0_6,.int .u64 a0_7,.bool a0_8,.bool a0_9,.bool a0_10,.bool a0_11] 26 (0,0))):=⟨(by rw [hw];exact (by (with_reducible repeat (first | refine bN ?_ _ | refine bD ?_ | refine bA ?_ _));refine blk_put (cs:=#[.string a0_0,.string a0_1,.slice qH y106.length qI,.string a0_3,.int .u32 a0_4,.int .i64 a0_5,.int .u64 a0_6,.int .u64 a0_7,.bool a0_8,.bool a0_9,.bool a0_10,.bool false]) ?_ 11 _ rfl;(with_reducible repeat (first | refine bN ?_ _ | refine bD ?_ | refine bA ?_ _));refine blk_put (cs:=#[.string a0_0,.string a0_1,.slice qH y106.length qI,.string a0_3,.int .u32 a0_4,.int .i64 a0_5,.int .u64 a0_6,.int .u64 a0_7,.bool a0_8,.bool a0_9,.bool false,.bool false]) ?_ 10 _ rfl;(with_reducible repeat (first | refine bN ?_ _ | refine bD ?_ | refine bA ?_ _));refine blk_put (cs:=#[.string a0_0,.string a0_1,.slice qH y106.length qI,.string a0_3,.int .u32 a0_4,.int .i64 a0_5,.int .u64 a0_6,.int .u64 a0_7,.bool a0_8,.bool false,.bool false,.bool false]) ?_ 9 _ rfl;(with_reducible repeat (first | refine bN ?_ _ | refine bD ?_ | refine bA ?_ _));refine blk_put (cs:=#[.string a0_0,.string a0_1,.slice qH y106.length qI,.string a0_3,.int .u32 a0_4,.int .i64 a0_5,.int .u64 a0_6,.int .u64 a0_7,.bool false,.bool false,.bool false,.bool false]) ?_ 8 _ rfl;(with_reducible repeat (first | refine bN ?_ _ | refine bD ?_ | refine bA ?_ _));refine blk_put (cs:=#[.string a0_0,.string a0_1,.slice qH y106.length qI,.string a0_3,.int .u32 a0_4,.int .i64 a0_5,.int .u64 a0_6,.int .u64 0,.bool false,.bool false,.bool false,.bool false]) ?_ 7 _ rfl;(with_reducible repeat (first | refine bN ?_ _ | refine bD ?_ | refine bA ?_ _));refine blk_put (cs:=#[.string a0_0,.string a0_1,.slice qH y106.length qI,.string a0_3,.int .u32 a0_4,.int .i64 a0_5,.int .u64 0,.int .u64 0,.bool false,.bool false,.bool false,.bool false]) ?_ 6 _ rfl;(with_reducible repeat (first | refine bN ?_ _ | refine bD ?_ | refine bA ?_ _));refine blk_put (cs:=#[.string a0_0,.string a0_1,.slice qH y106.length qI,.string a0_3,.int .u32 a0_4,.int .i64 0,.int .u64 0,.int .u64 0,.bool false,.bool false,.bool false,.bool false]) ?_ 5 _ rfl;(with_reducible repeat (first | refine bN ?_ _ | refine bD ?_ | refine bA ?_ _));refine blk_put (cs:=#[.string a0_0,.string a0_1,.slice qH y106.length qI,.string a0_3,.int .u32 0,.int .i64 0,.int .u64 0,.int .u64 0,.bool false,.bool false,.bool false,.bool false]) ?_ 4 _ rfl;(with_reducible repeat (first | refine bN ?_ _ | refine bD ?_ | refine bA ?_ _));refine blk_put (cs:=#[.string a0_0,.string a0_1,.slice qH y106.length qI,.string (⟨#[]⟩:ByteArray),.int .u32 0,.int .i64 0,.int .u64 0,.int .u64 0,.bool false,.bool false,.bool false,.bool false]) ?_ 3 _ rfl;(with_reducible repeat (first | refine bN ?_ _ | refine bD ?_ | refine bA ?_ _));refine blk_put (cs:=#[.string a0_0,.string a0_1,.slice none 0 0,.string (⟨#[]⟩:ByteArray),.int .u32 0,.int .i64 0,.int .u64 0,.int .u64 0,.bool false,.bool false,.bool false,.bool false]) ?_ 2 _ rfl;(with_reducible repeat (first | refine bN ?_ _ | refine bD ?_ | refine bA ?_ _));refine blk_put (cs:=#[.string a0_0,.string (⟨#[]⟩:ByteArray),.slice none 0 0,.string (⟨#[]⟩:ByteArray),.int .u32 0,.int .i64 0,.int .u64 0,.int .u64 0,.bool false,.bool false,.bool false,.bool false]) ?_ 1 _ rfl;(with_reducible repeat (first | refine bN ?_ _ | refine bD ?_ | refine bA ?_ _));refine blk_put (cs:=#[.string (⟨#[]⟩:ByteArray),.string (⟨#[]⟩:ByteArray),.slice none 0 0,.string (⟨#[]⟩:ByteArray),.int .u32 0,.int .i64 0,.int .u64 0,.int .u64 0,.bool false,.bool false,.bool false,.bool false]) ?_ 0 _ rfl;(with_reducible repeat (first | refine bN ?_ _ | refine bD ?_ | refine bA ?_ _));exact qE.out))⟩;have n3_:Aside0 (w63.heap[qA]? = some (.cells #[.string a0_0,.string a0_1,.slice qH y106.length qI,.string a0_3,.int .u32 a0_4,.int .i64 a0_5,.int .u64 a0_6,.int .u64 a0_7,.bool a0_8,.bool a0_9,.bool a0_10,.bool a0_11] 26 (0,0))):=⟨(by rw [hw];exact (by (with_reducible repeat (first | refine bN ?_ _ | refine bD ?_ | refine bA ?_ _));refine bF ?_ qK.out;(with_reducible repeat (first | refine bN ?_ _ | refine bD ?_ | refine bA ?_ _));exact qF.out))⟩;have n4_:Aside0 (Below w.heap.size w w63):=⟨(by rw [hw];exact bBY1)⟩;clear hw;clear qO;clear qC;clear qE;clear qF;clear HB;have qO:=n0_;have qC:=n1_;have qE:=n2_;have qF:=n3_;have HB:=n4_;clear n0_ n1_ n2_ n3_ n4_))
   refine bodyPost_ret (results_cell_row rfl _ _ qG 26 #[.string a0_0,.string a0_1,.slice qH y106.length qI,.string a0_3,.int .u32 a0_4,.int .i64 a0_5,.int .u64 a0_6,.int .u64 a0_7,.bool a0_8,.bool a0_9,.bool a0_10,.bool a0_11] (0,0) _ rfl (by (with_reducible repeat (first | refine bN ?_ _ | refine bD ?_ | refine bA ?_ _));exact qE.out) Tryz.underlying26 rfl (by kernel_rfl)) rfl ?_
   exact ⟨_,by first | rfl | (simp [errW_none,errW_some]<;>rfl) | (simp [*,errW_none,errW_some]<;>rfl),by (with_reducible repeat (first | apply rA | apply rN | apply rD));exact qO.out,bBY1⟩
 ·rw [if_neg c2] at H
  exact absurd H (by simp)

end Go.Proofs.YtfbhlbchmenloaaGreatDoor.H
-- thinned
end
section
namespace Go.Proofs.YtfbhlbchmenloaaGreatDoor.H
open Go.RowKit Go.Proofs.YtfbhlbchmenloaaGreatDoorW.PrintWords Go.Proofs.YtfbhlbchmenloaaGreatDoorW.PrintLast Go.Proofs.YtfbhlbchmenloaaGreatDoorW.PrintMore
set_option linter.unusedVariables false
set_option linter.unusedSimpArgs false
/-- A command that has just been put into a variable of its own: the world gets a letter. -/
theorem calls_var {P:Program} {f:FuncId} {args:Array Value} {K:Ending→World→Prop} {W:World} {cs:Array Value} {t:TypeId} (h:∀ W':World,Below W.heap.size W W'→W'.heap[W.heap.size]? = some (.cells cs t (0,0))→Calls P f args W' K):Calls P f args (W.alloc (.cells cs t)) K:=
 h _ (below_alloc (Below.refl _ _) _) (heap_alloc_new W _)
theorem calls_var_drew {P:Program} {f:FuncId} {args:Array Value} {K:Ending→World→Prop} {W:World} {cs:Array Value} {t:TypeId} (h:∀ W':World,Below W.heap.size W W'→W'.heap[W.heap.size]? = some (.cells cs t (0,0))→Calls P f args W' K):Calls P f args (W.alloc (.cells cs t)).drew K:=
 h _ (below_drew1 (below_alloc (Below.refl _ _) _)) (blk_drew (heap_alloc_new W _))
theorem wp_var {P:Program} {c:Code} {a:Act} {K:Exit→Act→World→Prop} {W:World} {cs:Array Value} {t:TypeId} (h:∀ W':World,Below W.heap.size W W'→W'.heap[W.heap.size]? = some (.cells cs t (0,0))→c.wp P K a W'):c.wp P K a (W.alloc (.cells cs t)):=
 h _ (below_alloc (Below.refl _ _) _) (heap_alloc_new W _)
theorem wp_var_drew {P:Program} {c:Code} {a:Act} {K:Exit→Act→World→Prop} {W:World} {cs:Array Value} {t:TypeId} (h:∀ W':World,Below W.heap.size W W'→W'.heap[W.heap.size]? = some (.cells cs t (0,0))→c.wp P K a W'):c.wp P K a (W.alloc (.cells cs t)).drew:=
 h _ (below_drew1 (below_alloc (Below.refl _ _) _)) (blk_drew (heap_alloc_new W _))
theorem row_next {W W1:World} {base g:Nat} {v:Value} {l:List ByteArray} (h:Kd.R Kd.string 9 W base (fun _=>True) v l) (hg:g < base) (hk:KeepBut W W1 g none):Kd.R Kd.string 9 W1 base (fun _=>True) v l:=by
 refine Kd.R_mono (Kd.R_keep (Kd.R_bound h) hk fun k hk'=>?_) (fun _ _=>trivial)
 have:=hk'.2.1
 omega
def L0:List Int:=[103,101,116,32,97,13,10,115,101,116,32,97,32,48,32,48,32,50,13,10,104,105,13,10,119,104,97,116,10]
def pA:PS:=⟨L0,false,.nil,0⟩
def pB:PS:=⟨L0.drop 7,false,.nil,0⟩
def pC:PS:=⟨L0.drop 24,false,.nil,2⟩
def pD:PS:=⟨[],false,.nil,2⟩
theorem aw_lit:litB.f L0=some L0:=by kernel_rfl
theorem aw_feed:parse_Feed.f psNew L0=some pA:=by kernel_rfl
theorem aw_next1:parse_Next.f 60 pA=some (⟨#[103,101,116]⟩,⟨#[]⟩,[⟨#[97]⟩],⟨#[]⟩,0,0,0,0,false,false,false,false,true,pB):=by kernel_rfl
theorem aw_next2:parse_Next.f 60 pB=some (⟨#[115,116,111,114,101]⟩,⟨#[115,101,116]⟩,[⟨#[97]⟩],⟨#[104,105]⟩,0,0,0,0,false,false,false,false,true,pC):=by kernel_rfl
theorem aw_next3:parse_Next.f 60 pC=some (⟨#[98,97,100]⟩,⟨#[69,82,82,79,82]⟩,[],⟨#[]⟩,0,0,0,0,false,false,false,false,true,pD):=by kernel_rfl
theorem aw_next4:parse_Next.f 60 pD=some (⟨#[]⟩,⟨#[]⟩,[],⟨#[]⟩,0,0,0,0,false,false,false,false,false,pD):=by kernel_rfl
theorem aw_one:parse_One.f 60 ⟨#[103,101,116,32,97,32,98]⟩=some (⟨#[103,101,116]⟩,⟨#[]⟩,[⟨#[97]⟩,⟨#[98]⟩],⟨#[]⟩,0,0,0,0,false,false,false,false,-1):=by kernel_rfl
theorem aw_cmd:cellaretref17_Cmd.f ⟨#[115,116,111,114,101]⟩ ⟨#[115,101,116]⟩ [⟨#[97]⟩] ⟨#[104,105]⟩ 0 0 0 0 false false false false=some (⟨#[115,116,111,114,101]⟩,⟨#[115,101,116]⟩,[⟨#[97]⟩],⟨#[104,105]⟩,0,0,0,0,false,false,false,false):=by kernel_rfl
theorem aw_is:cellaretref17_Is.f ⟨#[98,97,100]⟩ ⟨#[69,82,82,79,82]⟩ [] ⟨#[]⟩ 0 0 0 0 false false false false ⟨#[98,97,100]⟩ ⟨#[69,82,82,79,82]⟩=some true:=by kernel_rfl
theorem C_none {w:World} (A:Option Addr):Kd.C Kd.string w A ([]:List ByteArray).length []:=⟨rfl,Nat.zero_le _,fun h=>absurd h (Nat.lt_irrefl 0)⟩
set_option maxHeartbeats 8000000 in
set_option maxRecDepth 100000 in
theorem awake_walk (w:World) (HLD:LaidA w):Calls Tryz.prog 7 #[] w fun e w'=>e=.returned (.bool true)∧Below w.heap.size w w':=by
 have HL:=Aside0.mk HLD
 have hu27:=Tryz.underlying29
 have hu32:=Tryz.underlying26
 clear HLD
 go_enter Tryz.func7,Tryz.ntmps7
 go_wp2_with fail
 refine (parse_New.calls psNew w _ (Below.refl _ _) HL.out rfl).mono ?_
 rintro e w1 ⟨g,rfl,hi,hb,hb2⟩
 have HI1:=Aside0.mk hi
 have HB1:=Aside0.mk hb
 clear hi hb hb2
 go_wp2_with ((with_reducible refine gate_dst (N:=20) rfl ?_);refine lit_event rfl rfl (N:=20) rfl 36 5 L0 L0 rfl Tryz.underlying36 Tryz.underlying5 aw_lit ?hr (fun _=>rfl) ?_;(case hr=>unfold L0;first | (go_simp;done) | (go_simp;rfl));intro v2 w2 hv hb;obtain ⟨A2,c2,rfl,hl2,hF⟩:=hv;have HI2:=Aside0.mk (HI1.out.below hb);have HB2:=Aside0.mk (below_step HB1.out hb);have HC2:=Aside0.mk (Kd.F_now hF);have HL2:=Aside0.mk hl2;clear hb hF hl2)
 refine (parse_Feed.calls g psNew A2 c2 L0 pA w _ HI2.out HB2.out (HL.out.below HB2.out) HC2.out HL2.out aw_feed).mono ?_
 rintro e w3 ⟨rfl,hi,hb,hk⟩
 have HI3:=Aside0.mk hi
 have HB3:=Aside0.mk hb
 clear hi hb hk HI1 HB1 HI2 HB2 HC2 HL2
 go_wp2_with fail
 refine (parse_Next.calls 60 g pA ⟨#[103,101,116]⟩ ⟨#[]⟩ [⟨#[97]⟩] ⟨#[]⟩ 0 0 0 0 false false false false true pB w _ HI3.out HB3.out (HL.out.below HB3.out) aw_next1).mono ?_
 rintro e w4 ⟨v1,rfl,hr,hi,hb,hk⟩
 obtain ⟨A1,c1,ev1⟩:=Kd.R_slice hr
 subst ev1
 have HG:=Aside0.mk HI3.out.lt
 have HR1:=Aside0.mk hr
 have HI4:=Aside0.mk hi
 have HB4:=Aside0.mk hb
 clear hr hi hb hk
 go_wp2_with fail
 refine calls_var ?_
 intro u4 hs hv
 have HV1:=Aside0.mk hv
 have HR1':=Aside0.mk (Kd.R_below HR1.out hs)
 have HI4':=Aside0.mk (HI4.out.below hs)
 have HB4':=Aside0.mk (below_step HB4.out hs)
 have HN1:=Aside0.mk (Nat.ne_of_gt HI4.out.lt)
 have HG4:=Aside0.mk HI4'.out.lt
 clear hs hv HR1 HI4 HB4 HI3 HB3
 refine (parse_Next.calls 60 g pB ⟨#[115,116,111,114,101]⟩ ⟨#[115,101,116]⟩ [⟨#[97]⟩] ⟨#[104,105]⟩ 0 0 0 0 false false false false true pC w _ HI4'.out HB4'.out (HL.out.below HB4'.out) aw_next2).mono ?_
 rintro e w5 ⟨v2,rfl,hr,hi,hb,hk⟩
 obtain ⟨A2,c2,ev2⟩:=Kd.R_slice hr
 subst ev2
 have HV1b:=Aside0.mk (KeepBut.blk hk HV1.out HN1.out (by simp))
 have HR1b:=Aside0.mk (row_next HR1'.out HG.out hk)
 have HR2:=Aside0.mk hr
 have HI5:=Aside0.mk hi
 have HB5:=Aside0.mk hb
 clear hr hi hb hk HV1 HR1' HI4' HB4'
 go_wp2_with fail
 refine calls_var ?_
 intro u5 hs hv
 have HV1:=Aside0.mk (blk_below HV1b.out hs)
 have HR1:=Aside0.mk (Kd.R_below HR1b.out hs)
 have HV2:=Aside0.mk hv
 have HR2':=Aside0.mk (Kd.R_below HR2.out hs)
 have HI5':=Aside0.mk (HI5.out.below hs)
 have HB5':=Aside0.mk (below_step HB5.out hs)
 have HN2:=Aside0.mk (Nat.ne_of_gt HI5.out.lt)
 clear hs hv HV1b HR1b HR2 HI5 HB5
 refine (parse_Next.calls 60 g pC ⟨#[98,97,100]⟩ ⟨#[69,82,82,79,82]⟩ [] ⟨#[]⟩ 0 0 0 0 false false false false true pD w _ HI5'.out HB5'.out (HL.out.below HB5'.out) aw_next3).mono ?_
 rintro e w6 ⟨v3,rfl,hr,hi,hb,hk⟩
 obtain ⟨A3,c3,ev3⟩:=Kd.R_slice hr
 subst ev3
 have HV1b:=Aside0.mk (KeepBut.blk hk HV1.out HN1.out (by simp))
 have HR1b:=Aside0.mk (row_next HR1.out HG.out hk)
 have HV2b:=Aside0.mk (KeepBut.blk hk HV2.out HN2.out (by simp))
 have HR2b:=Aside0.mk (row_next HR2'.out HG4.out hk)
 have HI6:=Aside0.mk hi
 have HB6:=Aside0.mk hb
 clear hr hi hb hk HV1 HR1 HV2 HR2' HI5' HB5'
 go_wp2_with fail
 refine calls_var ?_
 intro u6 hs hv
 have HV1:=Aside0.mk (blk_below HV1b.out hs)
 have HR1:=Aside0.mk (Kd.R_below HR1b.out hs)
 have HV2:=Aside0.mk (blk_below HV2b.out hs)
 have HR2:=Aside0.mk (Kd.R_below HR2b.out hs)
 have HV3:=Aside0.mk hv
 have HI6':=Aside0.mk (HI6.out.below hs)
 have HB6':=Aside0.mk (below_step HB6.out hs)
 have HN3:=Aside0.mk (Nat.ne_of_gt HI6.out.lt)
 clear hs hv HV1b HR1b HV2b HR2b HI6 HB6
 refine (parse_Next.calls 60 g pD ⟨#[]⟩ ⟨#[]⟩ [] ⟨#[]⟩ 0 0 0 0 false false false false false pD w _ HI6'.out HB6'.out (HL.out.below HB6'.out) aw_next4).mono ?_
 rintro e w7 ⟨v4,rfl,hr,hi,hb,hk⟩
 obtain ⟨A4,c4,ev4⟩:=Kd.R_slice hr
 subst ev4
 have HV1b:=Aside0.mk (KeepBut.blk hk HV1.out HN1.out (by simp))
 have HR1b:=Aside0.mk (row_next HR1.out HG.out hk)
 have HV2b:=Aside0.mk (KeepBut.blk hk HV2.out HN2.out (by simp))
 have HR2b:=Aside0.mk (row_next HR2.out HG4.out hk)
 have HV3b:=Aside0.mk (KeepBut.blk hk HV3.out HN3.out (by simp))
 have HI7:=Aside0.mk hi
 have HB7:=Aside0.mk hb
 clear hr hi hb hk HV1 HR1 HV2 HR2 HV3 HI6' HB6'
 go_upto_region 9 with (fail)
 refine wp_var ?_
 intro u7 hs hv
 have HV1:=Aside0.mk (blk_below HV1b.out hs)
 have HR1:=Aside0.mk (Kd.R_below HR1b.out hs)
 have HV2:=Aside0.mk (blk_below HV2b.out hs)
 have HR2:=Aside0.mk (Kd.R_below HR2b.out hs)
 have HV3:=Aside0.mk (blk_below HV3b.out hs)
 have HI7':=Aside0.mk (HI7.out.below hs)
 have HB7':=Aside0.mk (below_step HB7.out hs)
 clear hs hv HV1b HR1b HV2b HR2b HV3b HI7 HB7
 obtain ⟨x0,x1,x2,x3,x4,x5,x6,x7,x8,x9,x10,x11⟩:=celL HV1.out
 go_region_held3 (fun w'=>w'.cell? ⟨w4.heap.size,0,none⟩=some (.string ⟨#[103,101,116]⟩)∧w'.cell? ⟨w4.heap.size,1,none⟩=some (.string ⟨#[]⟩)∧w'.cell? ⟨w4.heap.size,2,none⟩=some (.slice A1 1 c1)∧w'.cell? ⟨w4.heap.size,3,none⟩=some (.string ⟨#[]⟩)∧w'.cell? ⟨w4.heap.size,4,none⟩=some (.int .u32 0)∧w'.cell? ⟨w4.heap.size,5,none⟩=some (.int .i64 0)∧w'.cell? ⟨w4.heap.size,6,none⟩=some (.int .u64 0)∧w'.cell? ⟨w4.heap.size,7,none⟩=some (.int .u64 0)∧w'.cell? ⟨w4.heap.size,8,none⟩=some (.bool false)∧w'.cell? ⟨w4.heap.size,9,none⟩=some (.bool false)∧w'.cell? ⟨w4.heap.size,10,none⟩=some (.bool false)∧w'.cell? ⟨w4.heap.size,11,none⟩=some (.bool false)) (go_keep) (fail)
 go_wp2_with fail
 refine calls_var_drew ?_
 intro u8 hs hv
 have HVg:=Aside0.mk hv
 have HR1':=Aside0.mk (Kd.R_below HR1.out hs)
 have HV2':=Aside0.mk (blk_below HV2.out hs)
 have HR2':=Aside0.mk (Kd.R_below HR2.out hs)
 have HV3':=Aside0.mk (blk_below HV3.out hs)
 have HI8:=Aside0.mk (HI7'.out.below hs)
 have HB8:=Aside0.mk (below_step HB7'.out hs)
 clear hs hv x0 x1 x2 x3 x4 x5 x6 x7 x8 x9 x10 x11 HV1 HR1 HV2 HR2 HV3 HI7' HB7'
 refine (parse_One.calls 60 ⟨#[103,101,116,32,97,32,98]⟩ ⟨#[103,101,116]⟩ ⟨#[]⟩ [⟨#[97]⟩,⟨#[98]⟩] ⟨#[]⟩ 0 0 0 0 false false false false (-1) _ (HL.out.below HB8.out) aw_one).mono ?_
 rintro e w9 ⟨v5,rfl,hr,hs⟩
 obtain ⟨A5,c5,ev5⟩:=Kd.R_slice hr
 subst ev5
 have HVg':=Aside0.mk (blk_below HVg.out hs)
 have HR1:=Aside0.mk (Kd.R_below HR1'.out hs)
 have HV2:=Aside0.mk (blk_below HV2'.out hs)
 have HR2:=Aside0.mk (Kd.R_below HR2'.out hs)
 have HV3:=Aside0.mk (blk_below HV3'.out hs)
 have HI9:=Aside0.mk (HI8.out.below hs)
 have HB9:=Aside0.mk (below_step HB8.out hs)
 clear hr hs HVg HR1' HV2' HR2' HV3' HI8 HB8
 go_upto_region 11 with (fail)
 refine wp_var ?_
 intro u9 hs hv
 have HVg:=Aside0.mk (blk_below HVg'.out hs)
 have HR1':=Aside0.mk (Kd.R_below HR1.out hs)
 have HV2':=Aside0.mk (blk_below HV2.out hs)
 have HR2':=Aside0.mk (Kd.R_below HR2.out hs)
 have HV3':=Aside0.mk (blk_below HV3.out hs)
 have HI9':=Aside0.mk (HI9.out.below hs)
 have HB9':=Aside0.mk (below_step HB9.out hs)
 clear hs HVg' HR1 HV2 HR2 HV3 HI9 HB9
 obtain ⟨x0,x1,x2,x3,x4,x5,x6,x7,x8,x9,x10,x11⟩:=celL hv
 go_region_held3 (fun w'=>w'.cell? ⟨w9.heap.size,0,none⟩=some (.string ⟨#[103,101,116]⟩)∧w'.cell? ⟨w9.heap.size,1,none⟩=some (.string ⟨#[]⟩)∧w'.cell? ⟨w9.heap.size,2,none⟩=some (.slice A5 2 c5)∧w'.cell? ⟨w9.heap.size,3,none⟩=some (.string ⟨#[]⟩)∧w'.cell? ⟨w9.heap.size,4,none⟩=some (.int .u32 0)∧w'.cell? ⟨w9.heap.size,5,none⟩=some (.int .i64 0)∧w'.cell? ⟨w9.heap.size,6,none⟩=some (.int .u64 0)∧w'.cell? ⟨w9.heap.size,7,none⟩=some (.int .u64 0)∧w'.cell? ⟨w9.heap.size,8,none⟩=some (.bool false)∧w'.cell? ⟨w9.heap.size,9,none⟩=some (.bool false)∧w'.cell? ⟨w9.heap.size,10,none⟩=some (.bool false)∧w'.cell? ⟨w9.heap.size,11,none⟩=some (.bool false)) (go_keep) (fail)
 go_upto_region 12 with (fail)
 refine wp_var_drew ?_
 intro u10 hs hv2
 have HB10:=Aside0.mk (below_step HB9'.out hs)
 have HI10:=Aside0.mk (HI9'.out.below hs)
 have HV2:=Aside0.mk (blk_below HV2'.out hs)
 have HV3:=Aside0.mk (blk_below HV3'.out hs)
 have HVh:=Aside0.mk hv2
 have hR1:=Kd.R_below HR1'.out hs
 have HR2:=Aside0.mk (Kd.R_below HR2'.out hs)
 have hG:=blk_below HVg.out hs
 clear hs hv2 x0 x1 x2 x3 x4 x5 x6 x7 x8 x9 x10 x11 HI9' HB9' HV2' HV3' HR1' HR2' HVg
 obtain ⟨gb,ob,hA,hcell⟩:=str_cells (Kd.R_reads' hR1).2.2 (by simp)
 subst hA
 have y1:u10.cell? ⟨gb,ob,none⟩=some (.string ⟨#[97]⟩):=hcell 0 (by simp)
 clear hcell hR1
 obtain ⟨g0,g1,g2,g3,g4,g5,g6,g7,g8,g9,g10,g11⟩:=celL hG
 obtain ⟨b0,b1,b2,b3,b4,b5,b6,b7,b8,b9,b10,b11⟩:=celL HV2.out
 clear hG
 go_wp2_with fail
 refine (cellaretref17_Cmd.calls ⟨#[115,116,111,114,101]⟩ ⟨#[115,101,116]⟩ A2 c2 [⟨#[97]⟩] ⟨#[104,105]⟩ 0 0 0 0 false false false false ⟨#[115,116,111,114,101]⟩ ⟨#[115,101,116]⟩ [⟨#[97]⟩] ⟨#[104,105]⟩ 0 0 0 0 false false false false u10 (Kd.R_reads' HR2.out).2.2 (Kd.R_reads' HR2.out).2.1 aw_cmd).mono ?_
 rintro e w11 ⟨v6,rfl,hr,hs⟩
 obtain ⟨A6,c6,ev6⟩:=Kd.R_slice hr
 subst ev6
 have HR6:=Aside0.mk hr
 have HV3':=Aside0.mk (blk_below HV3.out hs)
 have HVh':=Aside0.mk (blk_below HVh.out hs)
 have HI11:=Aside0.mk (HI10.out.below hs)
 have HB11:=Aside0.mk (below_step HB10.out hs)
 clear hr hs HV3 HVh HI10 HB10 HV2 HR2 y1 g0 g1 g2 g3 g4 g5 g6 g7 g8 g9 g10 g11 b0 b1 b2 b3 b4 b5 b6 b7 b8 b9 b10 b11
 go_wp2_with fail
 refine calls_var ?_
 intro w12 hs hv
 have HI12:=Aside0.mk (HI11.out.below hs)
 have HB12:=Aside0.mk (below_step HB11.out hs)
 have HV3:=Aside0.mk (blk_below HV3'.out hs)
 have HVh:=Aside0.mk (blk_below HVh'.out hs)
 have HR6':=Aside0.mk (Kd.R_below HR6.out hs)
 have HR7:=Aside0.mk (row_one (base:=w11.heap.size) (ok:=fun _=>True) hv (Nat.le_refl _) trivial)
 clear hs hv HI11 HB11 HV3' HVh' HR6
 refine (same_walk ⟨⟨#[115,116,111,114,101]⟩,⟨#[115,101,116]⟩,[⟨#[97]⟩],⟨#[104,105]⟩,0,0,0,0,false,false,false,false⟩ (by decide) (Kd.R_reads' HR6'.out).2.2 (Kd.R_reads' HR6'.out).2.1 (Kd.R_reads' HR7.out).2.2 (Nat.le_refl _)).mono ?_
 rintro e w13 ⟨rfl,hs⟩
 have HI13:=Aside0.mk (HI12.out.below hs)
 have HB13:=Aside0.mk (below_step HB12.out hs)
 have HVh':=Aside0.mk (blk_below HVh.out hs)
 obtain ⟨b0,b1,b2,b3,b4,b5,b6,b7,b8,b9,b10,b11⟩:=celL (blk_below HV3.out hs)
 clear hs HI12 HB12 HVh HV3 HR6' HR7
 go_wp2_with fail
 refine (cellaretref17_Is.calls ⟨#[98,97,100]⟩ ⟨#[69,82,82,79,82]⟩ A3 c3 [] ⟨#[]⟩ 0 0 0 0 false false false false ⟨#[98,97,100]⟩ ⟨#[69,82,82,79,82]⟩ true w13 (C_none A3) (Nat.zero_le _) aw_is).mono ?_
 rintro e w14 ⟨rfl,hs⟩
 have HI14:=Aside0.mk (HI13.out.below hs)
 have HB14:=Aside0.mk (below_step HB13.out hs)
 clear b0 b1 b2 b3 b4 b5 b6 b7 b8 b9 b10 b11
 obtain ⟨b0,b1,b2,b3,b4,b5,b6,b7,b8,b9,b10,b11⟩:=celL (blk_below HVh'.out hs)
 clear hs HI13 HB13 HVh'
 go_wp2_with fail
 refine (parse_Waits.calls g pD 0 pD w w14 HI14.out HB14.out (HL.out.below HB14.out) rfl).mono ?_
 rintro e w15 ⟨rfl,hi,hb,hk⟩
 have HB15:=Aside0.mk hb
 clear hi hb hk HI14 HB14 b0 b1 b2 b3 b4 b5 b6 b7 b8 b9 b10 b11
 go_wp2_with fail
 go_ret
 exact ⟨rfl,HB15.out⟩
def cellaretlaw18_awake.f:Option Bool:=some true
theorem cellaretlaw18_awake.calls (r:Bool) (w:World) (HLD:LaidA w) (h:cellaretlaw18_awake.f=some r):Calls Tryz.prog 7 #[] w fun e w'=>e=.returned (.bool r)∧Below w.heap.size w w':=by
 obtain rfl:=Option.some.inj h
 exact awake_walk w HLD
end Go.Proofs.YtfbhlbchmenloaaGreatDoor.H
end
section
namespace Go.Proofs.YtfbhlbchmenloaaGreatDoor.O
open Go Go.RowKit Go.Proofs.YtfbhlbchmenloaaGreatDoorW.PrintWords Go.Proofs.YtfbhlbchmenloaaGreatDoorW.PrintLast Go.Proofs.YtfbhlbchmenloaaGreatDoorW.PrintMore Go.Proofs.YtfbhlbchmenloaaGreatDoor.H Go.Proofs.YtfbhlbchmenloaaGreatDoor.L Go.Proofs.YtfbhlbchmenloaaGreatDoor.Pure
set_option linter.unusedVariables false
set_option linter.unusedSimpArgs false
def C12 (W:World) (g:Nat) (c0 c1 c2 c3 c4 c5 c6 c7 c8 c9 c10 c11:Value):Prop:=W.cell? ⟨g,0,none⟩=some c0∧W.cell? ⟨g,1,none⟩=some c1∧W.cell? ⟨g,2,none⟩=some c2∧W.cell? ⟨g,3,none⟩=some c3∧W.cell? ⟨g,4,none⟩=some c4∧W.cell? ⟨g,5,none⟩=some c5∧W.cell? ⟨g,6,none⟩=some c6∧W.cell? ⟨g,7,none⟩=some c7∧W.cell? ⟨g,8,none⟩=some c8∧W.cell? ⟨g,9,none⟩=some c9∧W.cell? ⟨g,10,none⟩=some c10∧W.cell? ⟨g,11,none⟩=some c11
abbrev t:=true
abbrev f:=false
abbrev IsP:=@IsS55
theorem new_ref {W0 W:World} (hB:Below W0.heap.size W0 W) (HLD:LaidA W):Calls Tryz.prog 12 #[] W fun e w'=>∃ g,e=.returned (.pointer (some ⟨g,0,none⟩))∧IsP W0 w' g psNew∧Below W0.heap.size W0 w'∧Below W.heap.size W w':=
  parse_New.calls psNew W0 W hB HLD rfl
theorem feed_ref {g:Nat} {ps:PS} {A:Option Addr} {c:Nat} {l:List Int} {W0 W:World} (hI:IsP W0 W g ps) (hB:Below W0.heap.size W0 W) (HLD:LaidA W) (hr:Kd.C (Kd.int .u8) W A l.length l) (hc:l.length≤c) (hl:ps.b.length + l.length≤140737488355328) :
    Calls Tryz.prog 13 #[.pointer (some ⟨g,0,none⟩),.slice A l.length c] W fun e w'=>e=.returned (.tuple #[])∧IsP W0 w' g (psFeed ps l)∧Below W0.heap.size W0 w'∧KeepRow W w' g:=
  parse_Feed.calls g ps A c l (psFeed ps l) W0 W hI hB HLD hr hc (by unfold parse_Feed.f;rw [if_pos hl])
theorem cmd_is (d:Cd) (hk:d.keys.length≤100):cellaretref17_Cmd.f d.what d.verb d.keys d.data d.flags d.exp d.cas d.by_ d.withCas d.withTouch d.down d.quiet=some (d.what,d.verb,d.keys,d.data,d.flags,d.exp,d.cas,d.by_,d.withCas,d.withTouch,d.down,d.quiet):=by
  unfold cellaretref17_Cmd.f
  simp only [Option.bind_some,List.nil_append,List.length_nil,Nat.zero_add,if_pos (show d.keys.length < 8796093022208 by omega)]
  by_cases h:(d.keys.length:Int)=0
  · rw [if_pos h,List.eq_nil_of_length_eq_zero (show d.keys.length=0 by omega)]
  · rw [if_neg h]
theorem cmd_ref (d:Cd) {A:Option Addr} {c:Nat} {W:World} (hk:d.keys.length≤100) (hr:Kd.C Kd.string W A d.keys.length d.keys) (hc:d.keys.length≤c) :
    Calls Tryz.prog 8 #[cdV d (.slice A d.keys.length c)] W fun e w'=>∃ A' c',e=.returned (cdV d (.slice A' d.keys.length c'))∧d.keys.length≤c'∧Kd.C Kd.string w' A' d.keys.length d.keys∧Below W.heap.size W w':=by
  refine (cellaretref17_Cmd.calls d.what d.verb A c d.keys d.data d.flags d.exp d.cas d.by_ d.withCas d.withTouch d.down d.quiet _ _ _ _ _ _ _ _ _ _ _ _ W hr hc (cmd_is d hk)).mono ?_
  rintro e w' ⟨v,rfl,hr,hb⟩
  obtain ⟨A,c,ev⟩:=Kd.R_slice hr
  subst ev
  exact ⟨A,c,rfl,(Kd.R_reads' hr).2.1,(Kd.R_reads' hr).2.2,hb⟩
theorem same_ref (d:Cd) {A A':Option Addr} {c c':Nat} {W:World} (hk:d.keys.length < 1000000) (hr:Kd.C Kd.string W A d.keys.length d.keys) (hc:d.keys.length≤c) (hr':Kd.C Kd.string W A' d.keys.length d.keys) (hc':d.keys.length≤c') :
    Calls Tryz.prog 16 #[cdV d (.slice A d.keys.length c),cdV d (.slice A' d.keys.length c')] W fun e w'=>e=.returned (.bool true)∧Below W.heap.size W w':=same_walk d hk hr hc hr' hc'
theorem conv_is (s:ByteArray) (h:s.size≤9223372036854775807):convB.f s=some (bytesOf s):=by unfold convB.f;rw [if_pos h]
theorem awake_ref {W:World} (HLD:LaidA W):Calls Tryz.prog 7 #[] W fun e w'=>e=.returned (.bool true)∧Below W.heap.size W w':=awake_walk W HLD
theorem putG {W:World} {g t:Nat} {c0 c1 c2 c3 c4 c5 c6 c7 c8 c9 c10 c11 v0 v1 v2 v3 v4 v5 v6 v7 v8 v9 v10 v11:Value} (h0:W.heap[g]? = some (.cells #[c0,c1,c2,c3,c4,c5,c6,c7,c8,c9,c10,c11] t (0,0))) :
    ((((((((((((W.setCell ⟨g,0,none⟩ v0).setCell ⟨g,1,none⟩ v1).setCell ⟨g,2,none⟩ v2).setCell ⟨g,3,none⟩ v3).setCell ⟨g,4,none⟩ v4).setCell ⟨g,5,none⟩ v5).setCell ⟨g,6,none⟩ v6).setCell ⟨g,7,none⟩ v7).setCell ⟨g,8,none⟩ v8).setCell ⟨g,9,none⟩ v9).setCell ⟨g,10,none⟩ v10).setCell ⟨g,11,none⟩ v11).heap[g]? = some (.cells #[v0,v1,v2,v3,v4,v5,v6,v7,v8,v9,v10,v11] t (0,0)):=by
  have h1:(W.setCell ⟨g,0,none⟩ v0).heap[g]? = some (.cells #[v0,c1,c2,c3,c4,c5,c6,c7,c8,c9,c10,c11] t (0,0)):=blk_set h0 0 v0
  have h2:((W.setCell ⟨g,0,none⟩ v0).setCell ⟨g,1,none⟩ v1).heap[g]? = some (.cells #[v0,v1,c2,c3,c4,c5,c6,c7,c8,c9,c10,c11] t (0,0)):=blk_set h1 1 v1
  have h3:(((W.setCell ⟨g,0,none⟩ v0).setCell ⟨g,1,none⟩ v1).setCell ⟨g,2,none⟩ v2).heap[g]? = some (.cells #[v0,v1,v2,c3,c4,c5,c6,c7,c8,c9,c10,c11] t (0,0)):=blk_set h2 2 v2
  have h4:((((W.setCell ⟨g,0,none⟩ v0).setCell ⟨g,1,none⟩ v1).setCell ⟨g,2,none⟩ v2).setCell ⟨g,3,none⟩ v3).heap[g]? = some (.cells #[v0,v1,v2,v3,c4,c5,c6,c7,c8,c9,c10,c11] t (0,0)):=blk_set h3 3 v3
  have h5:(((((W.setCell ⟨g,0,none⟩ v0).setCell ⟨g,1,none⟩ v1).setCell ⟨g,2,none⟩ v2).setCell ⟨g,3,none⟩ v3).setCell ⟨g,4,none⟩ v4).heap[g]? = some (.cells #[v0,v1,v2,v3,v4,c5,c6,c7,c8,c9,c10,c11] t (0,0)):=blk_set h4 4 v4
  have h6:((((((W.setCell ⟨g,0,none⟩ v0).setCell ⟨g,1,none⟩ v1).setCell ⟨g,2,none⟩ v2).setCell ⟨g,3,none⟩ v3).setCell ⟨g,4,none⟩ v4).setCell ⟨g,5,none⟩ v5).heap[g]? = some (.cells #[v0,v1,v2,v3,v4,v5,c6,c7,c8,c9,c10,c11] t (0,0)):=blk_set h5 5 v5
  have h7:(((((((W.setCell ⟨g,0,none⟩ v0).setCell ⟨g,1,none⟩ v1).setCell ⟨g,2,none⟩ v2).setCell ⟨g,3,none⟩ v3).setCell ⟨g,4,none⟩ v4).setCell ⟨g,5,none⟩ v5).setCell ⟨g,6,none⟩ v6).heap[g]? = some (.cells #[v0,v1,v2,v3,v4,v5,v6,c7,c8,c9,c10,c11] t (0,0)):=blk_set h6 6 v6
  have h8:((((((((W.setCell ⟨g,0,none⟩ v0).setCell ⟨g,1,none⟩ v1).setCell ⟨g,2,none⟩ v2).setCell ⟨g,3,none⟩ v3).setCell ⟨g,4,none⟩ v4).setCell ⟨g,5,none⟩ v5).setCell ⟨g,6,none⟩ v6).setCell ⟨g,7,none⟩ v7).heap[g]? = some (.cells #[v0,v1,v2,v3,v4,v5,v6,v7,c8,c9,c10,c11] t (0,0)):=blk_set h7 7 v7
  have h9:(((((((((W.setCell ⟨g,0,none⟩ v0).setCell ⟨g,1,none⟩ v1).setCell ⟨g,2,none⟩ v2).setCell ⟨g,3,none⟩ v3).setCell ⟨g,4,none⟩ v4).setCell ⟨g,5,none⟩ v5).setCell ⟨g,6,none⟩ v6).setCell ⟨g,7,none⟩ v7).setCell ⟨g,8,none⟩ v8).heap[g]? = some (.cells #[v0,v1,v2,v3,v4,v5,v6,v7,v8,c9,c10,c11] t (0,0)):=blk_set h8 8 v8
  have h10:((((((((((W.setCell ⟨g,0,none⟩ v0).setCell ⟨g,1,none⟩ v1).setCell ⟨g,2,none⟩ v2).setCell ⟨g,3,none⟩ v3).setCell ⟨g,4,none⟩ v4).setCell ⟨g,5,none⟩ v5).setCell ⟨g,6,none⟩ v6).setCell ⟨g,7,none⟩ v7).setCell ⟨g,8,none⟩ v8).setCell ⟨g,9,none⟩ v9).heap[g]? = some (.cells #[v0,v1,v2,v3,v4,v5,v6,v7,v8,v9,c10,c11] t (0,0)):=blk_set h9 9 v9
  have h11:(((((((((((W.setCell ⟨g,0,none⟩ v0).setCell ⟨g,1,none⟩ v1).setCell ⟨g,2,none⟩ v2).setCell ⟨g,3,none⟩ v3).setCell ⟨g,4,none⟩ v4).setCell ⟨g,5,none⟩ v5).setCell ⟨g,6,none⟩ v6).setCell ⟨g,7,none⟩ v7).setCell ⟨g,8,none⟩ v8).setCell ⟨g,9,none⟩ v9).setCell ⟨g,10,none⟩ v10).heap[g]? = some (.cells #[v0,v1,v2,v3,v4,v5,v6,v7,v8,v9,v10,c11] t (0,0)):=blk_set h10 10 v10
  have h12:((((((((((((W.setCell ⟨g,0,none⟩ v0).setCell ⟨g,1,none⟩ v1).setCell ⟨g,2,none⟩ v2).setCell ⟨g,3,none⟩ v3).setCell ⟨g,4,none⟩ v4).setCell ⟨g,5,none⟩ v5).setCell ⟨g,6,none⟩ v6).setCell ⟨g,7,none⟩ v7).setCell ⟨g,8,none⟩ v8).setCell ⟨g,9,none⟩ v9).setCell ⟨g,10,none⟩ v10).setCell ⟨g,11,none⟩ v11).heap[g]? = some (.cells #[v0,v1,v2,v3,v4,v5,v6,v7,v8,v9,v10,v11] t (0,0)):=blk_set h11 11 v11
  exact h12
theorem eqT {n:Nat} {k:Int} (h:(n:Int)=k):(((n:Int)=k)=True)∧decide ((n:Int)=k)=true∧((n:Int)==k)=true:=⟨eq_true h,decide_eq_true h,beq_iff_eq.mpr h⟩
theorem eqF {n:Nat} {k:Int} (h:¬ (n:Int)=k):(((n:Int)=k)=False)∧decide ((n:Int)=k)=false∧((n:Int)==k)=false:=⟨eq_false h,decide_eq_false h,beq_eq_false_iff_ne.mpr h⟩
/-- A string that is a constant, or is not. -/
theorem tlT {a:ByteArray} {l:List UInt8} (h:a.toList=l):(a.toList==l)=true∧(a.toList != l)=false:=⟨beq_iff_eq.mpr h,bne_eq_false_iff_eq.mpr h⟩
theorem tlF {a:ByteArray} {l:List UInt8} (h:¬ a.toList=l):(a.toList==l)=false∧(a.toList != l)=true:=⟨beq_eq_false_iff_ne.mpr h,bne_iff_ne.mpr h⟩
/-- A command is handed back, its keys a row that is only read. -/
def TellsB (d:Cd) (W:World) (e:Ending) (w':World):Prop:=∃ A c,e=.returned (cdV d (.slice A d.keys.length c))∧d.keys.length≤c∧Kd.C Kd.string w' A d.keys.length d.keys∧Below W.heap.size W w'
@[reducible] def getT:ByteArray:=⟨#[103,101,116]⟩
@[reducible] def storeT:ByteArray:=⟨#[115,116,111,114,101]⟩
@[reducible] def arithT:ByteArray:=⟨#[97,114,105,116,104]⟩
@[reducible] def touchT:ByteArray:=⟨#[116,111,117,99,104]⟩
@[reducible] def deleteT:ByteArray:=⟨#[100,101,108,101,116,101]⟩
@[reducible] def flushT:ByteArray:=⟨#[102,108,117,115,104]⟩
@[reducible] def badT:ByteArray:=⟨#[98,97,100]⟩
@[reducible] def wordT:ByteArray:=⟨#[119,111,114,100]⟩
/-- A command's first key. -/
def k1 (d:Cd):ByteArray:=d.keys.getD 0 ByteArray.empty
def back_get (d:Cd):Cd:=⟨getT,⟨#[]⟩,d.keys,⟨#[]⟩,0,d.exp,0,0,d.withCas,d.withTouch,false,false⟩
def back_store (d:Cd):Cd:=⟨storeT,d.verb,[k1 d],d.data,d.flags,d.exp,d.cas,0,false,false,false,d.quiet⟩
def back_arith (d:Cd):Cd:=⟨arithT,⟨#[]⟩,[k1 d],⟨#[]⟩,0,0,0,d.by_,false,false,d.down,d.quiet⟩
def back_touch (d:Cd):Cd:=⟨touchT,⟨#[]⟩,[k1 d],⟨#[]⟩,0,d.exp,0,0,false,false,false,d.quiet⟩
def back_delete (d:Cd):Cd:=⟨deleteT,⟨#[]⟩,[k1 d],⟨#[]⟩,0,0,0,0,false,false,false,d.quiet⟩
def back_flush (d:Cd):Cd:=⟨flushT,⟨#[]⟩,[],⟨#[]⟩,0,0,0,0,false,false,false,d.quiet⟩
def back_bad (d:Cd):Cd:=⟨badT,d.verb,[],⟨#[]⟩,0,0,0,0,false,false,false,false⟩
def back_word (d:Cd):Cd:=⟨wordT,d.verb,[],⟨#[]⟩,0,0,0,0,false,false,false,false⟩
def back_other (d:Cd):Cd:=⟨⟨#[]⟩,⟨#[]⟩,[],⟨#[]⟩,0,0,0,0,false,false,false,false⟩
def plain_get0 (d:Cd):Cd:=⟨getT,⟨#[]⟩,d.keys,⟨#[]⟩,0,0,0,0,d.withCas,false,false,false⟩
def plain_get1 (d:Cd):Cd:=⟨getT,⟨#[]⟩,d.keys,⟨#[]⟩,0,d.exp,0,0,d.withCas,true,false,false⟩
def plain_cas (d:Cd):Cd:=⟨storeT,d.verb,d.keys,d.data,d.flags,d.exp,d.cas,0,false,false,false,d.quiet⟩
def plain_store (d:Cd):Cd:=⟨storeT,d.verb,d.keys,d.data,d.flags,d.exp,0,0,false,false,false,d.quiet⟩
def plain_arith (d:Cd):Cd:=⟨arithT,⟨#[]⟩,d.keys,⟨#[]⟩,0,0,0,d.by_,false,false,d.down,d.quiet⟩
def plain_touch (d:Cd):Cd:=⟨touchT,⟨#[]⟩,d.keys,⟨#[]⟩,0,d.exp,0,0,false,false,false,d.quiet⟩
def plain_delete (d:Cd):Cd:=⟨deleteT,⟨#[]⟩,d.keys,⟨#[]⟩,0,0,0,0,false,false,false,d.quiet⟩
def plain_flush (d:Cd):Cd:=⟨flushT,⟨#[]⟩,[],⟨#[]⟩,0,0,0,0,false,false,false,d.quiet⟩
def plain_word (d:Cd):Cd:=⟨wordT,d.verb,[],⟨#[]⟩,0,0,0,0,false,false,false,false⟩
/-- What Back hands on. -/
def backD (d:Cd):Cd:=if d.what=getT then back_get d else if d.what=storeT then back_store d else if d.what=arithT then back_arith d else if d.what=touchT then back_touch d else if d.what=deleteT then back_delete d else if d.what=flushT then back_flush d else if d.what=badT then back_bad d else if d.what=wordT then back_word d else back_other d
/-- What a line tells. -/
def plainD (d:Cd):Cd:=if d.what=getT then (if d.withTouch=true then plain_get1 d else plain_get0 d) else if d.what=storeT then (if d.verb=casW then plain_cas d else plain_store d) else if d.what=arithT then plain_arith d else if d.what=touchT then plain_touch d else if d.what=deleteT then plain_delete d else if d.what=flushT then plain_flush d else plain_word d
end Go.Proofs.YtfbhlbchmenloaaGreatDoor.O
end
section
namespace Go.Proofs.YtfbhlbchmenloaaGreatDoor.O
open Go Go.RowKit Go.Proofs.YtfbhlbchmenloaaGreatDoorW.PrintWords Go.Proofs.YtfbhlbchmenloaaGreatDoorW.PrintLast Go.Proofs.YtfbhlbchmenloaaGreatDoorW.PrintMore Go.Proofs.YtfbhlbchmenloaaGreatDoor.H Go.Proofs.YtfbhlbchmenloaaGreatDoor.L Go.Proofs.YtfbhlbchmenloaaGreatDoor.Pure
set_option linter.unusedVariables false
set_option linter.unusedSimpArgs false
theorem heap_to {w w':World} {g:Nat} {o:Option Obj} (h:w.heap[g]? = o) (e:w'=w):w'.heap[g]? = o:=e▸h
theorem below_to {W w w':World} {n:Nat} (h:Below n W w) (e:w'=w):Below n W w':=e▸h
theorem tlI {a:ByteArray} {l:List UInt8} (h:a.toList=l):a=⟨l.toArray⟩:=by
  rw [tl] at h
  exact ba_ext (by rw [h])
theorem key_of (d:Cd) {A:Option Addr} {c:Nat} {W:World} (hr:Kd.C Kd.string W A d.keys.length d.keys):Calls Tryz.prog 23 #[cdV d (.slice A d.keys.length c)] W fun e w'=>e=.returned (.string (k1 d))∧Below W.heap.size W w':=by
  have hu26:=Tryz.underlying26
  unfold cdV
  by_cases h:d.keys.length=0
  · obtain ⟨q1,q2,q3⟩:=eqT (n:=d.keys.length) (k:=0) (by omega)
    rw [show k1 d=⟨#[]⟩ by unfold k1;rw [List.eq_nil_of_length_eq_zero h];rfl]
    go_enter Tryz.func23,Tryz.ntmps23
    go_wp2_with fail
    go_ret
    exact ⟨rfl,below_alloc (Below.refl _ _) _⟩
  · obtain ⟨q1,q2,q3⟩:=eqF (n:=d.keys.length) (k:=0) (by omega)
    obtain ⟨gb,ob,hA,hcell⟩:=str_cells hr (by omega)
    have y0:W.cell? ⟨gb,ob,none⟩=some (.string (k1 d)):=hcell 0 (by omega)
    have lg:=World.block_lt_of_cell? W _ y0
    subst hA
    have b0:(0:Int) < (d.keys.length:Int):=by omega
    have z3:(0 < d.keys.length)=True:=eq_true (by omega)
    have z4:0 < d.keys.length:=by omega
    clear hcell hr
    go_enter Tryz.func23,Tryz.ntmps23
    go_wp2_with fail
    go_ret
    exact ⟨rfl,below_alloc (Below.refl _ _) _⟩
theorem key_of' (d:Cd) (t:ByteArray) (hw:d.what=t) {A:Option Addr} {c:Nat} {W:World} (hr:Kd.C Kd.string W A d.keys.length d.keys):Calls Tryz.prog 23 #[.agg #[.string t,.string d.verb,.slice A d.keys.length c,.string d.data,.int .u32 d.flags,.int .i64 d.exp,.int .u64 d.cas,.int .u64 d.by_,.bool d.withCas,.bool d.withTouch,.bool d.down,.bool d.quiet]] W fun e w'=>e=.returned (.string (k1 d))∧Below W.heap.size W w':=by
  subst hw
  exact key_of d hr
def cellaretref17_Back.T3:Bool×List (List Nat×List Nat):=(true,[([],[]),([],[]),([1],[1]),([0,2],[0,2]),([],[]),([4],[4]),([],[]),([6],[6]),([],[]),([8],[8]),([3,5,7,9],[3,5,7,9]),([10,3,0,1,2,3,4,5,6,7,8,9,10],[10])])
def cellaretref17_Back.B3:List Nat:=[0,0,2,7,0,16,0,64,0,256,1023,2047]
theorem cellaretref17_Back.tab3:rtab .any (opsOf Tryz.f9 3)=cellaretref17_Back.T3:=by kernel_rfl
theorem cellaretref17_Back.bits3:waitsOk cellaretref17_Back.T3.2 cellaretref17_Back.B3=true:=by kernel_rfl
set_option maxHeartbeats 4000000 in
set_option maxRecDepth 100000 in
theorem get_back (d:Cd) (hw:d.what=getT) {A:Option Addr} {c:Nat} {W:World} (hk:d.keys.length≤100) (hr:Kd.C Kd.string W A d.keys.length d.keys):Calls Tryz.prog 9 #[cdV d (.slice A d.keys.length c)] W (TellsB (back_get d) W):=by
  have hu26:=Tryz.underlying26
  have hu29:=Tryz.underlying29
  have hu22:=Tryz.underlying22
  have HR:=Aside0.mk hr
  clear hr
  unfold cdV
  rw [hw]
  go_enter Tryz.func9,Tryz.ntmps9
  go_wp2_with fail
  refine wp_var2 ?_
  intro w0 hs ha hb
  have HVa:=Aside0.mk ha
  have HVb:=Aside0.mk hb
  have HB:=Aside0.mk hs
  clear hs ha hb
  refine start_ (n:=12) (S:=fun w'=>C12 w' (W.heap.size) (.string ⟨#[103,101,116]⟩) (.string d.verb) (.slice A d.keys.length c) (.string d.data) (.int .u32 d.flags) (.int .i64 d.exp) (.int .u64 d.cas) (.int .u64 d.by_) (.bool d.withCas) (.bool d.withTouch) (.bool d.down) (.bool d.quiet)) (ds:=[]) #[f,f,f,f,f,f,f,f,f,f,f,f] (by kernel_rfl) rfl rfl (celL HVa.out) (fun hHeld=>?_)
  refine with_tabW cellaretref17_Back.tab3 cellaretref17_Back.bits3 (fun HT_ HW_=>?_)
  replace HB:=Aside0.mk (below_drew1 HB.out)
  replace HVa:=Aside0.mk (blk_drew HVa.out)
  replace HVb:=Aside0.mk (blk_drew HVb.out)
  refine pure_ (i:=1) (N:=some 8) (v:=?_) (a':=?_) #[f,t,f,f,f,f,f,f,f,f,f,f] rfl rfl (any_of HT_.out (by kernel_rfl)) (fun _ _ _ h=>h) (Or.inl ⟨by rfl,?_⟩) ?_ ?_
  rotate_left
  · intro w'
    go_simp
    with_reducible rfl
  rotate_left
  · simp only [pS]
    rfl
  refine pure_ (i:=4) (N:=some 11) (v:=?_) (a':=?_) #[f,t,f,f,t,f,f,f,f,f,f,f] rfl rfl (any_of HT_.out (by kernel_rfl)) (fun _ _ _ h=>h) (Or.inl ⟨by rfl,?_⟩) ?_ ?_
  rotate_left
  · intro w'
    go_simp
    with_reducible rfl
  rotate_left
  · simp only [pS]
    rfl
  refine pure_ (i:=6) (N:=some 13) (v:=?_) (a':=?_) #[f,t,f,f,t,f,t,f,f,f,f,f] rfl rfl (any_of HT_.out (by kernel_rfl)) (fun _ _ _ h=>h) (Or.inl ⟨by rfl,?_⟩) ?_ ?_
  rotate_left
  · intro w'
    go_simp
    with_reducible rfl
  rotate_left
  · simp only [pS]
    rfl
  refine pure_ (i:=8) (N:=some 15) (v:=?_) (a':=?_) #[f,t,f,f,t,f,t,f,t,f,f,f] rfl rfl (any_of HT_.out (by kernel_rfl)) (fun _ _ _ h=>h) (Or.inl ⟨by rfl,?_⟩) ?_ ?_
  rotate_left
  · intro w'
    go_simp
    with_reducible rfl
  rotate_left
  · simp only [pS]
    rfl
  refine take_ (i:=2) (N:=some 9) (v:=?_) (a':=?_) #[f,t,t,f,t,f,t,f,t,f,f,f] rfl rfl (take_ofW HT_.out HW_.out (by kernel_rfl)) (fun _ _ _ h=>h) (Or.inl ⟨by rfl,?_⟩) hHeld ?_ ?_
  rotate_left
  · rintro w' ⟨s0,s1,s2,s3,s4,s5,s6,s7,s8,s9,s10,s11⟩
    go_simp
    with_reducible rfl
  rotate_left
  · simp only [pS]
    rfl
  refine take_ (i:=5) (N:=some 12) (v:=?_) (a':=?_) #[f,t,t,f,t,t,t,f,t,f,f,f] rfl rfl (take_ofW HT_.out HW_.out (by kernel_rfl)) (fun _ _ _ h=>h) (Or.inl ⟨by rfl,?_⟩) hHeld ?_ ?_
  rotate_left
  · rintro w' ⟨s0,s1,s2,s3,s4,s5,s6,s7,s8,s9,s10,s11⟩
    go_simp
    with_reducible rfl
  rotate_left
  · simp only [pS]
    rfl
  refine take_ (i:=7) (N:=some 14) (v:=?_) (a':=?_) #[f,t,t,f,t,t,t,t,t,f,f,f] rfl rfl (take_ofW HT_.out HW_.out (by kernel_rfl)) (fun _ _ _ h=>h) (Or.inl ⟨by rfl,?_⟩) hHeld ?_ ?_
  rotate_left
  · rintro w' ⟨s0,s1,s2,s3,s4,s5,s6,s7,s8,s9,s10,s11⟩
    go_simp
    with_reducible rfl
  rotate_left
  · simp only [pS]
    rfl
  refine take_ (i:=9) (N:=some 16) (v:=?_) (a':=?_) #[f,t,t,f,t,t,t,t,t,t,f,f] rfl rfl (take_ofW HT_.out HW_.out (by kernel_rfl)) (fun _ _ _ h=>h) (Or.inl ⟨by rfl,?_⟩) hHeld ?_ ?_
  rotate_left
  · rintro w' ⟨s0,s1,s2,s3,s4,s5,s6,s7,s8,s9,s10,s11⟩
    go_simp
    with_reducible rfl
  rotate_left
  · simp only [pS]
    rfl
  refine one_ (i:=0) (N:=some 7) #[t,t,t,f,t,t,t,t,t,t,f,f] rfl rfl (one_of HT_.out (by kernel_rfl)) (by decide) (fun K hK=>?_)
  refine Kd.R_lit_step Kd.string _ 9 ?hg (N:=7) ?hd (xs:=([]:List ByteArray)) (inner:=[]) (ok:=fun _=>True) (okp:=fun _=>True) ?hr ?hp (fun _ hk=>hk) trivial (Below.refl _ _) (Nat.le_refl _) (by simp) ?_;(case hd=>rfl);(case hg=>rfl);(case hr=>first | (go_simp;done) | (go_simp;rfl));(case hp=>exact (Reps.none _ _))
  intro v w1 ho hs hg_ hnew_
  clear hg_ hnew_
  have HO:=Aside0.mk (Kd.R_lower ho (below_size HB.out))
  replace HB:=Aside0.mk (below_step HB.out hs)
  replace HVa:=Aside0.mk (blk_below HVa.out hs)
  replace HVb:=Aside0.mk (blk_below HVb.out hs)
  clear ho hs
  obtain ⟨Ao,co,eo⟩:=Kd.R_slice HO.out
  replace eo:v=.slice Ao 0 co:=eo
  subst eo
  refine hK.out _ _ (celL HVa.out) (fun hHeld=>?_)
  clear hK K
  refine norm_ (a':=?_) ?_ ?_
  rotate_left
  · show Act.put _ (some 7) _=_
    simp only [pS]
    rfl
  refine one_ (i:=3) (N:=some 10) #[t,t,t,t,t,t,t,t,t,t,f,f] rfl rfl (one_of HT_.out (by kernel_rfl)) (by decide) (fun K hK=>?_)
  refine Kd.R_append_rows_step Kd.string (w0:=W) W.heap.size (by rfl) (.tmp 7) (.tmp 9) 22 9 (.string ⟨#[]⟩) 16 rfl Tryz.underlying22 info9 rfl (by decide) (by omega) (.slice Ao 0 co) ([]:List ByteArray) d.keys _ _ _ (fun _=>True) (fun _=>False) rfl rfl HO.out (Kd.C_below HR.out HB.out) (fun _ _ h=>h) (fun _ h=>h.elim) (fun _ _=>trivial) HB.out (below_size HB.out) (by rw [List.length_nil];omega) ?_
  intro v w2 ho hb hg hat
  replace HVa:=Aside0.mk (blk_grown HVa.out hg (Kd.R_ne HO.out HVa.out (by decide)))
  replace HVb:=Aside0.mk (blk_grown HVb.out hg (Kd.R_ne HO.out HVb.out (by decide)))
  replace HB:=Aside0.mk hb
  rw [List.nil_append] at ho
  replace HO:=Aside0.mk ho
  clear ho hb hg hat
  obtain ⟨Ap,cp,ep⟩:=Kd.R_slice HO.out
  subst ep
  refine hK.out _ _ (celL HVa.out) (fun hHeld=>?_)
  clear hK K
  refine norm_ (a':=?_) ?_ ?_
  rotate_left
  · show Act.put _ (some 10) _=_
    simp only [pS]
    rfl
  refine pure_ (i:=10) (N:=some 17) (v:=?_) (a':=?_) #[t,t,t,t,t,t,t,t,t,t,t,f] rfl rfl (any_of HT_.out (by kernel_rfl)) (fun _ _ _ h=>h) (Or.inl ⟨by rfl,?_⟩) ?_ ?_
  rotate_left
  · intro w'
    go_simp
    with_reducible rfl
  rotate_left
  · simp only [pS]
    rfl
  refine one_ (i:=11) (N:=none) #[t,t,t,t,t,t,t,t,t,t,t,t] rfl rfl (one_of HT_.out (by kernel_rfl)) (by decide) (fun K hK=>?_)
  obtain ⟨x0,x1,x2,x3,x4,x5,x6,x7,x8,x9,x10,x11⟩:=celL HVb.out
  obtain ⟨f0,f1,f2,f3,f4,f5,f6,f7,f8,f9,f10,f11⟩:=froZ HVb.out
  refine skip_ (w1:=?_) (by rfl) rfl ?_ ?_
  rotate_left
  · go_simp
    rfl
  clear x0 x1 x2 x3 x4 x5 x6 x7 x8 x9 x10 x11 f0 f1 f2 f3 f4 f5 f6 f7 f8 f9 f10 f11
  refine hK.out _ _ (celL (bF HVa.out (Nat.ne_of_lt (Nat.lt_succ_self _)))) (fun hHeld=>?_)
  clear hK K
  refine done_ (done_of HT_.out (by kernel_rfl)) ?_
  go_wp2_with fail
  refine bodyPost_ret (results_cell_row rfl _ _ (W.heap.size + 1) 29 #[.string ⟨#[103,101,116]⟩,.string ez,.slice Ap d.keys.length cp,.string ez,.int .u32 0,.int .i64 d.exp,.int .u64 0,.int .u64 0,.bool d.withCas,.bool d.withTouch,.bool false,.bool false] (0,0) _ rfl (putG HVb.out) Tryz.underlying29 rfl (by kernel_rfl)) rfl ?_
  have hR:=R_far12 (W.heap.size + 1) (Kd.R_types HO.out HVb.out (by decide)) (.string ⟨#[103,101,116]⟩) (.string ez) (.slice Ap d.keys.length cp) (.string ez) (.int .u32 0) (.int .i64 d.exp) (.int .u64 0) (.int .u64 0) (.bool d.withCas) (.bool d.withTouch) (.bool false) (.bool false)
  exact ⟨_,_,rfl,(Kd.R_reads' hR).2.1,(Kd.R_reads' hR).2.2,below12 HB.out (Nat.le_succ _) _ _ _ _ _ _ _ _ _ _ _ _⟩
def cellaretref17_Back.T5:Bool×List (List Nat×List Nat):=(true,[([],[]),([0],[0]),([],[]),([2],[2]),([3],[3]),([],[]),([5],[5]),([],[]),([7],[7]),([],[]),([9],[9]),([],[]),([11],[11]),([],[]),([13],[13]),([1,4,6,8,10,12,14],[1,4,6,8,10,12,14]),([15,3,0,1,2,3,4,5,6,7,8,9,10,11,12,13,14,15],[15])])
def cellaretref17_Back.B5:List Nat:=[0,1,0,4,12,0,32,0,128,0,512,0,2048,0,8192,32767,65535]
theorem cellaretref17_Back.tab5:rtab .any (opsOf Tryz.f9 5)=cellaretref17_Back.T5:=by kernel_rfl
theorem cellaretref17_Back.bits5:waitsOk cellaretref17_Back.T5.2 cellaretref17_Back.B5=true:=by kernel_rfl
set_option maxHeartbeats 4000000 in
set_option maxRecDepth 100000 in
theorem store_back (d:Cd) (hw:d.what=storeT) {A:Option Addr} {c:Nat} {W:World} (hk:d.keys.length≤100) (hr:Kd.C Kd.string W A d.keys.length d.keys):Calls Tryz.prog 9 #[cdV d (.slice A d.keys.length c)] W (TellsB (back_store d) W):=by
  have hu26:=Tryz.underlying26
  have hu29:=Tryz.underlying29
  have hu22:=Tryz.underlying22
  have HR:=Aside0.mk hr
  clear hr
  unfold cdV
  rw [hw]
  go_enter Tryz.func9,Tryz.ntmps9
  go_wp2_with fail
  refine wp_var2 ?_
  intro w0 hs ha hb
  have HVa:=Aside0.mk ha
  have HVb:=Aside0.mk hb
  have HB:=Aside0.mk hs
  clear hs ha hb
  refine start_ (n:=17) (S:=fun w'=>C12 w' (W.heap.size) (.string ⟨#[115,116,111,114,101]⟩) (.string d.verb) (.slice A d.keys.length c) (.string d.data) (.int .u32 d.flags) (.int .i64 d.exp) (.int .u64 d.cas) (.int .u64 d.by_) (.bool d.withCas) (.bool d.withTouch) (.bool d.down) (.bool d.quiet)) (ds:=[]) #[f,f,f,f,f,f,f,f,f,f,f,f,f,f,f,f,f] (by kernel_rfl) rfl rfl (celL HVa.out) (fun hHeld=>?_)
  refine with_tabW cellaretref17_Back.tab5 cellaretref17_Back.bits5 (fun HT_ HW_=>?_)
  replace HB:=Aside0.mk (below_drew1 HB.out)
  replace HVa:=Aside0.mk (blk_drew HVa.out)
  replace HVb:=Aside0.mk (blk_drew HVb.out)
  refine pure_ (i:=0) (N:=some 20) (v:=?_) (a':=?_) #[t,f,f,f,f,f,f,f,f,f,f,f,f,f,f,f,f] rfl rfl (any_of HT_.out (by kernel_rfl)) (fun _ _ _ h=>h) (Or.inl ⟨by rfl,?_⟩) ?_ ?_
  rotate_left
  · intro w'
    go_simp
    with_reducible rfl
  rotate_left
  · simp only [pS]
    rfl
  refine pure_ (i:=5) (N:=some 25) (v:=?_) (a':=?_) #[t,f,f,f,f,t,f,f,f,f,f,f,f,f,f,f,f] rfl rfl (any_of HT_.out (by kernel_rfl)) (fun _ _ _ h=>h) (Or.inl ⟨by rfl,?_⟩) ?_ ?_
  rotate_left
  · intro w'
    go_simp
    with_reducible rfl
  rotate_left
  · simp only [pS]
    rfl
  refine pure_ (i:=7) (N:=some 27) (v:=?_) (a':=?_) #[t,f,f,f,f,t,f,t,f,f,f,f,f,f,f,f,f] rfl rfl (any_of HT_.out (by kernel_rfl)) (fun _ _ _ h=>h) (Or.inl ⟨by rfl,?_⟩) ?_ ?_
  rotate_left
  · intro w'
    go_simp
    with_reducible rfl
  rotate_left
  · simp only [pS]
    rfl
  refine pure_ (i:=9) (N:=some 29) (v:=?_) (a':=?_) #[t,f,f,f,f,t,f,t,f,t,f,f,f,f,f,f,f] rfl rfl (any_of HT_.out (by kernel_rfl)) (fun _ _ _ h=>h) (Or.inl ⟨by rfl,?_⟩) ?_ ?_
  rotate_left
  · intro w'
    go_simp
    with_reducible rfl
  rotate_left
  · simp only [pS]
    rfl
  refine pure_ (i:=11) (N:=some 31) (v:=?_) (a':=?_) #[t,f,f,f,f,t,f,t,f,t,f,t,f,f,f,f,f] rfl rfl (any_of HT_.out (by kernel_rfl)) (fun _ _ _ h=>h) (Or.inl ⟨by rfl,?_⟩) ?_ ?_
  rotate_left
  · intro w'
    go_simp
    with_reducible rfl
  rotate_left
  · simp only [pS]
    rfl
  refine pure_ (i:=13) (N:=some 33) (v:=?_) (a':=?_) #[t,f,f,f,f,t,f,t,f,t,f,t,f,t,f,f,f] rfl rfl (any_of HT_.out (by kernel_rfl)) (fun _ _ _ h=>h) (Or.inl ⟨by rfl,?_⟩) ?_ ?_
  rotate_left
  · intro w'
    go_simp
    with_reducible rfl
  rotate_left
  · simp only [pS]
    rfl
  refine take_ (i:=1) (N:=some 21) (v:=?_) (a':=?_) #[t,t,f,f,f,t,f,t,f,t,f,t,f,t,f,f,f] rfl rfl (take_ofW HT_.out HW_.out (by kernel_rfl)) (fun _ _ _ h=>h) (Or.inl ⟨by rfl,?_⟩) hHeld ?_ ?_
  rotate_left
  · rintro w' ⟨s0,s1,s2,s3,s4,s5,s6,s7,s8,s9,s10,s11⟩
    go_simp
    with_reducible rfl
  rotate_left
  · simp only [pS]
    rfl
  refine take_ (i:=2) (N:=some 22) (v:=?_) (a':=?_) #[t,t,t,f,f,t,f,t,f,t,f,t,f,t,f,f,f] rfl rfl (take_ofW HT_.out HW_.out (by kernel_rfl)) (fun _ _ _ h=>h) (Or.inl ⟨by rfl,?_⟩) hHeld ?_ ?_
  rotate_left
  · rintro w' ⟨s0,s1,s2,s3,s4,s5,s6,s7,s8,s9,s10,s11⟩
    go_simp
    with_reducible rfl
  rotate_left
  · simp only [pS]
    rfl
  refine take_ (i:=6) (N:=some 26) (v:=?_) (a':=?_) #[t,t,t,f,f,t,t,t,f,t,f,t,f,t,f,f,f] rfl rfl (take_ofW HT_.out HW_.out (by kernel_rfl)) (fun _ _ _ h=>h) (Or.inl ⟨by rfl,?_⟩) hHeld ?_ ?_
  rotate_left
  · rintro w' ⟨s0,s1,s2,s3,s4,s5,s6,s7,s8,s9,s10,s11⟩
    go_simp
    with_reducible rfl
  rotate_left
  · simp only [pS]
    rfl
  refine take_ (i:=8) (N:=some 28) (v:=?_) (a':=?_) #[t,t,t,f,f,t,t,t,t,t,f,t,f,t,f,f,f] rfl rfl (take_ofW HT_.out HW_.out (by kernel_rfl)) (fun _ _ _ h=>h) (Or.inl ⟨by rfl,?_⟩) hHeld ?_ ?_
  rotate_left
  · rintro w' ⟨s0,s1,s2,s3,s4,s5,s6,s7,s8,s9,s10,s11⟩
    go_simp
    with_reducible rfl
  rotate_left
  · simp only [pS]
    rfl
  refine take_ (i:=10) (N:=some 30) (v:=?_) (a':=?_) #[t,t,t,f,f,t,t,t,t,t,t,t,f,t,f,f,f] rfl rfl (take_ofW HT_.out HW_.out (by kernel_rfl)) (fun _ _ _ h=>h) (Or.inl ⟨by rfl,?_⟩) hHeld ?_ ?_
  rotate_left
  · rintro w' ⟨s0,s1,s2,s3,s4,s5,s6,s7,s8,s9,s10,s11⟩
    go_simp
    with_reducible rfl
  rotate_left
  · simp only [pS]
    rfl
  refine take_ (i:=12) (N:=some 32) (v:=?_) (a':=?_) #[t,t,t,f,f,t,t,t,t,t,t,t,t,t,f,f,f] rfl rfl (take_ofW HT_.out HW_.out (by kernel_rfl)) (fun _ _ _ h=>h) (Or.inl ⟨by rfl,?_⟩) hHeld ?_ ?_
  rotate_left
  · rintro w' ⟨s0,s1,s2,s3,s4,s5,s6,s7,s8,s9,s10,s11⟩
    go_simp
    with_reducible rfl
  rotate_left
  · simp only [pS]
    rfl
  refine take_ (i:=14) (N:=some 34) (v:=?_) (a':=?_) #[t,t,t,f,f,t,t,t,t,t,t,t,t,t,t,f,f] rfl rfl (take_ofW HT_.out HW_.out (by kernel_rfl)) (fun _ _ _ h=>h) (Or.inl ⟨by rfl,?_⟩) hHeld ?_ ?_
  rotate_left
  · rintro w' ⟨s0,s1,s2,s3,s4,s5,s6,s7,s8,s9,s10,s11⟩
    go_simp
    with_reducible rfl
  rotate_left
  · simp only [pS]
    rfl
  refine one_ (i:=3) (N:=some 23) #[t,t,t,t,f,t,t,t,t,t,t,t,t,t,t,f,f] rfl rfl (one_of HT_.out (by kernel_rfl)) (by decide) (fun K hK=>?_)
  refine goes_ Tryz.func23 (by kernel_rfl) rfl #[.agg #[.string ⟨#[115,116,111,114,101]⟩,.string d.verb,.slice A d.keys.length c,.string d.data,.int .u32 d.flags,.int .i64 d.exp,.int .u64 d.cas,.int .u64 d.by_,.bool d.withCas,.bool d.withTouch,.bool d.down,.bool d.quiet]] (by rfl) rfl rfl (by (try simp only [List.map_toArray,List.map_cons,List.map_nil]);first | done | rfl) ?_
  refine (key_of' d _ hw (Kd.C_below HR.out HB.out)).mono ?_
  rintro e w1 ⟨rfl,hs⟩
  refine ⟨_,rfl,?_⟩
  replace HB:=Aside0.mk (below_step HB.out hs)
  replace HVa:=Aside0.mk (blk_below HVa.out hs)
  replace HVb:=Aside0.mk (blk_below HVb.out hs)
  clear hs
  refine hK.out _ _ (celL HVa.out) (fun hHeld=>?_)
  clear hK K
  refine norm_ (a':=?_) ?_ ?_
  rotate_left
  · show Act.put _ (some 23) _=_
    simp only [pS]
    rfl
  refine one_ (i:=4) (N:=some 24) #[t,t,t,t,t,t,t,t,t,t,t,t,t,t,t,f,f] rfl rfl (one_of HT_.out (by kernel_rfl)) (by decide) (fun K hK=>?_)
  refine Kd.R_lit_step Kd.string _ 9 ?hg (N:=24) ?hd (xs:=([k1 d]:List ByteArray)) (inner:=[.string (k1 d)]) (ok:=fun _=>True) (okp:=fun _=>True) ?hr ?hp (fun _ hk=>hk) trivial (Below.refl _ _) (Nat.le_refl _) (by simp) ?_;(case hd=>rfl);(case hg=>rfl);(case hr=>first | (go_simp;done) | (go_simp;rfl));(case hp=>exact (Reps.one (show Kd.M Kd.string _ _ _ (k1 d) [.string (k1 d)] from rfl) (Reps.none _ _)))
  intro v w2 ho hs hg_ hnew_
  clear hg_ hnew_
  have HO:=Aside0.mk (Kd.R_lower ho (below_size HB.out))
  replace HB:=Aside0.mk (below_step HB.out hs)
  replace HVa:=Aside0.mk (blk_below HVa.out hs)
  replace HVb:=Aside0.mk (blk_below HVb.out hs)
  clear ho hs
  obtain ⟨Ao,co,eo⟩:=Kd.R_slice HO.out
  replace eo:v=.slice Ao 1 co:=eo
  subst eo
  refine hK.out _ _ (celL HVa.out) (fun hHeld=>?_)
  clear hK K
  refine norm_ (a':=?_) ?_ ?_
  rotate_left
  · show Act.put _ (some 24) _=_
    simp only [pS]
    rfl
  refine pure_ (i:=15) (N:=some 35) (v:=?_) (a':=?_) #[t,t,t,t,t,t,t,t,t,t,t,t,t,t,t,t,f] rfl rfl (any_of HT_.out (by kernel_rfl)) (fun _ _ _ h=>h) (Or.inl ⟨by rfl,?_⟩) ?_ ?_
  rotate_left
  · intro w'
    go_simp
    with_reducible rfl
  rotate_left
  · simp only [pS]
    rfl
  refine one_ (i:=16) (N:=none) #[t,t,t,t,t,t,t,t,t,t,t,t,t,t,t,t,t] rfl rfl (one_of HT_.out (by kernel_rfl)) (by decide) (fun K hK=>?_)
  obtain ⟨x0,x1,x2,x3,x4,x5,x6,x7,x8,x9,x10,x11⟩:=celL HVb.out
  obtain ⟨f0,f1,f2,f3,f4,f5,f6,f7,f8,f9,f10,f11⟩:=froZ HVb.out
  refine skip_ (w1:=?_) (by rfl) rfl ?_ ?_
  rotate_left
  · go_simp
    rfl
  clear x0 x1 x2 x3 x4 x5 x6 x7 x8 x9 x10 x11 f0 f1 f2 f3 f4 f5 f6 f7 f8 f9 f10 f11
  refine hK.out _ _ (celL (bF HVa.out (Nat.ne_of_lt (Nat.lt_succ_self _)))) (fun hHeld=>?_)
  clear hK K
  refine done_ (done_of HT_.out (by kernel_rfl)) ?_
  go_wp2_with fail
  refine bodyPost_ret (results_cell_row rfl _ _ (W.heap.size + 1) 29 #[.string ⟨#[115,116,111,114,101]⟩,.string d.verb,.slice Ao 1 co,.string d.data,.int .u32 d.flags,.int .i64 d.exp,.int .u64 d.cas,.int .u64 0,.bool false,.bool false,.bool false,.bool d.quiet] (0,0) _ rfl (putG HVb.out) Tryz.underlying29 rfl (by kernel_rfl)) rfl ?_
  have hR:=R_far12 (W.heap.size + 1) (Kd.R_types HO.out HVb.out (by decide)) (.string ⟨#[115,116,111,114,101]⟩) (.string d.verb) (.slice Ao 1 co) (.string d.data) (.int .u32 d.flags) (.int .i64 d.exp) (.int .u64 d.cas) (.int .u64 0) (.bool false) (.bool false) (.bool false) (.bool d.quiet)
  exact ⟨_,_,rfl,(Kd.R_reads' hR).2.1,(Kd.R_reads' hR).2.2,below12 HB.out (Nat.le_succ _) _ _ _ _ _ _ _ _ _ _ _ _⟩
def cellaretref17_Back.T7:Bool×List (List Nat×List Nat):=(true,[([],[]),([0],[0]),([1],[1]),([],[]),([3],[3]),([],[]),([5],[5]),([],[]),([7],[7]),([2,4,6,8],[2,4,6,8]),([9,1,0,1,2,3,4,5,6,7,8,9],[9])])
def cellaretref17_Back.B7:List Nat:=[0,1,3,0,8,0,32,0,128,511,1023]
theorem cellaretref17_Back.tab7:rtab .any (opsOf Tryz.f9 7)=cellaretref17_Back.T7:=by kernel_rfl
theorem cellaretref17_Back.bits7:waitsOk cellaretref17_Back.T7.2 cellaretref17_Back.B7=true:=by kernel_rfl
set_option maxHeartbeats 4000000 in
set_option maxRecDepth 100000 in
theorem arith_back (d:Cd) (hw:d.what=arithT) {A:Option Addr} {c:Nat} {W:World} (hk:d.keys.length≤100) (hr:Kd.C Kd.string W A d.keys.length d.keys):Calls Tryz.prog 9 #[cdV d (.slice A d.keys.length c)] W (TellsB (back_arith d) W):=by
  have hu26:=Tryz.underlying26
  have hu29:=Tryz.underlying29
  have hu22:=Tryz.underlying22
  have HR:=Aside0.mk hr
  clear hr
  unfold cdV
  rw [hw]
  go_enter Tryz.func9,Tryz.ntmps9
  go_wp2_with fail
  refine wp_var2 ?_
  intro w0 hs ha hb
  have HVa:=Aside0.mk ha
  have HVb:=Aside0.mk hb
  have HB:=Aside0.mk hs
  clear hs ha hb
  refine start_ (n:=11) (S:=fun w'=>C12 w' (W.heap.size) (.string ⟨#[97,114,105,116,104]⟩) (.string d.verb) (.slice A d.keys.length c) (.string d.data) (.int .u32 d.flags) (.int .i64 d.exp) (.int .u64 d.cas) (.int .u64 d.by_) (.bool d.withCas) (.bool d.withTouch) (.bool d.down) (.bool d.quiet)) (ds:=[]) #[f,f,f,f,f,f,f,f,f,f,f] (by kernel_rfl) rfl rfl (celL HVa.out) (fun hHeld=>?_)
  refine with_tabW cellaretref17_Back.tab7 cellaretref17_Back.bits7 (fun HT_ HW_=>?_)
  replace HB:=Aside0.mk (below_drew1 HB.out)
  replace HVa:=Aside0.mk (blk_drew HVa.out)
  replace HVb:=Aside0.mk (blk_drew HVb.out)
  refine pure_ (i:=3) (N:=some 41) (v:=?_) (a':=?_) #[f,f,f,t,f,f,f,f,f,f,f] rfl rfl (any_of HT_.out (by kernel_rfl)) (fun _ _ _ h=>h) (Or.inl ⟨by rfl,?_⟩) ?_ ?_
  rotate_left
  · intro w'
    go_simp
    with_reducible rfl
  rotate_left
  · simp only [pS]
    rfl
  refine pure_ (i:=5) (N:=some 43) (v:=?_) (a':=?_) #[f,f,f,t,f,t,f,f,f,f,f] rfl rfl (any_of HT_.out (by kernel_rfl)) (fun _ _ _ h=>h) (Or.inl ⟨by rfl,?_⟩) ?_ ?_
  rotate_left
  · intro w'
    go_simp
    with_reducible rfl
  rotate_left
  · simp only [pS]
    rfl
  refine pure_ (i:=7) (N:=some 45) (v:=?_) (a':=?_) #[f,f,f,t,f,t,f,t,f,f,f] rfl rfl (any_of HT_.out (by kernel_rfl)) (fun _ _ _ h=>h) (Or.inl ⟨by rfl,?_⟩) ?_ ?_
  rotate_left
  · intro w'
    go_simp
    with_reducible rfl
  rotate_left
  · simp only [pS]
    rfl
  refine take_ (i:=0) (N:=some 38) (v:=?_) (a':=?_) #[t,f,f,t,f,t,f,t,f,f,f] rfl rfl (take_ofW HT_.out HW_.out (by kernel_rfl)) (fun _ _ _ h=>h) (Or.inl ⟨by rfl,?_⟩) hHeld ?_ ?_
  rotate_left
  · rintro w' ⟨s0,s1,s2,s3,s4,s5,s6,s7,s8,s9,s10,s11⟩
    go_simp
    with_reducible rfl
  rotate_left
  · simp only [pS]
    rfl
  refine take_ (i:=4) (N:=some 42) (v:=?_) (a':=?_) #[t,f,f,t,t,t,f,t,f,f,f] rfl rfl (take_ofW HT_.out HW_.out (by kernel_rfl)) (fun _ _ _ h=>h) (Or.inl ⟨by rfl,?_⟩) hHeld ?_ ?_
  rotate_left
  · rintro w' ⟨s0,s1,s2,s3,s4,s5,s6,s7,s8,s9,s10,s11⟩
    go_simp
    with_reducible rfl
  rotate_left
  · simp only [pS]
    rfl
  refine take_ (i:=6) (N:=some 44) (v:=?_) (a':=?_) #[t,f,f,t,t,t,t,t,f,f,f] rfl rfl (take_ofW HT_.out HW_.out (by kernel_rfl)) (fun _ _ _ h=>h) (Or.inl ⟨by rfl,?_⟩) hHeld ?_ ?_
  rotate_left
  · rintro w' ⟨s0,s1,s2,s3,s4,s5,s6,s7,s8,s9,s10,s11⟩
    go_simp
    with_reducible rfl
  rotate_left
  · simp only [pS]
    rfl
  refine take_ (i:=8) (N:=some 46) (v:=?_) (a':=?_) #[t,f,f,t,t,t,t,t,t,f,f] rfl rfl (take_ofW HT_.out HW_.out (by kernel_rfl)) (fun _ _ _ h=>h) (Or.inl ⟨by rfl,?_⟩) hHeld ?_ ?_
  rotate_left
  · rintro w' ⟨s0,s1,s2,s3,s4,s5,s6,s7,s8,s9,s10,s11⟩
    go_simp
    with_reducible rfl
  rotate_left
  · simp only [pS]
    rfl
  refine one_ (i:=1) (N:=some 39) #[t,t,f,t,t,t,t,t,t,f,f] rfl rfl (one_of HT_.out (by kernel_rfl)) (by decide) (fun K hK=>?_)
  refine goes_ Tryz.func23 (by kernel_rfl) rfl #[.agg #[.string ⟨#[97,114,105,116,104]⟩,.string d.verb,.slice A d.keys.length c,.string d.data,.int .u32 d.flags,.int .i64 d.exp,.int .u64 d.cas,.int .u64 d.by_,.bool d.withCas,.bool d.withTouch,.bool d.down,.bool d.quiet]] (by rfl) rfl rfl (by (try simp only [List.map_toArray,List.map_cons,List.map_nil]);first | done | rfl) ?_
  refine (key_of' d _ hw (Kd.C_below HR.out HB.out)).mono ?_
  rintro e w1 ⟨rfl,hs⟩
  refine ⟨_,rfl,?_⟩
  replace HB:=Aside0.mk (below_step HB.out hs)
  replace HVa:=Aside0.mk (blk_below HVa.out hs)
  replace HVb:=Aside0.mk (blk_below HVb.out hs)
  clear hs
  refine hK.out _ _ (celL HVa.out) (fun hHeld=>?_)
  clear hK K
  refine norm_ (a':=?_) ?_ ?_
  rotate_left
  · show Act.put _ (some 39) _=_
    simp only [pS]
    rfl
  refine one_ (i:=2) (N:=some 40) #[t,t,t,t,t,t,t,t,t,f,f] rfl rfl (one_of HT_.out (by kernel_rfl)) (by decide) (fun K hK=>?_)
  refine Kd.R_lit_step Kd.string _ 9 ?hg (N:=40) ?hd (xs:=([k1 d]:List ByteArray)) (inner:=[.string (k1 d)]) (ok:=fun _=>True) (okp:=fun _=>True) ?hr ?hp (fun _ hk=>hk) trivial (Below.refl _ _) (Nat.le_refl _) (by simp) ?_;(case hd=>rfl);(case hg=>rfl);(case hr=>first | (go_simp;done) | (go_simp;rfl));(case hp=>exact (Reps.one (show Kd.M Kd.string _ _ _ (k1 d) [.string (k1 d)] from rfl) (Reps.none _ _)))
  intro v w2 ho hs hg_ hnew_
  clear hg_ hnew_
  have HO:=Aside0.mk (Kd.R_lower ho (below_size HB.out))
  replace HB:=Aside0.mk (below_step HB.out hs)
  replace HVa:=Aside0.mk (blk_below HVa.out hs)
  replace HVb:=Aside0.mk (blk_below HVb.out hs)
  clear ho hs
  obtain ⟨Ao,co,eo⟩:=Kd.R_slice HO.out
  replace eo:v=.slice Ao 1 co:=eo
  subst eo
  refine hK.out _ _ (celL HVa.out) (fun hHeld=>?_)
  clear hK K
  refine norm_ (a':=?_) ?_ ?_
  rotate_left
  · show Act.put _ (some 40) _=_
    simp only [pS]
    rfl
  refine pure_ (i:=9) (N:=some 47) (v:=?_) (a':=?_) #[t,t,t,t,t,t,t,t,t,t,f] rfl rfl (any_of HT_.out (by kernel_rfl)) (fun _ _ _ h=>h) (Or.inl ⟨by rfl,?_⟩) ?_ ?_
  rotate_left
  · intro w'
    go_simp
    with_reducible rfl
  rotate_left
  · simp only [pS]
    rfl
  refine one_ (i:=10) (N:=none) #[t,t,t,t,t,t,t,t,t,t,t] rfl rfl (one_of HT_.out (by kernel_rfl)) (by decide) (fun K hK=>?_)
  obtain ⟨x0,x1,x2,x3,x4,x5,x6,x7,x8,x9,x10,x11⟩:=celL HVb.out
  obtain ⟨f0,f1,f2,f3,f4,f5,f6,f7,f8,f9,f10,f11⟩:=froZ HVb.out
  refine skip_ (w1:=?_) (by rfl) rfl ?_ ?_
  rotate_left
  · go_simp
    rfl
  clear x0 x1 x2 x3 x4 x5 x6 x7 x8 x9 x10 x11 f0 f1 f2 f3 f4 f5 f6 f7 f8 f9 f10 f11
  refine hK.out _ _ (celL (bF HVa.out (Nat.ne_of_lt (Nat.lt_succ_self _)))) (fun hHeld=>?_)
  clear hK K
  refine done_ (done_of HT_.out (by kernel_rfl)) ?_
  go_wp2_with fail
  refine bodyPost_ret (results_cell_row rfl _ _ (W.heap.size + 1) 29 #[.string ⟨#[97,114,105,116,104]⟩,.string ez,.slice Ao 1 co,.string ez,.int .u32 0,.int .i64 0,.int .u64 0,.int .u64 d.by_,.bool false,.bool false,.bool d.down,.bool d.quiet] (0,0) _ rfl (putG HVb.out) Tryz.underlying29 rfl (by kernel_rfl)) rfl ?_
  have hR:=R_far12 (W.heap.size + 1) (Kd.R_types HO.out HVb.out (by decide)) (.string ⟨#[97,114,105,116,104]⟩) (.string ez) (.slice Ao 1 co) (.string ez) (.int .u32 0) (.int .i64 0) (.int .u64 0) (.int .u64 d.by_) (.bool false) (.bool false) (.bool d.down) (.bool d.quiet)
  exact ⟨_,_,rfl,(Kd.R_reads' hR).2.1,(Kd.R_reads' hR).2.2,below12 HB.out (Nat.le_succ _) _ _ _ _ _ _ _ _ _ _ _ _⟩
def cellaretref17_Back.T9:Bool×List (List Nat×List Nat):=(true,[([],[]),([0],[0]),([1],[1]),([],[]),([3],[3]),([],[]),([5],[5]),([2,4,6],[2,4,6]),([7,1,0,1,2,3,4,5,6,7],[7])])
def cellaretref17_Back.B9:List Nat:=[0,1,3,0,8,0,32,127,255]
theorem cellaretref17_Back.tab9:rtab .any (opsOf Tryz.f9 9)=cellaretref17_Back.T9:=by kernel_rfl
theorem cellaretref17_Back.bits9:waitsOk cellaretref17_Back.T9.2 cellaretref17_Back.B9=true:=by kernel_rfl
set_option maxHeartbeats 4000000 in
set_option maxRecDepth 100000 in
theorem touch_back (d:Cd) (hw:d.what=touchT) {A:Option Addr} {c:Nat} {W:World} (hk:d.keys.length≤100) (hr:Kd.C Kd.string W A d.keys.length d.keys):Calls Tryz.prog 9 #[cdV d (.slice A d.keys.length c)] W (TellsB (back_touch d) W):=by
  have hu26:=Tryz.underlying26
  have hu29:=Tryz.underlying29
  have hu22:=Tryz.underlying22
  have HR:=Aside0.mk hr
  clear hr
  unfold cdV
  rw [hw]
  go_enter Tryz.func9,Tryz.ntmps9
  go_wp2_with fail
  refine wp_var2 ?_
  intro w0 hs ha hb
  have HVa:=Aside0.mk ha
  have HVb:=Aside0.mk hb
  have HB:=Aside0.mk hs
  clear hs ha hb
  refine start_ (n:=9) (S:=fun w'=>C12 w' (W.heap.size) (.string ⟨#[116,111,117,99,104]⟩) (.string d.verb) (.slice A d.keys.length c) (.string d.data) (.int .u32 d.flags) (.int .i64 d.exp) (.int .u64 d.cas) (.int .u64 d.by_) (.bool d.withCas) (.bool d.withTouch) (.bool d.down) (.bool d.quiet)) (ds:=[]) #[f,f,f,f,f,f,f,f,f] (by kernel_rfl) rfl rfl (celL HVa.out) (fun hHeld=>?_)
  refine with_tabW cellaretref17_Back.tab9 cellaretref17_Back.bits9 (fun HT_ HW_=>?_)
  replace HB:=Aside0.mk (below_drew1 HB.out)
  replace HVa:=Aside0.mk (blk_drew HVa.out)
  replace HVb:=Aside0.mk (blk_drew HVb.out)
  refine pure_ (i:=3) (N:=some 53) (v:=?_) (a':=?_) #[f,f,f,t,f,f,f,f,f] rfl rfl (any_of HT_.out (by kernel_rfl)) (fun _ _ _ h=>h) (Or.inl ⟨by rfl,?_⟩) ?_ ?_
  rotate_left
  · intro w'
    go_simp
    with_reducible rfl
  rotate_left
  · simp only [pS]
    rfl
  refine pure_ (i:=5) (N:=some 55) (v:=?_) (a':=?_) #[f,f,f,t,f,t,f,f,f] rfl rfl (any_of HT_.out (by kernel_rfl)) (fun _ _ _ h=>h) (Or.inl ⟨by rfl,?_⟩) ?_ ?_
  rotate_left
  · intro w'
    go_simp
    with_reducible rfl
  rotate_left
  · simp only [pS]
    rfl
  refine take_ (i:=0) (N:=some 50) (v:=?_) (a':=?_) #[t,f,f,t,f,t,f,f,f] rfl rfl (take_ofW HT_.out HW_.out (by kernel_rfl)) (fun _ _ _ h=>h) (Or.inl ⟨by rfl,?_⟩) hHeld ?_ ?_
  rotate_left
  · rintro w' ⟨s0,s1,s2,s3,s4,s5,s6,s7,s8,s9,s10,s11⟩
    go_simp
    with_reducible rfl
  rotate_left
  · simp only [pS]
    rfl
  refine take_ (i:=4) (N:=some 54) (v:=?_) (a':=?_) #[t,f,f,t,t,t,f,f,f] rfl rfl (take_ofW HT_.out HW_.out (by kernel_rfl)) (fun _ _ _ h=>h) (Or.inl ⟨by rfl,?_⟩) hHeld ?_ ?_
  rotate_left
  · rintro w' ⟨s0,s1,s2,s3,s4,s5,s6,s7,s8,s9,s10,s11⟩
    go_simp
    with_reducible rfl
  rotate_left
  · simp only [pS]
    rfl
  refine take_ (i:=6) (N:=some 56) (v:=?_) (a':=?_) #[t,f,f,t,t,t,t,f,f] rfl rfl (take_ofW HT_.out HW_.out (by kernel_rfl)) (fun _ _ _ h=>h) (Or.inl ⟨by rfl,?_⟩) hHeld ?_ ?_
  rotate_left
  · rintro w' ⟨s0,s1,s2,s3,s4,s5,s6,s7,s8,s9,s10,s11⟩
    go_simp
    with_reducible rfl
  rotate_left
  · simp only [pS]
    rfl
  refine one_ (i:=1) (N:=some 51) #[t,t,f,t,t,t,t,f,f] rfl rfl (one_of HT_.out (by kernel_rfl)) (by decide) (fun K hK=>?_)
  refine goes_ Tryz.func23 (by kernel_rfl) rfl #[.agg #[.string ⟨#[116,111,117,99,104]⟩,.string d.verb,.slice A d.keys.length c,.string d.data,.int .u32 d.flags,.int .i64 d.exp,.int .u64 d.cas,.int .u64 d.by_,.bool d.withCas,.bool d.withTouch,.bool d.down,.bool d.quiet]] (by rfl) rfl rfl (by (try simp only [List.map_toArray,List.map_cons,List.map_nil]);first | done | rfl) ?_
  refine (key_of' d _ hw (Kd.C_below HR.out HB.out)).mono ?_
  rintro e w1 ⟨rfl,hs⟩
  refine ⟨_,rfl,?_⟩
  replace HB:=Aside0.mk (below_step HB.out hs)
  replace HVa:=Aside0.mk (blk_below HVa.out hs)
  replace HVb:=Aside0.mk (blk_below HVb.out hs)
  clear hs
  refine hK.out _ _ (celL HVa.out) (fun hHeld=>?_)
  clear hK K
  refine norm_ (a':=?_) ?_ ?_
  rotate_left
  · show Act.put _ (some 51) _=_
    simp only [pS]
    rfl
  refine one_ (i:=2) (N:=some 52) #[t,t,t,t,t,t,t,f,f] rfl rfl (one_of HT_.out (by kernel_rfl)) (by decide) (fun K hK=>?_)
  refine Kd.R_lit_step Kd.string _ 9 ?hg (N:=52) ?hd (xs:=([k1 d]:List ByteArray)) (inner:=[.string (k1 d)]) (ok:=fun _=>True) (okp:=fun _=>True) ?hr ?hp (fun _ hk=>hk) trivial (Below.refl _ _) (Nat.le_refl _) (by simp) ?_;(case hd=>rfl);(case hg=>rfl);(case hr=>first | (go_simp;done) | (go_simp;rfl));(case hp=>exact (Reps.one (show Kd.M Kd.string _ _ _ (k1 d) [.string (k1 d)] from rfl) (Reps.none _ _)))
  intro v w2 ho hs hg_ hnew_
  clear hg_ hnew_
  have HO:=Aside0.mk (Kd.R_lower ho (below_size HB.out))
  replace HB:=Aside0.mk (below_step HB.out hs)
  replace HVa:=Aside0.mk (blk_below HVa.out hs)
  replace HVb:=Aside0.mk (blk_below HVb.out hs)
  clear ho hs
  obtain ⟨Ao,co,eo⟩:=Kd.R_slice HO.out
  replace eo:v=.slice Ao 1 co:=eo
  subst eo
  refine hK.out _ _ (celL HVa.out) (fun hHeld=>?_)
  clear hK K
  refine norm_ (a':=?_) ?_ ?_
  rotate_left
  · show Act.put _ (some 52) _=_
    simp only [pS]
    rfl
  refine pure_ (i:=7) (N:=some 57) (v:=?_) (a':=?_) #[t,t,t,t,t,t,t,t,f] rfl rfl (any_of HT_.out (by kernel_rfl)) (fun _ _ _ h=>h) (Or.inl ⟨by rfl,?_⟩) ?_ ?_
  rotate_left
  · intro w'
    go_simp
    with_reducible rfl
  rotate_left
  · simp only [pS]
    rfl
  refine one_ (i:=8) (N:=none) #[t,t,t,t,t,t,t,t,t] rfl rfl (one_of HT_.out (by kernel_rfl)) (by decide) (fun K hK=>?_)
  obtain ⟨x0,x1,x2,x3,x4,x5,x6,x7,x8,x9,x10,x11⟩:=celL HVb.out
  obtain ⟨f0,f1,f2,f3,f4,f5,f6,f7,f8,f9,f10,f11⟩:=froZ HVb.out
  refine skip_ (w1:=?_) (by rfl) rfl ?_ ?_
  rotate_left
  · go_simp
    rfl
  clear x0 x1 x2 x3 x4 x5 x6 x7 x8 x9 x10 x11 f0 f1 f2 f3 f4 f5 f6 f7 f8 f9 f10 f11
  refine hK.out _ _ (celL (bF HVa.out (Nat.ne_of_lt (Nat.lt_succ_self _)))) (fun hHeld=>?_)
  clear hK K
  refine done_ (done_of HT_.out (by kernel_rfl)) ?_
  go_wp2_with fail
  refine bodyPost_ret (results_cell_row rfl _ _ (W.heap.size + 1) 29 #[.string ⟨#[116,111,117,99,104]⟩,.string ez,.slice Ao 1 co,.string ez,.int .u32 0,.int .i64 d.exp,.int .u64 0,.int .u64 0,.bool false,.bool false,.bool false,.bool d.quiet] (0,0) _ rfl (putG HVb.out) Tryz.underlying29 rfl (by kernel_rfl)) rfl ?_
  have hR:=R_far12 (W.heap.size + 1) (Kd.R_types HO.out HVb.out (by decide)) (.string ⟨#[116,111,117,99,104]⟩) (.string ez) (.slice Ao 1 co) (.string ez) (.int .u32 0) (.int .i64 d.exp) (.int .u64 0) (.int .u64 0) (.bool false) (.bool false) (.bool false) (.bool d.quiet)
  exact ⟨_,_,rfl,(Kd.R_reads' hR).2.1,(Kd.R_reads' hR).2.2,below12 HB.out (Nat.le_succ _) _ _ _ _ _ _ _ _ _ _ _ _⟩
def cellaretref17_Back.T11:Bool×List (List Nat×List Nat):=(true,[([],[]),([0],[0]),([1],[1]),([],[]),([3],[3]),([2,4],[2,4]),([5,1,0,1,2,3,4,5],[5])])
def cellaretref17_Back.B11:List Nat:=[0,1,3,0,8,31,63]
theorem cellaretref17_Back.tab11:rtab .any (opsOf Tryz.f9 11)=cellaretref17_Back.T11:=by kernel_rfl
theorem cellaretref17_Back.bits11:waitsOk cellaretref17_Back.T11.2 cellaretref17_Back.B11=true:=by kernel_rfl
set_option maxHeartbeats 4000000 in
set_option maxRecDepth 100000 in
theorem delete_back (d:Cd) (hw:d.what=deleteT) {A:Option Addr} {c:Nat} {W:World} (hk:d.keys.length≤100) (hr:Kd.C Kd.string W A d.keys.length d.keys):Calls Tryz.prog 9 #[cdV d (.slice A d.keys.length c)] W (TellsB (back_delete d) W):=by
  have hu26:=Tryz.underlying26
  have hu29:=Tryz.underlying29
  have hu22:=Tryz.underlying22
  have HR:=Aside0.mk hr
  clear hr
  unfold cdV
  rw [hw]
  go_enter Tryz.func9,Tryz.ntmps9
  go_wp2_with fail
  refine wp_var2 ?_
  intro w0 hs ha hb
  have HVa:=Aside0.mk ha
  have HVb:=Aside0.mk hb
  have HB:=Aside0.mk hs
  clear hs ha hb
  refine start_ (n:=7) (S:=fun w'=>C12 w' (W.heap.size) (.string ⟨#[100,101,108,101,116,101]⟩) (.string d.verb) (.slice A d.keys.length c) (.string d.data) (.int .u32 d.flags) (.int .i64 d.exp) (.int .u64 d.cas) (.int .u64 d.by_) (.bool d.withCas) (.bool d.withTouch) (.bool d.down) (.bool d.quiet)) (ds:=[]) #[f,f,f,f,f,f,f] (by kernel_rfl) rfl rfl (celL HVa.out) (fun hHeld=>?_)
  refine with_tabW cellaretref17_Back.tab11 cellaretref17_Back.bits11 (fun HT_ HW_=>?_)
  replace HB:=Aside0.mk (below_drew1 HB.out)
  replace HVa:=Aside0.mk (blk_drew HVa.out)
  replace HVb:=Aside0.mk (blk_drew HVb.out)
  refine pure_ (i:=3) (N:=some 63) (v:=?_) (a':=?_) #[f,f,f,t,f,f,f] rfl rfl (any_of HT_.out (by kernel_rfl)) (fun _ _ _ h=>h) (Or.inl ⟨by rfl,?_⟩) ?_ ?_
  rotate_left
  · intro w'
    go_simp
    with_reducible rfl
  rotate_left
  · simp only [pS]
    rfl
  refine take_ (i:=0) (N:=some 60) (v:=?_) (a':=?_) #[t,f,f,t,f,f,f] rfl rfl (take_ofW HT_.out HW_.out (by kernel_rfl)) (fun _ _ _ h=>h) (Or.inl ⟨by rfl,?_⟩) hHeld ?_ ?_
  rotate_left
  · rintro w' ⟨s0,s1,s2,s3,s4,s5,s6,s7,s8,s9,s10,s11⟩
    go_simp
    with_reducible rfl
  rotate_left
  · simp only [pS]
    rfl
  refine take_ (i:=4) (N:=some 64) (v:=?_) (a':=?_) #[t,f,f,t,t,f,f] rfl rfl (take_ofW HT_.out HW_.out (by kernel_rfl)) (fun _ _ _ h=>h) (Or.inl ⟨by rfl,?_⟩) hHeld ?_ ?_
  rotate_left
  · rintro w' ⟨s0,s1,s2,s3,s4,s5,s6,s7,s8,s9,s10,s11⟩
    go_simp
    with_reducible rfl
  rotate_left
  · simp only [pS]
    rfl
  refine one_ (i:=1) (N:=some 61) #[t,t,f,t,t,f,f] rfl rfl (one_of HT_.out (by kernel_rfl)) (by decide) (fun K hK=>?_)
  refine goes_ Tryz.func23 (by kernel_rfl) rfl #[.agg #[.string ⟨#[100,101,108,101,116,101]⟩,.string d.verb,.slice A d.keys.length c,.string d.data,.int .u32 d.flags,.int .i64 d.exp,.int .u64 d.cas,.int .u64 d.by_,.bool d.withCas,.bool d.withTouch,.bool d.down,.bool d.quiet]] (by rfl) rfl rfl (by (try simp only [List.map_toArray,List.map_cons,List.map_nil]);first | done | rfl) ?_
  refine (key_of' d _ hw (Kd.C_below HR.out HB.out)).mono ?_
  rintro e w1 ⟨rfl,hs⟩
  refine ⟨_,rfl,?_⟩
  replace HB:=Aside0.mk (below_step HB.out hs)
  replace HVa:=Aside0.mk (blk_below HVa.out hs)
  replace HVb:=Aside0.mk (blk_below HVb.out hs)
  clear hs
  refine hK.out _ _ (celL HVa.out) (fun hHeld=>?_)
  clear hK K
  refine norm_ (a':=?_) ?_ ?_
  rotate_left
  · show Act.put _ (some 61) _=_
    simp only [pS]
    rfl
  refine one_ (i:=2) (N:=some 62) #[t,t,t,t,t,f,f] rfl rfl (one_of HT_.out (by kernel_rfl)) (by decide) (fun K hK=>?_)
  refine Kd.R_lit_step Kd.string _ 9 ?hg (N:=62) ?hd (xs:=([k1 d]:List ByteArray)) (inner:=[.string (k1 d)]) (ok:=fun _=>True) (okp:=fun _=>True) ?hr ?hp (fun _ hk=>hk) trivial (Below.refl _ _) (Nat.le_refl _) (by simp) ?_;(case hd=>rfl);(case hg=>rfl);(case hr=>first | (go_simp;done) | (go_simp;rfl));(case hp=>exact (Reps.one (show Kd.M Kd.string _ _ _ (k1 d) [.string (k1 d)] from rfl) (Reps.none _ _)))
  intro v w2 ho hs hg_ hnew_
  clear hg_ hnew_
  have HO:=Aside0.mk (Kd.R_lower ho (below_size HB.out))
  replace HB:=Aside0.mk (below_step HB.out hs)
  replace HVa:=Aside0.mk (blk_below HVa.out hs)
  replace HVb:=Aside0.mk (blk_below HVb.out hs)
  clear ho hs
  obtain ⟨Ao,co,eo⟩:=Kd.R_slice HO.out
  replace eo:v=.slice Ao 1 co:=eo
  subst eo
  refine hK.out _ _ (celL HVa.out) (fun hHeld=>?_)
  clear hK K
  refine norm_ (a':=?_) ?_ ?_
  rotate_left
  · show Act.put _ (some 62) _=_
    simp only [pS]
    rfl
  refine pure_ (i:=5) (N:=some 65) (v:=?_) (a':=?_) #[t,t,t,t,t,t,f] rfl rfl (any_of HT_.out (by kernel_rfl)) (fun _ _ _ h=>h) (Or.inl ⟨by rfl,?_⟩) ?_ ?_
  rotate_left
  · intro w'
    go_simp
    with_reducible rfl
  rotate_left
  · simp only [pS]
    rfl
  refine one_ (i:=6) (N:=none) #[t,t,t,t,t,t,t] rfl rfl (one_of HT_.out (by kernel_rfl)) (by decide) (fun K hK=>?_)
  obtain ⟨x0,x1,x2,x3,x4,x5,x6,x7,x8,x9,x10,x11⟩:=celL HVb.out
  obtain ⟨f0,f1,f2,f3,f4,f5,f6,f7,f8,f9,f10,f11⟩:=froZ HVb.out
  refine skip_ (w1:=?_) (by rfl) rfl ?_ ?_
  rotate_left
  · go_simp
    rfl
  clear x0 x1 x2 x3 x4 x5 x6 x7 x8 x9 x10 x11 f0 f1 f2 f3 f4 f5 f6 f7 f8 f9 f10 f11
  refine hK.out _ _ (celL (bF HVa.out (Nat.ne_of_lt (Nat.lt_succ_self _)))) (fun hHeld=>?_)
  clear hK K
  refine done_ (done_of HT_.out (by kernel_rfl)) ?_
  go_wp2_with fail
  refine bodyPost_ret (results_cell_row rfl _ _ (W.heap.size + 1) 29 #[.string ⟨#[100,101,108,101,116,101]⟩,.string ez,.slice Ao 1 co,.string ez,.int .u32 0,.int .i64 0,.int .u64 0,.int .u64 0,.bool false,.bool false,.bool false,.bool d.quiet] (0,0) _ rfl (putG HVb.out) Tryz.underlying29 rfl (by kernel_rfl)) rfl ?_
  have hR:=R_far12 (W.heap.size + 1) (Kd.R_types HO.out HVb.out (by decide)) (.string ⟨#[100,101,108,101,116,101]⟩) (.string ez) (.slice Ao 1 co) (.string ez) (.int .u32 0) (.int .i64 0) (.int .u64 0) (.int .u64 0) (.bool false) (.bool false) (.bool false) (.bool d.quiet)
  exact ⟨_,_,rfl,(Kd.R_reads' hR).2.1,(Kd.R_reads' hR).2.2,below12 HB.out (Nat.le_succ _) _ _ _ _ _ _ _ _ _ _ _ _⟩
set_option maxHeartbeats 4000000 in
set_option maxRecDepth 100000 in
theorem flush_back (d:Cd) (hw:d.what=flushT) {A:Option Addr} {c:Nat} {W:World} (hk:d.keys.length≤100) (hr:Kd.C Kd.string W A d.keys.length d.keys):Calls Tryz.prog 9 #[cdV d (.slice A d.keys.length c)] W (TellsB (back_flush d) W):=by
  have hu26:=Tryz.underlying26
  have hu29:=Tryz.underlying29
  have hu22:=Tryz.underlying22
  have HR:=Aside0.mk hr
  clear hr
  unfold cdV
  rw [hw]
  go_enter Tryz.func9,Tryz.ntmps9
  go_wp2_with (first | ((with_reducible refine gate_dst (N:=1) rfl ?_);refine box_event ?hg (N:=1) ?hd (cs:=?cs1) (t:=26) ?hr ?_;(case hd=>rfl);(case hg=>rfl);(case hr=>first | (go_simp;done) | (go_simp;rfl));intro g1 hg w1 hbox hb;have HB:=Aside0.mk hb;have H1:=Aside0.mk hbox;have G1:=Aside0.mk (Nat.le_of_eq hg.symm);clear hb hbox hg) | ((with_reducible refine gate_dst (N:=2) rfl ?_);refine box_event ?hg (N:=2) ?hd (cs:=?cs2) (t:=29) ?hr ?_;(case hd=>rfl);(case hg=>rfl);(case hr=>first | (go_simp;done) | (go_simp;rfl));intro g2 hg w2 hbox hb;have L12:=Aside0.mk (show g1 < g2 by rw [hg];exact blk_lt H1.out);replace H1:=Aside0.mk (blk_below H1.out hb);replace HB:=Aside0.mk (below_step HB.out hb);have H2:=Aside0.mk hbox;clear hb hbox hg;have e12:=Nat.ne_of_lt L12.out;have e21:=Nat.ne_of_gt L12.out;obtain ⟨x0,x1,x2,x3,x4,x5,x6,x7,x8,x9,x10,x11⟩:=celL H1.out;obtain ⟨y0,y1,y2,y3,y4,y5,y6,y7,y8,y9,y10,y11⟩:=celL H2.out;obtain ⟨z0,z1,z2,z3,z4,z5,z6,z7,z8,z9,z10,z11⟩:=froZ H2.out) | ((with_reducible refine gate_store (t:=29) (p:=2) rfl ?_);refine store_event (t:=29) (p:=2) (v:=?vo3) (w1:=?wo3) ?hg ?ho ?hn ?hr ?_;(case ho=>rfl);(case hg=>rfl);(case hn=>rfl);(case hr=>first | (go_simp;done) | (go_simp;rfl));intro w3 hw;replace H2:=Aside0.mk (heap_to (putG H2.out) hw);replace HB:=Aside0.mk (below_to (below12 HB.out (Nat.le_of_lt (Nat.lt_of_le_of_lt G1.out L12.out)) _ _ _ _ _ _ _ _ _ _ _ _) hw);clear hw;clear x0 x1 x2 x3 x4 x5 x6 x7 x8 x9 x10 x11 y0 y1 y2 y3 y4 y5 y6 y7 y8 y9 y10 y11 z0 z1 z2 z3 z4 z5 z6 z7 z8 z9 z10 z11))
  refine bodyPost_ret (results_cell_row rfl _ _ g2 29 #[.string ⟨#[102,108,117,115,104]⟩,.string ez,.slice none 0 0,.string ez,.int .u32 0,.int .i64 0,.int .u64 0,.int .u64 0,.bool false,.bool false,.bool false,.bool d.quiet] (0,0) _ rfl H2.out Tryz.underlying29 rfl (by kernel_rfl)) rfl ?_
  exact ⟨none,0,rfl,Nat.zero_le _,C_none none,HB.out⟩
set_option maxHeartbeats 4000000 in
set_option maxRecDepth 100000 in
theorem bad_back (d:Cd) (hw:d.what=badT) {A:Option Addr} {c:Nat} {W:World} (hk:d.keys.length≤100) (hr:Kd.C Kd.string W A d.keys.length d.keys):Calls Tryz.prog 9 #[cdV d (.slice A d.keys.length c)] W (TellsB (back_bad d) W):=by
  have hu26:=Tryz.underlying26
  have hu29:=Tryz.underlying29
  have hu22:=Tryz.underlying22
  have HR:=Aside0.mk hr
  clear hr
  unfold cdV
  rw [hw]
  go_enter Tryz.func9,Tryz.ntmps9
  go_wp2_with (first | ((with_reducible refine gate_dst (N:=1) rfl ?_);refine box_event ?hg (N:=1) ?hd (cs:=?cs1) (t:=26) ?hr ?_;(case hd=>rfl);(case hg=>rfl);(case hr=>first | (go_simp;done) | (go_simp;rfl));intro g1 hg w1 hbox hb;have HB:=Aside0.mk hb;have H1:=Aside0.mk hbox;have G1:=Aside0.mk (Nat.le_of_eq hg.symm);clear hb hbox hg) | ((with_reducible refine gate_dst (N:=2) rfl ?_);refine box_event ?hg (N:=2) ?hd (cs:=?cs2) (t:=29) ?hr ?_;(case hd=>rfl);(case hg=>rfl);(case hr=>first | (go_simp;done) | (go_simp;rfl));intro g2 hg w2 hbox hb;have L12:=Aside0.mk (show g1 < g2 by rw [hg];exact blk_lt H1.out);replace H1:=Aside0.mk (blk_below H1.out hb);replace HB:=Aside0.mk (below_step HB.out hb);have H2:=Aside0.mk hbox;clear hb hbox hg;have e12:=Nat.ne_of_lt L12.out;have e21:=Nat.ne_of_gt L12.out;obtain ⟨x0,x1,x2,x3,x4,x5,x6,x7,x8,x9,x10,x11⟩:=celL H1.out;obtain ⟨y0,y1,y2,y3,y4,y5,y6,y7,y8,y9,y10,y11⟩:=celL H2.out;obtain ⟨z0,z1,z2,z3,z4,z5,z6,z7,z8,z9,z10,z11⟩:=froZ H2.out) | ((with_reducible refine gate_store (t:=29) (p:=2) rfl ?_);refine store_event (t:=29) (p:=2) (v:=?vo3) (w1:=?wo3) ?hg ?ho ?hn ?hr ?_;(case ho=>rfl);(case hg=>rfl);(case hn=>rfl);(case hr=>first | (go_simp;done) | (go_simp;rfl));intro w3 hw;replace H2:=Aside0.mk (heap_to (putG H2.out) hw);replace HB:=Aside0.mk (below_to (below12 HB.out (Nat.le_of_lt (Nat.lt_of_le_of_lt G1.out L12.out)) _ _ _ _ _ _ _ _ _ _ _ _) hw);clear hw;clear x0 x1 x2 x3 x4 x5 x6 x7 x8 x9 x10 x11 y0 y1 y2 y3 y4 y5 y6 y7 y8 y9 y10 y11 z0 z1 z2 z3 z4 z5 z6 z7 z8 z9 z10 z11))
  refine bodyPost_ret (results_cell_row rfl _ _ g2 29 #[.string ⟨#[98,97,100]⟩,.string d.verb,.slice none 0 0,.string ez,.int .u32 0,.int .i64 0,.int .u64 0,.int .u64 0,.bool false,.bool false,.bool false,.bool false] (0,0) _ rfl H2.out Tryz.underlying29 rfl (by kernel_rfl)) rfl ?_
  exact ⟨none,0,rfl,Nat.zero_le _,C_none none,HB.out⟩
set_option maxHeartbeats 4000000 in
set_option maxRecDepth 100000 in
theorem word_back (d:Cd) (hw:d.what=wordT) {A:Option Addr} {c:Nat} {W:World} (hk:d.keys.length≤100) (hr:Kd.C Kd.string W A d.keys.length d.keys):Calls Tryz.prog 9 #[cdV d (.slice A d.keys.length c)] W (TellsB (back_word d) W):=by
  have hu26:=Tryz.underlying26
  have hu29:=Tryz.underlying29
  have hu22:=Tryz.underlying22
  have HR:=Aside0.mk hr
  clear hr
  unfold cdV
  rw [hw]
  go_enter Tryz.func9,Tryz.ntmps9
  go_wp2_with (first | ((with_reducible refine gate_dst (N:=1) rfl ?_);refine box_event ?hg (N:=1) ?hd (cs:=?cs1) (t:=26) ?hr ?_;(case hd=>rfl);(case hg=>rfl);(case hr=>first | (go_simp;done) | (go_simp;rfl));intro g1 hg w1 hbox hb;have HB:=Aside0.mk hb;have H1:=Aside0.mk hbox;have G1:=Aside0.mk (Nat.le_of_eq hg.symm);clear hb hbox hg) | ((with_reducible refine gate_dst (N:=2) rfl ?_);refine box_event ?hg (N:=2) ?hd (cs:=?cs2) (t:=29) ?hr ?_;(case hd=>rfl);(case hg=>rfl);(case hr=>first | (go_simp;done) | (go_simp;rfl));intro g2 hg w2 hbox hb;have L12:=Aside0.mk (show g1 < g2 by rw [hg];exact blk_lt H1.out);replace H1:=Aside0.mk (blk_below H1.out hb);replace HB:=Aside0.mk (below_step HB.out hb);have H2:=Aside0.mk hbox;clear hb hbox hg;have e12:=Nat.ne_of_lt L12.out;have e21:=Nat.ne_of_gt L12.out;obtain ⟨x0,x1,x2,x3,x4,x5,x6,x7,x8,x9,x10,x11⟩:=celL H1.out;obtain ⟨y0,y1,y2,y3,y4,y5,y6,y7,y8,y9,y10,y11⟩:=celL H2.out;obtain ⟨z0,z1,z2,z3,z4,z5,z6,z7,z8,z9,z10,z11⟩:=froZ H2.out) | ((with_reducible refine gate_store (t:=29) (p:=2) rfl ?_);refine store_event (t:=29) (p:=2) (v:=?vo3) (w1:=?wo3) ?hg ?ho ?hn ?hr ?_;(case ho=>rfl);(case hg=>rfl);(case hn=>rfl);(case hr=>first | (go_simp;done) | (go_simp;rfl));intro w3 hw;replace H2:=Aside0.mk (heap_to (putG H2.out) hw);replace HB:=Aside0.mk (below_to (below12 HB.out (Nat.le_of_lt (Nat.lt_of_le_of_lt G1.out L12.out)) _ _ _ _ _ _ _ _ _ _ _ _) hw);clear hw;clear x0 x1 x2 x3 x4 x5 x6 x7 x8 x9 x10 x11 y0 y1 y2 y3 y4 y5 y6 y7 y8 y9 y10 y11 z0 z1 z2 z3 z4 z5 z6 z7 z8 z9 z10 z11))
  refine bodyPost_ret (results_cell_row rfl _ _ g2 29 #[.string ⟨#[119,111,114,100]⟩,.string d.verb,.slice none 0 0,.string ez,.int .u32 0,.int .i64 0,.int .u64 0,.int .u64 0,.bool false,.bool false,.bool false,.bool false] (0,0) _ rfl H2.out Tryz.underlying29 rfl (by kernel_rfl)) rfl ?_
  exact ⟨none,0,rfl,Nat.zero_le _,C_none none,HB.out⟩
set_option maxHeartbeats 4000000 in
set_option maxRecDepth 100000 in
theorem other_back (d:Cd) (hw:¬ d.what.toList=[103,101,116]∧¬ d.what.toList=[115,116,111,114,101]∧¬ d.what.toList=[97,114,105,116,104]∧¬ d.what.toList=[116,111,117,99,104]∧¬ d.what.toList=[100,101,108,101,116,101]∧¬ d.what.toList=[102,108,117,115,104]∧¬ d.what.toList=[98,97,100]∧¬ d.what.toList=[119,111,114,100]) {A:Option Addr} {c:Nat} {W:World} (hk:d.keys.length≤100) (hr:Kd.C Kd.string W A d.keys.length d.keys):Calls Tryz.prog 9 #[cdV d (.slice A d.keys.length c)] W (TellsB (back_other d) W):=by
  have hu26:=Tryz.underlying26
  have hu29:=Tryz.underlying29
  have hu22:=Tryz.underlying22
  have HR:=Aside0.mk hr
  clear hr
  unfold cdV
  obtain ⟨n0,n1,n2,n3,n4,n5,n6,n7⟩:=hw
  obtain ⟨p0,q0⟩:=tlF n0
  obtain ⟨p1,q1⟩:=tlF n1
  obtain ⟨p2,q2⟩:=tlF n2
  obtain ⟨p3,q3⟩:=tlF n3
  obtain ⟨p4,q4⟩:=tlF n4
  obtain ⟨p5,q5⟩:=tlF n5
  obtain ⟨p6,q6⟩:=tlF n6
  obtain ⟨p7,q7⟩:=tlF n7
  go_enter Tryz.func9,Tryz.ntmps9
  go_wp2_with (first | ((with_reducible refine gate_dst (N:=1) rfl ?_);refine box_event ?hg (N:=1) ?hd (cs:=?cs1) (t:=26) ?hr ?_;(case hd=>rfl);(case hg=>rfl);(case hr=>first | (go_simp;done) | (go_simp;rfl));intro g1 hg w1 hbox hb;have HB:=Aside0.mk hb;have H1:=Aside0.mk hbox;have G1:=Aside0.mk (Nat.le_of_eq hg.symm);clear hb hbox hg) | ((with_reducible refine gate_dst (N:=2) rfl ?_);refine box_event ?hg (N:=2) ?hd (cs:=?cs2) (t:=29) ?hr ?_;(case hd=>rfl);(case hg=>rfl);(case hr=>first | (go_simp;done) | (go_simp;rfl));intro g2 hg w2 hbox hb;have L12:=Aside0.mk (show g1 < g2 by rw [hg];exact blk_lt H1.out);replace H1:=Aside0.mk (blk_below H1.out hb);replace HB:=Aside0.mk (below_step HB.out hb);have H2:=Aside0.mk hbox;clear hb hbox hg;have e12:=Nat.ne_of_lt L12.out;have e21:=Nat.ne_of_gt L12.out;obtain ⟨x0,x1,x2,x3,x4,x5,x6,x7,x8,x9,x10,x11⟩:=celL H1.out;obtain ⟨y0,y1,y2,y3,y4,y5,y6,y7,y8,y9,y10,y11⟩:=celL H2.out;obtain ⟨z0,z1,z2,z3,z4,z5,z6,z7,z8,z9,z10,z11⟩:=froZ H2.out) | ((with_reducible refine gate_store (t:=29) (p:=2) rfl ?_);refine store_event (t:=29) (p:=2) (v:=?vo3) (w1:=?wo3) ?hg ?ho ?hn ?hr ?_;(case ho=>rfl);(case hg=>rfl);(case hn=>rfl);(case hr=>first | (go_simp;done) | (go_simp;rfl));intro w3 hw;replace H2:=Aside0.mk (heap_to (putG H2.out) hw);replace HB:=Aside0.mk (below_to (below12 HB.out (Nat.le_of_lt (Nat.lt_of_le_of_lt G1.out L12.out)) _ _ _ _ _ _ _ _ _ _ _ _) hw);clear hw;clear x0 x1 x2 x3 x4 x5 x6 x7 x8 x9 x10 x11 y0 y1 y2 y3 y4 y5 y6 y7 y8 y9 y10 y11 z0 z1 z2 z3 z4 z5 z6 z7 z8 z9 z10 z11))
  refine bodyPost_ret (results_cell_row rfl _ _ g2 29 #[.string ez,.string ez,.slice none 0 0,.string ez,.int .u32 0,.int .i64 0,.int .u64 0,.int .u64 0,.bool false,.bool false,.bool false,.bool false] (0,0) _ rfl H2.out Tryz.underlying29 rfl (by kernel_rfl)) rfl ?_
  exact ⟨none,0,rfl,Nat.zero_le _,C_none none,HB.out⟩
theorem back_ref (d:Cd) {A:Option Addr} {c:Nat} {W:World} (hk:d.keys.length≤100) (hr:Kd.C Kd.string W A d.keys.length d.keys):Calls Tryz.prog 9 #[cdV d (.slice A d.keys.length c)] W (TellsB (backD d) W):=by
  unfold backD
  by_cases h1:d.what=getT
  · rw [if_pos h1];exact get_back d h1 hk hr
  by_cases h2:d.what=storeT
  · rw [if_neg h1,if_pos h2];exact store_back d h2 hk hr
  by_cases h3:d.what=arithT
  · rw [if_neg h1,if_neg h2,if_pos h3];exact arith_back d h3 hk hr
  by_cases h4:d.what=touchT
  · rw [if_neg h1,if_neg h2,if_neg h3,if_pos h4];exact touch_back d h4 hk hr
  by_cases h5:d.what=deleteT
  · rw [if_neg h1,if_neg h2,if_neg h3,if_neg h4,if_pos h5];exact delete_back d h5 hk hr
  by_cases h6:d.what=flushT
  · rw [if_neg h1,if_neg h2,if_neg h3,if_neg h4,if_neg h5,if_pos h6];exact flush_back d h6 hk hr
  by_cases h7:d.what=badT
  · rw [if_neg h1,if_neg h2,if_neg h3,if_neg h4,if_neg h5,if_neg h6,if_pos h7];exact bad_back d h7 hk hr
  by_cases h8:d.what=wordT
  · rw [if_neg h1,if_neg h2,if_neg h3,if_neg h4,if_neg h5,if_neg h6,if_neg h7,if_pos h8];exact word_back d h8 hk hr
  rw [if_neg h1,if_neg h2,if_neg h3,if_neg h4,if_neg h5,if_neg h6,if_neg h7,if_neg h8]
  exact other_back d ⟨fun e=>h1 (tlI e),fun e=>h2 (tlI e),fun e=>h3 (tlI e),fun e=>h4 (tlI e),fun e=>h5 (tlI e),fun e=>h6 (tlI e),fun e=>h7 (tlI e),fun e=>h8 (tlI e)⟩ hk hr
end Go.Proofs.YtfbhlbchmenloaaGreatDoor.O
end
section
namespace Go.Proofs.YtfbhlbchmenloaaGreatDoor.O
open Go Go.RowKit Go.Proofs.YtfbhlbchmenloaaGreatDoorW.PrintWords Go.Proofs.YtfbhlbchmenloaaGreatDoorW.PrintLast Go.Proofs.YtfbhlbchmenloaaGreatDoorW.PrintMore Go.Proofs.YtfbhlbchmenloaaGreatDoor.H Go.Proofs.YtfbhlbchmenloaaGreatDoor.L Go.Proofs.YtfbhlbchmenloaaGreatDoor.Pure
set_option linter.unusedVariables false
set_option linter.unusedSimpArgs false
theorem tlI' {a:ByteArray} {l:List UInt8} (h:a.toList=l):a=⟨l.toArray⟩:=by
  rw [tl] at h
  exact ba_ext (by rw [h])
/-- Three structs: what came in, what is handed back, what is made. -/
def T3 (W0 w:World) (g1 g2 g3:Nat) (cs zs ds:Array Value):Prop:=Below W0.heap.size W0 w∧w.heap[g1]? = some (.cells cs 26 (0,0))∧w.heap[g2]? = some (.cells zs 26 (0,0))∧w.heap[g3]? = some (.cells ds 26 (0,0))∧W0.heap.size≤g1∧g1 < g2∧g2 < g3
section
variable {W0 w:World} {g1 g2 g3:Nat} {cs zs ds:Array Value}
theorem T3.mk (a:Below W0.heap.size W0 w) (b:w.heap[g1]? = some (.cells cs 26 (0,0))) (c:w.heap[g2]? = some (.cells zs 26 (0,0))) (d:w.heap[g3]? = some (.cells ds 26 (0,0))) (e:W0.heap.size≤g1) (f:g1 < g2) (g:g2 < g3):T3 W0 w g1 g2 g3 cs zs ds:=⟨a,b,c,d,e,f,g⟩
theorem T3.n (h:T3 W0 w g1 g2 g3 cs zs ds):W0.heap.size≤g2∧W0.heap.size≤g3∧g1≠g2∧g2≠g1∧g1≠g3∧g3≠g1∧g2≠g3∧g3≠g2:=by
  obtain ⟨_,_,_,_,h1,h2,h3⟩:=h
  omega
theorem T3.set (h:T3 W0 w g1 g2 g3 cs zs ds) (i:Nat) (v:Value):T3 W0 (w.setCell ⟨g3,i,none⟩ v) g1 g2 g3 cs zs (ds.setIfInBounds i v):=
  ⟨below_set h.1 h.n.2.1,blk_far (p:=⟨g3,i,none⟩) h.2.1 h.n.2.2.2.2.1 v,blk_far (p:=⟨g3,i,none⟩) h.2.2.1 h.n.2.2.2.2.2.2.1 v,blk_set h.2.2.2.1 i v,h.2.2.2.2⟩
theorem T3.drew (h:T3 W0 w g1 g2 g3 cs zs ds):T3 W0 w.drew g1 g2 g3 cs zs ds:=⟨below_drew1 h.1,blk_drew h.2.1,blk_drew h.2.2.1,blk_drew h.2.2.2.1,h.2.2.2.2⟩
variable {c0 c1 c2 c3 c4 c5 c6 c7 c8 c9 c10 c11 v0 v1 v2 v3 v4 v5 v6 v7 v8 v9 v10 v11:Value}
theorem T3.put3 (h:T3 W0 w g1 g2 g3 cs zs #[c0,c1,c2,c3,c4,c5,c6,c7,c8,c9,c10,c11]):T3 W0 ((((((((((((w.setCell ⟨g3,0,none⟩ (v0)).setCell ⟨g3,1,none⟩ (v1)).setCell ⟨g3,2,none⟩ (v2)).setCell ⟨g3,3,none⟩ (v3)).setCell ⟨g3,4,none⟩ (v4)).setCell ⟨g3,5,none⟩ (v5)).setCell ⟨g3,6,none⟩ (v6)).setCell ⟨g3,7,none⟩ (v7)).setCell ⟨g3,8,none⟩ (v8)).setCell ⟨g3,9,none⟩ (v9)).setCell ⟨g3,10,none⟩ (v10)).setCell ⟨g3,11,none⟩ (v11)) g1 g2 g3 cs zs #[v0,v1,v2,v3,v4,v5,v6,v7,v8,v9,v10,v11]:=
  ⟨below12 h.1 h.n.2.1 _ _ _ _ _ _ _ _ _ _ _ _,bF h.2.1 h.n.2.2.2.2.1,bF h.2.2.1 h.n.2.2.2.2.2.2.1,putG h.2.2.2.1,h.2.2.2.2⟩
theorem T3.put2 (h:T3 W0 w g1 g2 g3 cs #[c0,c1,c2,c3,c4,c5,c6,c7,c8,c9,c10,c11] ds):T3 W0 ((((((((((((w.setCell ⟨g2,0,none⟩ (v0)).setCell ⟨g2,1,none⟩ (v1)).setCell ⟨g2,2,none⟩ (v2)).setCell ⟨g2,3,none⟩ (v3)).setCell ⟨g2,4,none⟩ (v4)).setCell ⟨g2,5,none⟩ (v5)).setCell ⟨g2,6,none⟩ (v6)).setCell ⟨g2,7,none⟩ (v7)).setCell ⟨g2,8,none⟩ (v8)).setCell ⟨g2,9,none⟩ (v9)).setCell ⟨g2,10,none⟩ (v10)).setCell ⟨g2,11,none⟩ (v11)) g1 g2 g3 cs #[v0,v1,v2,v3,v4,v5,v6,v7,v8,v9,v10,v11] ds:=
  ⟨below12 h.1 h.n.1 _ _ _ _ _ _ _ _ _ _ _ _,bF h.2.1 h.n.2.2.1,putG h.2.2.1,bF h.2.2.2.1 h.n.2.2.2.2.2.2.2,h.2.2.2.2⟩
theorem T3.to {w':World} (h:T3 W0 w g1 g2 g3 cs zs ds) (e:w'=w):T3 W0 w' g1 g2 g3 cs zs ds:=e▸h
theorem T3.s1 (h:T3 W0 w g1 g2 g3 cs zs #[c0,c1,c2,c3,c4,c5,c6,c7,c8,c9,c10,c11]) (v:Value):T3 W0 (w.setCell ⟨g3,1,none⟩ v) g1 g2 g3 cs zs #[c0,v,c2,c3,c4,c5,c6,c7,c8,c9,c10,c11]:=h.set 1 v
theorem T3.s2 (h:T3 W0 w g1 g2 g3 cs zs #[c0,c1,c2,c3,c4,c5,c6,c7,c8,c9,c10,c11]) (v:Value):T3 W0 (w.setCell ⟨g3,2,none⟩ v) g1 g2 g3 cs zs #[c0,c1,v,c3,c4,c5,c6,c7,c8,c9,c10,c11]:=h.set 2 v
theorem T3.s3 (h:T3 W0 w g1 g2 g3 cs zs #[c0,c1,c2,c3,c4,c5,c6,c7,c8,c9,c10,c11]) (v:Value):T3 W0 (w.setCell ⟨g3,3,none⟩ v) g1 g2 g3 cs zs #[c0,c1,c2,v,c4,c5,c6,c7,c8,c9,c10,c11]:=h.set 3 v
theorem T3.s4 (h:T3 W0 w g1 g2 g3 cs zs #[c0,c1,c2,c3,c4,c5,c6,c7,c8,c9,c10,c11]) (v:Value):T3 W0 (w.setCell ⟨g3,4,none⟩ v) g1 g2 g3 cs zs #[c0,c1,c2,c3,v,c5,c6,c7,c8,c9,c10,c11]:=h.set 4 v
theorem T3.s5 (h:T3 W0 w g1 g2 g3 cs zs #[c0,c1,c2,c3,c4,c5,c6,c7,c8,c9,c10,c11]) (v:Value):T3 W0 (w.setCell ⟨g3,5,none⟩ v) g1 g2 g3 cs zs #[c0,c1,c2,c3,c4,v,c6,c7,c8,c9,c10,c11]:=h.set 5 v
theorem T3.s6 (h:T3 W0 w g1 g2 g3 cs zs #[c0,c1,c2,c3,c4,c5,c6,c7,c8,c9,c10,c11]) (v:Value):T3 W0 (w.setCell ⟨g3,6,none⟩ v) g1 g2 g3 cs zs #[c0,c1,c2,c3,c4,c5,v,c7,c8,c9,c10,c11]:=h.set 6 v
theorem T3.s7 (h:T3 W0 w g1 g2 g3 cs zs #[c0,c1,c2,c3,c4,c5,c6,c7,c8,c9,c10,c11]) (v:Value):T3 W0 (w.setCell ⟨g3,7,none⟩ v) g1 g2 g3 cs zs #[c0,c1,c2,c3,c4,c5,c6,v,c8,c9,c10,c11]:=h.set 7 v
theorem T3.s8 (h:T3 W0 w g1 g2 g3 cs zs #[c0,c1,c2,c3,c4,c5,c6,c7,c8,c9,c10,c11]) (v:Value):T3 W0 (w.setCell ⟨g3,8,none⟩ v) g1 g2 g3 cs zs #[c0,c1,c2,c3,c4,c5,c6,c7,v,c9,c10,c11]:=h.set 8 v
theorem T3.s9 (h:T3 W0 w g1 g2 g3 cs zs #[c0,c1,c2,c3,c4,c5,c6,c7,c8,c9,c10,c11]) (v:Value):T3 W0 (w.setCell ⟨g3,9,none⟩ v) g1 g2 g3 cs zs #[c0,c1,c2,c3,c4,c5,c6,c7,c8,v,c10,c11]:=h.set 9 v
theorem T3.s10 (h:T3 W0 w g1 g2 g3 cs zs #[c0,c1,c2,c3,c4,c5,c6,c7,c8,c9,c10,c11]) (v:Value):T3 W0 (w.setCell ⟨g3,10,none⟩ v) g1 g2 g3 cs zs #[c0,c1,c2,c3,c4,c5,c6,c7,c8,c9,v,c11]:=h.set 10 v
theorem T3.s11 (h:T3 W0 w g1 g2 g3 cs zs #[c0,c1,c2,c3,c4,c5,c6,c7,c8,c9,c10,c11]) (v:Value):T3 W0 (w.setCell ⟨g3,11,none⟩ v) g1 g2 g3 cs zs #[c0,c1,c2,c3,c4,c5,c6,c7,c8,c9,c10,v]:=h.set 11 v
end
def cellaretlaw18_plain.T4:Bool×List (List Nat×List Nat):=(true,[([],[]),([0],[0]),([],[]),([2],[2]),([0,1],[]),([4,1,0,1],[1,4]),([0,1,2,3,4,5],[]),([6,3,5,0,1,2,3,4,5],[3,6]),([0,1,2,3,4,5,6,7],[]),([8,7,0,1,2,3,4,5,6,7],[8])])
def cellaretlaw18_plain.B4:List Nat:=[0,1,0,4,3,19,63,127,255,511]
theorem cellaretlaw18_plain.tab4:rtab .any (opsOf Tryz.f17 4)=cellaretlaw18_plain.T4:=by kernel_rfl
theorem cellaretlaw18_plain.bits4:waitsOk cellaretlaw18_plain.T4.2 cellaretlaw18_plain.B4=true:=by kernel_rfl
set_option maxHeartbeats 4000000 in
set_option maxRecDepth 100000 in
theorem get0_plain (d:Cd) (hw:d.what=getT) (ht:d.withTouch=false) {A:Option Addr} {c:Nat} {W:World} (hr:Kd.C Kd.string W A d.keys.length d.keys) (hc:d.keys.length≤c):Calls Tryz.prog 17 #[cdV d (.slice A d.keys.length c)] W (TellsB (plain_get0 d) W):=by
  have hu26:=Tryz.underlying26
  have HR:=Aside0.mk hr
  clear hr
  unfold cdV
  rw [hw,ht]
  go_enter Tryz.func17,Tryz.ntmps17
  go_wp2_with (first | ((with_reducible refine gate_dst (N:=1) rfl ?_);refine box_event ?hg (N:=1) ?hd (cs:=?cs1) (t:=26) ?hr ?_;(case hd=>rfl);(case hg=>rfl);(case hr=>first | (go_simp;done) | (go_simp;rfl));intro g1 hg w1 hbox hb;have HB:=Aside0.mk hb;have H1:=Aside0.mk hbox;have G1:=Aside0.mk (Nat.le_of_eq hg.symm);clear hb hbox hg) | ((with_reducible refine gate_dst (N:=2) rfl ?_);refine box_event ?hg (N:=2) ?hd (cs:=?cs2) (t:=26) ?hr ?_;(case hd=>rfl);(case hg=>rfl);(case hr=>first | (go_simp;done) | (go_simp;rfl));intro g2 hg w2 hbox hb;have L12:=Aside0.mk (show g1 < g2 by rw [hg];exact blk_lt H1.out);replace H1:=Aside0.mk (blk_below H1.out hb);replace HB:=Aside0.mk (below_step HB.out hb);have H2:=Aside0.mk hbox;clear hb hbox hg;have e12:=Nat.ne_of_lt L12.out;have e21:=Nat.ne_of_gt L12.out;obtain ⟨x0,x1,x2,x3,x4,x5,x6,x7,x8,x9,x10,x11⟩:=celL H1.out) | ((with_reducible refine gate_dst (N:=3) rfl ?_);refine box_event ?hg (N:=3) ?hd (cs:=?cs3) (t:=26) ?hr ?_;(case hd=>rfl);(case hg=>rfl);(case hr=>first | (go_simp;done) | (go_simp;rfl));intro g3 hg w3 hbox hb;have T:=Aside0.mk (T3.mk (below_step HB.out hb) (blk_below H1.out hb) (blk_below H2.out hb) hbox G1.out L12.out (by rw [hg];exact blk_lt H2.out));clear hb hbox hg H1 H2 HB G1 L12;clear x0 x1 x2 x3 x4 x5 x6 x7 x8 x9 x10 x11;obtain ⟨_,_,_,_,e13,e31,e23,e32⟩:=T.out.n;obtain ⟨x0,x1,x2,x3,x4,x5,x6,x7,x8,x9,x10,x11⟩:=celL T.out.2.1;obtain ⟨y0,y1,y2,y3,y4,y5,y6,y7,y8,y9,y10,y11⟩:=celL T.out.2.2.2.1;obtain ⟨z0,z1,z2,z3,z4,z5,z6,z7,z8,z9,z10,z11⟩:=froZ T.out.2.2.2.1;obtain ⟨u0,u1,u2,u3,u4,u5,u6,u7,u8,u9,u10,u11⟩:=celL T.out.2.2.1;obtain ⟨r0,r1,r2,r3,r4,r5,r6,r7,r8,r9,r10,r11⟩:=froZ T.out.2.2.1) | ((with_reducible refine gate_store (t:=26) (p:=3) rfl ?_);refine store_event (t:=26) (p:=3) (v:=?vow4) (w1:=?wow4) ?hg ?ho ?hn ?hr ?_;(case ho=>rfl);(case hg=>rfl);(case hn=>rfl);(case hr=>first | (go_simp;done) | (go_simp;rfl));intro w4 hw;replace T:=Aside0.mk (T.out.put3.to hw);clear hw;clear x0 x1 x2 x3 x4 x5 x6 x7 x8 x9 x10 x11 y0 y1 y2 y3 y4 y5 y6 y7 y8 y9 y10 y11 z0 z1 z2 z3 z4 z5 z6 z7 z8 z9 z10 z11 u0 u1 u2 u3 u4 u5 u6 u7 u8 u9 u10 u11 r0 r1 r2 r3 r4 r5 r6 r7 r8 r9 r10 r11;obtain ⟨x0,x1,x2,x3,x4,x5,x6,x7,x8,x9,x10,x11⟩:=celL T.out.2.1;obtain ⟨y0,y1,y2,y3,y4,y5,y6,y7,y8,y9,y10,y11⟩:=celL T.out.2.2.2.1;obtain ⟨z0,z1,z2,z3,z4,z5,z6,z7,z8,z9,z10,z11⟩:=froZ T.out.2.2.2.1;obtain ⟨u0,u1,u2,u3,u4,u5,u6,u7,u8,u9,u10,u11⟩:=celL T.out.2.2.1;obtain ⟨r0,r1,r2,r3,r4,r5,r6,r7,r8,r9,r10,r11⟩:=froZ T.out.2.2.1))
  clear x0 x1 x2 x3 x4 x5 x6 x7 x8 x9 x10 x11 y0 y1 y2 y3 y4 y5 y6 y7 y8 y9 y10 y11 z0 z1 z2 z3 z4 z5 z6 z7 z8 z9 z10 z11 u0 u1 u2 u3 u4 u5 u6 u7 u8 u9 u10 u11 r0 r1 r2 r3 r4 r5 r6 r7 r8 r9 r10 r11
  refine start_ (n:=10) (S:=fun w'=>C12 w' g1 (.string ⟨#[103,101,116]⟩) (.string d.verb) (.slice A d.keys.length c) (.string d.data) (.int .u32 d.flags) (.int .i64 d.exp) (.int .u64 d.cas) (.int .u64 d.by_) (.bool d.withCas) (.bool false) (.bool d.down) (.bool d.quiet)) (ds:=[]) #[f,f,f,f,f,f,f,f,f,f] (by kernel_rfl) rfl rfl (celL T.out.2.1) (fun hHeld=>?_)
  refine with_tabW cellaretlaw18_plain.tab4 cellaretlaw18_plain.bits4 (fun HT_ HW_=>?_)
  replace T:=Aside0.mk T.out.drew
  generalize w4.drew=w5 at T hHeld ⊢
  skip
  refine pure_ (i:=0) (N:=some 15) (v:=?_) (a':=?_) #[t,f,f,f,f,f,f,f,f,f] rfl rfl (any_of HT_.out (by kernel_rfl)) (fun _ _ _ h=>h) (Or.inl ⟨by rfl,?_⟩) ?_ ?_
  rotate_left
  · intro w'
    go_simp
    with_reducible rfl
  rotate_left
  · simp only [pS]
    rfl
  refine pure_ (i:=2) (N:=some 17) (v:=?_) (a':=?_) #[t,f,t,f,f,f,f,f,f,f] rfl rfl (any_of HT_.out (by kernel_rfl)) (fun _ _ _ h=>h) (Or.inl ⟨by rfl,?_⟩) ?_ ?_
  rotate_left
  · intro w'
    go_simp
    with_reducible rfl
  rotate_left
  · simp only [pS]
    rfl
  refine take_ (i:=1) (N:=some 16) (v:=?_) (a':=?_) #[t,t,t,f,f,f,f,f,f,f] rfl rfl (take_ofW HT_.out HW_.out (by kernel_rfl)) (fun _ _ _ h=>h) (Or.inl ⟨by rfl,?_⟩) hHeld ?_ ?_
  rotate_left
  · rintro w' ⟨s0,s1,s2,s3,s4,s5,s6,s7,s8,s9,s10,s11⟩
    go_simp
    with_reducible rfl
  rotate_left
  · simp only [pS]
    rfl
  refine pure_ (i:=4) (N:=some 19) (v:=?_) (a':=?_) #[t,t,t,f,t,f,f,f,f,f] rfl rfl (any_of HT_.out (by kernel_rfl)) (fun _ _ _ h=>h) (Or.inl ⟨by rfl,?_⟩) ?_ ?_
  rotate_left
  · intro w'
    go_simp
    with_reducible rfl
  rotate_left
  · simp only [pS]
    rfl
  refine take_ (i:=3) (N:=some 18) (v:=?_) (a':=?_) #[t,t,t,t,t,f,f,f,f,f] rfl rfl (take_ofW HT_.out HW_.out (by kernel_rfl)) (fun _ _ _ h=>h) (Or.inl ⟨by rfl,?_⟩) hHeld ?_ ?_
  rotate_left
  · rintro w' ⟨s0,s1,s2,s3,s4,s5,s6,s7,s8,s9,s10,s11⟩
    go_simp
    with_reducible rfl
  rotate_left
  · simp only [pS]
    rfl
  refine one_ (i:=5) (N:=none) #[t,t,t,t,t,t,f,f,f,f] rfl rfl (one_of HT_.out (by kernel_rfl)) (by decide) (fun K hK=>?_)
  have hs:w5.cell? ⟨g3,8,none⟩=some (.bool false):=(blk_cell T.out.2.2.2.1 8).trans rfl
  have hf:=blk_frozen T.out.2.2.2.1 8
  refine skip_ (w1:=?_) (by rfl) rfl ?_ ?_
  rotate_left
  · go_simp
    rfl
  replace T:=Aside0.mk (T.out.s8 (.bool d.withCas))
  clear hs hf hHeld
  generalize w5.setCell ⟨g3,8,none⟩ (.bool d.withCas)=w6 at T ⊢
  refine hK.out _ _ (celL T.out.2.1) (fun hHeld=>?_)
  clear hK K
  refine pure_ (i:=6) (N:=some 20) (v:=?_) (a':=?_) #[t,t,t,t,t,t,t,f,f,f] rfl rfl (any_of HT_.out (by kernel_rfl)) (fun _ _ _ h=>h) (Or.inl ⟨by rfl,?_⟩) ?_ ?_
  rotate_left
  · intro w'
    go_simp
    with_reducible rfl
  rotate_left
  · simp only [pS]
    rfl
  refine one_ (i:=7) (N:=none) #[t,t,t,t,t,t,t,t,f,f] rfl rfl (one_of HT_.out (by kernel_rfl)) (by decide) (fun K hK=>?_)
  have hs:w6.cell? ⟨g3,9,none⟩=some (.bool false):=(blk_cell T.out.2.2.2.1 9).trans rfl
  have hf:=blk_frozen T.out.2.2.2.1 9
  refine skip_ (w1:=?_) (by rfl) rfl ?_ ?_
  rotate_left
  · go_simp
    rfl
  replace T:=Aside0.mk (T.out.s9 (.bool false))
  clear hs hf hHeld
  generalize w6.setCell ⟨g3,9,none⟩ (.bool false)=w7 at T ⊢
  refine hK.out _ _ (celL T.out.2.1) (fun hHeld=>?_)
  clear hK K
  refine pure_ (i:=8) (N:=some 21) (v:=?_) (a':=?_) #[t,t,t,t,t,t,t,t,t,f] rfl rfl (any_of HT_.out (by kernel_rfl)) (fun _ _ _ h=>h) (Or.inl ⟨by rfl,?_⟩) ?_ ?_
  rotate_left
  · intro w'
    go_simp
    with_reducible rfl
  rotate_left
  · simp only [pS]
    rfl
  refine one_ (i:=9) (N:=none) #[t,t,t,t,t,t,t,t,t,t] rfl rfl (one_of HT_.out (by kernel_rfl)) (by decide) (fun K hK=>?_)
  have hs:w7.cell? ⟨g3,11,none⟩=some (.bool d.quiet):=(blk_cell T.out.2.2.2.1 11).trans rfl
  have hf:=blk_frozen T.out.2.2.2.1 11
  refine skip_ (w1:=?_) (by rfl) rfl ?_ ?_
  rotate_left
  · go_simp
    rfl
  replace T:=Aside0.mk (T.out.s11 (.bool false))
  clear hs hf hHeld
  generalize w7.setCell ⟨g3,11,none⟩ (.bool false)=w8 at T ⊢
  refine hK.out _ _ (celL T.out.2.1) (fun hHeld=>?_)
  clear hK K
  refine done_ (done_of HT_.out (by kernel_rfl)) ?_
  clear HT_ HW_ hHeld
  obtain ⟨x0,x1,x2,x3,x4,x5,x6,x7,x8,x9,x10,x11⟩:=celL T.out.2.1;obtain ⟨y0,y1,y2,y3,y4,y5,y6,y7,y8,y9,y10,y11⟩:=celL T.out.2.2.2.1;obtain ⟨z0,z1,z2,z3,z4,z5,z6,z7,z8,z9,z10,z11⟩:=froZ T.out.2.2.2.1;obtain ⟨u0,u1,u2,u3,u4,u5,u6,u7,u8,u9,u10,u11⟩:=celL T.out.2.2.1;obtain ⟨r0,r1,r2,r3,r4,r5,r6,r7,r8,r9,r10,r11⟩:=froZ T.out.2.2.1
  go_wp2_with (first | ((with_reducible refine gate_store (t:=26) (p:=2) rfl ?_);refine store_event (t:=26) (p:=2) (v:=?vow9) (w1:=?wow9) ?hg ?ho ?hn ?hr ?_;(case ho=>rfl);(case hg=>rfl);(case hn=>rfl);(case hr=>first | (go_simp;done) | (go_simp;rfl));intro w9 hw;replace T:=Aside0.mk (T.out.put2.to hw);clear hw;clear x0 x1 x2 x3 x4 x5 x6 x7 x8 x9 x10 x11 y0 y1 y2 y3 y4 y5 y6 y7 y8 y9 y10 y11 z0 z1 z2 z3 z4 z5 z6 z7 z8 z9 z10 z11 u0 u1 u2 u3 u4 u5 u6 u7 u8 u9 u10 u11 r0 r1 r2 r3 r4 r5 r6 r7 r8 r9 r10 r11;skip))
  refine bodyPost_ret (results_cell_row rfl _ _ g2 26 #[.string ⟨#[103,101,116]⟩,.string (⟨#[]⟩:ByteArray),.slice A d.keys.length c,.string (⟨#[]⟩:ByteArray),.int .u32 0,.int .i64 0,.int .u64 0,.int .u64 0,.bool d.withCas,.bool false,.bool false,.bool false] (0,0) _ rfl T.out.2.2.1 Tryz.underlying26 rfl (by kernel_rfl)) rfl ?_
  exact ⟨A,c,rfl,hc,Kd.C_below HR.out T.out.1,T.out.1⟩
set_option maxHeartbeats 4000000 in
set_option maxRecDepth 100000 in
theorem get1_plain (d:Cd) (hw:d.what=getT) (ht:d.withTouch=true) {A:Option Addr} {c:Nat} {W:World} (hr:Kd.C Kd.string W A d.keys.length d.keys) (hc:d.keys.length≤c):Calls Tryz.prog 17 #[cdV d (.slice A d.keys.length c)] W (TellsB (plain_get1 d) W):=by
  have hu26:=Tryz.underlying26
  have HR:=Aside0.mk hr
  clear hr
  unfold cdV
  rw [hw,ht]
  go_enter Tryz.func17,Tryz.ntmps17
  go_wp2_with (first | ((with_reducible refine gate_dst (N:=1) rfl ?_);refine box_event ?hg (N:=1) ?hd (cs:=?cs1) (t:=26) ?hr ?_;(case hd=>rfl);(case hg=>rfl);(case hr=>first | (go_simp;done) | (go_simp;rfl));intro g1 hg w1 hbox hb;have HB:=Aside0.mk hb;have H1:=Aside0.mk hbox;have G1:=Aside0.mk (Nat.le_of_eq hg.symm);clear hb hbox hg) | ((with_reducible refine gate_dst (N:=2) rfl ?_);refine box_event ?hg (N:=2) ?hd (cs:=?cs2) (t:=26) ?hr ?_;(case hd=>rfl);(case hg=>rfl);(case hr=>first | (go_simp;done) | (go_simp;rfl));intro g2 hg w2 hbox hb;have L12:=Aside0.mk (show g1 < g2 by rw [hg];exact blk_lt H1.out);replace H1:=Aside0.mk (blk_below H1.out hb);replace HB:=Aside0.mk (below_step HB.out hb);have H2:=Aside0.mk hbox;clear hb hbox hg;have e12:=Nat.ne_of_lt L12.out;have e21:=Nat.ne_of_gt L12.out;obtain ⟨x0,x1,x2,x3,x4,x5,x6,x7,x8,x9,x10,x11⟩:=celL H1.out) | ((with_reducible refine gate_dst (N:=3) rfl ?_);refine box_event ?hg (N:=3) ?hd (cs:=?cs3) (t:=26) ?hr ?_;(case hd=>rfl);(case hg=>rfl);(case hr=>first | (go_simp;done) | (go_simp;rfl));intro g3 hg w3 hbox hb;have T:=Aside0.mk (T3.mk (below_step HB.out hb) (blk_below H1.out hb) (blk_below H2.out hb) hbox G1.out L12.out (by rw [hg];exact blk_lt H2.out));clear hb hbox hg H1 H2 HB G1 L12;clear x0 x1 x2 x3 x4 x5 x6 x7 x8 x9 x10 x11;obtain ⟨_,_,_,_,e13,e31,e23,e32⟩:=T.out.n;obtain ⟨x0,x1,x2,x3,x4,x5,x6,x7,x8,x9,x10,x11⟩:=celL T.out.2.1;obtain ⟨y0,y1,y2,y3,y4,y5,y6,y7,y8,y9,y10,y11⟩:=celL T.out.2.2.2.1;obtain ⟨z0,z1,z2,z3,z4,z5,z6,z7,z8,z9,z10,z11⟩:=froZ T.out.2.2.2.1;obtain ⟨u0,u1,u2,u3,u4,u5,u6,u7,u8,u9,u10,u11⟩:=celL T.out.2.2.1;obtain ⟨r0,r1,r2,r3,r4,r5,r6,r7,r8,r9,r10,r11⟩:=froZ T.out.2.2.1) | ((with_reducible refine gate_store (t:=26) (p:=3) rfl ?_);refine store_event (t:=26) (p:=3) (v:=?vow4) (w1:=?wow4) ?hg ?ho ?hn ?hr ?_;(case ho=>rfl);(case hg=>rfl);(case hn=>rfl);(case hr=>first | (go_simp;done) | (go_simp;rfl));intro w4 hw;replace T:=Aside0.mk (T.out.put3.to hw);clear hw;clear x0 x1 x2 x3 x4 x5 x6 x7 x8 x9 x10 x11 y0 y1 y2 y3 y4 y5 y6 y7 y8 y9 y10 y11 z0 z1 z2 z3 z4 z5 z6 z7 z8 z9 z10 z11 u0 u1 u2 u3 u4 u5 u6 u7 u8 u9 u10 u11 r0 r1 r2 r3 r4 r5 r6 r7 r8 r9 r10 r11;obtain ⟨x0,x1,x2,x3,x4,x5,x6,x7,x8,x9,x10,x11⟩:=celL T.out.2.1;obtain ⟨y0,y1,y2,y3,y4,y5,y6,y7,y8,y9,y10,y11⟩:=celL T.out.2.2.2.1;obtain ⟨z0,z1,z2,z3,z4,z5,z6,z7,z8,z9,z10,z11⟩:=froZ T.out.2.2.2.1;obtain ⟨u0,u1,u2,u3,u4,u5,u6,u7,u8,u9,u10,u11⟩:=celL T.out.2.2.1;obtain ⟨r0,r1,r2,r3,r4,r5,r6,r7,r8,r9,r10,r11⟩:=froZ T.out.2.2.1))
  clear x0 x1 x2 x3 x4 x5 x6 x7 x8 x9 x10 x11 y0 y1 y2 y3 y4 y5 y6 y7 y8 y9 y10 y11 z0 z1 z2 z3 z4 z5 z6 z7 z8 z9 z10 z11 u0 u1 u2 u3 u4 u5 u6 u7 u8 u9 u10 u11 r0 r1 r2 r3 r4 r5 r6 r7 r8 r9 r10 r11
  refine start_ (n:=10) (S:=fun w'=>C12 w' g1 (.string ⟨#[103,101,116]⟩) (.string d.verb) (.slice A d.keys.length c) (.string d.data) (.int .u32 d.flags) (.int .i64 d.exp) (.int .u64 d.cas) (.int .u64 d.by_) (.bool d.withCas) (.bool true) (.bool d.down) (.bool d.quiet)) (ds:=[]) #[f,f,f,f,f,f,f,f,f,f] (by kernel_rfl) rfl rfl (celL T.out.2.1) (fun hHeld=>?_)
  refine with_tabW cellaretlaw18_plain.tab4 cellaretlaw18_plain.bits4 (fun HT_ HW_=>?_)
  replace T:=Aside0.mk T.out.drew
  generalize w4.drew=w5 at T hHeld ⊢
  skip
  refine pure_ (i:=0) (N:=some 15) (v:=?_) (a':=?_) #[t,f,f,f,f,f,f,f,f,f] rfl rfl (any_of HT_.out (by kernel_rfl)) (fun _ _ _ h=>h) (Or.inl ⟨by rfl,?_⟩) ?_ ?_
  rotate_left
  · intro w'
    go_simp
    with_reducible rfl
  rotate_left
  · simp only [pS]
    rfl
  refine pure_ (i:=2) (N:=some 17) (v:=?_) (a':=?_) #[t,f,t,f,f,f,f,f,f,f] rfl rfl (any_of HT_.out (by kernel_rfl)) (fun _ _ _ h=>h) (Or.inl ⟨by rfl,?_⟩) ?_ ?_
  rotate_left
  · intro w'
    go_simp
    with_reducible rfl
  rotate_left
  · simp only [pS]
    rfl
  refine take_ (i:=1) (N:=some 16) (v:=?_) (a':=?_) #[t,t,t,f,f,f,f,f,f,f] rfl rfl (take_ofW HT_.out HW_.out (by kernel_rfl)) (fun _ _ _ h=>h) (Or.inl ⟨by rfl,?_⟩) hHeld ?_ ?_
  rotate_left
  · rintro w' ⟨s0,s1,s2,s3,s4,s5,s6,s7,s8,s9,s10,s11⟩
    go_simp
    with_reducible rfl
  rotate_left
  · simp only [pS]
    rfl
  refine pure_ (i:=4) (N:=some 19) (v:=?_) (a':=?_) #[t,t,t,f,t,f,f,f,f,f] rfl rfl (any_of HT_.out (by kernel_rfl)) (fun _ _ _ h=>h) (Or.inl ⟨by rfl,?_⟩) ?_ ?_
  rotate_left
  · intro w'
    go_simp
    with_reducible rfl
  rotate_left
  · simp only [pS]
    rfl
  refine take_ (i:=3) (N:=some 18) (v:=?_) (a':=?_) #[t,t,t,t,t,f,f,f,f,f] rfl rfl (take_ofW HT_.out HW_.out (by kernel_rfl)) (fun _ _ _ h=>h) (Or.inl ⟨by rfl,?_⟩) hHeld ?_ ?_
  rotate_left
  · rintro w' ⟨s0,s1,s2,s3,s4,s5,s6,s7,s8,s9,s10,s11⟩
    go_simp
    with_reducible rfl
  rotate_left
  · simp only [pS]
    rfl
  refine one_ (i:=5) (N:=none) #[t,t,t,t,t,t,f,f,f,f] rfl rfl (one_of HT_.out (by kernel_rfl)) (by decide) (fun K hK=>?_)
  have hs:w5.cell? ⟨g3,8,none⟩=some (.bool false):=(blk_cell T.out.2.2.2.1 8).trans rfl
  have hf:=blk_frozen T.out.2.2.2.1 8
  refine skip_ (w1:=?_) (by rfl) rfl ?_ ?_
  rotate_left
  · go_simp
    rfl
  replace T:=Aside0.mk (T.out.s8 (.bool d.withCas))
  clear hs hf hHeld
  generalize w5.setCell ⟨g3,8,none⟩ (.bool d.withCas)=w6 at T ⊢
  refine hK.out _ _ (celL T.out.2.1) (fun hHeld=>?_)
  clear hK K
  refine pure_ (i:=6) (N:=some 20) (v:=?_) (a':=?_) #[t,t,t,t,t,t,t,f,f,f] rfl rfl (any_of HT_.out (by kernel_rfl)) (fun _ _ _ h=>h) (Or.inl ⟨by rfl,?_⟩) ?_ ?_
  rotate_left
  · intro w'
    go_simp
    with_reducible rfl
  rotate_left
  · simp only [pS]
    rfl
  refine one_ (i:=7) (N:=none) #[t,t,t,t,t,t,t,t,f,f] rfl rfl (one_of HT_.out (by kernel_rfl)) (by decide) (fun K hK=>?_)
  have hs:w6.cell? ⟨g3,9,none⟩=some (.bool false):=(blk_cell T.out.2.2.2.1 9).trans rfl
  have hf:=blk_frozen T.out.2.2.2.1 9
  refine skip_ (w1:=?_) (by rfl) rfl ?_ ?_
  rotate_left
  · go_simp
    rfl
  replace T:=Aside0.mk (T.out.s9 (.bool true))
  clear hs hf hHeld
  generalize w6.setCell ⟨g3,9,none⟩ (.bool true)=w7 at T ⊢
  refine hK.out _ _ (celL T.out.2.1) (fun hHeld=>?_)
  clear hK K
  refine pure_ (i:=8) (N:=some 21) (v:=?_) (a':=?_) #[t,t,t,t,t,t,t,t,t,f] rfl rfl (any_of HT_.out (by kernel_rfl)) (fun _ _ _ h=>h) (Or.inl ⟨by rfl,?_⟩) ?_ ?_
  rotate_left
  · intro w'
    go_simp
    with_reducible rfl
  rotate_left
  · simp only [pS]
    rfl
  refine one_ (i:=9) (N:=none) #[t,t,t,t,t,t,t,t,t,t] rfl rfl (one_of HT_.out (by kernel_rfl)) (by decide) (fun K hK=>?_)
  have hs:w7.cell? ⟨g3,11,none⟩=some (.bool d.quiet):=(blk_cell T.out.2.2.2.1 11).trans rfl
  have hf:=blk_frozen T.out.2.2.2.1 11
  refine skip_ (w1:=?_) (by rfl) rfl ?_ ?_
  rotate_left
  · go_simp
    rfl
  replace T:=Aside0.mk (T.out.s11 (.bool false))
  clear hs hf hHeld
  generalize w7.setCell ⟨g3,11,none⟩ (.bool false)=w8 at T ⊢
  refine hK.out _ _ (celL T.out.2.1) (fun hHeld=>?_)
  clear hK K
  refine done_ (done_of HT_.out (by kernel_rfl)) ?_
  clear HT_ HW_ hHeld
  obtain ⟨x0,x1,x2,x3,x4,x5,x6,x7,x8,x9,x10,x11⟩:=celL T.out.2.1;obtain ⟨y0,y1,y2,y3,y4,y5,y6,y7,y8,y9,y10,y11⟩:=celL T.out.2.2.2.1;obtain ⟨z0,z1,z2,z3,z4,z5,z6,z7,z8,z9,z10,z11⟩:=froZ T.out.2.2.2.1;obtain ⟨u0,u1,u2,u3,u4,u5,u6,u7,u8,u9,u10,u11⟩:=celL T.out.2.2.1;obtain ⟨r0,r1,r2,r3,r4,r5,r6,r7,r8,r9,r10,r11⟩:=froZ T.out.2.2.1
  go_wp2_with (first | ((with_reducible refine gate_store (t:=2) (p:=26) rfl ?_);refine store_event (t:=2) (p:=26) (v:=?vow9) (w1:=?wow9) ?hg ?ho ?hn ?hr ?_;(case ho=>rfl);(case hg=>rfl);(case hn=>rfl);(case hr=>first | (go_simp;done) | (go_simp;rfl));intro w9 hw;replace T:=Aside0.mk ((T.out.s5 _).to hw);clear hw;clear x0 x1 x2 x3 x4 x5 x6 x7 x8 x9 x10 x11 y0 y1 y2 y3 y4 y5 y6 y7 y8 y9 y10 y11 z0 z1 z2 z3 z4 z5 z6 z7 z8 z9 z10 z11 u0 u1 u2 u3 u4 u5 u6 u7 u8 u9 u10 u11 r0 r1 r2 r3 r4 r5 r6 r7 r8 r9 r10 r11;obtain ⟨x0,x1,x2,x3,x4,x5,x6,x7,x8,x9,x10,x11⟩:=celL T.out.2.1;obtain ⟨y0,y1,y2,y3,y4,y5,y6,y7,y8,y9,y10,y11⟩:=celL T.out.2.2.2.1;obtain ⟨z0,z1,z2,z3,z4,z5,z6,z7,z8,z9,z10,z11⟩:=froZ T.out.2.2.2.1;obtain ⟨u0,u1,u2,u3,u4,u5,u6,u7,u8,u9,u10,u11⟩:=celL T.out.2.2.1;obtain ⟨r0,r1,r2,r3,r4,r5,r6,r7,r8,r9,r10,r11⟩:=froZ T.out.2.2.1) | ((with_reducible refine gate_store (t:=26) (p:=2) rfl ?_);refine store_event (t:=26) (p:=2) (v:=?vow10) (w1:=?wow10) ?hg ?ho ?hn ?hr ?_;(case ho=>rfl);(case hg=>rfl);(case hn=>rfl);(case hr=>first | (go_simp;done) | (go_simp;rfl));intro w10 hw;replace T:=Aside0.mk (T.out.put2.to hw);clear hw;clear x0 x1 x2 x3 x4 x5 x6 x7 x8 x9 x10 x11 y0 y1 y2 y3 y4 y5 y6 y7 y8 y9 y10 y11 z0 z1 z2 z3 z4 z5 z6 z7 z8 z9 z10 z11 u0 u1 u2 u3 u4 u5 u6 u7 u8 u9 u10 u11 r0 r1 r2 r3 r4 r5 r6 r7 r8 r9 r10 r11;skip))
  refine bodyPost_ret (results_cell_row rfl _ _ g2 26 #[.string ⟨#[103,101,116]⟩,.string (⟨#[]⟩:ByteArray),.slice A d.keys.length c,.string (⟨#[]⟩:ByteArray),.int .u32 0,.int .i64 d.exp,.int .u64 0,.int .u64 0,.bool d.withCas,.bool true,.bool false,.bool false] (0,0) _ rfl T.out.2.2.1 Tryz.underlying26 rfl (by kernel_rfl)) rfl ?_
  exact ⟨A,c,rfl,hc,Kd.C_below HR.out T.out.1,T.out.1⟩
def cellaretlaw18_plain.T8:Bool×List (List Nat×List Nat):=(true,[([],[]),([0],[0]),([],[]),([2],[2]),([],[]),([4],[4]),([],[]),([6],[6]),([0,1],[]),([8,1,0,1],[1,8]),([0,1,2,3,8,9],[]),([10,3,9,0,1,2,3,8,9],[3,10]),([0,1,2,3,4,5,8,9,10,11],[]),([12,5,11,0,1,2,3,4,5,8,9,10,11],[5,12]),([0,1,2,3,4,5,6,7,8,9,10,11,12,13],[]),([14,7,13,0,1,2,3,4,5,6,7,8,9,10,11,12,13],[7,14])])
def cellaretlaw18_plain.B8:List Nat:=[0,1,0,4,0,16,0,64,3,259,783,1807,3903,7999,16383,32767]
theorem cellaretlaw18_plain.tab8:rtab .any (opsOf Tryz.f17 8)=cellaretlaw18_plain.T8:=by kernel_rfl
theorem cellaretlaw18_plain.bits8:waitsOk cellaretlaw18_plain.T8.2 cellaretlaw18_plain.B8=true:=by kernel_rfl
set_option maxHeartbeats 4000000 in
set_option maxRecDepth 100000 in
theorem cas_plain (d:Cd) (hw:d.what=storeT) (ht:d.verb.toList=[99,97,115]) {A:Option Addr} {c:Nat} {W:World} (hr:Kd.C Kd.string W A d.keys.length d.keys) (hc:d.keys.length≤c):Calls Tryz.prog 17 #[cdV d (.slice A d.keys.length c)] W (TellsB (plain_cas d) W):=by
  have hu26:=Tryz.underlying26
  have HR:=Aside0.mk hr
  clear hr
  unfold cdV
  rw [hw]
  obtain ⟨q0,q1⟩:=tlT ht
  go_enter Tryz.func17,Tryz.ntmps17
  go_wp2_with (first | ((with_reducible refine gate_dst (N:=1) rfl ?_);refine box_event ?hg (N:=1) ?hd (cs:=?cs1) (t:=26) ?hr ?_;(case hd=>rfl);(case hg=>rfl);(case hr=>first | (go_simp;done) | (go_simp;rfl));intro g1 hg w1 hbox hb;have HB:=Aside0.mk hb;have H1:=Aside0.mk hbox;have G1:=Aside0.mk (Nat.le_of_eq hg.symm);clear hb hbox hg) | ((with_reducible refine gate_dst (N:=2) rfl ?_);refine box_event ?hg (N:=2) ?hd (cs:=?cs2) (t:=26) ?hr ?_;(case hd=>rfl);(case hg=>rfl);(case hr=>first | (go_simp;done) | (go_simp;rfl));intro g2 hg w2 hbox hb;have L12:=Aside0.mk (show g1 < g2 by rw [hg];exact blk_lt H1.out);replace H1:=Aside0.mk (blk_below H1.out hb);replace HB:=Aside0.mk (below_step HB.out hb);have H2:=Aside0.mk hbox;clear hb hbox hg;have e12:=Nat.ne_of_lt L12.out;have e21:=Nat.ne_of_gt L12.out;obtain ⟨x0,x1,x2,x3,x4,x5,x6,x7,x8,x9,x10,x11⟩:=celL H1.out) | ((with_reducible refine gate_dst (N:=3) rfl ?_);refine box_event ?hg (N:=3) ?hd (cs:=?cs3) (t:=26) ?hr ?_;(case hd=>rfl);(case hg=>rfl);(case hr=>first | (go_simp;done) | (go_simp;rfl));intro g3 hg w3 hbox hb;have T:=Aside0.mk (T3.mk (below_step HB.out hb) (blk_below H1.out hb) (blk_below H2.out hb) hbox G1.out L12.out (by rw [hg];exact blk_lt H2.out));clear hb hbox hg H1 H2 HB G1 L12;clear x0 x1 x2 x3 x4 x5 x6 x7 x8 x9 x10 x11;obtain ⟨_,_,_,_,e13,e31,e23,e32⟩:=T.out.n;obtain ⟨x0,x1,x2,x3,x4,x5,x6,x7,x8,x9,x10,x11⟩:=celL T.out.2.1;obtain ⟨y0,y1,y2,y3,y4,y5,y6,y7,y8,y9,y10,y11⟩:=celL T.out.2.2.2.1;obtain ⟨z0,z1,z2,z3,z4,z5,z6,z7,z8,z9,z10,z11⟩:=froZ T.out.2.2.2.1;obtain ⟨u0,u1,u2,u3,u4,u5,u6,u7,u8,u9,u10,u11⟩:=celL T.out.2.2.1;obtain ⟨r0,r1,r2,r3,r4,r5,r6,r7,r8,r9,r10,r11⟩:=froZ T.out.2.2.1) | ((with_reducible refine gate_store (t:=26) (p:=3) rfl ?_);refine store_event (t:=26) (p:=3) (v:=?vow4) (w1:=?wow4) ?hg ?ho ?hn ?hr ?_;(case ho=>rfl);(case hg=>rfl);(case hn=>rfl);(case hr=>first | (go_simp;done) | (go_simp;rfl));intro w4 hw;replace T:=Aside0.mk (T.out.put3.to hw);clear hw;clear x0 x1 x2 x3 x4 x5 x6 x7 x8 x9 x10 x11 y0 y1 y2 y3 y4 y5 y6 y7 y8 y9 y10 y11 z0 z1 z2 z3 z4 z5 z6 z7 z8 z9 z10 z11 u0 u1 u2 u3 u4 u5 u6 u7 u8 u9 u10 u11 r0 r1 r2 r3 r4 r5 r6 r7 r8 r9 r10 r11;obtain ⟨x0,x1,x2,x3,x4,x5,x6,x7,x8,x9,x10,x11⟩:=celL T.out.2.1;obtain ⟨y0,y1,y2,y3,y4,y5,y6,y7,y8,y9,y10,y11⟩:=celL T.out.2.2.2.1;obtain ⟨z0,z1,z2,z3,z4,z5,z6,z7,z8,z9,z10,z11⟩:=froZ T.out.2.2.2.1;obtain ⟨u0,u1,u2,u3,u4,u5,u6,u7,u8,u9,u10,u11⟩:=celL T.out.2.2.1;obtain ⟨r0,r1,r2,r3,r4,r5,r6,r7,r8,r9,r10,r11⟩:=froZ T.out.2.2.1))
  clear x0 x1 x2 x3 x4 x5 x6 x7 x8 x9 x10 x11 y0 y1 y2 y3 y4 y5 y6 y7 y8 y9 y10 y11 z0 z1 z2 z3 z4 z5 z6 z7 z8 z9 z10 z11 u0 u1 u2 u3 u4 u5 u6 u7 u8 u9 u10 u11 r0 r1 r2 r3 r4 r5 r6 r7 r8 r9 r10 r11
  refine start_ (n:=16) (S:=fun w'=>C12 w' g1 (.string ⟨#[115,116,111,114,101]⟩) (.string d.verb) (.slice A d.keys.length c) (.string d.data) (.int .u32 d.flags) (.int .i64 d.exp) (.int .u64 d.cas) (.int .u64 d.by_) (.bool d.withCas) (.bool d.withTouch) (.bool d.down) (.bool d.quiet)) (ds:=[]) #[f,f,f,f,f,f,f,f,f,f,f,f,f,f,f,f] (by kernel_rfl) rfl rfl (celL T.out.2.1) (fun hHeld=>?_)
  refine with_tabW cellaretlaw18_plain.tab8 cellaretlaw18_plain.bits8 (fun HT_ HW_=>?_)
  replace T:=Aside0.mk T.out.drew
  generalize w4.drew=w5 at T hHeld ⊢
  skip
  refine pure_ (i:=0) (N:=some 29) (v:=?_) (a':=?_) #[t,f,f,f,f,f,f,f,f,f,f,f,f,f,f,f] rfl rfl (any_of HT_.out (by kernel_rfl)) (fun _ _ _ h=>h) (Or.inl ⟨by rfl,?_⟩) ?_ ?_
  rotate_left
  · intro w'
    go_simp
    with_reducible rfl
  rotate_left
  · simp only [pS]
    rfl
  refine pure_ (i:=2) (N:=some 31) (v:=?_) (a':=?_) #[t,f,t,f,f,f,f,f,f,f,f,f,f,f,f,f] rfl rfl (any_of HT_.out (by kernel_rfl)) (fun _ _ _ h=>h) (Or.inl ⟨by rfl,?_⟩) ?_ ?_
  rotate_left
  · intro w'
    go_simp
    with_reducible rfl
  rotate_left
  · simp only [pS]
    rfl
  refine pure_ (i:=4) (N:=some 33) (v:=?_) (a':=?_) #[t,f,t,f,t,f,f,f,f,f,f,f,f,f,f,f] rfl rfl (any_of HT_.out (by kernel_rfl)) (fun _ _ _ h=>h) (Or.inl ⟨by rfl,?_⟩) ?_ ?_
  rotate_left
  · intro w'
    go_simp
    with_reducible rfl
  rotate_left
  · simp only [pS]
    rfl
  refine pure_ (i:=6) (N:=some 35) (v:=?_) (a':=?_) #[t,f,t,f,t,f,t,f,f,f,f,f,f,f,f,f] rfl rfl (any_of HT_.out (by kernel_rfl)) (fun _ _ _ h=>h) (Or.inl ⟨by rfl,?_⟩) ?_ ?_
  rotate_left
  · intro w'
    go_simp
    with_reducible rfl
  rotate_left
  · simp only [pS]
    rfl
  refine take_ (i:=1) (N:=some 30) (v:=?_) (a':=?_) #[t,t,t,f,t,f,t,f,f,f,f,f,f,f,f,f] rfl rfl (take_ofW HT_.out HW_.out (by kernel_rfl)) (fun _ _ _ h=>h) (Or.inl ⟨by rfl,?_⟩) hHeld ?_ ?_
  rotate_left
  · rintro w' ⟨s0,s1,s2,s3,s4,s5,s6,s7,s8,s9,s10,s11⟩
    go_simp
    with_reducible rfl
  rotate_left
  · simp only [pS]
    rfl
  refine pure_ (i:=8) (N:=some 37) (v:=?_) (a':=?_) #[t,t,t,f,t,f,t,f,t,f,f,f,f,f,f,f] rfl rfl (any_of HT_.out (by kernel_rfl)) (fun _ _ _ h=>h) (Or.inl ⟨by rfl,?_⟩) ?_ ?_
  rotate_left
  · intro w'
    go_simp
    with_reducible rfl
  rotate_left
  · simp only [pS]
    rfl
  refine take_ (i:=3) (N:=some 32) (v:=?_) (a':=?_) #[t,t,t,t,t,f,t,f,t,f,f,f,f,f,f,f] rfl rfl (take_ofW HT_.out HW_.out (by kernel_rfl)) (fun _ _ _ h=>h) (Or.inl ⟨by rfl,?_⟩) hHeld ?_ ?_
  rotate_left
  · rintro w' ⟨s0,s1,s2,s3,s4,s5,s6,s7,s8,s9,s10,s11⟩
    go_simp
    with_reducible rfl
  rotate_left
  · simp only [pS]
    rfl
  refine take_ (i:=5) (N:=some 34) (v:=?_) (a':=?_) #[t,t,t,t,t,t,t,f,t,f,f,f,f,f,f,f] rfl rfl (take_ofW HT_.out HW_.out (by kernel_rfl)) (fun _ _ _ h=>h) (Or.inl ⟨by rfl,?_⟩) hHeld ?_ ?_
  rotate_left
  · rintro w' ⟨s0,s1,s2,s3,s4,s5,s6,s7,s8,s9,s10,s11⟩
    go_simp
    with_reducible rfl
  rotate_left
  · simp only [pS]
    rfl
  refine take_ (i:=7) (N:=some 36) (v:=?_) (a':=?_) #[t,t,t,t,t,t,t,t,t,f,f,f,f,f,f,f] rfl rfl (take_ofW HT_.out HW_.out (by kernel_rfl)) (fun _ _ _ h=>h) (Or.inl ⟨by rfl,?_⟩) hHeld ?_ ?_
  rotate_left
  · rintro w' ⟨s0,s1,s2,s3,s4,s5,s6,s7,s8,s9,s10,s11⟩
    go_simp
    with_reducible rfl
  rotate_left
  · simp only [pS]
    rfl
  refine one_ (i:=9) (N:=none) #[t,t,t,t,t,t,t,t,t,t,f,f,f,f,f,f] rfl rfl (one_of HT_.out (by kernel_rfl)) (by decide) (fun K hK=>?_)
  have hs:w5.cell? ⟨g3,1,none⟩=some (.string (⟨#[]⟩:ByteArray)):=(blk_cell T.out.2.2.2.1 1).trans rfl
  have hf:=blk_frozen T.out.2.2.2.1 1
  refine skip_ (w1:=?_) (by rfl) rfl ?_ ?_
  rotate_left
  · go_simp
    rfl
  replace T:=Aside0.mk (T.out.s1 (.string d.verb))
  clear hs hf hHeld
  generalize w5.setCell ⟨g3,1,none⟩ (.string d.verb)=w6 at T ⊢
  refine hK.out _ _ (celL T.out.2.1) (fun hHeld=>?_)
  clear hK K
  refine pure_ (i:=10) (N:=some 38) (v:=?_) (a':=?_) #[t,t,t,t,t,t,t,t,t,t,t,f,f,f,f,f] rfl rfl (any_of HT_.out (by kernel_rfl)) (fun _ _ _ h=>h) (Or.inl ⟨by rfl,?_⟩) ?_ ?_
  rotate_left
  · intro w'
    go_simp
    with_reducible rfl
  rotate_left
  · simp only [pS]
    rfl
  refine one_ (i:=11) (N:=none) #[t,t,t,t,t,t,t,t,t,t,t,t,f,f,f,f] rfl rfl (one_of HT_.out (by kernel_rfl)) (by decide) (fun K hK=>?_)
  have hs:w6.cell? ⟨g3,3,none⟩=some (.string (⟨#[]⟩:ByteArray)):=(blk_cell T.out.2.2.2.1 3).trans rfl
  have hf:=blk_frozen T.out.2.2.2.1 3
  refine skip_ (w1:=?_) (by rfl) rfl ?_ ?_
  rotate_left
  · go_simp
    rfl
  replace T:=Aside0.mk (T.out.s3 (.string d.data))
  clear hs hf hHeld
  generalize w6.setCell ⟨g3,3,none⟩ (.string d.data)=w7 at T ⊢
  refine hK.out _ _ (celL T.out.2.1) (fun hHeld=>?_)
  clear hK K
  refine pure_ (i:=12) (N:=some 39) (v:=?_) (a':=?_) #[t,t,t,t,t,t,t,t,t,t,t,t,t,f,f,f] rfl rfl (any_of HT_.out (by kernel_rfl)) (fun _ _ _ h=>h) (Or.inl ⟨by rfl,?_⟩) ?_ ?_
  rotate_left
  · intro w'
    go_simp
    with_reducible rfl
  rotate_left
  · simp only [pS]
    rfl
  refine one_ (i:=13) (N:=none) #[t,t,t,t,t,t,t,t,t,t,t,t,t,t,f,f] rfl rfl (one_of HT_.out (by kernel_rfl)) (by decide) (fun K hK=>?_)
  have hs:w7.cell? ⟨g3,4,none⟩=some (.int .u32 0):=(blk_cell T.out.2.2.2.1 4).trans rfl
  have hf:=blk_frozen T.out.2.2.2.1 4
  refine skip_ (w1:=?_) (by rfl) rfl ?_ ?_
  rotate_left
  · go_simp
    rfl
  replace T:=Aside0.mk (T.out.s4 (.int .u32 d.flags))
  clear hs hf hHeld
  generalize w7.setCell ⟨g3,4,none⟩ (.int .u32 d.flags)=w8 at T ⊢
  refine hK.out _ _ (celL T.out.2.1) (fun hHeld=>?_)
  clear hK K
  refine pure_ (i:=14) (N:=some 40) (v:=?_) (a':=?_) #[t,t,t,t,t,t,t,t,t,t,t,t,t,t,t,f] rfl rfl (any_of HT_.out (by kernel_rfl)) (fun _ _ _ h=>h) (Or.inl ⟨by rfl,?_⟩) ?_ ?_
  rotate_left
  · intro w'
    go_simp
    with_reducible rfl
  rotate_left
  · simp only [pS]
    rfl
  refine one_ (i:=15) (N:=none) #[t,t,t,t,t,t,t,t,t,t,t,t,t,t,t,t] rfl rfl (one_of HT_.out (by kernel_rfl)) (by decide) (fun K hK=>?_)
  have hs:w8.cell? ⟨g3,5,none⟩=some (.int .i64 0):=(blk_cell T.out.2.2.2.1 5).trans rfl
  have hf:=blk_frozen T.out.2.2.2.1 5
  refine skip_ (w1:=?_) (by rfl) rfl ?_ ?_
  rotate_left
  · go_simp
    rfl
  replace T:=Aside0.mk (T.out.s5 (.int .i64 d.exp))
  clear hs hf hHeld
  generalize w8.setCell ⟨g3,5,none⟩ (.int .i64 d.exp)=w9 at T ⊢
  refine hK.out _ _ (celL T.out.2.1) (fun hHeld=>?_)
  clear hK K
  refine done_ (done_of HT_.out (by kernel_rfl)) ?_
  clear HT_ HW_ hHeld
  obtain ⟨x0,x1,x2,x3,x4,x5,x6,x7,x8,x9,x10,x11⟩:=celL T.out.2.1;obtain ⟨y0,y1,y2,y3,y4,y5,y6,y7,y8,y9,y10,y11⟩:=celL T.out.2.2.2.1;obtain ⟨z0,z1,z2,z3,z4,z5,z6,z7,z8,z9,z10,z11⟩:=froZ T.out.2.2.2.1;obtain ⟨u0,u1,u2,u3,u4,u5,u6,u7,u8,u9,u10,u11⟩:=celL T.out.2.2.1;obtain ⟨r0,r1,r2,r3,r4,r5,r6,r7,r8,r9,r10,r11⟩:=froZ T.out.2.2.1
  go_wp2_with (first | ((with_reducible refine gate_store (t:=24) (p:=46) rfl ?_);refine store_event (t:=24) (p:=46) (v:=?vow10) (w1:=?wow10) ?hg ?ho ?hn ?hr ?_;(case ho=>rfl);(case hg=>rfl);(case hn=>rfl);(case hr=>first | (go_simp;done) | (go_simp;rfl));intro w10 hw;replace T:=Aside0.mk ((T.out.s6 _).to hw);clear hw;clear x0 x1 x2 x3 x4 x5 x6 x7 x8 x9 x10 x11 y0 y1 y2 y3 y4 y5 y6 y7 y8 y9 y10 y11 z0 z1 z2 z3 z4 z5 z6 z7 z8 z9 z10 z11 u0 u1 u2 u3 u4 u5 u6 u7 u8 u9 u10 u11 r0 r1 r2 r3 r4 r5 r6 r7 r8 r9 r10 r11;obtain ⟨x0,x1,x2,x3,x4,x5,x6,x7,x8,x9,x10,x11⟩:=celL T.out.2.1;obtain ⟨y0,y1,y2,y3,y4,y5,y6,y7,y8,y9,y10,y11⟩:=celL T.out.2.2.2.1;obtain ⟨z0,z1,z2,z3,z4,z5,z6,z7,z8,z9,z10,z11⟩:=froZ T.out.2.2.2.1;obtain ⟨u0,u1,u2,u3,u4,u5,u6,u7,u8,u9,u10,u11⟩:=celL T.out.2.2.1;obtain ⟨r0,r1,r2,r3,r4,r5,r6,r7,r8,r9,r10,r11⟩:=froZ T.out.2.2.1) | ((with_reducible refine gate_store (t:=26) (p:=2) rfl ?_);refine store_event (t:=26) (p:=2) (v:=?vow11) (w1:=?wow11) ?hg ?ho ?hn ?hr ?_;(case ho=>rfl);(case hg=>rfl);(case hn=>rfl);(case hr=>first | (go_simp;done) | (go_simp;rfl));intro w11 hw;replace T:=Aside0.mk (T.out.put2.to hw);clear hw;clear x0 x1 x2 x3 x4 x5 x6 x7 x8 x9 x10 x11 y0 y1 y2 y3 y4 y5 y6 y7 y8 y9 y10 y11 z0 z1 z2 z3 z4 z5 z6 z7 z8 z9 z10 z11 u0 u1 u2 u3 u4 u5 u6 u7 u8 u9 u10 u11 r0 r1 r2 r3 r4 r5 r6 r7 r8 r9 r10 r11;skip))
  refine bodyPost_ret (results_cell_row rfl _ _ g2 26 #[.string ⟨#[115,116,111,114,101]⟩,.string d.verb,.slice A d.keys.length c,.string d.data,.int .u32 d.flags,.int .i64 d.exp,.int .u64 d.cas,.int .u64 0,.bool false,.bool false,.bool false,.bool d.quiet] (0,0) _ rfl T.out.2.2.1 Tryz.underlying26 rfl (by kernel_rfl)) rfl ?_
  exact ⟨A,c,rfl,hc,Kd.C_below HR.out T.out.1,T.out.1⟩
set_option maxHeartbeats 4000000 in
set_option maxRecDepth 100000 in
theorem store_plain (d:Cd) (hw:d.what=storeT) (ht:¬ d.verb.toList=[99,97,115]) {A:Option Addr} {c:Nat} {W:World} (hr:Kd.C Kd.string W A d.keys.length d.keys) (hc:d.keys.length≤c):Calls Tryz.prog 17 #[cdV d (.slice A d.keys.length c)] W (TellsB (plain_store d) W):=by
  have hu26:=Tryz.underlying26
  have HR:=Aside0.mk hr
  clear hr
  unfold cdV
  rw [hw]
  obtain ⟨q0,q1⟩:=tlF ht
  go_enter Tryz.func17,Tryz.ntmps17
  go_wp2_with (first | ((with_reducible refine gate_dst (N:=1) rfl ?_);refine box_event ?hg (N:=1) ?hd (cs:=?cs1) (t:=26) ?hr ?_;(case hd=>rfl);(case hg=>rfl);(case hr=>first | (go_simp;done) | (go_simp;rfl));intro g1 hg w1 hbox hb;have HB:=Aside0.mk hb;have H1:=Aside0.mk hbox;have G1:=Aside0.mk (Nat.le_of_eq hg.symm);clear hb hbox hg) | ((with_reducible refine gate_dst (N:=2) rfl ?_);refine box_event ?hg (N:=2) ?hd (cs:=?cs2) (t:=26) ?hr ?_;(case hd=>rfl);(case hg=>rfl);(case hr=>first | (go_simp;done) | (go_simp;rfl));intro g2 hg w2 hbox hb;have L12:=Aside0.mk (show g1 < g2 by rw [hg];exact blk_lt H1.out);replace H1:=Aside0.mk (blk_below H1.out hb);replace HB:=Aside0.mk (below_step HB.out hb);have H2:=Aside0.mk hbox;clear hb hbox hg;have e12:=Nat.ne_of_lt L12.out;have e21:=Nat.ne_of_gt L12.out;obtain ⟨x0,x1,x2,x3,x4,x5,x6,x7,x8,x9,x10,x11⟩:=celL H1.out) | ((with_reducible refine gate_dst (N:=3) rfl ?_);refine box_event ?hg (N:=3) ?hd (cs:=?cs3) (t:=26) ?hr ?_;(case hd=>rfl);(case hg=>rfl);(case hr=>first | (go_simp;done) | (go_simp;rfl));intro g3 hg w3 hbox hb;have T:=Aside0.mk (T3.mk (below_step HB.out hb) (blk_below H1.out hb) (blk_below H2.out hb) hbox G1.out L12.out (by rw [hg];exact blk_lt H2.out));clear hb hbox hg H1 H2 HB G1 L12;clear x0 x1 x2 x3 x4 x5 x6 x7 x8 x9 x10 x11;obtain ⟨_,_,_,_,e13,e31,e23,e32⟩:=T.out.n;obtain ⟨x0,x1,x2,x3,x4,x5,x6,x7,x8,x9,x10,x11⟩:=celL T.out.2.1;obtain ⟨y0,y1,y2,y3,y4,y5,y6,y7,y8,y9,y10,y11⟩:=celL T.out.2.2.2.1;obtain ⟨z0,z1,z2,z3,z4,z5,z6,z7,z8,z9,z10,z11⟩:=froZ T.out.2.2.2.1;obtain ⟨u0,u1,u2,u3,u4,u5,u6,u7,u8,u9,u10,u11⟩:=celL T.out.2.2.1;obtain ⟨r0,r1,r2,r3,r4,r5,r6,r7,r8,r9,r10,r11⟩:=froZ T.out.2.2.1) | ((with_reducible refine gate_store (t:=26) (p:=3) rfl ?_);refine store_event (t:=26) (p:=3) (v:=?vow4) (w1:=?wow4) ?hg ?ho ?hn ?hr ?_;(case ho=>rfl);(case hg=>rfl);(case hn=>rfl);(case hr=>first | (go_simp;done) | (go_simp;rfl));intro w4 hw;replace T:=Aside0.mk (T.out.put3.to hw);clear hw;clear x0 x1 x2 x3 x4 x5 x6 x7 x8 x9 x10 x11 y0 y1 y2 y3 y4 y5 y6 y7 y8 y9 y10 y11 z0 z1 z2 z3 z4 z5 z6 z7 z8 z9 z10 z11 u0 u1 u2 u3 u4 u5 u6 u7 u8 u9 u10 u11 r0 r1 r2 r3 r4 r5 r6 r7 r8 r9 r10 r11;obtain ⟨x0,x1,x2,x3,x4,x5,x6,x7,x8,x9,x10,x11⟩:=celL T.out.2.1;obtain ⟨y0,y1,y2,y3,y4,y5,y6,y7,y8,y9,y10,y11⟩:=celL T.out.2.2.2.1;obtain ⟨z0,z1,z2,z3,z4,z5,z6,z7,z8,z9,z10,z11⟩:=froZ T.out.2.2.2.1;obtain ⟨u0,u1,u2,u3,u4,u5,u6,u7,u8,u9,u10,u11⟩:=celL T.out.2.2.1;obtain ⟨r0,r1,r2,r3,r4,r5,r6,r7,r8,r9,r10,r11⟩:=froZ T.out.2.2.1))
  clear x0 x1 x2 x3 x4 x5 x6 x7 x8 x9 x10 x11 y0 y1 y2 y3 y4 y5 y6 y7 y8 y9 y10 y11 z0 z1 z2 z3 z4 z5 z6 z7 z8 z9 z10 z11 u0 u1 u2 u3 u4 u5 u6 u7 u8 u9 u10 u11 r0 r1 r2 r3 r4 r5 r6 r7 r8 r9 r10 r11
  refine start_ (n:=16) (S:=fun w'=>C12 w' g1 (.string ⟨#[115,116,111,114,101]⟩) (.string d.verb) (.slice A d.keys.length c) (.string d.data) (.int .u32 d.flags) (.int .i64 d.exp) (.int .u64 d.cas) (.int .u64 d.by_) (.bool d.withCas) (.bool d.withTouch) (.bool d.down) (.bool d.quiet)) (ds:=[]) #[f,f,f,f,f,f,f,f,f,f,f,f,f,f,f,f] (by kernel_rfl) rfl rfl (celL T.out.2.1) (fun hHeld=>?_)
  refine with_tabW cellaretlaw18_plain.tab8 cellaretlaw18_plain.bits8 (fun HT_ HW_=>?_)
  replace T:=Aside0.mk T.out.drew
  generalize w4.drew=w5 at T hHeld ⊢
  skip
  refine pure_ (i:=0) (N:=some 29) (v:=?_) (a':=?_) #[t,f,f,f,f,f,f,f,f,f,f,f,f,f,f,f] rfl rfl (any_of HT_.out (by kernel_rfl)) (fun _ _ _ h=>h) (Or.inl ⟨by rfl,?_⟩) ?_ ?_
  rotate_left
  · intro w'
    go_simp
    with_reducible rfl
  rotate_left
  · simp only [pS]
    rfl
  refine pure_ (i:=2) (N:=some 31) (v:=?_) (a':=?_) #[t,f,t,f,f,f,f,f,f,f,f,f,f,f,f,f] rfl rfl (any_of HT_.out (by kernel_rfl)) (fun _ _ _ h=>h) (Or.inl ⟨by rfl,?_⟩) ?_ ?_
  rotate_left
  · intro w'
    go_simp
    with_reducible rfl
  rotate_left
  · simp only [pS]
    rfl
  refine pure_ (i:=4) (N:=some 33) (v:=?_) (a':=?_) #[t,f,t,f,t,f,f,f,f,f,f,f,f,f,f,f] rfl rfl (any_of HT_.out (by kernel_rfl)) (fun _ _ _ h=>h) (Or.inl ⟨by rfl,?_⟩) ?_ ?_
  rotate_left
  · intro w'
    go_simp
    with_reducible rfl
  rotate_left
  · simp only [pS]
    rfl
  refine pure_ (i:=6) (N:=some 35) (v:=?_) (a':=?_) #[t,f,t,f,t,f,t,f,f,f,f,f,f,f,f,f] rfl rfl (any_of HT_.out (by kernel_rfl)) (fun _ _ _ h=>h) (Or.inl ⟨by rfl,?_⟩) ?_ ?_
  rotate_left
  · intro w'
    go_simp
    with_reducible rfl
  rotate_left
  · simp only [pS]
    rfl
  refine take_ (i:=1) (N:=some 30) (v:=?_) (a':=?_) #[t,t,t,f,t,f,t,f,f,f,f,f,f,f,f,f] rfl rfl (take_ofW HT_.out HW_.out (by kernel_rfl)) (fun _ _ _ h=>h) (Or.inl ⟨by rfl,?_⟩) hHeld ?_ ?_
  rotate_left
  · rintro w' ⟨s0,s1,s2,s3,s4,s5,s6,s7,s8,s9,s10,s11⟩
    go_simp
    with_reducible rfl
  rotate_left
  · simp only [pS]
    rfl
  refine pure_ (i:=8) (N:=some 37) (v:=?_) (a':=?_) #[t,t,t,f,t,f,t,f,t,f,f,f,f,f,f,f] rfl rfl (any_of HT_.out (by kernel_rfl)) (fun _ _ _ h=>h) (Or.inl ⟨by rfl,?_⟩) ?_ ?_
  rotate_left
  · intro w'
    go_simp
    with_reducible rfl
  rotate_left
  · simp only [pS]
    rfl
  refine take_ (i:=3) (N:=some 32) (v:=?_) (a':=?_) #[t,t,t,t,t,f,t,f,t,f,f,f,f,f,f,f] rfl rfl (take_ofW HT_.out HW_.out (by kernel_rfl)) (fun _ _ _ h=>h) (Or.inl ⟨by rfl,?_⟩) hHeld ?_ ?_
  rotate_left
  · rintro w' ⟨s0,s1,s2,s3,s4,s5,s6,s7,s8,s9,s10,s11⟩
    go_simp
    with_reducible rfl
  rotate_left
  · simp only [pS]
    rfl
  refine take_ (i:=5) (N:=some 34) (v:=?_) (a':=?_) #[t,t,t,t,t,t,t,f,t,f,f,f,f,f,f,f] rfl rfl (take_ofW HT_.out HW_.out (by kernel_rfl)) (fun _ _ _ h=>h) (Or.inl ⟨by rfl,?_⟩) hHeld ?_ ?_
  rotate_left
  · rintro w' ⟨s0,s1,s2,s3,s4,s5,s6,s7,s8,s9,s10,s11⟩
    go_simp
    with_reducible rfl
  rotate_left
  · simp only [pS]
    rfl
  refine take_ (i:=7) (N:=some 36) (v:=?_) (a':=?_) #[t,t,t,t,t,t,t,t,t,f,f,f,f,f,f,f] rfl rfl (take_ofW HT_.out HW_.out (by kernel_rfl)) (fun _ _ _ h=>h) (Or.inl ⟨by rfl,?_⟩) hHeld ?_ ?_
  rotate_left
  · rintro w' ⟨s0,s1,s2,s3,s4,s5,s6,s7,s8,s9,s10,s11⟩
    go_simp
    with_reducible rfl
  rotate_left
  · simp only [pS]
    rfl
  refine one_ (i:=9) (N:=none) #[t,t,t,t,t,t,t,t,t,t,f,f,f,f,f,f] rfl rfl (one_of HT_.out (by kernel_rfl)) (by decide) (fun K hK=>?_)
  have hs:w5.cell? ⟨g3,1,none⟩=some (.string (⟨#[]⟩:ByteArray)):=(blk_cell T.out.2.2.2.1 1).trans rfl
  have hf:=blk_frozen T.out.2.2.2.1 1
  refine skip_ (w1:=?_) (by rfl) rfl ?_ ?_
  rotate_left
  · go_simp
    rfl
  replace T:=Aside0.mk (T.out.s1 (.string d.verb))
  clear hs hf hHeld
  generalize w5.setCell ⟨g3,1,none⟩ (.string d.verb)=w6 at T ⊢
  refine hK.out _ _ (celL T.out.2.1) (fun hHeld=>?_)
  clear hK K
  refine pure_ (i:=10) (N:=some 38) (v:=?_) (a':=?_) #[t,t,t,t,t,t,t,t,t,t,t,f,f,f,f,f] rfl rfl (any_of HT_.out (by kernel_rfl)) (fun _ _ _ h=>h) (Or.inl ⟨by rfl,?_⟩) ?_ ?_
  rotate_left
  · intro w'
    go_simp
    with_reducible rfl
  rotate_left
  · simp only [pS]
    rfl
  refine one_ (i:=11) (N:=none) #[t,t,t,t,t,t,t,t,t,t,t,t,f,f,f,f] rfl rfl (one_of HT_.out (by kernel_rfl)) (by decide) (fun K hK=>?_)
  have hs:w6.cell? ⟨g3,3,none⟩=some (.string (⟨#[]⟩:ByteArray)):=(blk_cell T.out.2.2.2.1 3).trans rfl
  have hf:=blk_frozen T.out.2.2.2.1 3
  refine skip_ (w1:=?_) (by rfl) rfl ?_ ?_
  rotate_left
  · go_simp
    rfl
  replace T:=Aside0.mk (T.out.s3 (.string d.data))
  clear hs hf hHeld
  generalize w6.setCell ⟨g3,3,none⟩ (.string d.data)=w7 at T ⊢
  refine hK.out _ _ (celL T.out.2.1) (fun hHeld=>?_)
  clear hK K
  refine pure_ (i:=12) (N:=some 39) (v:=?_) (a':=?_) #[t,t,t,t,t,t,t,t,t,t,t,t,t,f,f,f] rfl rfl (any_of HT_.out (by kernel_rfl)) (fun _ _ _ h=>h) (Or.inl ⟨by rfl,?_⟩) ?_ ?_
  rotate_left
  · intro w'
    go_simp
    with_reducible rfl
  rotate_left
  · simp only [pS]
    rfl
  refine one_ (i:=13) (N:=none) #[t,t,t,t,t,t,t,t,t,t,t,t,t,t,f,f] rfl rfl (one_of HT_.out (by kernel_rfl)) (by decide) (fun K hK=>?_)
  have hs:w7.cell? ⟨g3,4,none⟩=some (.int .u32 0):=(blk_cell T.out.2.2.2.1 4).trans rfl
  have hf:=blk_frozen T.out.2.2.2.1 4
  refine skip_ (w1:=?_) (by rfl) rfl ?_ ?_
  rotate_left
  · go_simp
    rfl
  replace T:=Aside0.mk (T.out.s4 (.int .u32 d.flags))
  clear hs hf hHeld
  generalize w7.setCell ⟨g3,4,none⟩ (.int .u32 d.flags)=w8 at T ⊢
  refine hK.out _ _ (celL T.out.2.1) (fun hHeld=>?_)
  clear hK K
  refine pure_ (i:=14) (N:=some 40) (v:=?_) (a':=?_) #[t,t,t,t,t,t,t,t,t,t,t,t,t,t,t,f] rfl rfl (any_of HT_.out (by kernel_rfl)) (fun _ _ _ h=>h) (Or.inl ⟨by rfl,?_⟩) ?_ ?_
  rotate_left
  · intro w'
    go_simp
    with_reducible rfl
  rotate_left
  · simp only [pS]
    rfl
  refine one_ (i:=15) (N:=none) #[t,t,t,t,t,t,t,t,t,t,t,t,t,t,t,t] rfl rfl (one_of HT_.out (by kernel_rfl)) (by decide) (fun K hK=>?_)
  have hs:w8.cell? ⟨g3,5,none⟩=some (.int .i64 0):=(blk_cell T.out.2.2.2.1 5).trans rfl
  have hf:=blk_frozen T.out.2.2.2.1 5
  refine skip_ (w1:=?_) (by rfl) rfl ?_ ?_
  rotate_left
  · go_simp
    rfl
  replace T:=Aside0.mk (T.out.s5 (.int .i64 d.exp))
  clear hs hf hHeld
  generalize w8.setCell ⟨g3,5,none⟩ (.int .i64 d.exp)=w9 at T ⊢
  refine hK.out _ _ (celL T.out.2.1) (fun hHeld=>?_)
  clear hK K
  refine done_ (done_of HT_.out (by kernel_rfl)) ?_
  clear HT_ HW_ hHeld
  obtain ⟨x0,x1,x2,x3,x4,x5,x6,x7,x8,x9,x10,x11⟩:=celL T.out.2.1;obtain ⟨y0,y1,y2,y3,y4,y5,y6,y7,y8,y9,y10,y11⟩:=celL T.out.2.2.2.1;obtain ⟨z0,z1,z2,z3,z4,z5,z6,z7,z8,z9,z10,z11⟩:=froZ T.out.2.2.2.1;obtain ⟨u0,u1,u2,u3,u4,u5,u6,u7,u8,u9,u10,u11⟩:=celL T.out.2.2.1;obtain ⟨r0,r1,r2,r3,r4,r5,r6,r7,r8,r9,r10,r11⟩:=froZ T.out.2.2.1
  go_wp2_with (first | ((with_reducible refine gate_store (t:=26) (p:=2) rfl ?_);refine store_event (t:=26) (p:=2) (v:=?vow10) (w1:=?wow10) ?hg ?ho ?hn ?hr ?_;(case ho=>rfl);(case hg=>rfl);(case hn=>rfl);(case hr=>first | (go_simp;done) | (go_simp;rfl));intro w10 hw;replace T:=Aside0.mk (T.out.put2.to hw);clear hw;clear x0 x1 x2 x3 x4 x5 x6 x7 x8 x9 x10 x11 y0 y1 y2 y3 y4 y5 y6 y7 y8 y9 y10 y11 z0 z1 z2 z3 z4 z5 z6 z7 z8 z9 z10 z11 u0 u1 u2 u3 u4 u5 u6 u7 u8 u9 u10 u11 r0 r1 r2 r3 r4 r5 r6 r7 r8 r9 r10 r11;skip))
  refine bodyPost_ret (results_cell_row rfl _ _ g2 26 #[.string ⟨#[115,116,111,114,101]⟩,.string d.verb,.slice A d.keys.length c,.string d.data,.int .u32 d.flags,.int .i64 d.exp,.int .u64 0,.int .u64 0,.bool false,.bool false,.bool false,.bool d.quiet] (0,0) _ rfl T.out.2.2.1 Tryz.underlying26 rfl (by kernel_rfl)) rfl ?_
  exact ⟨A,c,rfl,hc,Kd.C_below HR.out T.out.1,T.out.1⟩
def cellaretlaw18_plain.T12:Bool×List (List Nat×List Nat):=(true,[([],[]),([0],[0]),([],[]),([2],[2]),([0,1],[]),([4,1,0,1],[1,4]),([0,1,2,3,4,5],[]),([6,3,5,0,1,2,3,4,5],[3,6])])
def cellaretlaw18_plain.B12:List Nat:=[0,1,0,4,3,19,63,127]
theorem cellaretlaw18_plain.tab12:rtab .any (opsOf Tryz.f17 12)=cellaretlaw18_plain.T12:=by kernel_rfl
theorem cellaretlaw18_plain.bits12:waitsOk cellaretlaw18_plain.T12.2 cellaretlaw18_plain.B12=true:=by kernel_rfl
set_option maxHeartbeats 4000000 in
set_option maxRecDepth 100000 in
theorem arith_plain (d:Cd) (hw:d.what=arithT) {A:Option Addr} {c:Nat} {W:World} (hr:Kd.C Kd.string W A d.keys.length d.keys) (hc:d.keys.length≤c):Calls Tryz.prog 17 #[cdV d (.slice A d.keys.length c)] W (TellsB (plain_arith d) W):=by
  have hu26:=Tryz.underlying26
  have HR:=Aside0.mk hr
  clear hr
  unfold cdV
  rw [hw]
  go_enter Tryz.func17,Tryz.ntmps17
  go_wp2_with (first | ((with_reducible refine gate_dst (N:=1) rfl ?_);refine box_event ?hg (N:=1) ?hd (cs:=?cs1) (t:=26) ?hr ?_;(case hd=>rfl);(case hg=>rfl);(case hr=>first | (go_simp;done) | (go_simp;rfl));intro g1 hg w1 hbox hb;have HB:=Aside0.mk hb;have H1:=Aside0.mk hbox;have G1:=Aside0.mk (Nat.le_of_eq hg.symm);clear hb hbox hg) | ((with_reducible refine gate_dst (N:=2) rfl ?_);refine box_event ?hg (N:=2) ?hd (cs:=?cs2) (t:=26) ?hr ?_;(case hd=>rfl);(case hg=>rfl);(case hr=>first | (go_simp;done) | (go_simp;rfl));intro g2 hg w2 hbox hb;have L12:=Aside0.mk (show g1 < g2 by rw [hg];exact blk_lt H1.out);replace H1:=Aside0.mk (blk_below H1.out hb);replace HB:=Aside0.mk (below_step HB.out hb);have H2:=Aside0.mk hbox;clear hb hbox hg;have e12:=Nat.ne_of_lt L12.out;have e21:=Nat.ne_of_gt L12.out;obtain ⟨x0,x1,x2,x3,x4,x5,x6,x7,x8,x9,x10,x11⟩:=celL H1.out) | ((with_reducible refine gate_dst (N:=3) rfl ?_);refine box_event ?hg (N:=3) ?hd (cs:=?cs3) (t:=26) ?hr ?_;(case hd=>rfl);(case hg=>rfl);(case hr=>first | (go_simp;done) | (go_simp;rfl));intro g3 hg w3 hbox hb;have T:=Aside0.mk (T3.mk (below_step HB.out hb) (blk_below H1.out hb) (blk_below H2.out hb) hbox G1.out L12.out (by rw [hg];exact blk_lt H2.out));clear hb hbox hg H1 H2 HB G1 L12;clear x0 x1 x2 x3 x4 x5 x6 x7 x8 x9 x10 x11;obtain ⟨_,_,_,_,e13,e31,e23,e32⟩:=T.out.n;obtain ⟨x0,x1,x2,x3,x4,x5,x6,x7,x8,x9,x10,x11⟩:=celL T.out.2.1;obtain ⟨y0,y1,y2,y3,y4,y5,y6,y7,y8,y9,y10,y11⟩:=celL T.out.2.2.2.1;obtain ⟨z0,z1,z2,z3,z4,z5,z6,z7,z8,z9,z10,z11⟩:=froZ T.out.2.2.2.1;obtain ⟨u0,u1,u2,u3,u4,u5,u6,u7,u8,u9,u10,u11⟩:=celL T.out.2.2.1;obtain ⟨r0,r1,r2,r3,r4,r5,r6,r7,r8,r9,r10,r11⟩:=froZ T.out.2.2.1) | ((with_reducible refine gate_store (t:=26) (p:=3) rfl ?_);refine store_event (t:=26) (p:=3) (v:=?vow4) (w1:=?wow4) ?hg ?ho ?hn ?hr ?_;(case ho=>rfl);(case hg=>rfl);(case hn=>rfl);(case hr=>first | (go_simp;done) | (go_simp;rfl));intro w4 hw;replace T:=Aside0.mk (T.out.put3.to hw);clear hw;clear x0 x1 x2 x3 x4 x5 x6 x7 x8 x9 x10 x11 y0 y1 y2 y3 y4 y5 y6 y7 y8 y9 y10 y11 z0 z1 z2 z3 z4 z5 z6 z7 z8 z9 z10 z11 u0 u1 u2 u3 u4 u5 u6 u7 u8 u9 u10 u11 r0 r1 r2 r3 r4 r5 r6 r7 r8 r9 r10 r11;obtain ⟨x0,x1,x2,x3,x4,x5,x6,x7,x8,x9,x10,x11⟩:=celL T.out.2.1;obtain ⟨y0,y1,y2,y3,y4,y5,y6,y7,y8,y9,y10,y11⟩:=celL T.out.2.2.2.1;obtain ⟨z0,z1,z2,z3,z4,z5,z6,z7,z8,z9,z10,z11⟩:=froZ T.out.2.2.2.1;obtain ⟨u0,u1,u2,u3,u4,u5,u6,u7,u8,u9,u10,u11⟩:=celL T.out.2.2.1;obtain ⟨r0,r1,r2,r3,r4,r5,r6,r7,r8,r9,r10,r11⟩:=froZ T.out.2.2.1))
  clear x0 x1 x2 x3 x4 x5 x6 x7 x8 x9 x10 x11 y0 y1 y2 y3 y4 y5 y6 y7 y8 y9 y10 y11 z0 z1 z2 z3 z4 z5 z6 z7 z8 z9 z10 z11 u0 u1 u2 u3 u4 u5 u6 u7 u8 u9 u10 u11 r0 r1 r2 r3 r4 r5 r6 r7 r8 r9 r10 r11
  refine start_ (n:=8) (S:=fun w'=>C12 w' g1 (.string ⟨#[97,114,105,116,104]⟩) (.string d.verb) (.slice A d.keys.length c) (.string d.data) (.int .u32 d.flags) (.int .i64 d.exp) (.int .u64 d.cas) (.int .u64 d.by_) (.bool d.withCas) (.bool d.withTouch) (.bool d.down) (.bool d.quiet)) (ds:=[]) #[f,f,f,f,f,f,f,f] (by kernel_rfl) rfl rfl (celL T.out.2.1) (fun hHeld=>?_)
  refine with_tabW cellaretlaw18_plain.tab12 cellaretlaw18_plain.bits12 (fun HT_ HW_=>?_)
  replace T:=Aside0.mk T.out.drew
  generalize w4.drew=w5 at T hHeld ⊢
  skip
  refine pure_ (i:=0) (N:=some 49) (v:=?_) (a':=?_) #[t,f,f,f,f,f,f,f] rfl rfl (any_of HT_.out (by kernel_rfl)) (fun _ _ _ h=>h) (Or.inl ⟨by rfl,?_⟩) ?_ ?_
  rotate_left
  · intro w'
    go_simp
    with_reducible rfl
  rotate_left
  · simp only [pS]
    rfl
  refine pure_ (i:=2) (N:=some 51) (v:=?_) (a':=?_) #[t,f,t,f,f,f,f,f] rfl rfl (any_of HT_.out (by kernel_rfl)) (fun _ _ _ h=>h) (Or.inl ⟨by rfl,?_⟩) ?_ ?_
  rotate_left
  · intro w'
    go_simp
    with_reducible rfl
  rotate_left
  · simp only [pS]
    rfl
  refine take_ (i:=1) (N:=some 50) (v:=?_) (a':=?_) #[t,t,t,f,f,f,f,f] rfl rfl (take_ofW HT_.out HW_.out (by kernel_rfl)) (fun _ _ _ h=>h) (Or.inl ⟨by rfl,?_⟩) hHeld ?_ ?_
  rotate_left
  · rintro w' ⟨s0,s1,s2,s3,s4,s5,s6,s7,s8,s9,s10,s11⟩
    go_simp
    with_reducible rfl
  rotate_left
  · simp only [pS]
    rfl
  refine pure_ (i:=4) (N:=some 53) (v:=?_) (a':=?_) #[t,t,t,f,t,f,f,f] rfl rfl (any_of HT_.out (by kernel_rfl)) (fun _ _ _ h=>h) (Or.inl ⟨by rfl,?_⟩) ?_ ?_
  rotate_left
  · intro w'
    go_simp
    with_reducible rfl
  rotate_left
  · simp only [pS]
    rfl
  refine take_ (i:=3) (N:=some 52) (v:=?_) (a':=?_) #[t,t,t,t,t,f,f,f] rfl rfl (take_ofW HT_.out HW_.out (by kernel_rfl)) (fun _ _ _ h=>h) (Or.inl ⟨by rfl,?_⟩) hHeld ?_ ?_
  rotate_left
  · rintro w' ⟨s0,s1,s2,s3,s4,s5,s6,s7,s8,s9,s10,s11⟩
    go_simp
    with_reducible rfl
  rotate_left
  · simp only [pS]
    rfl
  refine one_ (i:=5) (N:=none) #[t,t,t,t,t,t,f,f] rfl rfl (one_of HT_.out (by kernel_rfl)) (by decide) (fun K hK=>?_)
  have hs:w5.cell? ⟨g3,7,none⟩=some (.int .u64 0):=(blk_cell T.out.2.2.2.1 7).trans rfl
  have hf:=blk_frozen T.out.2.2.2.1 7
  refine skip_ (w1:=?_) (by rfl) rfl ?_ ?_
  rotate_left
  · go_simp
    rfl
  replace T:=Aside0.mk (T.out.s7 (.int .u64 d.by_))
  clear hs hf hHeld
  generalize w5.setCell ⟨g3,7,none⟩ (.int .u64 d.by_)=w6 at T ⊢
  refine hK.out _ _ (celL T.out.2.1) (fun hHeld=>?_)
  clear hK K
  refine pure_ (i:=6) (N:=some 54) (v:=?_) (a':=?_) #[t,t,t,t,t,t,t,f] rfl rfl (any_of HT_.out (by kernel_rfl)) (fun _ _ _ h=>h) (Or.inl ⟨by rfl,?_⟩) ?_ ?_
  rotate_left
  · intro w'
    go_simp
    with_reducible rfl
  rotate_left
  · simp only [pS]
    rfl
  refine one_ (i:=7) (N:=none) #[t,t,t,t,t,t,t,t] rfl rfl (one_of HT_.out (by kernel_rfl)) (by decide) (fun K hK=>?_)
  have hs:w6.cell? ⟨g3,10,none⟩=some (.bool false):=(blk_cell T.out.2.2.2.1 10).trans rfl
  have hf:=blk_frozen T.out.2.2.2.1 10
  refine skip_ (w1:=?_) (by rfl) rfl ?_ ?_
  rotate_left
  · go_simp
    rfl
  replace T:=Aside0.mk (T.out.s10 (.bool d.down))
  clear hs hf hHeld
  generalize w6.setCell ⟨g3,10,none⟩ (.bool d.down)=w7 at T ⊢
  refine hK.out _ _ (celL T.out.2.1) (fun hHeld=>?_)
  clear hK K
  refine done_ (done_of HT_.out (by kernel_rfl)) ?_
  clear HT_ HW_ hHeld
  obtain ⟨x0,x1,x2,x3,x4,x5,x6,x7,x8,x9,x10,x11⟩:=celL T.out.2.1;obtain ⟨y0,y1,y2,y3,y4,y5,y6,y7,y8,y9,y10,y11⟩:=celL T.out.2.2.2.1;obtain ⟨z0,z1,z2,z3,z4,z5,z6,z7,z8,z9,z10,z11⟩:=froZ T.out.2.2.2.1;obtain ⟨u0,u1,u2,u3,u4,u5,u6,u7,u8,u9,u10,u11⟩:=celL T.out.2.2.1;obtain ⟨r0,r1,r2,r3,r4,r5,r6,r7,r8,r9,r10,r11⟩:=froZ T.out.2.2.1
  go_wp2_with (first | ((with_reducible refine gate_store (t:=26) (p:=2) rfl ?_);refine store_event (t:=26) (p:=2) (v:=?vow8) (w1:=?wow8) ?hg ?ho ?hn ?hr ?_;(case ho=>rfl);(case hg=>rfl);(case hn=>rfl);(case hr=>first | (go_simp;done) | (go_simp;rfl));intro w8 hw;replace T:=Aside0.mk (T.out.put2.to hw);clear hw;clear x0 x1 x2 x3 x4 x5 x6 x7 x8 x9 x10 x11 y0 y1 y2 y3 y4 y5 y6 y7 y8 y9 y10 y11 z0 z1 z2 z3 z4 z5 z6 z7 z8 z9 z10 z11 u0 u1 u2 u3 u4 u5 u6 u7 u8 u9 u10 u11 r0 r1 r2 r3 r4 r5 r6 r7 r8 r9 r10 r11;skip))
  refine bodyPost_ret (results_cell_row rfl _ _ g2 26 #[.string ⟨#[97,114,105,116,104]⟩,.string (⟨#[]⟩:ByteArray),.slice A d.keys.length c,.string (⟨#[]⟩:ByteArray),.int .u32 0,.int .i64 0,.int .u64 0,.int .u64 d.by_,.bool false,.bool false,.bool d.down,.bool d.quiet] (0,0) _ rfl T.out.2.2.1 Tryz.underlying26 rfl (by kernel_rfl)) rfl ?_
  exact ⟨A,c,rfl,hc,Kd.C_below HR.out T.out.1,T.out.1⟩
set_option maxHeartbeats 4000000 in
set_option maxRecDepth 100000 in
theorem touch_plain (d:Cd) (hw:d.what=touchT) {A:Option Addr} {c:Nat} {W:World} (hr:Kd.C Kd.string W A d.keys.length d.keys) (hc:d.keys.length≤c):Calls Tryz.prog 17 #[cdV d (.slice A d.keys.length c)] W (TellsB (plain_touch d) W):=by
  have hu26:=Tryz.underlying26
  have HR:=Aside0.mk hr
  clear hr
  unfold cdV
  rw [hw]
  go_enter Tryz.func17,Tryz.ntmps17
  go_wp2_with (first | ((with_reducible refine gate_dst (N:=1) rfl ?_);refine box_event ?hg (N:=1) ?hd (cs:=?cs1) (t:=26) ?hr ?_;(case hd=>rfl);(case hg=>rfl);(case hr=>first | (go_simp;done) | (go_simp;rfl));intro g1 hg w1 hbox hb;have HB:=Aside0.mk hb;have H1:=Aside0.mk hbox;have G1:=Aside0.mk (Nat.le_of_eq hg.symm);clear hb hbox hg) | ((with_reducible refine gate_dst (N:=2) rfl ?_);refine box_event ?hg (N:=2) ?hd (cs:=?cs2) (t:=26) ?hr ?_;(case hd=>rfl);(case hg=>rfl);(case hr=>first | (go_simp;done) | (go_simp;rfl));intro g2 hg w2 hbox hb;have L12:=Aside0.mk (show g1 < g2 by rw [hg];exact blk_lt H1.out);replace H1:=Aside0.mk (blk_below H1.out hb);replace HB:=Aside0.mk (below_step HB.out hb);have H2:=Aside0.mk hbox;clear hb hbox hg;have e12:=Nat.ne_of_lt L12.out;have e21:=Nat.ne_of_gt L12.out;obtain ⟨x0,x1,x2,x3,x4,x5,x6,x7,x8,x9,x10,x11⟩:=celL H1.out) | ((with_reducible refine gate_dst (N:=3) rfl ?_);refine box_event ?hg (N:=3) ?hd (cs:=?cs3) (t:=26) ?hr ?_;(case hd=>rfl);(case hg=>rfl);(case hr=>first | (go_simp;done) | (go_simp;rfl));intro g3 hg w3 hbox hb;have T:=Aside0.mk (T3.mk (below_step HB.out hb) (blk_below H1.out hb) (blk_below H2.out hb) hbox G1.out L12.out (by rw [hg];exact blk_lt H2.out));clear hb hbox hg H1 H2 HB G1 L12;clear x0 x1 x2 x3 x4 x5 x6 x7 x8 x9 x10 x11;obtain ⟨_,_,_,_,e13,e31,e23,e32⟩:=T.out.n;obtain ⟨x0,x1,x2,x3,x4,x5,x6,x7,x8,x9,x10,x11⟩:=celL T.out.2.1;obtain ⟨y0,y1,y2,y3,y4,y5,y6,y7,y8,y9,y10,y11⟩:=celL T.out.2.2.2.1;obtain ⟨z0,z1,z2,z3,z4,z5,z6,z7,z8,z9,z10,z11⟩:=froZ T.out.2.2.2.1;obtain ⟨u0,u1,u2,u3,u4,u5,u6,u7,u8,u9,u10,u11⟩:=celL T.out.2.2.1;obtain ⟨r0,r1,r2,r3,r4,r5,r6,r7,r8,r9,r10,r11⟩:=froZ T.out.2.2.1) | ((with_reducible refine gate_store (t:=26) (p:=3) rfl ?_);refine store_event (t:=26) (p:=3) (v:=?vow4) (w1:=?wow4) ?hg ?ho ?hn ?hr ?_;(case ho=>rfl);(case hg=>rfl);(case hn=>rfl);(case hr=>first | (go_simp;done) | (go_simp;rfl));intro w4 hw;replace T:=Aside0.mk (T.out.put3.to hw);clear hw;clear x0 x1 x2 x3 x4 x5 x6 x7 x8 x9 x10 x11 y0 y1 y2 y3 y4 y5 y6 y7 y8 y9 y10 y11 z0 z1 z2 z3 z4 z5 z6 z7 z8 z9 z10 z11 u0 u1 u2 u3 u4 u5 u6 u7 u8 u9 u10 u11 r0 r1 r2 r3 r4 r5 r6 r7 r8 r9 r10 r11;obtain ⟨x0,x1,x2,x3,x4,x5,x6,x7,x8,x9,x10,x11⟩:=celL T.out.2.1;obtain ⟨y0,y1,y2,y3,y4,y5,y6,y7,y8,y9,y10,y11⟩:=celL T.out.2.2.2.1;obtain ⟨z0,z1,z2,z3,z4,z5,z6,z7,z8,z9,z10,z11⟩:=froZ T.out.2.2.2.1;obtain ⟨u0,u1,u2,u3,u4,u5,u6,u7,u8,u9,u10,u11⟩:=celL T.out.2.2.1;obtain ⟨r0,r1,r2,r3,r4,r5,r6,r7,r8,r9,r10,r11⟩:=froZ T.out.2.2.1) | ((with_reducible refine gate_store (t:=2) (p:=59) rfl ?_);refine store_event (t:=2) (p:=59) (v:=?vow5) (w1:=?wow5) ?hg ?ho ?hn ?hr ?_;(case ho=>rfl);(case hg=>rfl);(case hn=>rfl);(case hr=>first | (go_simp;done) | (go_simp;rfl));intro w5 hw;replace T:=Aside0.mk ((T.out.s5 _).to hw);clear hw;clear x0 x1 x2 x3 x4 x5 x6 x7 x8 x9 x10 x11 y0 y1 y2 y3 y4 y5 y6 y7 y8 y9 y10 y11 z0 z1 z2 z3 z4 z5 z6 z7 z8 z9 z10 z11 u0 u1 u2 u3 u4 u5 u6 u7 u8 u9 u10 u11 r0 r1 r2 r3 r4 r5 r6 r7 r8 r9 r10 r11;obtain ⟨x0,x1,x2,x3,x4,x5,x6,x7,x8,x9,x10,x11⟩:=celL T.out.2.1;obtain ⟨y0,y1,y2,y3,y4,y5,y6,y7,y8,y9,y10,y11⟩:=celL T.out.2.2.2.1;obtain ⟨z0,z1,z2,z3,z4,z5,z6,z7,z8,z9,z10,z11⟩:=froZ T.out.2.2.2.1;obtain ⟨u0,u1,u2,u3,u4,u5,u6,u7,u8,u9,u10,u11⟩:=celL T.out.2.2.1;obtain ⟨r0,r1,r2,r3,r4,r5,r6,r7,r8,r9,r10,r11⟩:=froZ T.out.2.2.1) | ((with_reducible refine gate_store (t:=26) (p:=2) rfl ?_);refine store_event (t:=26) (p:=2) (v:=?vow6) (w1:=?wow6) ?hg ?ho ?hn ?hr ?_;(case ho=>rfl);(case hg=>rfl);(case hn=>rfl);(case hr=>first | (go_simp;done) | (go_simp;rfl));intro w6 hw;replace T:=Aside0.mk (T.out.put2.to hw);clear hw;clear x0 x1 x2 x3 x4 x5 x6 x7 x8 x9 x10 x11 y0 y1 y2 y3 y4 y5 y6 y7 y8 y9 y10 y11 z0 z1 z2 z3 z4 z5 z6 z7 z8 z9 z10 z11 u0 u1 u2 u3 u4 u5 u6 u7 u8 u9 u10 u11 r0 r1 r2 r3 r4 r5 r6 r7 r8 r9 r10 r11;skip))
  refine bodyPost_ret (results_cell_row rfl _ _ g2 26 #[.string ⟨#[116,111,117,99,104]⟩,.string (⟨#[]⟩:ByteArray),.slice A d.keys.length c,.string (⟨#[]⟩:ByteArray),.int .u32 0,.int .i64 d.exp,.int .u64 0,.int .u64 0,.bool false,.bool false,.bool false,.bool d.quiet] (0,0) _ rfl T.out.2.2.1 Tryz.underlying26 rfl (by kernel_rfl)) rfl ?_
  exact ⟨A,c,rfl,hc,Kd.C_below HR.out T.out.1,T.out.1⟩
set_option maxHeartbeats 4000000 in
set_option maxRecDepth 100000 in
theorem delete_plain (d:Cd) (hw:d.what=deleteT) {A:Option Addr} {c:Nat} {W:World} (hr:Kd.C Kd.string W A d.keys.length d.keys) (hc:d.keys.length≤c):Calls Tryz.prog 17 #[cdV d (.slice A d.keys.length c)] W (TellsB (plain_delete d) W):=by
  have hu26:=Tryz.underlying26
  have HR:=Aside0.mk hr
  clear hr
  unfold cdV
  rw [hw]
  go_enter Tryz.func17,Tryz.ntmps17
  go_wp2_with (first | ((with_reducible refine gate_dst (N:=1) rfl ?_);refine box_event ?hg (N:=1) ?hd (cs:=?cs1) (t:=26) ?hr ?_;(case hd=>rfl);(case hg=>rfl);(case hr=>first | (go_simp;done) | (go_simp;rfl));intro g1 hg w1 hbox hb;have HB:=Aside0.mk hb;have H1:=Aside0.mk hbox;have G1:=Aside0.mk (Nat.le_of_eq hg.symm);clear hb hbox hg) | ((with_reducible refine gate_dst (N:=2) rfl ?_);refine box_event ?hg (N:=2) ?hd (cs:=?cs2) (t:=26) ?hr ?_;(case hd=>rfl);(case hg=>rfl);(case hr=>first | (go_simp;done) | (go_simp;rfl));intro g2 hg w2 hbox hb;have L12:=Aside0.mk (show g1 < g2 by rw [hg];exact blk_lt H1.out);replace H1:=Aside0.mk (blk_below H1.out hb);replace HB:=Aside0.mk (below_step HB.out hb);have H2:=Aside0.mk hbox;clear hb hbox hg;have e12:=Nat.ne_of_lt L12.out;have e21:=Nat.ne_of_gt L12.out;obtain ⟨x0,x1,x2,x3,x4,x5,x6,x7,x8,x9,x10,x11⟩:=celL H1.out) | ((with_reducible refine gate_dst (N:=3) rfl ?_);refine box_event ?hg (N:=3) ?hd (cs:=?cs3) (t:=26) ?hr ?_;(case hd=>rfl);(case hg=>rfl);(case hr=>first | (go_simp;done) | (go_simp;rfl));intro g3 hg w3 hbox hb;have T:=Aside0.mk (T3.mk (below_step HB.out hb) (blk_below H1.out hb) (blk_below H2.out hb) hbox G1.out L12.out (by rw [hg];exact blk_lt H2.out));clear hb hbox hg H1 H2 HB G1 L12;clear x0 x1 x2 x3 x4 x5 x6 x7 x8 x9 x10 x11;obtain ⟨_,_,_,_,e13,e31,e23,e32⟩:=T.out.n;obtain ⟨x0,x1,x2,x3,x4,x5,x6,x7,x8,x9,x10,x11⟩:=celL T.out.2.1;obtain ⟨y0,y1,y2,y3,y4,y5,y6,y7,y8,y9,y10,y11⟩:=celL T.out.2.2.2.1;obtain ⟨z0,z1,z2,z3,z4,z5,z6,z7,z8,z9,z10,z11⟩:=froZ T.out.2.2.2.1;obtain ⟨u0,u1,u2,u3,u4,u5,u6,u7,u8,u9,u10,u11⟩:=celL T.out.2.2.1;obtain ⟨r0,r1,r2,r3,r4,r5,r6,r7,r8,r9,r10,r11⟩:=froZ T.out.2.2.1) | ((with_reducible refine gate_store (t:=26) (p:=3) rfl ?_);refine store_event (t:=26) (p:=3) (v:=?vow4) (w1:=?wow4) ?hg ?ho ?hn ?hr ?_;(case ho=>rfl);(case hg=>rfl);(case hn=>rfl);(case hr=>first | (go_simp;done) | (go_simp;rfl));intro w4 hw;replace T:=Aside0.mk (T.out.put3.to hw);clear hw;clear x0 x1 x2 x3 x4 x5 x6 x7 x8 x9 x10 x11 y0 y1 y2 y3 y4 y5 y6 y7 y8 y9 y10 y11 z0 z1 z2 z3 z4 z5 z6 z7 z8 z9 z10 z11 u0 u1 u2 u3 u4 u5 u6 u7 u8 u9 u10 u11 r0 r1 r2 r3 r4 r5 r6 r7 r8 r9 r10 r11;obtain ⟨x0,x1,x2,x3,x4,x5,x6,x7,x8,x9,x10,x11⟩:=celL T.out.2.1;obtain ⟨y0,y1,y2,y3,y4,y5,y6,y7,y8,y9,y10,y11⟩:=celL T.out.2.2.2.1;obtain ⟨z0,z1,z2,z3,z4,z5,z6,z7,z8,z9,z10,z11⟩:=froZ T.out.2.2.2.1;obtain ⟨u0,u1,u2,u3,u4,u5,u6,u7,u8,u9,u10,u11⟩:=celL T.out.2.2.1;obtain ⟨r0,r1,r2,r3,r4,r5,r6,r7,r8,r9,r10,r11⟩:=froZ T.out.2.2.1) | ((with_reducible refine gate_store (t:=26) (p:=2) rfl ?_);refine store_event (t:=26) (p:=2) (v:=?vow5) (w1:=?wow5) ?hg ?ho ?hn ?hr ?_;(case ho=>rfl);(case hg=>rfl);(case hn=>rfl);(case hr=>first | (go_simp;done) | (go_simp;rfl));intro w5 hw;replace T:=Aside0.mk (T.out.put2.to hw);clear hw;clear x0 x1 x2 x3 x4 x5 x6 x7 x8 x9 x10 x11 y0 y1 y2 y3 y4 y5 y6 y7 y8 y9 y10 y11 z0 z1 z2 z3 z4 z5 z6 z7 z8 z9 z10 z11 u0 u1 u2 u3 u4 u5 u6 u7 u8 u9 u10 u11 r0 r1 r2 r3 r4 r5 r6 r7 r8 r9 r10 r11;skip))
  refine bodyPost_ret (results_cell_row rfl _ _ g2 26 #[.string ⟨#[100,101,108,101,116,101]⟩,.string (⟨#[]⟩:ByteArray),.slice A d.keys.length c,.string (⟨#[]⟩:ByteArray),.int .u32 0,.int .i64 0,.int .u64 0,.int .u64 0,.bool false,.bool false,.bool false,.bool d.quiet] (0,0) _ rfl T.out.2.2.1 Tryz.underlying26 rfl (by kernel_rfl)) rfl ?_
  exact ⟨A,c,rfl,hc,Kd.C_below HR.out T.out.1,T.out.1⟩
set_option maxHeartbeats 4000000 in
set_option maxRecDepth 100000 in
theorem flush_plain (d:Cd) (hw:d.what=flushT) {A:Option Addr} {c:Nat} {W:World} (hr:Kd.C Kd.string W A d.keys.length d.keys) (hc:d.keys.length≤c):Calls Tryz.prog 17 #[cdV d (.slice A d.keys.length c)] W (TellsB (plain_flush d) W):=by
  have hu26:=Tryz.underlying26
  have HR:=Aside0.mk hr
  clear hr
  unfold cdV
  rw [hw]
  go_enter Tryz.func17,Tryz.ntmps17
  go_wp2_with (first | ((with_reducible refine gate_dst (N:=1) rfl ?_);refine box_event ?hg (N:=1) ?hd (cs:=?cs1) (t:=26) ?hr ?_;(case hd=>rfl);(case hg=>rfl);(case hr=>first | (go_simp;done) | (go_simp;rfl));intro g1 hg w1 hbox hb;have HB:=Aside0.mk hb;have H1:=Aside0.mk hbox;have G1:=Aside0.mk (Nat.le_of_eq hg.symm);clear hb hbox hg) | ((with_reducible refine gate_dst (N:=2) rfl ?_);refine box_event ?hg (N:=2) ?hd (cs:=?cs2) (t:=26) ?hr ?_;(case hd=>rfl);(case hg=>rfl);(case hr=>first | (go_simp;done) | (go_simp;rfl));intro g2 hg w2 hbox hb;have L12:=Aside0.mk (show g1 < g2 by rw [hg];exact blk_lt H1.out);replace H1:=Aside0.mk (blk_below H1.out hb);replace HB:=Aside0.mk (below_step HB.out hb);have H2:=Aside0.mk hbox;clear hb hbox hg;have e12:=Nat.ne_of_lt L12.out;have e21:=Nat.ne_of_gt L12.out;obtain ⟨x0,x1,x2,x3,x4,x5,x6,x7,x8,x9,x10,x11⟩:=celL H1.out) | ((with_reducible refine gate_dst (N:=3) rfl ?_);refine box_event ?hg (N:=3) ?hd (cs:=?cs3) (t:=26) ?hr ?_;(case hd=>rfl);(case hg=>rfl);(case hr=>first | (go_simp;done) | (go_simp;rfl));intro g3 hg w3 hbox hb;have T:=Aside0.mk (T3.mk (below_step HB.out hb) (blk_below H1.out hb) (blk_below H2.out hb) hbox G1.out L12.out (by rw [hg];exact blk_lt H2.out));clear hb hbox hg H1 H2 HB G1 L12;clear x0 x1 x2 x3 x4 x5 x6 x7 x8 x9 x10 x11;obtain ⟨_,_,_,_,e13,e31,e23,e32⟩:=T.out.n;obtain ⟨x0,x1,x2,x3,x4,x5,x6,x7,x8,x9,x10,x11⟩:=celL T.out.2.1;obtain ⟨y0,y1,y2,y3,y4,y5,y6,y7,y8,y9,y10,y11⟩:=celL T.out.2.2.2.1;obtain ⟨z0,z1,z2,z3,z4,z5,z6,z7,z8,z9,z10,z11⟩:=froZ T.out.2.2.2.1;obtain ⟨u0,u1,u2,u3,u4,u5,u6,u7,u8,u9,u10,u11⟩:=celL T.out.2.2.1;obtain ⟨r0,r1,r2,r3,r4,r5,r6,r7,r8,r9,r10,r11⟩:=froZ T.out.2.2.1) | ((with_reducible refine gate_store (t:=26) (p:=3) rfl ?_);refine store_event (t:=26) (p:=3) (v:=?vow4) (w1:=?wow4) ?hg ?ho ?hn ?hr ?_;(case ho=>rfl);(case hg=>rfl);(case hn=>rfl);(case hr=>first | (go_simp;done) | (go_simp;rfl));intro w4 hw;replace T:=Aside0.mk (T.out.put3.to hw);clear hw;clear x0 x1 x2 x3 x4 x5 x6 x7 x8 x9 x10 x11 y0 y1 y2 y3 y4 y5 y6 y7 y8 y9 y10 y11 z0 z1 z2 z3 z4 z5 z6 z7 z8 z9 z10 z11 u0 u1 u2 u3 u4 u5 u6 u7 u8 u9 u10 u11 r0 r1 r2 r3 r4 r5 r6 r7 r8 r9 r10 r11;obtain ⟨x0,x1,x2,x3,x4,x5,x6,x7,x8,x9,x10,x11⟩:=celL T.out.2.1;obtain ⟨y0,y1,y2,y3,y4,y5,y6,y7,y8,y9,y10,y11⟩:=celL T.out.2.2.2.1;obtain ⟨z0,z1,z2,z3,z4,z5,z6,z7,z8,z9,z10,z11⟩:=froZ T.out.2.2.2.1;obtain ⟨u0,u1,u2,u3,u4,u5,u6,u7,u8,u9,u10,u11⟩:=celL T.out.2.2.1;obtain ⟨r0,r1,r2,r3,r4,r5,r6,r7,r8,r9,r10,r11⟩:=froZ T.out.2.2.1) | ((with_reducible refine gate_store (t:=22) (p:=68) rfl ?_);refine store_event (t:=22) (p:=68) (v:=?vow5) (w1:=?wow5) ?hg ?ho ?hn ?hr ?_;(case ho=>rfl);(case hg=>rfl);(case hn=>rfl);(case hr=>first | (go_simp;done) | (go_simp;rfl));intro w5 hw;replace T:=Aside0.mk ((T.out.s2 _).to hw);clear hw;clear x0 x1 x2 x3 x4 x5 x6 x7 x8 x9 x10 x11 y0 y1 y2 y3 y4 y5 y6 y7 y8 y9 y10 y11 z0 z1 z2 z3 z4 z5 z6 z7 z8 z9 z10 z11 u0 u1 u2 u3 u4 u5 u6 u7 u8 u9 u10 u11 r0 r1 r2 r3 r4 r5 r6 r7 r8 r9 r10 r11;obtain ⟨x0,x1,x2,x3,x4,x5,x6,x7,x8,x9,x10,x11⟩:=celL T.out.2.1;obtain ⟨y0,y1,y2,y3,y4,y5,y6,y7,y8,y9,y10,y11⟩:=celL T.out.2.2.2.1;obtain ⟨z0,z1,z2,z3,z4,z5,z6,z7,z8,z9,z10,z11⟩:=froZ T.out.2.2.2.1;obtain ⟨u0,u1,u2,u3,u4,u5,u6,u7,u8,u9,u10,u11⟩:=celL T.out.2.2.1;obtain ⟨r0,r1,r2,r3,r4,r5,r6,r7,r8,r9,r10,r11⟩:=froZ T.out.2.2.1) | ((with_reducible refine gate_store (t:=26) (p:=2) rfl ?_);refine store_event (t:=26) (p:=2) (v:=?vow6) (w1:=?wow6) ?hg ?ho ?hn ?hr ?_;(case ho=>rfl);(case hg=>rfl);(case hn=>rfl);(case hr=>first | (go_simp;done) | (go_simp;rfl));intro w6 hw;replace T:=Aside0.mk (T.out.put2.to hw);clear hw;clear x0 x1 x2 x3 x4 x5 x6 x7 x8 x9 x10 x11 y0 y1 y2 y3 y4 y5 y6 y7 y8 y9 y10 y11 z0 z1 z2 z3 z4 z5 z6 z7 z8 z9 z10 z11 u0 u1 u2 u3 u4 u5 u6 u7 u8 u9 u10 u11 r0 r1 r2 r3 r4 r5 r6 r7 r8 r9 r10 r11;skip))
  refine bodyPost_ret (results_cell_row rfl _ _ g2 26 #[.string ⟨#[102,108,117,115,104]⟩,.string (⟨#[]⟩:ByteArray),.slice none 0 0,.string (⟨#[]⟩:ByteArray),.int .u32 0,.int .i64 0,.int .u64 0,.int .u64 0,.bool false,.bool false,.bool false,.bool d.quiet] (0,0) _ rfl T.out.2.2.1 Tryz.underlying26 rfl (by kernel_rfl)) rfl ?_
  exact ⟨none,0,rfl,Nat.zero_le _,C_none none,T.out.1⟩
set_option maxHeartbeats 4000000 in
set_option maxRecDepth 100000 in
theorem word_plain (d:Cd) (hw:d.what=wordT) {A:Option Addr} {c:Nat} {W:World} (hr:Kd.C Kd.string W A d.keys.length d.keys) (hc:d.keys.length≤c):Calls Tryz.prog 17 #[cdV d (.slice A d.keys.length c)] W (TellsB (plain_word d) W):=by
  have hu26:=Tryz.underlying26
  have HR:=Aside0.mk hr
  clear hr
  unfold cdV
  rw [hw]
  go_enter Tryz.func17,Tryz.ntmps17
  go_wp2_with (first | ((with_reducible refine gate_dst (N:=1) rfl ?_);refine box_event ?hg (N:=1) ?hd (cs:=?cs1) (t:=26) ?hr ?_;(case hd=>rfl);(case hg=>rfl);(case hr=>first | (go_simp;done) | (go_simp;rfl));intro g1 hg w1 hbox hb;have HB:=Aside0.mk hb;have H1:=Aside0.mk hbox;have G1:=Aside0.mk (Nat.le_of_eq hg.symm);clear hb hbox hg) | ((with_reducible refine gate_dst (N:=2) rfl ?_);refine box_event ?hg (N:=2) ?hd (cs:=?cs2) (t:=26) ?hr ?_;(case hd=>rfl);(case hg=>rfl);(case hr=>first | (go_simp;done) | (go_simp;rfl));intro g2 hg w2 hbox hb;have L12:=Aside0.mk (show g1 < g2 by rw [hg];exact blk_lt H1.out);replace H1:=Aside0.mk (blk_below H1.out hb);replace HB:=Aside0.mk (below_step HB.out hb);have H2:=Aside0.mk hbox;clear hb hbox hg;have e12:=Nat.ne_of_lt L12.out;have e21:=Nat.ne_of_gt L12.out;obtain ⟨x0,x1,x2,x3,x4,x5,x6,x7,x8,x9,x10,x11⟩:=celL H1.out) | ((with_reducible refine gate_dst (N:=3) rfl ?_);refine box_event ?hg (N:=3) ?hd (cs:=?cs3) (t:=26) ?hr ?_;(case hd=>rfl);(case hg=>rfl);(case hr=>first | (go_simp;done) | (go_simp;rfl));intro g3 hg w3 hbox hb;have T:=Aside0.mk (T3.mk (below_step HB.out hb) (blk_below H1.out hb) (blk_below H2.out hb) hbox G1.out L12.out (by rw [hg];exact blk_lt H2.out));clear hb hbox hg H1 H2 HB G1 L12;clear x0 x1 x2 x3 x4 x5 x6 x7 x8 x9 x10 x11;obtain ⟨_,_,_,_,e13,e31,e23,e32⟩:=T.out.n;obtain ⟨x0,x1,x2,x3,x4,x5,x6,x7,x8,x9,x10,x11⟩:=celL T.out.2.1;obtain ⟨y0,y1,y2,y3,y4,y5,y6,y7,y8,y9,y10,y11⟩:=celL T.out.2.2.2.1;obtain ⟨z0,z1,z2,z3,z4,z5,z6,z7,z8,z9,z10,z11⟩:=froZ T.out.2.2.2.1;obtain ⟨u0,u1,u2,u3,u4,u5,u6,u7,u8,u9,u10,u11⟩:=celL T.out.2.2.1;obtain ⟨r0,r1,r2,r3,r4,r5,r6,r7,r8,r9,r10,r11⟩:=froZ T.out.2.2.1) | ((with_reducible refine gate_store (t:=26) (p:=3) rfl ?_);refine store_event (t:=26) (p:=3) (v:=?vow4) (w1:=?wow4) ?hg ?ho ?hn ?hr ?_;(case ho=>rfl);(case hg=>rfl);(case hn=>rfl);(case hr=>first | (go_simp;done) | (go_simp;rfl));intro w4 hw;replace T:=Aside0.mk (T.out.put3.to hw);clear hw;clear x0 x1 x2 x3 x4 x5 x6 x7 x8 x9 x10 x11 y0 y1 y2 y3 y4 y5 y6 y7 y8 y9 y10 y11 z0 z1 z2 z3 z4 z5 z6 z7 z8 z9 z10 z11 u0 u1 u2 u3 u4 u5 u6 u7 u8 u9 u10 u11 r0 r1 r2 r3 r4 r5 r6 r7 r8 r9 r10 r11;obtain ⟨x0,x1,x2,x3,x4,x5,x6,x7,x8,x9,x10,x11⟩:=celL T.out.2.1;obtain ⟨y0,y1,y2,y3,y4,y5,y6,y7,y8,y9,y10,y11⟩:=celL T.out.2.2.2.1;obtain ⟨z0,z1,z2,z3,z4,z5,z6,z7,z8,z9,z10,z11⟩:=froZ T.out.2.2.2.1;obtain ⟨u0,u1,u2,u3,u4,u5,u6,u7,u8,u9,u10,u11⟩:=celL T.out.2.2.1;obtain ⟨r0,r1,r2,r3,r4,r5,r6,r7,r8,r9,r10,r11⟩:=froZ T.out.2.2.1) | ((with_reducible refine gate_store (t:=9) (p:=64) rfl ?_);refine store_event (t:=9) (p:=64) (v:=?vow5) (w1:=?wow5) ?hg ?ho ?hn ?hr ?_;(case ho=>rfl);(case hg=>rfl);(case hn=>rfl);(case hr=>first | (go_simp;done) | (go_simp;rfl));intro w5 hw;replace T:=Aside0.mk ((T.out.s1 _).to hw);clear hw;clear x0 x1 x2 x3 x4 x5 x6 x7 x8 x9 x10 x11 y0 y1 y2 y3 y4 y5 y6 y7 y8 y9 y10 y11 z0 z1 z2 z3 z4 z5 z6 z7 z8 z9 z10 z11 u0 u1 u2 u3 u4 u5 u6 u7 u8 u9 u10 u11 r0 r1 r2 r3 r4 r5 r6 r7 r8 r9 r10 r11;obtain ⟨x0,x1,x2,x3,x4,x5,x6,x7,x8,x9,x10,x11⟩:=celL T.out.2.1;obtain ⟨y0,y1,y2,y3,y4,y5,y6,y7,y8,y9,y10,y11⟩:=celL T.out.2.2.2.1;obtain ⟨z0,z1,z2,z3,z4,z5,z6,z7,z8,z9,z10,z11⟩:=froZ T.out.2.2.2.1;obtain ⟨u0,u1,u2,u3,u4,u5,u6,u7,u8,u9,u10,u11⟩:=celL T.out.2.2.1;obtain ⟨r0,r1,r2,r3,r4,r5,r6,r7,r8,r9,r10,r11⟩:=froZ T.out.2.2.1) | ((with_reducible refine gate_store (t:=4) (p:=65) rfl ?_);refine store_event (t:=4) (p:=65) (v:=?vow6) (w1:=?wow6) ?hg ?ho ?hn ?hr ?_;(case ho=>rfl);(case hg=>rfl);(case hn=>rfl);(case hr=>first | (go_simp;done) | (go_simp;rfl));intro w6 hw;replace T:=Aside0.mk ((T.out.s11 _).to hw);clear hw;clear x0 x1 x2 x3 x4 x5 x6 x7 x8 x9 x10 x11 y0 y1 y2 y3 y4 y5 y6 y7 y8 y9 y10 y11 z0 z1 z2 z3 z4 z5 z6 z7 z8 z9 z10 z11 u0 u1 u2 u3 u4 u5 u6 u7 u8 u9 u10 u11 r0 r1 r2 r3 r4 r5 r6 r7 r8 r9 r10 r11;obtain ⟨x0,x1,x2,x3,x4,x5,x6,x7,x8,x9,x10,x11⟩:=celL T.out.2.1;obtain ⟨y0,y1,y2,y3,y4,y5,y6,y7,y8,y9,y10,y11⟩:=celL T.out.2.2.2.1;obtain ⟨z0,z1,z2,z3,z4,z5,z6,z7,z8,z9,z10,z11⟩:=froZ T.out.2.2.2.1;obtain ⟨u0,u1,u2,u3,u4,u5,u6,u7,u8,u9,u10,u11⟩:=celL T.out.2.2.1;obtain ⟨r0,r1,r2,r3,r4,r5,r6,r7,r8,r9,r10,r11⟩:=froZ T.out.2.2.1) | ((with_reducible refine gate_store (t:=22) (p:=72) rfl ?_);refine store_event (t:=22) (p:=72) (v:=?vow7) (w1:=?wow7) ?hg ?ho ?hn ?hr ?_;(case ho=>rfl);(case hg=>rfl);(case hn=>rfl);(case hr=>first | (go_simp;done) | (go_simp;rfl));intro w7 hw;replace T:=Aside0.mk ((T.out.s2 _).to hw);clear hw;clear x0 x1 x2 x3 x4 x5 x6 x7 x8 x9 x10 x11 y0 y1 y2 y3 y4 y5 y6 y7 y8 y9 y10 y11 z0 z1 z2 z3 z4 z5 z6 z7 z8 z9 z10 z11 u0 u1 u2 u3 u4 u5 u6 u7 u8 u9 u10 u11 r0 r1 r2 r3 r4 r5 r6 r7 r8 r9 r10 r11;obtain ⟨x0,x1,x2,x3,x4,x5,x6,x7,x8,x9,x10,x11⟩:=celL T.out.2.1;obtain ⟨y0,y1,y2,y3,y4,y5,y6,y7,y8,y9,y10,y11⟩:=celL T.out.2.2.2.1;obtain ⟨z0,z1,z2,z3,z4,z5,z6,z7,z8,z9,z10,z11⟩:=froZ T.out.2.2.2.1;obtain ⟨u0,u1,u2,u3,u4,u5,u6,u7,u8,u9,u10,u11⟩:=celL T.out.2.2.1;obtain ⟨r0,r1,r2,r3,r4,r5,r6,r7,r8,r9,r10,r11⟩:=froZ T.out.2.2.1) | ((with_reducible refine gate_store (t:=26) (p:=2) rfl ?_);refine store_event (t:=26) (p:=2) (v:=?vow8) (w1:=?wow8) ?hg ?ho ?hn ?hr ?_;(case ho=>rfl);(case hg=>rfl);(case hn=>rfl);(case hr=>first | (go_simp;done) | (go_simp;rfl));intro w8 hw;replace T:=Aside0.mk (T.out.put2.to hw);clear hw;clear x0 x1 x2 x3 x4 x5 x6 x7 x8 x9 x10 x11 y0 y1 y2 y3 y4 y5 y6 y7 y8 y9 y10 y11 z0 z1 z2 z3 z4 z5 z6 z7 z8 z9 z10 z11 u0 u1 u2 u3 u4 u5 u6 u7 u8 u9 u10 u11 r0 r1 r2 r3 r4 r5 r6 r7 r8 r9 r10 r11;skip))
  refine bodyPost_ret (results_cell_row rfl _ _ g2 26 #[.string ⟨#[119,111,114,100]⟩,.string d.verb,.slice none 0 0,.string (⟨#[]⟩:ByteArray),.int .u32 0,.int .i64 0,.int .u64 0,.int .u64 0,.bool false,.bool false,.bool false,.bool false] (0,0) _ rfl T.out.2.2.1 Tryz.underlying26 rfl (by kernel_rfl)) rfl ?_
  exact ⟨none,0,rfl,Nat.zero_le _,C_none none,T.out.1⟩
theorem plain_ref (d:Cd) (hd:d.what=getT∨d.what=storeT∨d.what=arithT∨d.what=touchT∨d.what=deleteT∨d.what=flushT∨d.what=wordT) {A:Option Addr} {c:Nat} {W:World} (hr:Kd.C Kd.string W A d.keys.length d.keys) (hc:d.keys.length≤c):Calls Tryz.prog 17 #[cdV d (.slice A d.keys.length c)] W (TellsB (plainD d) W):=by
  unfold plainD
  rcases hd with h | h | h | h | h | h | h
  · rw [if_pos h]
    cases ht:d.withTouch with
    | true=>exact get1_plain d h ht hr hc
    | false=>exact get0_plain d h ht hr hc
  · rw [if_neg (by rw [h];decide),if_pos h]
    by_cases ht:d.verb=casW
    · rw [if_pos ht];exact cas_plain d h (by rw [ht];exact tl _) hr hc
    · rw [if_neg ht];exact store_plain d h (fun e=>ht (tlI' e)) hr hc
  · rw [if_neg (by rw [h];decide),if_neg (by rw [h];decide),if_pos h];exact arith_plain d h hr hc
  · rw [if_neg (by rw [h];decide),if_neg (by rw [h];decide),if_neg (by rw [h];decide),if_pos h];exact touch_plain d h hr hc
  · rw [if_neg (by rw [h];decide),if_neg (by rw [h];decide),if_neg (by rw [h];decide),if_neg (by rw [h];decide),if_pos h];exact delete_plain d h hr hc
  · rw [if_neg (by rw [h];decide),if_neg (by rw [h];decide),if_neg (by rw [h];decide),if_neg (by rw [h];decide),if_neg (by rw [h];decide),if_pos h];exact flush_plain d h hr hc
  · rw [if_neg (by rw [h];decide),if_neg (by rw [h];decide),if_neg (by rw [h];decide),if_neg (by rw [h];decide),if_neg (by rw [h];decide),if_neg (by rw [h];decide)];exact word_plain d h hr hc
end Go.Proofs.YtfbhlbchmenloaaGreatDoor.O
end
