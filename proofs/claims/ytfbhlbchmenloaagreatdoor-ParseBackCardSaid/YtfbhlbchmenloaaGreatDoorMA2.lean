/-
  The law's own walk, its plain statement and its row: the law holds. Its condition: none beside the given row's own.
-/
import Derived.Test.YtfbhlbchmenloaaGreatDoorMA0
import Derived.Test.YtfbhlbchmenloaaGreatDoorMA1
import Derived.Lib.ConvBytes
import Derived.Test.YtfbhlbchmenloaaGreatDoorProg
import Derived.Below
import Derived.Deep.Draws
import Derived.Deep.AppendLies
import Derived.Maps.AppendAt
import Derived.OwnWalk
import Derived.Laws.BytesArg
import Derived.Laws.MakeOwn
import Derived.Laws.OwnMore
import Derived.Deep.OwnRows
import Derived.Tactics
import Derived.Laws.Slices
import Derived.WalkKit
import Derived.KernelRfl
import Derived.RowKit3
import Derived.Deep.LoopGhost
import Derived.Deep.QuietTactic
import Derived.BigQuiet
import Derived.WideLaws
import Derived.Deep.DeepCutAuto
import Derived.Deep.CutBlock
import Derived.Deep.RegionHeld3
import Derived.Laws.Rows
import Derived.Lib.AppendStr
import Derived.ArgAppend
import Derived.Laws.IdiomCopy
import Derived.OrdersHeld
import Derived.Laws.BitsLemmas
import Derived.RowKit
import Derived.Test.YtfbhlbchmenloaaGreatDoorMAW0
import Derived.Lib.SplitLaws
import Derived.Lib.CutLaws
import Derived.Lib.CountLaws
import Derived.Lib.IndexLaws
import Derived.Lib.IndexBytes
section
namespace Go.Proofs.YtfbhlbchmenloaaGreatDoor.H
open Go.RowKit Go.Proofs.YtfbhlbchmenloaaGreatDoorW.PrintWords Go.Proofs.YtfbhlbchmenloaaGreatDoorW.PrintLast Go.Proofs.YtfbhlbchmenloaaGreatDoorW.PrintMore
set_option linter.unusedVariables false
set_option linter.unusedSimpArgs false
theorem str_drop {w:World} {gb ob:Nat} {xs:List ByteArray} (hmax:xs.length≤9223372036854775807) (h:∀ j,j < xs.length→w.cell? ⟨gb,ob + j,none⟩=some (.string (xs.getD j ByteArray.empty))) (n m:Nat) (hm:(xs.drop n).length=m):Kd.C Kd.string w (some ⟨gb,ob + n,none⟩) m (xs.drop n):=by
 refine ⟨hm,by rw [List.length_drop] at hm;omega,fun h0=>⟨_,rfl,fun j p hj=>⟨[.string p],rfl,rfl,fun k u hu=>?_⟩⟩⟩
 have hjl:=(List.getElem?_eq_some_iff.1 hj).1
 rw [List.length_drop] at hjl
 have hk:k=0:=by
  have:=(List.getElem?_eq_some_iff.1 hu).1
  simp at this
  omega
 subst hk
 obtain rfl:=Option.some.inj hu
 rw [List.getElem?_drop] at hj
 have:=h (n + j) (by omega)
 rw [List.getD_eq_getElem?_getD,hj] at this
 rw [add_at]
 have e:ob + n + (j * 1 + 0)=ob + (n + j):=by omega
 show w.cell? ⟨gb,ob + n + (j * 1 + 0),none⟩=_
 rw [e]
 exact this
def get_T1:Bool×List (List Nat×List Nat):=(true,[([],[]),([0],[0]),([1],[1]),([2],[2]),([3],[3]),([4],[4]),([5,4],[4,5]),([6,4],[4,6]),([7,4],[4,7]),([4,8],[4,8]),([],[]),([10],[10]),([11],[11]),([12],[12]),([13,4],[13]),([14],[14]),([15,14],[14,15]),([16,14],[14,16]),([17,14],[14,17]),([14,18],[14,18]),([9,19],[9,19]),([],[]),([21,20,14,0,1,2,3,4,5,6,7,8,9,10,11,12,13,14,15,16,17,18,19,20,21],[20,21])])
def get_B1:List Nat:=[0,1,3,7,15,31,63,127,255,511,0,1024,3072,7168,15391,31775,64543,130079,261151,523295,1048575,0,4194303]
abbrev gb0_:Array Bool:=#[false,false,false,false,false,false,false,false,false,false,false,false,false,false,false,false,false,false,false,false,false,false,false]
abbrev gb1_:Array Bool:=#[true,false,false,false,false,false,false,false,false,false,false,false,false,false,false,false,false,false,false,false,false,false,false]
abbrev gb2_:Array Bool:=#[true,true,false,false,false,false,false,false,false,false,false,false,false,false,false,false,false,false,false,false,false,false,false]
abbrev gb3_:Array Bool:=#[true,true,true,false,false,false,false,false,false,false,false,false,false,false,false,false,false,false,false,false,false,false,false]
abbrev gb4_:Array Bool:=#[true,true,true,true,false,false,false,false,false,false,false,false,false,false,false,false,false,false,false,false,false,false,false]
abbrev gb5_:Array Bool:=#[true,true,true,true,true,false,false,false,false,false,false,false,false,false,false,false,false,false,false,false,false,false,false]
abbrev gb6_:Array Bool:=#[true,true,true,true,true,true,false,false,false,false,false,false,false,false,false,false,false,false,false,false,false,false,false]
abbrev gb7_:Array Bool:=#[true,true,true,true,true,true,true,false,false,false,false,false,false,false,false,false,false,false,false,false,false,false,false]
abbrev gb8_:Array Bool:=#[true,true,true,true,true,true,true,true,false,false,false,false,false,false,false,false,false,false,false,false,false,false,false]
abbrev gb9_:Array Bool:=#[true,true,true,true,true,true,true,true,true,false,false,false,false,false,false,false,false,false,false,false,false,false,false]
abbrev gb10_:Array Bool:=#[true,true,true,true,true,true,true,true,true,true,false,false,false,false,false,false,false,false,false,false,false,false,false]
abbrev gb11_:Array Bool:=#[true,true,true,true,true,true,true,true,true,true,true,false,false,false,false,false,false,false,false,false,false,false,false]
abbrev gb12_:Array Bool:=#[true,true,true,true,true,true,true,true,true,true,true,true,false,false,false,false,false,false,false,false,false,false,false]
abbrev gb13_:Array Bool:=#[true,true,true,true,true,true,true,true,true,true,true,true,true,false,false,false,false,false,false,false,false,false,false]
abbrev gb14_:Array Bool:=#[true,true,true,true,true,true,true,true,true,true,true,true,true,true,false,false,false,false,false,false,false,false,false]
abbrev gb15_:Array Bool:=#[true,true,true,true,true,true,true,true,true,true,true,true,true,true,true,false,false,false,false,false,false,false,false]
abbrev gb16_:Array Bool:=#[true,true,true,true,true,true,true,true,true,true,true,true,true,true,true,true,false,false,false,false,false,false,false]
abbrev gb17_:Array Bool:=#[true,true,true,true,true,true,true,true,true,true,true,true,true,true,true,true,true,false,false,false,false,false,false]
abbrev gb18_:Array Bool:=#[true,true,true,true,true,true,true,true,true,true,true,true,true,true,true,true,true,true,false,false,false,false,false]
abbrev gb19_:Array Bool:=#[true,true,true,true,true,true,true,true,true,true,true,true,true,true,true,true,true,true,true,false,false,false,false]
abbrev gb20_:Array Bool:=#[true,true,true,true,true,true,true,true,true,true,true,true,true,true,true,true,true,true,true,true,false,false,false]
abbrev gb21_:Array Bool:=#[true,true,true,true,true,true,true,true,true,true,true,true,true,true,true,true,true,true,true,true,true,false,false]
abbrev gb22_:Array Bool:=#[true,true,true,true,true,true,true,true,true,true,true,true,true,true,true,true,true,true,true,true,true,true,false]
abbrev gb23_:Array Bool:=#[true,true,true,true,true,true,true,true,true,true,true,true,true,true,true,true,true,true,true,true,true,true,true]
theorem get_tab1:rtab .any (opsOf Tryz.f48 1)=get_T1:=by kernel_rfl
theorem get_bits1:waitsOk get_T1.2 get_B1=true:=by kernel_rfl
/-- What a Get's words say, its keys told. -/
def getX (ks:List ByteArray) (ca t:Bool) (sg:Int×Bool):Cx:=if ks.any (fun k=>!keyF k)=true∨64 < ks.length then .pl (.bad ⟨#[67,76,73,69,78,84,95,69,82,82,79,82,32,98,97,100,32,99,111,109,109,97,110,100,32,108,105,110,101,32,102,111,114,109,97,116]⟩) else match sg with
 | (e,true)=>.get ks ca t e
 | (_,false)=>.pl (.bad ⟨#[67,76,73,69,78,84,95,69,82,82,79,82,32,105,110,118,97,108,105,100,32,101,120,112,116,105,109,101,32,97,114,103,117,109,101,110,116]⟩)
set_option maxHeartbeats 8000000 in
set_option maxRecDepth 100000 in
theorem get_get_short (A:Option Addr) (c:Nat) (r:List ByteArray) (w:World) (HLD:LaidA w) (hr:Kd.C Kd.string w A (⟨#[103,101,116]⟩::r).length (⟨#[103,101,116]⟩::r)) (hcc:(⟨#[103,101,116]⟩::r).length≤c) (hl:r.length < 1) :
  Calls Tryz.prog 48 #[.slice A (⟨#[103,101,116]⟩::r).length c] w fun e w'=>∃ v,e=.returned (.tuple #[v,.int .i64 (-1)])∧AnyR w' v (.pl (.bad ⟨#[69,82,82,79,82]⟩))∧Below w.heap.size w w':=by
 have hus:=Tryz.underlying22
 have hug:=Tryz.underlying69
 have hmax:=hr.2.1
 have HL:=Aside0.mk HLD
 obtain ⟨gb,ob,hA,hcell⟩:=str_cells hr (by simp)
 have x0:=hcell 0 (by simp)
 have x1:w.cell? ⟨gb,ob,none⟩=some (.string ⟨#[103,101,116]⟩):=x0
 subst hA
 have hlt:gb < w.heap.size:=World.block_lt_of_cell? w _ x1
 have hne:¬ gb=w.heap.size:=by omega
 have HC:=Aside0.mk hcell
 have HMX:=Aside0.mk hmax
 clear HLD hr hcell x0
 go_enter Tryz.func48,Tryz.ntmps48
 go_wp2
 refine start_ (n:=23) (S:=fun w'=>w'.cell? ⟨gb,ob,none⟩=some (.string ⟨#[103,101,116]⟩)) (ds:=[22]) gb0_ (by kernel_rfl) rfl rfl x1 (fun hHeld=>?_);refine with_tabW get_tab1 get_bits1 (fun HT_ HW_=>?_)
 generalize hWd:w.drew=wd at hHeld ⊢
 refine pure_ (i:=0) (N:=some 7) (v:=?_) (a':=?_) gb1_ rfl rfl (any_of HT_.out (by kernel_rfl)) (fun _ _ _ h=>h) (Or.inl ⟨by rfl,?_⟩) ?_ ?_
 rotate_left
 ·intro w'
  go_simp
  with_reducible rfl
 rotate_left
 ·simp only [pS]
  rfl
 refine pure_ (i:=1) (N:=some 8) (v:=?_) (a':=?_) gb2_ rfl rfl (any_of HT_.out (by kernel_rfl)) (fun _ _ _ h=>h) (Or.inl ⟨by rfl,?_⟩) ?_ ?_
 rotate_left
 ·intro w'
  go_simp
  with_reducible rfl
 rotate_left
 ·simp only [pS]
  rfl
 refine take_ (i:=2) (N:=some 9) (v:=?_) (a':=?_) gb3_ rfl rfl (take_ofW HT_.out HW_.out (by kernel_rfl)) (fun _ _ _ h=>h) (Or.inl ⟨by rfl,?_⟩) hHeld ?_ ?_
 rotate_left
 ·rintro w' s0
  go_simp
  with_reducible rfl
 rotate_left
 ·simp only [pS]
  rfl
 refine pure_ (i:=3) (N:=some 10) (v:=?_) (a':=?_) gb4_ rfl rfl (any_of HT_.out (by kernel_rfl)) (fun _ _ _ h=>h) (Or.inl ⟨by rfl,?_⟩) ?_ ?_
 rotate_left
 ·intro w'
  go_simp
  with_reducible rfl
 rotate_left
 ·simp only [pS]
  rfl
 refine pure_ (i:=4) (N:=some 11) (v:=?_) (a':=?_) gb5_ rfl rfl (any_of HT_.out (by kernel_rfl)) (fun _ _ _ h=>h) (Or.inl ⟨by rfl,?_⟩) ?_ ?_
 rotate_left
 ·intro w'
  go_simp
  with_reducible rfl
 rotate_left
 ·simp only [pS]
  rfl
 refine pure_ (i:=5) (N:=some 12) (v:=?_) (a':=?_) gb6_ rfl rfl (any_of HT_.out (by kernel_rfl)) (fun _ _ _ h=>h) (Or.inl ⟨by rfl,?_⟩) ?_ ?_
 rotate_left
 ·intro w'
  go_simp
  with_reducible rfl
 rotate_left
 ·simp only [pS]
  rfl
 refine pure_ (i:=6) (N:=some 13) (v:=?_) (a':=?_) gb7_ rfl rfl (any_of HT_.out (by kernel_rfl)) (fun _ _ _ h=>h) (Or.inl ⟨by rfl,?_⟩) ?_ ?_
 rotate_left
 ·intro w'
  go_simp
  with_reducible rfl
 rotate_left
 ·simp only [pS]
  rfl
 refine take_ (i:=7) (N:=some 14) (v:=?_) (a':=?_) gb8_ rfl rfl (take_ofW HT_.out HW_.out (by kernel_rfl)) (fun _ _ _ h=>h) (Or.inl ⟨by rfl,?_⟩) hHeld ?_ ?_
 rotate_left
 ·rintro w' s0
  go_simp
  with_reducible rfl
 rotate_left
 ·simp only [pS]
  rfl
 refine pure_ (i:=8) (N:=some 15) (v:=?_) (a':=?_) gb9_ rfl rfl (any_of HT_.out (by kernel_rfl)) (fun _ _ _ h=>h) (Or.inl ⟨by rfl,?_⟩) ?_ ?_
 rotate_left
 ·intro w'
  go_simp
  with_reducible rfl
 rotate_left
 ·simp only [pS]
  rfl
 refine pure_ (i:=9) (N:=some 16) (v:=?_) (a':=?_) gb10_ rfl rfl (any_of HT_.out (by kernel_rfl)) (fun _ _ _ h=>h) (Or.inl ⟨by rfl,?_⟩) ?_ ?_
 rotate_left
 ·intro w'
  go_simp
  with_reducible rfl
 rotate_left
 ·simp only [pS]
  rfl
 refine pure_ (i:=10) (N:=some 17) (v:=?_) (a':=?_) gb11_ rfl rfl (any_of HT_.out (by kernel_rfl)) (fun _ _ _ h=>h) (Or.inl ⟨by rfl,?_⟩) ?_ ?_
 rotate_left
 ·intro w'
  go_simp
  with_reducible rfl
 rotate_left
 ·simp only [pS]
  rfl
 refine pure_ (i:=11) (N:=some 18) (v:=?_) (a':=?_) gb12_ rfl rfl (any_of HT_.out (by kernel_rfl)) (fun _ _ _ h=>h) (Or.inl ⟨by rfl,?_⟩) ?_ ?_
 rotate_left
 ·intro w'
  go_simp
  with_reducible rfl
 rotate_left
 ·simp only [pS]
  rfl
 refine take_ (i:=12) (N:=some 19) (v:=?_) (a':=?_) gb13_ rfl rfl (take_ofW HT_.out HW_.out (by kernel_rfl)) (fun _ _ _ h=>h) (Or.inl ⟨by rfl,?_⟩) hHeld ?_ ?_
 rotate_left
 ·rintro w' s0
  go_simp
  with_reducible rfl
 rotate_left
 ·simp only [pS]
  rfl
 refine pure_ (i:=13) (N:=some 20) (v:=?_) (a':=?_) gb14_ rfl rfl (any_of HT_.out (by kernel_rfl)) (fun _ _ _ h=>h) (Or.inl ⟨by rfl,?_⟩) ?_ ?_
 rotate_left
 ·intro w'
  go_simp
  with_reducible rfl
 rotate_left
 ·simp only [pS]
  rfl
 refine pure_ (i:=14) (N:=some 21) (v:=?_) (a':=?_) gb15_ rfl rfl (any_of HT_.out (by kernel_rfl)) (fun _ _ _ h=>h) (Or.inl ⟨by rfl,?_⟩) ?_ ?_
 rotate_left
 ·intro w'
  go_simp
  with_reducible rfl
 rotate_left
 ·simp only [pS]
  rfl
 refine pure_ (i:=15) (N:=some 22) (v:=?_) (a':=?_) gb16_ rfl rfl (any_of HT_.out (by kernel_rfl)) (fun _ _ _ h=>h) (Or.inl ⟨by rfl,?_⟩) ?_ ?_
 rotate_left
 ·intro w'
  go_simp
  with_reducible rfl
 rotate_left
 ·simp only [pS]
  rfl
 refine pure_ (i:=16) (N:=some 23) (v:=?_) (a':=?_) gb17_ rfl rfl (any_of HT_.out (by kernel_rfl)) (fun _ _ _ h=>h) (Or.inl ⟨by rfl,?_⟩) ?_ ?_
 rotate_left
 ·intro w'
  go_simp
  with_reducible rfl
 rotate_left
 ·simp only [pS]
  rfl
 refine take_ (i:=17) (N:=some 24) (v:=?_) (a':=?_) gb18_ rfl rfl (take_ofW HT_.out HW_.out (by kernel_rfl)) (fun _ _ _ h=>h) (Or.inl ⟨by rfl,?_⟩) hHeld ?_ ?_
 rotate_left
 ·rintro w' s0
  go_simp
  with_reducible rfl
 rotate_left
 ·simp only [pS]
  rfl
 refine pure_ (i:=18) (N:=some 25) (v:=?_) (a':=?_) gb19_ rfl rfl (any_of HT_.out (by kernel_rfl)) (fun _ _ _ h=>h) (Or.inl ⟨by rfl,?_⟩) ?_ ?_
 rotate_left
 ·intro w'
  go_simp
  with_reducible rfl
 rotate_left
 ·simp only [pS]
  rfl
 refine pure_ (i:=19) (N:=some 26) (v:=?_) (a':=?_) gb20_ rfl rfl (any_of HT_.out (by kernel_rfl)) (fun _ _ _ h=>h) (Or.inl ⟨by rfl,?_⟩) ?_ ?_
 rotate_left
 ·intro w'
  go_simp
  with_reducible rfl
 rotate_left
 ·simp only [pS]
  rfl
 refine pure_ (i:=20) (N:=some 27) (v:=?_) (a':=?_) gb21_ rfl rfl (any_of HT_.out (by kernel_rfl)) (fun _ _ _ h=>h) (Or.inl ⟨by rfl,?_⟩) ?_ ?_
 rotate_left
 ·intro w'
  go_simp
  with_reducible rfl
 rotate_left
 ·simp only [pS]
  rfl
 refine one_ (i:=21) (N:=some 4) gb22_ rfl rfl (one_of HT_.out (by kernel_rfl)) (by decide) (fun K hK=>?_)
 refine box_step ?hg (N:=4) ?hd (cs:=#[.slice none 0 0,.bool false,.bool false,.int .i64 0]) (t:=69) ?hr ?_;(case hd=>rfl);(case hg=>rfl);(case hr=>first | (go_simp;done) | (go_simp;rfl))
 intro g hg w1 hbox hb
 have hb1:Below w.heap.size w w1:=by
  rw [← hWd] at hb
  exact below_undrew hb
 have hgs:w.heap.size≤g:=by rw [hg,← hWd];exact Nat.le_refl _
 have hgb:gb≠g:=by omega
 have x2:=pw_cell_below hb1 x1
 clear hg hb
 refine hK.out _ _ x2 (fun hHeld2=>?_)
 refine last_ (i:=22) (N:=none) gb23_ rfl rfl (one_of HT_.out (by kernel_rfl)) (by decide) (fun K2 hK2=>?_)
 obtain ⟨z0,z1,z2,z3⟩:w1.cell? ⟨g,0,none⟩=some (.slice none 0 0)∧w1.cell? ⟨g,1,none⟩=some (.bool false)∧w1.cell? ⟨g,2,none⟩=some (.bool false)∧w1.cell? ⟨g,3,none⟩=some (.int .i64 0):=⟨(blk_cell hbox 0).trans rfl,(blk_cell hbox 1).trans rfl,(blk_cell hbox 2).trans rfl,(blk_cell hbox 3).trans rfl⟩
 have zf:∀ i,w1.frozen? ⟨g,i,none⟩=false:=fun i=>blk_frozen hbox i
 refine skip_ (w1:=(((w1.setCell ⟨g,0,none⟩ (.slice none 0 0)).setCell ⟨g,1,none⟩ (.bool false)).setCell ⟨g,2,none⟩ (.bool false)).setCell ⟨g,3,none⟩ (.int .i64 0)) (by rfl) rfl ?hrun ?_
 case hrun=>go_simp
 refine hK2.out _ _ (done_ (done_of HT_.out (by kernel_rfl)) ?_)
 have hbk:=blk_set (blk_set (blk_set (blk_set hbox 0 (.slice none 0 0)) 1 (.bool false)) 2 (.bool false)) 3 (.int .i64 0)
 have hb2:=below_set (below_set (below_set (below_set hb1 hgs (j:=0) (v:=.slice none 0 0)) hgs (j:=1) (v:=.bool false)) hgs (j:=2) (v:=.bool false)) hgs (j:=3) (v:=.int .i64 0)
 clear hb1 hbox hK hK2 hHeld hHeld2 z0 z1 z2 z3 zf x2
 generalize World.setCell _ ⟨g,3,none⟩ _=W2 at hbk hb2 ⊢
 replace hbk:W2.heap[g]? = some (.cells #[.slice none 0 0,.bool false,.bool false,.int .i64 0] 69 (0,0)):=hbk
 have HBK:=Aside0.mk hbk
 have HB2:=Aside0.mk hb2
 obtain ⟨z0,z1,z2,z3⟩:W2.cell? ⟨g,0,none⟩=some (.slice none 0 0)∧W2.cell? ⟨g,1,none⟩=some (.bool false)∧W2.cell? ⟨g,2,none⟩=some (.bool false)∧W2.cell? ⟨g,3,none⟩=some (.int .i64 0):=⟨(blk_cell hbk 0).trans rfl,(blk_cell hbk 1).trans rfl,(blk_cell hbk 2).trans rfl,(blk_cell hbk 3).trans rfl⟩
 have zf:∀ i,W2.frozen? ⟨g,i,none⟩=false:=fun i=>blk_frozen hbk i
 have HGB:=Aside0.mk hgb
 have HGS:=Aside0.mk hgs
 have HX1:=Aside0.mk x1
 clear hbk hb2 hgb hgs x1 hWd
 have d1:decide (((r.length + 1:Nat):Int)≤1)=true:=decide_eq_true (by omega)
 have d2:decide (r.length + 1≤1)=true:=decide_eq_true (by omega)
 have d3:decide ((r.length:Int) + 1≤1)=true:=decide_eq_true (by omega)
 clear hl
 go_wp2_with (go_at_call 47;refine (parse_bad.calls _ _ _ _ rfl).mono ?_;rintro e w3 ⟨rfl,hd⟩;have HD:=Aside0.mk hd;clear hd)
 go_ret2
 exact ⟨_,rfl,rfl,below_step (by repeat (first | exact HB2.out | apply below_drew1 | apply below_alloc | apply pw_below_drewN)) HD.out.below⟩
set_option maxHeartbeats 8000000 in
set_option maxRecDepth 100000 in
theorem get_get_full (A:Option Addr) (c:Nat) (ks:List ByteArray) (w:World) (HLD:LaidA w) (hr:Kd.C Kd.string w A (⟨#[103,101,116]⟩::ks).length (⟨#[103,101,116]⟩::ks)) (hcc:(⟨#[103,101,116]⟩::ks).length≤c) (hn:0 < ks.length) :
  Calls Tryz.prog 48 #[.slice A (⟨#[103,101,116]⟩::ks).length c] w fun e w'=>∃ v,e=.returned (.tuple #[v,.int .i64 (-1)])∧AnyR w' v (getX ks false false (0,true))∧Below w.heap.size w w':=by
 have hus:=Tryz.underlying22
 have hug:=Tryz.underlying69
 have hmax:=hr.2.1
 have HL:=Aside0.mk HLD
 obtain ⟨gb,ob,hA,hcell⟩:=str_cells hr (by simp)
 have x0:=hcell 0 (by simp)
 have x1:w.cell? ⟨gb,ob,none⟩=some (.string ⟨#[103,101,116]⟩):=x0
 subst hA
 have hlt:gb < w.heap.size:=World.block_lt_of_cell? w _ x1
 have hne:¬ gb=w.heap.size:=by omega
 have HC:=Aside0.mk hcell
 have HMX:=Aside0.mk hmax
 clear HLD hr hcell x0
 obtain ⟨X,hX⟩:∃ X,X=getX ks false false (0,true):=⟨_,rfl⟩
 rw [← hX]
 have HXX:=Aside0.mk hX
 clear hX
 have hF0:Kd.F Kd.string w (fun _=>True) (some ⟨gb,ob + 1,none⟩) ks.length ks:=Kd.F_mono (Kd.C_F Kd.heap_string (str_drop (xs:=⟨#[103,101,116]⟩::ks) HMX.out HC.out 1 ks.length rfl)) (fun _ _=>trivial)
 have HF0:=Aside0.mk hF0
 have HN:=Aside0.mk hn
 have HCC:=Aside0.mk hcc
 have e3:(ks.length + 1≤c)=True:=eq_true (by simp at hcc;omega)
 have e4:¬ c=1:=by simp at hcc;omega
 have e5:¬ c=0:=by simp at hcc;omega
 have d1:decide (((ks.length + 1:Nat):Int)≤1)=false:=decide_eq_false (by omega)
 have d2:decide (ks.length + 1≤1)=false:=decide_eq_false (by omega)
 have d3:decide ((ks.length:Int) + 1≤1)=false:=decide_eq_false (by omega)
 have d5:decide ((ks.length:Int) + 1 + 1≤1)=false:=decide_eq_false (by omega)
 have e1:(1≤ks.length + 1)=True:=eq_true (by omega)
 have e6:((1:Int)≤(ks.length:Int) + 1)=True:=eq_true (by omega)
 clear hF0 hn hcc
 go_enter Tryz.func48,Tryz.ntmps48
 go_wp2
 refine start_ (n:=23) (S:=fun w'=>w'.cell? ⟨gb,ob,none⟩=some (.string ⟨#[103,101,116]⟩)) (ds:=[22]) gb0_ (by kernel_rfl) rfl rfl x1 (fun hHeld=>?_);refine with_tabW get_tab1 get_bits1 (fun HT_ HW_=>?_)
 generalize hWd:w.drew=wd at hHeld ⊢
 refine pure_ (i:=0) (N:=some 7) (v:=?_) (a':=?_) gb1_ rfl rfl (any_of HT_.out (by kernel_rfl)) (fun _ _ _ h=>h) (Or.inl ⟨by rfl,?_⟩) ?_ ?_
 rotate_left
 ·intro w'
  go_simp
  with_reducible rfl
 rotate_left
 ·simp only [pS]
  rfl
 refine pure_ (i:=1) (N:=some 8) (v:=?_) (a':=?_) gb2_ rfl rfl (any_of HT_.out (by kernel_rfl)) (fun _ _ _ h=>h) (Or.inl ⟨by rfl,?_⟩) ?_ ?_
 rotate_left
 ·intro w'
  go_simp
  with_reducible rfl
 rotate_left
 ·simp only [pS]
  rfl
 refine take_ (i:=2) (N:=some 9) (v:=?_) (a':=?_) gb3_ rfl rfl (take_ofW HT_.out HW_.out (by kernel_rfl)) (fun _ _ _ h=>h) (Or.inl ⟨by rfl,?_⟩) hHeld ?_ ?_
 rotate_left
 ·rintro w' s0
  go_simp
  with_reducible rfl
 rotate_left
 ·simp only [pS]
  rfl
 refine pure_ (i:=3) (N:=some 10) (v:=?_) (a':=?_) gb4_ rfl rfl (any_of HT_.out (by kernel_rfl)) (fun _ _ _ h=>h) (Or.inl ⟨by rfl,?_⟩) ?_ ?_
 rotate_left
 ·intro w'
  go_simp
  with_reducible rfl
 rotate_left
 ·simp only [pS]
  rfl
 refine pure_ (i:=4) (N:=some 11) (v:=?_) (a':=?_) gb5_ rfl rfl (any_of HT_.out (by kernel_rfl)) (fun _ _ _ h=>h) (Or.inl ⟨by rfl,?_⟩) ?_ ?_
 rotate_left
 ·intro w'
  go_simp
  with_reducible rfl
 rotate_left
 ·simp only [pS]
  rfl
 refine pure_ (i:=5) (N:=some 12) (v:=?_) (a':=?_) gb6_ rfl rfl (any_of HT_.out (by kernel_rfl)) (fun _ _ _ h=>h) (Or.inl ⟨by rfl,?_⟩) ?_ ?_
 rotate_left
 ·intro w'
  go_simp
  with_reducible rfl
 rotate_left
 ·simp only [pS]
  rfl
 refine pure_ (i:=6) (N:=some 13) (v:=?_) (a':=?_) gb7_ rfl rfl (any_of HT_.out (by kernel_rfl)) (fun _ _ _ h=>h) (Or.inl ⟨by rfl,?_⟩) ?_ ?_
 rotate_left
 ·intro w'
  go_simp
  with_reducible rfl
 rotate_left
 ·simp only [pS]
  rfl
 refine take_ (i:=7) (N:=some 14) (v:=?_) (a':=?_) gb8_ rfl rfl (take_ofW HT_.out HW_.out (by kernel_rfl)) (fun _ _ _ h=>h) (Or.inl ⟨by rfl,?_⟩) hHeld ?_ ?_
 rotate_left
 ·rintro w' s0
  go_simp
  with_reducible rfl
 rotate_left
 ·simp only [pS]
  rfl
 refine pure_ (i:=8) (N:=some 15) (v:=?_) (a':=?_) gb9_ rfl rfl (any_of HT_.out (by kernel_rfl)) (fun _ _ _ h=>h) (Or.inl ⟨by rfl,?_⟩) ?_ ?_
 rotate_left
 ·intro w'
  go_simp
  with_reducible rfl
 rotate_left
 ·simp only [pS]
  rfl
 refine pure_ (i:=9) (N:=some 16) (v:=?_) (a':=?_) gb10_ rfl rfl (any_of HT_.out (by kernel_rfl)) (fun _ _ _ h=>h) (Or.inl ⟨by rfl,?_⟩) ?_ ?_
 rotate_left
 ·intro w'
  go_simp
  with_reducible rfl
 rotate_left
 ·simp only [pS]
  rfl
 refine pure_ (i:=10) (N:=some 17) (v:=?_) (a':=?_) gb11_ rfl rfl (any_of HT_.out (by kernel_rfl)) (fun _ _ _ h=>h) (Or.inl ⟨by rfl,?_⟩) ?_ ?_
 rotate_left
 ·intro w'
  go_simp
  with_reducible rfl
 rotate_left
 ·simp only [pS]
  rfl
 refine pure_ (i:=11) (N:=some 18) (v:=?_) (a':=?_) gb12_ rfl rfl (any_of HT_.out (by kernel_rfl)) (fun _ _ _ h=>h) (Or.inl ⟨by rfl,?_⟩) ?_ ?_
 rotate_left
 ·intro w'
  go_simp
  with_reducible rfl
 rotate_left
 ·simp only [pS]
  rfl
 refine take_ (i:=12) (N:=some 19) (v:=?_) (a':=?_) gb13_ rfl rfl (take_ofW HT_.out HW_.out (by kernel_rfl)) (fun _ _ _ h=>h) (Or.inl ⟨by rfl,?_⟩) hHeld ?_ ?_
 rotate_left
 ·rintro w' s0
  go_simp
  with_reducible rfl
 rotate_left
 ·simp only [pS]
  rfl
 refine pure_ (i:=13) (N:=some 20) (v:=?_) (a':=?_) gb14_ rfl rfl (any_of HT_.out (by kernel_rfl)) (fun _ _ _ h=>h) (Or.inl ⟨by rfl,?_⟩) ?_ ?_
 rotate_left
 ·intro w'
  go_simp
  with_reducible rfl
 rotate_left
 ·simp only [pS]
  rfl
 refine pure_ (i:=14) (N:=some 21) (v:=?_) (a':=?_) gb15_ rfl rfl (any_of HT_.out (by kernel_rfl)) (fun _ _ _ h=>h) (Or.inl ⟨by rfl,?_⟩) ?_ ?_
 rotate_left
 ·intro w'
  go_simp
  with_reducible rfl
 rotate_left
 ·simp only [pS]
  rfl
 refine pure_ (i:=15) (N:=some 22) (v:=?_) (a':=?_) gb16_ rfl rfl (any_of HT_.out (by kernel_rfl)) (fun _ _ _ h=>h) (Or.inl ⟨by rfl,?_⟩) ?_ ?_
 rotate_left
 ·intro w'
  go_simp
  with_reducible rfl
 rotate_left
 ·simp only [pS]
  rfl
 refine pure_ (i:=16) (N:=some 23) (v:=?_) (a':=?_) gb17_ rfl rfl (any_of HT_.out (by kernel_rfl)) (fun _ _ _ h=>h) (Or.inl ⟨by rfl,?_⟩) ?_ ?_
 rotate_left
 ·intro w'
  go_simp
  with_reducible rfl
 rotate_left
 ·simp only [pS]
  rfl
 refine take_ (i:=17) (N:=some 24) (v:=?_) (a':=?_) gb18_ rfl rfl (take_ofW HT_.out HW_.out (by kernel_rfl)) (fun _ _ _ h=>h) (Or.inl ⟨by rfl,?_⟩) hHeld ?_ ?_
 rotate_left
 ·rintro w' s0
  go_simp
  with_reducible rfl
 rotate_left
 ·simp only [pS]
  rfl
 refine pure_ (i:=18) (N:=some 25) (v:=?_) (a':=?_) gb19_ rfl rfl (any_of HT_.out (by kernel_rfl)) (fun _ _ _ h=>h) (Or.inl ⟨by rfl,?_⟩) ?_ ?_
 rotate_left
 ·intro w'
  go_simp
  with_reducible rfl
 rotate_left
 ·simp only [pS]
  rfl
 refine pure_ (i:=19) (N:=some 26) (v:=?_) (a':=?_) gb20_ rfl rfl (any_of HT_.out (by kernel_rfl)) (fun _ _ _ h=>h) (Or.inl ⟨by rfl,?_⟩) ?_ ?_
 rotate_left
 ·intro w'
  go_simp
  with_reducible rfl
 rotate_left
 ·simp only [pS]
  rfl
 refine pure_ (i:=20) (N:=some 27) (v:=?_) (a':=?_) gb21_ rfl rfl (any_of HT_.out (by kernel_rfl)) (fun _ _ _ h=>h) (Or.inl ⟨by rfl,?_⟩) ?_ ?_
 rotate_left
 ·intro w'
  go_simp
  with_reducible rfl
 rotate_left
 ·simp only [pS]
  rfl
 refine one_ (i:=21) (N:=some 4) gb22_ rfl rfl (one_of HT_.out (by kernel_rfl)) (by decide) (fun K hK=>?_)
 refine box_step ?hg (N:=4) ?hd (cs:=#[.slice none 0 0,.bool false,.bool false,.int .i64 0]) (t:=69) ?hr ?_;(case hd=>rfl);(case hg=>rfl);(case hr=>first | (go_simp;done) | (go_simp;rfl))
 intro g hg w1 hbox hb
 have hb1:Below w.heap.size w w1:=by
  rw [← hWd] at hb
  exact below_undrew hb
 have hgs:w.heap.size≤g:=by rw [hg,← hWd];exact Nat.le_refl _
 have hgb:gb≠g:=by omega
 have x2:=pw_cell_below hb1 x1
 clear hg hb
 refine hK.out _ _ x2 (fun hHeld2=>?_)
 refine last_ (i:=22) (N:=none) gb23_ rfl rfl (one_of HT_.out (by kernel_rfl)) (by decide) (fun K2 hK2=>?_)
 obtain ⟨z0,z1,z2,z3⟩:w1.cell? ⟨g,0,none⟩=some (.slice none 0 0)∧w1.cell? ⟨g,1,none⟩=some (.bool false)∧w1.cell? ⟨g,2,none⟩=some (.bool false)∧w1.cell? ⟨g,3,none⟩=some (.int .i64 0):=⟨(blk_cell hbox 0).trans rfl,(blk_cell hbox 1).trans rfl,(blk_cell hbox 2).trans rfl,(blk_cell hbox 3).trans rfl⟩
 have zf:∀ i,w1.frozen? ⟨g,i,none⟩=false:=fun i=>blk_frozen hbox i
 refine skip_ (w1:=(((w1.setCell ⟨g,0,none⟩ (.slice none 0 0)).setCell ⟨g,1,none⟩ (.bool false)).setCell ⟨g,2,none⟩ (.bool false)).setCell ⟨g,3,none⟩ (.int .i64 0)) (by rfl) rfl ?hrun ?_
 case hrun=>go_simp
 refine hK2.out _ _ (done_ (done_of HT_.out (by kernel_rfl)) ?_)
 have hbk:=blk_set (blk_set (blk_set (blk_set hbox 0 (.slice none 0 0)) 1 (.bool false)) 2 (.bool false)) 3 (.int .i64 0)
 have hb2:=below_set (below_set (below_set (below_set hb1 hgs (j:=0) (v:=.slice none 0 0)) hgs (j:=1) (v:=.bool false)) hgs (j:=2) (v:=.bool false)) hgs (j:=3) (v:=.int .i64 0)
 clear hb1 hbox hK hK2 hHeld hHeld2 z0 z1 z2 z3 zf x2
 generalize World.setCell _ ⟨g,3,none⟩ _=W2 at hbk hb2 ⊢
 replace hbk:W2.heap[g]? = some (.cells #[.slice none 0 0,.bool false,.bool false,.int .i64 0] 69 (0,0)):=hbk
 have HBK:=Aside0.mk hbk
 have HB2:=Aside0.mk hb2
 obtain ⟨z0,z1,z2,z3⟩:W2.cell? ⟨g,0,none⟩=some (.slice none 0 0)∧W2.cell? ⟨g,1,none⟩=some (.bool false)∧W2.cell? ⟨g,2,none⟩=some (.bool false)∧W2.cell? ⟨g,3,none⟩=some (.int .i64 0):=⟨(blk_cell hbk 0).trans rfl,(blk_cell hbk 1).trans rfl,(blk_cell hbk 2).trans rfl,(blk_cell hbk 3).trans rfl⟩
 have zf:∀ i,W2.frozen? ⟨g,i,none⟩=false:=fun i=>blk_frozen hbk i
 have HGB:=Aside0.mk hgb
 have HGS:=Aside0.mk hgs
 have HX1:=Aside0.mk x1
 clear hbk hb2 hgb hgs x1 hWd
 by_cases hk:ks.any (fun k=>!keyF k)=true
 ·have HK:=Aside0.mk hk
  clear hk
  go_wp2_with (first | (go_at_call 58;refine (ContainsFunc_walk _ _ ks _ (HL.out.below (below_set HB2.out HGS.out)) (Kd.F_now (Kd.F_below HF0.out (below_set HB2.out HGS.out)))).mono ?_;rintro e w3 ⟨rfl,hb3⟩;rw [HK.out];have hbk3:=blk_below (blk_set HBK.out 0 (.slice (some ⟨gb,ob + 1,none⟩) ks.length (c - 1))) hb3;replace hbk3:w3.heap[g]? = some (.cells #[.slice (some ⟨gb,ob + 1,none⟩) ks.length (c - 1),.bool false,.bool false,.int .i64 0] 69 (0,0)):=hbk3;obtain ⟨y0,y1,y2,y3⟩:w3.cell? ⟨g,0,none⟩=some (.slice (some ⟨gb,ob + 1,none⟩) ks.length (c - 1))∧w3.cell? ⟨g,1,none⟩=some (.bool false)∧w3.cell? ⟨g,2,none⟩=some (.bool false)∧w3.cell? ⟨g,3,none⟩=some (.int .i64 0):=⟨(blk_cell hbk3 0).trans rfl,(blk_cell hbk3 1).trans rfl,(blk_cell hbk3 2).trans rfl,(blk_cell hbk3 3).trans rfl⟩;have HBK3:=Aside0.mk hbk3;have HB3:=Aside0.mk (below_step (below_set HB2.out HGS.out) hb3);clear hbk3 hb3) | (go_at_call 47;refine (parse_bad.calls _ _ _ _ rfl).mono ?_;rintro e w4 ⟨rfl,hd⟩;have HD:=Aside0.mk hd;clear hd))
  go_ret2
  refine ⟨_,rfl,?_,below_step HB3.out HD.out.below⟩
  rw [HXX.out]
  unfold getX
  rw [if_pos (Or.inl HK.out)]
  exact rfl
 have HK:=Aside0.mk (by simpa using hk:ks.any (fun k=>!keyF k)=false)
 by_cases h64:64 < ks.length
 ·have H64:=Aside0.mk h64
  have f1:decide ((64:Int) < (ks.length:Int))=true:=decide_eq_true (by omega)
  have f2:decide (64 < ks.length)=true:=decide_eq_true (by omega)
  clear hk h64
  go_wp2_with (first | (go_at_call 58;refine (ContainsFunc_walk _ _ ks _ (HL.out.below (below_set HB2.out HGS.out)) (Kd.F_now (Kd.F_below HF0.out (below_set HB2.out HGS.out)))).mono ?_;rintro e w3 ⟨rfl,hb3⟩;rw [HK.out];have hbk3:=blk_below (blk_set HBK.out 0 (.slice (some ⟨gb,ob + 1,none⟩) ks.length (c - 1))) hb3;replace hbk3:w3.heap[g]? = some (.cells #[.slice (some ⟨gb,ob + 1,none⟩) ks.length (c - 1),.bool false,.bool false,.int .i64 0] 69 (0,0)):=hbk3;obtain ⟨y0,y1,y2,y3⟩:w3.cell? ⟨g,0,none⟩=some (.slice (some ⟨gb,ob + 1,none⟩) ks.length (c - 1))∧w3.cell? ⟨g,1,none⟩=some (.bool false)∧w3.cell? ⟨g,2,none⟩=some (.bool false)∧w3.cell? ⟨g,3,none⟩=some (.int .i64 0):=⟨(blk_cell hbk3 0).trans rfl,(blk_cell hbk3 1).trans rfl,(blk_cell hbk3 2).trans rfl,(blk_cell hbk3 3).trans rfl⟩;have HBK3:=Aside0.mk hbk3;have HB3:=Aside0.mk (below_step (below_set HB2.out HGS.out) hb3);clear hbk3 hb3) | (go_at_call 47;refine (parse_bad.calls _ _ _ _ rfl).mono ?_;rintro e w4 ⟨rfl,hd⟩;have HD:=Aside0.mk hd;clear hd))
  go_ret2
  refine ⟨_,rfl,?_,below_step HB3.out HD.out.below⟩
  rw [HXX.out]
  unfold getX
  rw [if_pos (Or.inr H64.out)]
  exact rfl
 have HNO:=Aside0.mk (show ¬ (ks.any (fun k=>!keyF k)=true∨64 < ks.length) from by rintro (h | h);exact hk h;exact h64 h)
 have H64:=Aside0.mk h64
 have f1:decide ((64:Int) < (ks.length:Int))=false:=decide_eq_false (by omega)
 have f2:decide (64 < ks.length)=false:=decide_eq_false (by omega)
 clear hk h64
 go_wp2_with ((go_at_call 58;refine (ContainsFunc_walk _ _ ks _ (HL.out.below (below_set HB2.out HGS.out)) (Kd.F_now (Kd.F_below HF0.out (below_set HB2.out HGS.out)))).mono ?_;rintro e w3 ⟨rfl,hb3⟩;rw [HK.out];have hbk3:=blk_below (blk_set HBK.out 0 (.slice (some ⟨gb,ob + 1,none⟩) ks.length (c - 1))) hb3;replace hbk3:w3.heap[g]? = some (.cells #[.slice (some ⟨gb,ob + 1,none⟩) ks.length (c - 1),.bool false,.bool false,.int .i64 0] 69 (0,0)):=hbk3;obtain ⟨y0,y1,y2,y3⟩:w3.cell? ⟨g,0,none⟩=some (.slice (some ⟨gb,ob + 1,none⟩) ks.length (c - 1))∧w3.cell? ⟨g,1,none⟩=some (.bool false)∧w3.cell? ⟨g,2,none⟩=some (.bool false)∧w3.cell? ⟨g,3,none⟩=some (.int .i64 0):=⟨(blk_cell hbk3 0).trans rfl,(blk_cell hbk3 1).trans rfl,(blk_cell hbk3 2).trans rfl,(blk_cell hbk3 3).trans rfl⟩;have HBK3:=Aside0.mk hbk3;have HB3:=Aside0.mk (below_step (below_set HB2.out HGS.out) hb3);clear hbk3 hb3))
 go_ret2
 refine ⟨_,rfl,?_,HB3.out⟩
 rw [HXX.out]
 unfold getX
 rw [if_neg HNO.out]
 exact ⟨_,_,rfl,⟨HN.out,by have:=H64.out;omega⟩,by have:=HCC.out;simp at this;omega,Kd.F_below HF0.out HB3.out⟩
set_option maxHeartbeats 8000000 in
set_option maxRecDepth 100000 in
theorem get_gets_short (A:Option Addr) (c:Nat) (r:List ByteArray) (w:World) (HLD:LaidA w) (hr:Kd.C Kd.string w A (⟨#[103,101,116,115]⟩::r).length (⟨#[103,101,116,115]⟩::r)) (hcc:(⟨#[103,101,116,115]⟩::r).length≤c) (hl:r.length < 1) :
  Calls Tryz.prog 48 #[.slice A (⟨#[103,101,116,115]⟩::r).length c] w fun e w'=>∃ v,e=.returned (.tuple #[v,.int .i64 (-1)])∧AnyR w' v (.pl (.bad ⟨#[69,82,82,79,82]⟩))∧Below w.heap.size w w':=by
 have hus:=Tryz.underlying22
 have hug:=Tryz.underlying69
 have hmax:=hr.2.1
 have HL:=Aside0.mk HLD
 obtain ⟨gb,ob,hA,hcell⟩:=str_cells hr (by simp)
 have x0:=hcell 0 (by simp)
 have x1:w.cell? ⟨gb,ob,none⟩=some (.string ⟨#[103,101,116,115]⟩):=x0
 subst hA
 have hlt:gb < w.heap.size:=World.block_lt_of_cell? w _ x1
 have hne:¬ gb=w.heap.size:=by omega
 have HC:=Aside0.mk hcell
 have HMX:=Aside0.mk hmax
 clear HLD hr hcell x0
 go_enter Tryz.func48,Tryz.ntmps48
 go_wp2
 refine start_ (n:=23) (S:=fun w'=>w'.cell? ⟨gb,ob,none⟩=some (.string ⟨#[103,101,116,115]⟩)) (ds:=[22]) gb0_ (by kernel_rfl) rfl rfl x1 (fun hHeld=>?_);refine with_tabW get_tab1 get_bits1 (fun HT_ HW_=>?_)
 generalize hWd:w.drew=wd at hHeld ⊢
 refine pure_ (i:=0) (N:=some 7) (v:=?_) (a':=?_) gb1_ rfl rfl (any_of HT_.out (by kernel_rfl)) (fun _ _ _ h=>h) (Or.inl ⟨by rfl,?_⟩) ?_ ?_
 rotate_left
 ·intro w'
  go_simp
  with_reducible rfl
 rotate_left
 ·simp only [pS]
  rfl
 refine pure_ (i:=1) (N:=some 8) (v:=?_) (a':=?_) gb2_ rfl rfl (any_of HT_.out (by kernel_rfl)) (fun _ _ _ h=>h) (Or.inl ⟨by rfl,?_⟩) ?_ ?_
 rotate_left
 ·intro w'
  go_simp
  with_reducible rfl
 rotate_left
 ·simp only [pS]
  rfl
 refine take_ (i:=2) (N:=some 9) (v:=?_) (a':=?_) gb3_ rfl rfl (take_ofW HT_.out HW_.out (by kernel_rfl)) (fun _ _ _ h=>h) (Or.inl ⟨by rfl,?_⟩) hHeld ?_ ?_
 rotate_left
 ·rintro w' s0
  go_simp
  with_reducible rfl
 rotate_left
 ·simp only [pS]
  rfl
 refine pure_ (i:=3) (N:=some 10) (v:=?_) (a':=?_) gb4_ rfl rfl (any_of HT_.out (by kernel_rfl)) (fun _ _ _ h=>h) (Or.inl ⟨by rfl,?_⟩) ?_ ?_
 rotate_left
 ·intro w'
  go_simp
  with_reducible rfl
 rotate_left
 ·simp only [pS]
  rfl
 refine pure_ (i:=4) (N:=some 11) (v:=?_) (a':=?_) gb5_ rfl rfl (any_of HT_.out (by kernel_rfl)) (fun _ _ _ h=>h) (Or.inl ⟨by rfl,?_⟩) ?_ ?_
 rotate_left
 ·intro w'
  go_simp
  with_reducible rfl
 rotate_left
 ·simp only [pS]
  rfl
 refine pure_ (i:=5) (N:=some 12) (v:=undef) (a':=?_) gb6_ rfl rfl (any_of HT_.out (by kernel_rfl)) (fun _ _ _ h=>h) (Or.inr ⟨by rfl,rfl⟩) ?_ ?_
 rotate_left
 ·simp only [pS]
  rfl
 refine pure_ (i:=6) (N:=some 13) (v:=undef) (a':=?_) gb7_ rfl rfl (any_of HT_.out (by kernel_rfl)) (fun _ _ _ h=>h) (Or.inr ⟨by rfl,rfl⟩) ?_ ?_
 rotate_left
 ·simp only [pS]
  rfl
 refine pure_ (i:=7) (N:=some 14) (v:=undef) (a':=?_) gb8_ rfl rfl (any_of HT_.out (by kernel_rfl)) (fun _ _ _ h=>h) (Or.inr ⟨by rfl,rfl⟩) ?_ ?_
 rotate_left
 ·simp only [pS]
  rfl
 refine pure_ (i:=8) (N:=some 15) (v:=undef) (a':=?_) gb9_ rfl rfl (any_of HT_.out (by kernel_rfl)) (fun _ _ _ h=>h) (Or.inr ⟨by rfl,rfl⟩) ?_ ?_
 rotate_left
 ·simp only [pS]
  rfl
 refine pure_ (i:=9) (N:=some 16) (v:=?_) (a':=?_) gb10_ rfl rfl (any_of HT_.out (by kernel_rfl)) (fun _ _ _ h=>h) (Or.inl ⟨by rfl,?_⟩) ?_ ?_
 rotate_left
 ·intro w'
  go_simp
  with_reducible rfl
 rotate_left
 ·simp only [pS]
  rfl
 refine pure_ (i:=10) (N:=some 17) (v:=?_) (a':=?_) gb11_ rfl rfl (any_of HT_.out (by kernel_rfl)) (fun _ _ _ h=>h) (Or.inl ⟨by rfl,?_⟩) ?_ ?_
 rotate_left
 ·intro w'
  go_simp
  with_reducible rfl
 rotate_left
 ·simp only [pS]
  rfl
 refine pure_ (i:=11) (N:=some 18) (v:=?_) (a':=?_) gb12_ rfl rfl (any_of HT_.out (by kernel_rfl)) (fun _ _ _ h=>h) (Or.inl ⟨by rfl,?_⟩) ?_ ?_
 rotate_left
 ·intro w'
  go_simp
  with_reducible rfl
 rotate_left
 ·simp only [pS]
  rfl
 refine take_ (i:=12) (N:=some 19) (v:=?_) (a':=?_) gb13_ rfl rfl (take_ofW HT_.out HW_.out (by kernel_rfl)) (fun _ _ _ h=>h) (Or.inl ⟨by rfl,?_⟩) hHeld ?_ ?_
 rotate_left
 ·rintro w' s0
  go_simp
  with_reducible rfl
 rotate_left
 ·simp only [pS]
  rfl
 refine pure_ (i:=13) (N:=some 20) (v:=?_) (a':=?_) gb14_ rfl rfl (any_of HT_.out (by kernel_rfl)) (fun _ _ _ h=>h) (Or.inl ⟨by rfl,?_⟩) ?_ ?_
 rotate_left
 ·intro w'
  go_simp
  with_reducible rfl
 rotate_left
 ·simp only [pS]
  rfl
 refine pure_ (i:=14) (N:=some 21) (v:=?_) (a':=?_) gb15_ rfl rfl (any_of HT_.out (by kernel_rfl)) (fun _ _ _ h=>h) (Or.inl ⟨by rfl,?_⟩) ?_ ?_
 rotate_left
 ·intro w'
  go_simp
  with_reducible rfl
 rotate_left
 ·simp only [pS]
  rfl
 refine pure_ (i:=15) (N:=some 22) (v:=?_) (a':=?_) gb16_ rfl rfl (any_of HT_.out (by kernel_rfl)) (fun _ _ _ h=>h) (Or.inl ⟨by rfl,?_⟩) ?_ ?_
 rotate_left
 ·intro w'
  go_simp
  with_reducible rfl
 rotate_left
 ·simp only [pS]
  rfl
 refine pure_ (i:=16) (N:=some 23) (v:=?_) (a':=?_) gb17_ rfl rfl (any_of HT_.out (by kernel_rfl)) (fun _ _ _ h=>h) (Or.inl ⟨by rfl,?_⟩) ?_ ?_
 rotate_left
 ·intro w'
  go_simp
  with_reducible rfl
 rotate_left
 ·simp only [pS]
  rfl
 refine take_ (i:=17) (N:=some 24) (v:=?_) (a':=?_) gb18_ rfl rfl (take_ofW HT_.out HW_.out (by kernel_rfl)) (fun _ _ _ h=>h) (Or.inl ⟨by rfl,?_⟩) hHeld ?_ ?_
 rotate_left
 ·rintro w' s0
  go_simp
  with_reducible rfl
 rotate_left
 ·simp only [pS]
  rfl
 refine pure_ (i:=18) (N:=some 25) (v:=?_) (a':=?_) gb19_ rfl rfl (any_of HT_.out (by kernel_rfl)) (fun _ _ _ h=>h) (Or.inl ⟨by rfl,?_⟩) ?_ ?_
 rotate_left
 ·intro w'
  go_simp
  with_reducible rfl
 rotate_left
 ·simp only [pS]
  rfl
 refine pure_ (i:=19) (N:=some 26) (v:=?_) (a':=?_) gb20_ rfl rfl (any_of HT_.out (by kernel_rfl)) (fun _ _ _ h=>h) (Or.inl ⟨by rfl,?_⟩) ?_ ?_
 rotate_left
 ·intro w'
  go_simp
  with_reducible rfl
 rotate_left
 ·simp only [pS]
  rfl
 refine pure_ (i:=20) (N:=some 27) (v:=?_) (a':=?_) gb21_ rfl rfl (any_of HT_.out (by kernel_rfl)) (fun _ _ _ h=>h) (Or.inl ⟨by rfl,?_⟩) ?_ ?_
 rotate_left
 ·intro w'
  go_simp
  with_reducible rfl
 rotate_left
 ·simp only [pS]
  rfl
 refine one_ (i:=21) (N:=some 4) gb22_ rfl rfl (one_of HT_.out (by kernel_rfl)) (by decide) (fun K hK=>?_)
 refine box_step ?hg (N:=4) ?hd (cs:=#[.slice none 0 0,.bool false,.bool false,.int .i64 0]) (t:=69) ?hr ?_;(case hd=>rfl);(case hg=>rfl);(case hr=>first | (go_simp;done) | (go_simp;rfl))
 intro g hg w1 hbox hb
 have hb1:Below w.heap.size w w1:=by
  rw [← hWd] at hb
  exact below_undrew hb
 have hgs:w.heap.size≤g:=by rw [hg,← hWd];exact Nat.le_refl _
 have hgb:gb≠g:=by omega
 have x2:=pw_cell_below hb1 x1
 clear hg hb
 refine hK.out _ _ x2 (fun hHeld2=>?_)
 refine last_ (i:=22) (N:=none) gb23_ rfl rfl (one_of HT_.out (by kernel_rfl)) (by decide) (fun K2 hK2=>?_)
 obtain ⟨z0,z1,z2,z3⟩:w1.cell? ⟨g,0,none⟩=some (.slice none 0 0)∧w1.cell? ⟨g,1,none⟩=some (.bool false)∧w1.cell? ⟨g,2,none⟩=some (.bool false)∧w1.cell? ⟨g,3,none⟩=some (.int .i64 0):=⟨(blk_cell hbox 0).trans rfl,(blk_cell hbox 1).trans rfl,(blk_cell hbox 2).trans rfl,(blk_cell hbox 3).trans rfl⟩
 have zf:∀ i,w1.frozen? ⟨g,i,none⟩=false:=fun i=>blk_frozen hbox i
 refine skip_ (w1:=(((w1.setCell ⟨g,0,none⟩ (.slice none 0 0)).setCell ⟨g,1,none⟩ (.bool true)).setCell ⟨g,2,none⟩ (.bool false)).setCell ⟨g,3,none⟩ (.int .i64 0)) (by rfl) rfl ?hrun ?_
 case hrun=>go_simp
 refine hK2.out _ _ (done_ (done_of HT_.out (by kernel_rfl)) ?_)
 have hbk:=blk_set (blk_set (blk_set (blk_set hbox 0 (.slice none 0 0)) 1 (.bool true)) 2 (.bool false)) 3 (.int .i64 0)
 have hb2:=below_set (below_set (below_set (below_set hb1 hgs (j:=0) (v:=.slice none 0 0)) hgs (j:=1) (v:=.bool true)) hgs (j:=2) (v:=.bool false)) hgs (j:=3) (v:=.int .i64 0)
 clear hb1 hbox hK hK2 hHeld hHeld2 z0 z1 z2 z3 zf x2
 generalize World.setCell _ ⟨g,3,none⟩ _=W2 at hbk hb2 ⊢
 replace hbk:W2.heap[g]? = some (.cells #[.slice none 0 0,.bool true,.bool false,.int .i64 0] 69 (0,0)):=hbk
 have HBK:=Aside0.mk hbk
 have HB2:=Aside0.mk hb2
 obtain ⟨z0,z1,z2,z3⟩:W2.cell? ⟨g,0,none⟩=some (.slice none 0 0)∧W2.cell? ⟨g,1,none⟩=some (.bool true)∧W2.cell? ⟨g,2,none⟩=some (.bool false)∧W2.cell? ⟨g,3,none⟩=some (.int .i64 0):=⟨(blk_cell hbk 0).trans rfl,(blk_cell hbk 1).trans rfl,(blk_cell hbk 2).trans rfl,(blk_cell hbk 3).trans rfl⟩
 have zf:∀ i,W2.frozen? ⟨g,i,none⟩=false:=fun i=>blk_frozen hbk i
 have HGB:=Aside0.mk hgb
 have HGS:=Aside0.mk hgs
 have HX1:=Aside0.mk x1
 clear hbk hb2 hgb hgs x1 hWd
 have d1:decide (((r.length + 1:Nat):Int)≤1)=true:=decide_eq_true (by omega)
 have d2:decide (r.length + 1≤1)=true:=decide_eq_true (by omega)
 have d3:decide ((r.length:Int) + 1≤1)=true:=decide_eq_true (by omega)
 clear hl
 go_wp2_with (go_at_call 47;refine (parse_bad.calls _ _ _ _ rfl).mono ?_;rintro e w3 ⟨rfl,hd⟩;have HD:=Aside0.mk hd;clear hd)
 go_ret2
 exact ⟨_,rfl,rfl,below_step (by repeat (first | exact HB2.out | apply below_drew1 | apply below_alloc | apply pw_below_drewN)) HD.out.below⟩
set_option maxHeartbeats 8000000 in
set_option maxRecDepth 100000 in
theorem get_gets_full (A:Option Addr) (c:Nat) (ks:List ByteArray) (w:World) (HLD:LaidA w) (hr:Kd.C Kd.string w A (⟨#[103,101,116,115]⟩::ks).length (⟨#[103,101,116,115]⟩::ks)) (hcc:(⟨#[103,101,116,115]⟩::ks).length≤c) (hn:0 < ks.length) :
  Calls Tryz.prog 48 #[.slice A (⟨#[103,101,116,115]⟩::ks).length c] w fun e w'=>∃ v,e=.returned (.tuple #[v,.int .i64 (-1)])∧AnyR w' v (getX ks true false (0,true))∧Below w.heap.size w w':=by
 have hus:=Tryz.underlying22
 have hug:=Tryz.underlying69
 have hmax:=hr.2.1
 have HL:=Aside0.mk HLD
 obtain ⟨gb,ob,hA,hcell⟩:=str_cells hr (by simp)
 have x0:=hcell 0 (by simp)
 have x1:w.cell? ⟨gb,ob,none⟩=some (.string ⟨#[103,101,116,115]⟩):=x0
 subst hA
 have hlt:gb < w.heap.size:=World.block_lt_of_cell? w _ x1
 have hne:¬ gb=w.heap.size:=by omega
 have HC:=Aside0.mk hcell
 have HMX:=Aside0.mk hmax
 clear HLD hr hcell x0
 obtain ⟨X,hX⟩:∃ X,X=getX ks true false (0,true):=⟨_,rfl⟩
 rw [← hX]
 have HXX:=Aside0.mk hX
 clear hX
 have hF0:Kd.F Kd.string w (fun _=>True) (some ⟨gb,ob + 1,none⟩) ks.length ks:=Kd.F_mono (Kd.C_F Kd.heap_string (str_drop (xs:=⟨#[103,101,116,115]⟩::ks) HMX.out HC.out 1 ks.length rfl)) (fun _ _=>trivial)
 have HF0:=Aside0.mk hF0
 have HN:=Aside0.mk hn
 have HCC:=Aside0.mk hcc
 have e3:(ks.length + 1≤c)=True:=eq_true (by simp at hcc;omega)
 have e4:¬ c=1:=by simp at hcc;omega
 have e5:¬ c=0:=by simp at hcc;omega
 have d1:decide (((ks.length + 1:Nat):Int)≤1)=false:=decide_eq_false (by omega)
 have d2:decide (ks.length + 1≤1)=false:=decide_eq_false (by omega)
 have d3:decide ((ks.length:Int) + 1≤1)=false:=decide_eq_false (by omega)
 have d5:decide ((ks.length:Int) + 1 + 1≤1)=false:=decide_eq_false (by omega)
 have e1:(1≤ks.length + 1)=True:=eq_true (by omega)
 have e6:((1:Int)≤(ks.length:Int) + 1)=True:=eq_true (by omega)
 clear hF0 hn hcc
 go_enter Tryz.func48,Tryz.ntmps48
 go_wp2
 refine start_ (n:=23) (S:=fun w'=>w'.cell? ⟨gb,ob,none⟩=some (.string ⟨#[103,101,116,115]⟩)) (ds:=[22]) gb0_ (by kernel_rfl) rfl rfl x1 (fun hHeld=>?_);refine with_tabW get_tab1 get_bits1 (fun HT_ HW_=>?_)
 generalize hWd:w.drew=wd at hHeld ⊢
 refine pure_ (i:=0) (N:=some 7) (v:=?_) (a':=?_) gb1_ rfl rfl (any_of HT_.out (by kernel_rfl)) (fun _ _ _ h=>h) (Or.inl ⟨by rfl,?_⟩) ?_ ?_
 rotate_left
 ·intro w'
  go_simp
  with_reducible rfl
 rotate_left
 ·simp only [pS]
  rfl
 refine pure_ (i:=1) (N:=some 8) (v:=?_) (a':=?_) gb2_ rfl rfl (any_of HT_.out (by kernel_rfl)) (fun _ _ _ h=>h) (Or.inl ⟨by rfl,?_⟩) ?_ ?_
 rotate_left
 ·intro w'
  go_simp
  with_reducible rfl
 rotate_left
 ·simp only [pS]
  rfl
 refine take_ (i:=2) (N:=some 9) (v:=?_) (a':=?_) gb3_ rfl rfl (take_ofW HT_.out HW_.out (by kernel_rfl)) (fun _ _ _ h=>h) (Or.inl ⟨by rfl,?_⟩) hHeld ?_ ?_
 rotate_left
 ·rintro w' s0
  go_simp
  with_reducible rfl
 rotate_left
 ·simp only [pS]
  rfl
 refine pure_ (i:=3) (N:=some 10) (v:=?_) (a':=?_) gb4_ rfl rfl (any_of HT_.out (by kernel_rfl)) (fun _ _ _ h=>h) (Or.inl ⟨by rfl,?_⟩) ?_ ?_
 rotate_left
 ·intro w'
  go_simp
  with_reducible rfl
 rotate_left
 ·simp only [pS]
  rfl
 refine pure_ (i:=4) (N:=some 11) (v:=?_) (a':=?_) gb5_ rfl rfl (any_of HT_.out (by kernel_rfl)) (fun _ _ _ h=>h) (Or.inl ⟨by rfl,?_⟩) ?_ ?_
 rotate_left
 ·intro w'
  go_simp
  with_reducible rfl
 rotate_left
 ·simp only [pS]
  rfl
 refine pure_ (i:=5) (N:=some 12) (v:=undef) (a':=?_) gb6_ rfl rfl (any_of HT_.out (by kernel_rfl)) (fun _ _ _ h=>h) (Or.inr ⟨by rfl,rfl⟩) ?_ ?_
 rotate_left
 ·simp only [pS]
  rfl
 refine pure_ (i:=6) (N:=some 13) (v:=undef) (a':=?_) gb7_ rfl rfl (any_of HT_.out (by kernel_rfl)) (fun _ _ _ h=>h) (Or.inr ⟨by rfl,rfl⟩) ?_ ?_
 rotate_left
 ·simp only [pS]
  rfl
 refine pure_ (i:=7) (N:=some 14) (v:=undef) (a':=?_) gb8_ rfl rfl (any_of HT_.out (by kernel_rfl)) (fun _ _ _ h=>h) (Or.inr ⟨by rfl,rfl⟩) ?_ ?_
 rotate_left
 ·simp only [pS]
  rfl
 refine pure_ (i:=8) (N:=some 15) (v:=undef) (a':=?_) gb9_ rfl rfl (any_of HT_.out (by kernel_rfl)) (fun _ _ _ h=>h) (Or.inr ⟨by rfl,rfl⟩) ?_ ?_
 rotate_left
 ·simp only [pS]
  rfl
 refine pure_ (i:=9) (N:=some 16) (v:=?_) (a':=?_) gb10_ rfl rfl (any_of HT_.out (by kernel_rfl)) (fun _ _ _ h=>h) (Or.inl ⟨by rfl,?_⟩) ?_ ?_
 rotate_left
 ·intro w'
  go_simp
  with_reducible rfl
 rotate_left
 ·simp only [pS]
  rfl
 refine pure_ (i:=10) (N:=some 17) (v:=?_) (a':=?_) gb11_ rfl rfl (any_of HT_.out (by kernel_rfl)) (fun _ _ _ h=>h) (Or.inl ⟨by rfl,?_⟩) ?_ ?_
 rotate_left
 ·intro w'
  go_simp
  with_reducible rfl
 rotate_left
 ·simp only [pS]
  rfl
 refine pure_ (i:=11) (N:=some 18) (v:=?_) (a':=?_) gb12_ rfl rfl (any_of HT_.out (by kernel_rfl)) (fun _ _ _ h=>h) (Or.inl ⟨by rfl,?_⟩) ?_ ?_
 rotate_left
 ·intro w'
  go_simp
  with_reducible rfl
 rotate_left
 ·simp only [pS]
  rfl
 refine take_ (i:=12) (N:=some 19) (v:=?_) (a':=?_) gb13_ rfl rfl (take_ofW HT_.out HW_.out (by kernel_rfl)) (fun _ _ _ h=>h) (Or.inl ⟨by rfl,?_⟩) hHeld ?_ ?_
 rotate_left
 ·rintro w' s0
  go_simp
  with_reducible rfl
 rotate_left
 ·simp only [pS]
  rfl
 refine pure_ (i:=13) (N:=some 20) (v:=?_) (a':=?_) gb14_ rfl rfl (any_of HT_.out (by kernel_rfl)) (fun _ _ _ h=>h) (Or.inl ⟨by rfl,?_⟩) ?_ ?_
 rotate_left
 ·intro w'
  go_simp
  with_reducible rfl
 rotate_left
 ·simp only [pS]
  rfl
 refine pure_ (i:=14) (N:=some 21) (v:=?_) (a':=?_) gb15_ rfl rfl (any_of HT_.out (by kernel_rfl)) (fun _ _ _ h=>h) (Or.inl ⟨by rfl,?_⟩) ?_ ?_
 rotate_left
 ·intro w'
  go_simp
  with_reducible rfl
 rotate_left
 ·simp only [pS]
  rfl
 refine pure_ (i:=15) (N:=some 22) (v:=?_) (a':=?_) gb16_ rfl rfl (any_of HT_.out (by kernel_rfl)) (fun _ _ _ h=>h) (Or.inl ⟨by rfl,?_⟩) ?_ ?_
 rotate_left
 ·intro w'
  go_simp
  with_reducible rfl
 rotate_left
 ·simp only [pS]
  rfl
 refine pure_ (i:=16) (N:=some 23) (v:=?_) (a':=?_) gb17_ rfl rfl (any_of HT_.out (by kernel_rfl)) (fun _ _ _ h=>h) (Or.inl ⟨by rfl,?_⟩) ?_ ?_
 rotate_left
 ·intro w'
  go_simp
  with_reducible rfl
 rotate_left
 ·simp only [pS]
  rfl
 refine take_ (i:=17) (N:=some 24) (v:=?_) (a':=?_) gb18_ rfl rfl (take_ofW HT_.out HW_.out (by kernel_rfl)) (fun _ _ _ h=>h) (Or.inl ⟨by rfl,?_⟩) hHeld ?_ ?_
 rotate_left
 ·rintro w' s0
  go_simp
  with_reducible rfl
 rotate_left
 ·simp only [pS]
  rfl
 refine pure_ (i:=18) (N:=some 25) (v:=?_) (a':=?_) gb19_ rfl rfl (any_of HT_.out (by kernel_rfl)) (fun _ _ _ h=>h) (Or.inl ⟨by rfl,?_⟩) ?_ ?_
 rotate_left
 ·intro w'
  go_simp
  with_reducible rfl
 rotate_left
 ·simp only [pS]
  rfl
 refine pure_ (i:=19) (N:=some 26) (v:=?_) (a':=?_) gb20_ rfl rfl (any_of HT_.out (by kernel_rfl)) (fun _ _ _ h=>h) (Or.inl ⟨by rfl,?_⟩) ?_ ?_
 rotate_left
 ·intro w'
  go_simp
  with_reducible rfl
 rotate_left
 ·simp only [pS]
  rfl
 refine pure_ (i:=20) (N:=some 27) (v:=?_) (a':=?_) gb21_ rfl rfl (any_of HT_.out (by kernel_rfl)) (fun _ _ _ h=>h) (Or.inl ⟨by rfl,?_⟩) ?_ ?_
 rotate_left
 ·intro w'
  go_simp
  with_reducible rfl
 rotate_left
 ·simp only [pS]
  rfl
 refine one_ (i:=21) (N:=some 4) gb22_ rfl rfl (one_of HT_.out (by kernel_rfl)) (by decide) (fun K hK=>?_)
 refine box_step ?hg (N:=4) ?hd (cs:=#[.slice none 0 0,.bool false,.bool false,.int .i64 0]) (t:=69) ?hr ?_;(case hd=>rfl);(case hg=>rfl);(case hr=>first | (go_simp;done) | (go_simp;rfl))
 intro g hg w1 hbox hb
 have hb1:Below w.heap.size w w1:=by
  rw [← hWd] at hb
  exact below_undrew hb
 have hgs:w.heap.size≤g:=by rw [hg,← hWd];exact Nat.le_refl _
 have hgb:gb≠g:=by omega
 have x2:=pw_cell_below hb1 x1
 clear hg hb
 refine hK.out _ _ x2 (fun hHeld2=>?_)
 refine last_ (i:=22) (N:=none) gb23_ rfl rfl (one_of HT_.out (by kernel_rfl)) (by decide) (fun K2 hK2=>?_)
 obtain ⟨z0,z1,z2,z3⟩:w1.cell? ⟨g,0,none⟩=some (.slice none 0 0)∧w1.cell? ⟨g,1,none⟩=some (.bool false)∧w1.cell? ⟨g,2,none⟩=some (.bool false)∧w1.cell? ⟨g,3,none⟩=some (.int .i64 0):=⟨(blk_cell hbox 0).trans rfl,(blk_cell hbox 1).trans rfl,(blk_cell hbox 2).trans rfl,(blk_cell hbox 3).trans rfl⟩
 have zf:∀ i,w1.frozen? ⟨g,i,none⟩=false:=fun i=>blk_frozen hbox i
 refine skip_ (w1:=(((w1.setCell ⟨g,0,none⟩ (.slice none 0 0)).setCell ⟨g,1,none⟩ (.bool true)).setCell ⟨g,2,none⟩ (.bool false)).setCell ⟨g,3,none⟩ (.int .i64 0)) (by rfl) rfl ?hrun ?_
 case hrun=>go_simp
 refine hK2.out _ _ (done_ (done_of HT_.out (by kernel_rfl)) ?_)
 have hbk:=blk_set (blk_set (blk_set (blk_set hbox 0 (.slice none 0 0)) 1 (.bool true)) 2 (.bool false)) 3 (.int .i64 0)
 have hb2:=below_set (below_set (below_set (below_set hb1 hgs (j:=0) (v:=.slice none 0 0)) hgs (j:=1) (v:=.bool true)) hgs (j:=2) (v:=.bool false)) hgs (j:=3) (v:=.int .i64 0)
 clear hb1 hbox hK hK2 hHeld hHeld2 z0 z1 z2 z3 zf x2
 generalize World.setCell _ ⟨g,3,none⟩ _=W2 at hbk hb2 ⊢
 replace hbk:W2.heap[g]? = some (.cells #[.slice none 0 0,.bool true,.bool false,.int .i64 0] 69 (0,0)):=hbk
 have HBK:=Aside0.mk hbk
 have HB2:=Aside0.mk hb2
 obtain ⟨z0,z1,z2,z3⟩:W2.cell? ⟨g,0,none⟩=some (.slice none 0 0)∧W2.cell? ⟨g,1,none⟩=some (.bool true)∧W2.cell? ⟨g,2,none⟩=some (.bool false)∧W2.cell? ⟨g,3,none⟩=some (.int .i64 0):=⟨(blk_cell hbk 0).trans rfl,(blk_cell hbk 1).trans rfl,(blk_cell hbk 2).trans rfl,(blk_cell hbk 3).trans rfl⟩
 have zf:∀ i,W2.frozen? ⟨g,i,none⟩=false:=fun i=>blk_frozen hbk i
 have HGB:=Aside0.mk hgb
 have HGS:=Aside0.mk hgs
 have HX1:=Aside0.mk x1
 clear hbk hb2 hgb hgs x1 hWd
 by_cases hk:ks.any (fun k=>!keyF k)=true
 ·have HK:=Aside0.mk hk
  clear hk
  go_wp2_with (first | (go_at_call 58;refine (ContainsFunc_walk _ _ ks _ (HL.out.below (below_set HB2.out HGS.out)) (Kd.F_now (Kd.F_below HF0.out (below_set HB2.out HGS.out)))).mono ?_;rintro e w3 ⟨rfl,hb3⟩;rw [HK.out];have hbk3:=blk_below (blk_set HBK.out 0 (.slice (some ⟨gb,ob + 1,none⟩) ks.length (c - 1))) hb3;replace hbk3:w3.heap[g]? = some (.cells #[.slice (some ⟨gb,ob + 1,none⟩) ks.length (c - 1),.bool true,.bool false,.int .i64 0] 69 (0,0)):=hbk3;obtain ⟨y0,y1,y2,y3⟩:w3.cell? ⟨g,0,none⟩=some (.slice (some ⟨gb,ob + 1,none⟩) ks.length (c - 1))∧w3.cell? ⟨g,1,none⟩=some (.bool true)∧w3.cell? ⟨g,2,none⟩=some (.bool false)∧w3.cell? ⟨g,3,none⟩=some (.int .i64 0):=⟨(blk_cell hbk3 0).trans rfl,(blk_cell hbk3 1).trans rfl,(blk_cell hbk3 2).trans rfl,(blk_cell hbk3 3).trans rfl⟩;have HBK3:=Aside0.mk hbk3;have HB3:=Aside0.mk (below_step (below_set HB2.out HGS.out) hb3);clear hbk3 hb3) | (go_at_call 47;refine (parse_bad.calls _ _ _ _ rfl).mono ?_;rintro e w4 ⟨rfl,hd⟩;have HD:=Aside0.mk hd;clear hd))
  go_ret2
  refine ⟨_,rfl,?_,below_step HB3.out HD.out.below⟩
  rw [HXX.out]
  unfold getX
  rw [if_pos (Or.inl HK.out)]
  exact rfl
 have HK:=Aside0.mk (by simpa using hk:ks.any (fun k=>!keyF k)=false)
 by_cases h64:64 < ks.length
 ·have H64:=Aside0.mk h64
  have f1:decide ((64:Int) < (ks.length:Int))=true:=decide_eq_true (by omega)
  have f2:decide (64 < ks.length)=true:=decide_eq_true (by omega)
  clear hk h64
  go_wp2_with (first | (go_at_call 58;refine (ContainsFunc_walk _ _ ks _ (HL.out.below (below_set HB2.out HGS.out)) (Kd.F_now (Kd.F_below HF0.out (below_set HB2.out HGS.out)))).mono ?_;rintro e w3 ⟨rfl,hb3⟩;rw [HK.out];have hbk3:=blk_below (blk_set HBK.out 0 (.slice (some ⟨gb,ob + 1,none⟩) ks.length (c - 1))) hb3;replace hbk3:w3.heap[g]? = some (.cells #[.slice (some ⟨gb,ob + 1,none⟩) ks.length (c - 1),.bool true,.bool false,.int .i64 0] 69 (0,0)):=hbk3;obtain ⟨y0,y1,y2,y3⟩:w3.cell? ⟨g,0,none⟩=some (.slice (some ⟨gb,ob + 1,none⟩) ks.length (c - 1))∧w3.cell? ⟨g,1,none⟩=some (.bool true)∧w3.cell? ⟨g,2,none⟩=some (.bool false)∧w3.cell? ⟨g,3,none⟩=some (.int .i64 0):=⟨(blk_cell hbk3 0).trans rfl,(blk_cell hbk3 1).trans rfl,(blk_cell hbk3 2).trans rfl,(blk_cell hbk3 3).trans rfl⟩;have HBK3:=Aside0.mk hbk3;have HB3:=Aside0.mk (below_step (below_set HB2.out HGS.out) hb3);clear hbk3 hb3) | (go_at_call 47;refine (parse_bad.calls _ _ _ _ rfl).mono ?_;rintro e w4 ⟨rfl,hd⟩;have HD:=Aside0.mk hd;clear hd))
  go_ret2
  refine ⟨_,rfl,?_,below_step HB3.out HD.out.below⟩
  rw [HXX.out]
  unfold getX
  rw [if_pos (Or.inr H64.out)]
  exact rfl
 have HNO:=Aside0.mk (show ¬ (ks.any (fun k=>!keyF k)=true∨64 < ks.length) from by rintro (h | h);exact hk h;exact h64 h)
 have H64:=Aside0.mk h64
 have f1:decide ((64:Int) < (ks.length:Int))=false:=decide_eq_false (by omega)
 have f2:decide (64 < ks.length)=false:=decide_eq_false (by omega)
 clear hk h64
 go_wp2_with ((go_at_call 58;refine (ContainsFunc_walk _ _ ks _ (HL.out.below (below_set HB2.out HGS.out)) (Kd.F_now (Kd.F_below HF0.out (below_set HB2.out HGS.out)))).mono ?_;rintro e w3 ⟨rfl,hb3⟩;rw [HK.out];have hbk3:=blk_below (blk_set HBK.out 0 (.slice (some ⟨gb,ob + 1,none⟩) ks.length (c - 1))) hb3;replace hbk3:w3.heap[g]? = some (.cells #[.slice (some ⟨gb,ob + 1,none⟩) ks.length (c - 1),.bool true,.bool false,.int .i64 0] 69 (0,0)):=hbk3;obtain ⟨y0,y1,y2,y3⟩:w3.cell? ⟨g,0,none⟩=some (.slice (some ⟨gb,ob + 1,none⟩) ks.length (c - 1))∧w3.cell? ⟨g,1,none⟩=some (.bool true)∧w3.cell? ⟨g,2,none⟩=some (.bool false)∧w3.cell? ⟨g,3,none⟩=some (.int .i64 0):=⟨(blk_cell hbk3 0).trans rfl,(blk_cell hbk3 1).trans rfl,(blk_cell hbk3 2).trans rfl,(blk_cell hbk3 3).trans rfl⟩;have HBK3:=Aside0.mk hbk3;have HB3:=Aside0.mk (below_step (below_set HB2.out HGS.out) hb3);clear hbk3 hb3))
 go_ret2
 refine ⟨_,rfl,?_,HB3.out⟩
 rw [HXX.out]
 unfold getX
 rw [if_neg HNO.out]
 exact ⟨_,_,rfl,⟨HN.out,by have:=H64.out;omega⟩,by have:=HCC.out;simp at this;omega,Kd.F_below HF0.out HB3.out⟩
set_option maxHeartbeats 8000000 in
set_option maxRecDepth 100000 in
theorem get_gat_short (A:Option Addr) (c:Nat) (r:List ByteArray) (w:World) (HLD:LaidA w) (hr:Kd.C Kd.string w A (⟨#[103,97,116]⟩::r).length (⟨#[103,97,116]⟩::r)) (hcc:(⟨#[103,97,116]⟩::r).length≤c) (hl:r.length < 2) :
  Calls Tryz.prog 48 #[.slice A (⟨#[103,97,116]⟩::r).length c] w fun e w'=>∃ v,e=.returned (.tuple #[v,.int .i64 (-1)])∧AnyR w' v (.pl (.bad ⟨#[69,82,82,79,82]⟩))∧Below w.heap.size w w':=by
 have hus:=Tryz.underlying22
 have hug:=Tryz.underlying69
 have hmax:=hr.2.1
 have HL:=Aside0.mk HLD
 obtain ⟨gb,ob,hA,hcell⟩:=str_cells hr (by simp)
 have x0:=hcell 0 (by simp)
 have x1:w.cell? ⟨gb,ob,none⟩=some (.string ⟨#[103,97,116]⟩):=x0
 subst hA
 have hlt:gb < w.heap.size:=World.block_lt_of_cell? w _ x1
 have hne:¬ gb=w.heap.size:=by omega
 have HC:=Aside0.mk hcell
 have HMX:=Aside0.mk hmax
 clear HLD hr hcell x0
 go_enter Tryz.func48,Tryz.ntmps48
 go_wp2
 refine start_ (n:=23) (S:=fun w'=>w'.cell? ⟨gb,ob,none⟩=some (.string ⟨#[103,97,116]⟩)) (ds:=[22]) gb0_ (by kernel_rfl) rfl rfl x1 (fun hHeld=>?_);refine with_tabW get_tab1 get_bits1 (fun HT_ HW_=>?_)
 generalize hWd:w.drew=wd at hHeld ⊢
 refine pure_ (i:=0) (N:=some 7) (v:=?_) (a':=?_) gb1_ rfl rfl (any_of HT_.out (by kernel_rfl)) (fun _ _ _ h=>h) (Or.inl ⟨by rfl,?_⟩) ?_ ?_
 rotate_left
 ·intro w'
  go_simp
  with_reducible rfl
 rotate_left
 ·simp only [pS]
  rfl
 refine pure_ (i:=1) (N:=some 8) (v:=?_) (a':=?_) gb2_ rfl rfl (any_of HT_.out (by kernel_rfl)) (fun _ _ _ h=>h) (Or.inl ⟨by rfl,?_⟩) ?_ ?_
 rotate_left
 ·intro w'
  go_simp
  with_reducible rfl
 rotate_left
 ·simp only [pS]
  rfl
 refine take_ (i:=2) (N:=some 9) (v:=?_) (a':=?_) gb3_ rfl rfl (take_ofW HT_.out HW_.out (by kernel_rfl)) (fun _ _ _ h=>h) (Or.inl ⟨by rfl,?_⟩) hHeld ?_ ?_
 rotate_left
 ·rintro w' s0
  go_simp
  with_reducible rfl
 rotate_left
 ·simp only [pS]
  rfl
 refine pure_ (i:=3) (N:=some 10) (v:=?_) (a':=?_) gb4_ rfl rfl (any_of HT_.out (by kernel_rfl)) (fun _ _ _ h=>h) (Or.inl ⟨by rfl,?_⟩) ?_ ?_
 rotate_left
 ·intro w'
  go_simp
  with_reducible rfl
 rotate_left
 ·simp only [pS]
  rfl
 refine pure_ (i:=4) (N:=some 11) (v:=?_) (a':=?_) gb5_ rfl rfl (any_of HT_.out (by kernel_rfl)) (fun _ _ _ h=>h) (Or.inl ⟨by rfl,?_⟩) ?_ ?_
 rotate_left
 ·intro w'
  go_simp
  with_reducible rfl
 rotate_left
 ·simp only [pS]
  rfl
 refine pure_ (i:=5) (N:=some 12) (v:=?_) (a':=?_) gb6_ rfl rfl (any_of HT_.out (by kernel_rfl)) (fun _ _ _ h=>h) (Or.inl ⟨by rfl,?_⟩) ?_ ?_
 rotate_left
 ·intro w'
  go_simp
  with_reducible rfl
 rotate_left
 ·simp only [pS]
  rfl
 refine pure_ (i:=6) (N:=some 13) (v:=?_) (a':=?_) gb7_ rfl rfl (any_of HT_.out (by kernel_rfl)) (fun _ _ _ h=>h) (Or.inl ⟨by rfl,?_⟩) ?_ ?_
 rotate_left
 ·intro w'
  go_simp
  with_reducible rfl
 rotate_left
 ·simp only [pS]
  rfl
 refine take_ (i:=7) (N:=some 14) (v:=?_) (a':=?_) gb8_ rfl rfl (take_ofW HT_.out HW_.out (by kernel_rfl)) (fun _ _ _ h=>h) (Or.inl ⟨by rfl,?_⟩) hHeld ?_ ?_
 rotate_left
 ·rintro w' s0
  go_simp
  with_reducible rfl
 rotate_left
 ·simp only [pS]
  rfl
 refine pure_ (i:=8) (N:=some 15) (v:=?_) (a':=?_) gb9_ rfl rfl (any_of HT_.out (by kernel_rfl)) (fun _ _ _ h=>h) (Or.inl ⟨by rfl,?_⟩) ?_ ?_
 rotate_left
 ·intro w'
  go_simp
  with_reducible rfl
 rotate_left
 ·simp only [pS]
  rfl
 refine pure_ (i:=9) (N:=some 16) (v:=?_) (a':=?_) gb10_ rfl rfl (any_of HT_.out (by kernel_rfl)) (fun _ _ _ h=>h) (Or.inl ⟨by rfl,?_⟩) ?_ ?_
 rotate_left
 ·intro w'
  go_simp
  with_reducible rfl
 rotate_left
 ·simp only [pS]
  rfl
 refine pure_ (i:=10) (N:=some 17) (v:=?_) (a':=?_) gb11_ rfl rfl (any_of HT_.out (by kernel_rfl)) (fun _ _ _ h=>h) (Or.inl ⟨by rfl,?_⟩) ?_ ?_
 rotate_left
 ·intro w'
  go_simp
  with_reducible rfl
 rotate_left
 ·simp only [pS]
  rfl
 refine pure_ (i:=11) (N:=some 18) (v:=?_) (a':=?_) gb12_ rfl rfl (any_of HT_.out (by kernel_rfl)) (fun _ _ _ h=>h) (Or.inl ⟨by rfl,?_⟩) ?_ ?_
 rotate_left
 ·intro w'
  go_simp
  with_reducible rfl
 rotate_left
 ·simp only [pS]
  rfl
 refine take_ (i:=12) (N:=some 19) (v:=?_) (a':=?_) gb13_ rfl rfl (take_ofW HT_.out HW_.out (by kernel_rfl)) (fun _ _ _ h=>h) (Or.inl ⟨by rfl,?_⟩) hHeld ?_ ?_
 rotate_left
 ·rintro w' s0
  go_simp
  with_reducible rfl
 rotate_left
 ·simp only [pS]
  rfl
 refine pure_ (i:=13) (N:=some 20) (v:=?_) (a':=?_) gb14_ rfl rfl (any_of HT_.out (by kernel_rfl)) (fun _ _ _ h=>h) (Or.inl ⟨by rfl,?_⟩) ?_ ?_
 rotate_left
 ·intro w'
  go_simp
  with_reducible rfl
 rotate_left
 ·simp only [pS]
  rfl
 refine pure_ (i:=14) (N:=some 21) (v:=?_) (a':=?_) gb15_ rfl rfl (any_of HT_.out (by kernel_rfl)) (fun _ _ _ h=>h) (Or.inl ⟨by rfl,?_⟩) ?_ ?_
 rotate_left
 ·intro w'
  go_simp
  with_reducible rfl
 rotate_left
 ·simp only [pS]
  rfl
 refine pure_ (i:=15) (N:=some 22) (v:=undef) (a':=?_) gb16_ rfl rfl (any_of HT_.out (by kernel_rfl)) (fun _ _ _ h=>h) (Or.inr ⟨by rfl,rfl⟩) ?_ ?_
 rotate_left
 ·simp only [pS]
  rfl
 refine pure_ (i:=16) (N:=some 23) (v:=undef) (a':=?_) gb17_ rfl rfl (any_of HT_.out (by kernel_rfl)) (fun _ _ _ h=>h) (Or.inr ⟨by rfl,rfl⟩) ?_ ?_
 rotate_left
 ·simp only [pS]
  rfl
 refine pure_ (i:=17) (N:=some 24) (v:=undef) (a':=?_) gb18_ rfl rfl (any_of HT_.out (by kernel_rfl)) (fun _ _ _ h=>h) (Or.inr ⟨by rfl,rfl⟩) ?_ ?_
 rotate_left
 ·simp only [pS]
  rfl
 refine pure_ (i:=18) (N:=some 25) (v:=undef) (a':=?_) gb19_ rfl rfl (any_of HT_.out (by kernel_rfl)) (fun _ _ _ h=>h) (Or.inr ⟨by rfl,rfl⟩) ?_ ?_
 rotate_left
 ·simp only [pS]
  rfl
 refine pure_ (i:=19) (N:=some 26) (v:=?_) (a':=?_) gb20_ rfl rfl (any_of HT_.out (by kernel_rfl)) (fun _ _ _ h=>h) (Or.inl ⟨by rfl,?_⟩) ?_ ?_
 rotate_left
 ·intro w'
  go_simp
  with_reducible rfl
 rotate_left
 ·simp only [pS]
  rfl
 refine pure_ (i:=20) (N:=some 27) (v:=?_) (a':=?_) gb21_ rfl rfl (any_of HT_.out (by kernel_rfl)) (fun _ _ _ h=>h) (Or.inl ⟨by rfl,?_⟩) ?_ ?_
 rotate_left
 ·intro w'
  go_simp
  with_reducible rfl
 rotate_left
 ·simp only [pS]
  rfl
 refine one_ (i:=21) (N:=some 4) gb22_ rfl rfl (one_of HT_.out (by kernel_rfl)) (by decide) (fun K hK=>?_)
 refine box_step ?hg (N:=4) ?hd (cs:=#[.slice none 0 0,.bool false,.bool false,.int .i64 0]) (t:=69) ?hr ?_;(case hd=>rfl);(case hg=>rfl);(case hr=>first | (go_simp;done) | (go_simp;rfl))
 intro g hg w1 hbox hb
 have hb1:Below w.heap.size w w1:=by
  rw [← hWd] at hb
  exact below_undrew hb
 have hgs:w.heap.size≤g:=by rw [hg,← hWd];exact Nat.le_refl _
 have hgb:gb≠g:=by omega
 have x2:=pw_cell_below hb1 x1
 clear hg hb
 refine hK.out _ _ x2 (fun hHeld2=>?_)
 refine last_ (i:=22) (N:=none) gb23_ rfl rfl (one_of HT_.out (by kernel_rfl)) (by decide) (fun K2 hK2=>?_)
 obtain ⟨z0,z1,z2,z3⟩:w1.cell? ⟨g,0,none⟩=some (.slice none 0 0)∧w1.cell? ⟨g,1,none⟩=some (.bool false)∧w1.cell? ⟨g,2,none⟩=some (.bool false)∧w1.cell? ⟨g,3,none⟩=some (.int .i64 0):=⟨(blk_cell hbox 0).trans rfl,(blk_cell hbox 1).trans rfl,(blk_cell hbox 2).trans rfl,(blk_cell hbox 3).trans rfl⟩
 have zf:∀ i,w1.frozen? ⟨g,i,none⟩=false:=fun i=>blk_frozen hbox i
 refine skip_ (w1:=(((w1.setCell ⟨g,0,none⟩ (.slice none 0 0)).setCell ⟨g,1,none⟩ (.bool false)).setCell ⟨g,2,none⟩ (.bool true)).setCell ⟨g,3,none⟩ (.int .i64 0)) (by rfl) rfl ?hrun ?_
 case hrun=>go_simp
 refine hK2.out _ _ (done_ (done_of HT_.out (by kernel_rfl)) ?_)
 have hbk:=blk_set (blk_set (blk_set (blk_set hbox 0 (.slice none 0 0)) 1 (.bool false)) 2 (.bool true)) 3 (.int .i64 0)
 have hb2:=below_set (below_set (below_set (below_set hb1 hgs (j:=0) (v:=.slice none 0 0)) hgs (j:=1) (v:=.bool false)) hgs (j:=2) (v:=.bool true)) hgs (j:=3) (v:=.int .i64 0)
 clear hb1 hbox hK hK2 hHeld hHeld2 z0 z1 z2 z3 zf x2
 generalize World.setCell _ ⟨g,3,none⟩ _=W2 at hbk hb2 ⊢
 replace hbk:W2.heap[g]? = some (.cells #[.slice none 0 0,.bool false,.bool true,.int .i64 0] 69 (0,0)):=hbk
 have HBK:=Aside0.mk hbk
 have HB2:=Aside0.mk hb2
 obtain ⟨z0,z1,z2,z3⟩:W2.cell? ⟨g,0,none⟩=some (.slice none 0 0)∧W2.cell? ⟨g,1,none⟩=some (.bool false)∧W2.cell? ⟨g,2,none⟩=some (.bool true)∧W2.cell? ⟨g,3,none⟩=some (.int .i64 0):=⟨(blk_cell hbk 0).trans rfl,(blk_cell hbk 1).trans rfl,(blk_cell hbk 2).trans rfl,(blk_cell hbk 3).trans rfl⟩
 have zf:∀ i,W2.frozen? ⟨g,i,none⟩=false:=fun i=>blk_frozen hbk i
 have HGB:=Aside0.mk hgb
 have HGS:=Aside0.mk hgs
 have HX1:=Aside0.mk x1
 clear hbk hb2 hgb hgs x1 hWd
 have d1:decide (((r.length + 1:Nat):Int)≤2)=true:=decide_eq_true (by omega)
 have d2:decide (r.length + 1≤2)=true:=decide_eq_true (by omega)
 have d3:decide ((r.length:Int) + 1≤2)=true:=decide_eq_true (by omega)
 clear hl
 go_wp2_with (go_at_call 47;refine (parse_bad.calls _ _ _ _ rfl).mono ?_;rintro e w3 ⟨rfl,hd⟩;have HD:=Aside0.mk hd;clear hd)
 go_ret2
 exact ⟨_,rfl,rfl,below_step (by repeat (first | exact HB2.out | apply below_drew1 | apply below_alloc | apply pw_below_drewN)) HD.out.below⟩
set_option maxHeartbeats 8000000 in
set_option maxRecDepth 100000 in
theorem get_gat_full (A:Option Addr) (c:Nat) (ks:List ByteArray) (x:ByteArray) (w:World) (HLD:LaidA w) (hr:Kd.C Kd.string w A (⟨#[103,97,116]⟩::x::ks).length (⟨#[103,97,116]⟩::x::ks)) (hcc:(⟨#[103,97,116]⟩::x::ks).length≤c) (hn:0 < ks.length) (k:Nat) (sg:Int×Bool) (hsg:words_Signed.f k x=some sg) :
  Calls Tryz.prog 48 #[.slice A (⟨#[103,97,116]⟩::x::ks).length c] w fun e w'=>∃ v,e=.returned (.tuple #[v,.int .i64 (-1)])∧AnyR w' v (getX ks false true sg)∧Below w.heap.size w w':=by
 have hus:=Tryz.underlying22
 have hug:=Tryz.underlying69
 have hmax:=hr.2.1
 have HL:=Aside0.mk HLD
 obtain ⟨gb,ob,hA,hcell⟩:=str_cells hr (by simp)
 have x0:=hcell 0 (by simp)
 have x1:w.cell? ⟨gb,ob,none⟩=some (.string ⟨#[103,97,116]⟩):=x0
 subst hA
 have hlt:gb < w.heap.size:=World.block_lt_of_cell? w _ x1
 have hne:¬ gb=w.heap.size:=by omega
 have HC:=Aside0.mk hcell
 have HMX:=Aside0.mk hmax
 clear HLD hr hcell x0
 obtain ⟨sv,sk⟩:=sg
 obtain ⟨X,hX⟩:∃ X,X=getX ks false true (sv,sk):=⟨_,rfl⟩
 rw [← hX]
 have HXX:=Aside0.mk hX
 clear hX
 have hF0:Kd.F Kd.string w (fun _=>True) (some ⟨gb,ob + 2,none⟩) ks.length ks:=Kd.F_mono (Kd.C_F Kd.heap_string (str_drop (xs:=⟨#[103,97,116]⟩::x::ks) HMX.out HC.out 2 ks.length rfl)) (fun _ _=>trivial)
 have HF0:=Aside0.mk hF0
 have HN:=Aside0.mk hn
 have HCC:=Aside0.mk hcc
 have e3:(ks.length + 2≤c)=True:=eq_true (by simp at hcc;omega)
 have e4:¬ c=2:=by simp at hcc;omega
 have e5:¬ c=0:=by simp at hcc;omega
 have d1:decide (((ks.length + 2:Nat):Int)≤2)=false:=decide_eq_false (by omega)
 have d2:decide (ks.length + 2≤2)=false:=decide_eq_false (by omega)
 have d3:decide ((ks.length:Int) + 2≤2)=false:=decide_eq_false (by omega)
 have d5:decide ((ks.length:Int) + 1 + 1≤2)=false:=decide_eq_false (by omega)
 have e1:(2≤ks.length + 2)=True:=eq_true (by omega)
 have e6:((2:Int)≤(ks.length:Int) + 2)=True:=eq_true (by omega)
 clear hF0 hn hcc
 have e7:((0:Int) < (ks.length:Int) + 1 + 1)=True:=eq_true (by omega)
 have e8:((1:Int) < (ks.length:Int) + 1 + 1)=True:=eq_true (by omega)
 have e9:((2:Int)≤(ks.length:Int) + 1 + 1)=True:=eq_true (by omega)
 have e10:(ks.length + 1 + 1≤c)=True:=eq_true (by have:=of_eq_true e3;omega)
 have x1b:w.cell? ⟨gb,ob + 1,none⟩=some (.string x):=HC.out 1 (by simp)
 have HX2:=Aside0.mk x1b
 clear x1b
 have HSG:=Aside0.mk hsg
 clear hsg
 go_enter Tryz.func48,Tryz.ntmps48
 go_wp2
 refine start_ (n:=23) (S:=fun w'=>w'.cell? ⟨gb,ob,none⟩=some (.string ⟨#[103,97,116]⟩)) (ds:=[22]) gb0_ (by kernel_rfl) rfl rfl x1 (fun hHeld=>?_);refine with_tabW get_tab1 get_bits1 (fun HT_ HW_=>?_)
 generalize hWd:w.drew=wd at hHeld ⊢
 refine pure_ (i:=0) (N:=some 7) (v:=?_) (a':=?_) gb1_ rfl rfl (any_of HT_.out (by kernel_rfl)) (fun _ _ _ h=>h) (Or.inl ⟨by rfl,?_⟩) ?_ ?_
 rotate_left
 ·intro w'
  go_simp
  with_reducible rfl
 rotate_left
 ·simp only [pS]
  rfl
 refine pure_ (i:=1) (N:=some 8) (v:=?_) (a':=?_) gb2_ rfl rfl (any_of HT_.out (by kernel_rfl)) (fun _ _ _ h=>h) (Or.inl ⟨by rfl,?_⟩) ?_ ?_
 rotate_left
 ·intro w'
  go_simp
  with_reducible rfl
 rotate_left
 ·simp only [pS]
  rfl
 refine take_ (i:=2) (N:=some 9) (v:=?_) (a':=?_) gb3_ rfl rfl (take_ofW HT_.out HW_.out (by kernel_rfl)) (fun _ _ _ h=>h) (Or.inl ⟨by rfl,?_⟩) hHeld ?_ ?_
 rotate_left
 ·rintro w' s0
  go_simp
  with_reducible rfl
 rotate_left
 ·simp only [pS]
  rfl
 refine pure_ (i:=3) (N:=some 10) (v:=?_) (a':=?_) gb4_ rfl rfl (any_of HT_.out (by kernel_rfl)) (fun _ _ _ h=>h) (Or.inl ⟨by rfl,?_⟩) ?_ ?_
 rotate_left
 ·intro w'
  go_simp
  with_reducible rfl
 rotate_left
 ·simp only [pS]
  rfl
 refine pure_ (i:=4) (N:=some 11) (v:=?_) (a':=?_) gb5_ rfl rfl (any_of HT_.out (by kernel_rfl)) (fun _ _ _ h=>h) (Or.inl ⟨by rfl,?_⟩) ?_ ?_
 rotate_left
 ·intro w'
  go_simp
  with_reducible rfl
 rotate_left
 ·simp only [pS]
  rfl
 refine pure_ (i:=5) (N:=some 12) (v:=?_) (a':=?_) gb6_ rfl rfl (any_of HT_.out (by kernel_rfl)) (fun _ _ _ h=>h) (Or.inl ⟨by rfl,?_⟩) ?_ ?_
 rotate_left
 ·intro w'
  go_simp
  with_reducible rfl
 rotate_left
 ·simp only [pS]
  rfl
 refine pure_ (i:=6) (N:=some 13) (v:=?_) (a':=?_) gb7_ rfl rfl (any_of HT_.out (by kernel_rfl)) (fun _ _ _ h=>h) (Or.inl ⟨by rfl,?_⟩) ?_ ?_
 rotate_left
 ·intro w'
  go_simp
  with_reducible rfl
 rotate_left
 ·simp only [pS]
  rfl
 refine take_ (i:=7) (N:=some 14) (v:=?_) (a':=?_) gb8_ rfl rfl (take_ofW HT_.out HW_.out (by kernel_rfl)) (fun _ _ _ h=>h) (Or.inl ⟨by rfl,?_⟩) hHeld ?_ ?_
 rotate_left
 ·rintro w' s0
  go_simp
  with_reducible rfl
 rotate_left
 ·simp only [pS]
  rfl
 refine pure_ (i:=8) (N:=some 15) (v:=?_) (a':=?_) gb9_ rfl rfl (any_of HT_.out (by kernel_rfl)) (fun _ _ _ h=>h) (Or.inl ⟨by rfl,?_⟩) ?_ ?_
 rotate_left
 ·intro w'
  go_simp
  with_reducible rfl
 rotate_left
 ·simp only [pS]
  rfl
 refine pure_ (i:=9) (N:=some 16) (v:=?_) (a':=?_) gb10_ rfl rfl (any_of HT_.out (by kernel_rfl)) (fun _ _ _ h=>h) (Or.inl ⟨by rfl,?_⟩) ?_ ?_
 rotate_left
 ·intro w'
  go_simp
  with_reducible rfl
 rotate_left
 ·simp only [pS]
  rfl
 refine pure_ (i:=10) (N:=some 17) (v:=?_) (a':=?_) gb11_ rfl rfl (any_of HT_.out (by kernel_rfl)) (fun _ _ _ h=>h) (Or.inl ⟨by rfl,?_⟩) ?_ ?_
 rotate_left
 ·intro w'
  go_simp
  with_reducible rfl
 rotate_left
 ·simp only [pS]
  rfl
 refine pure_ (i:=11) (N:=some 18) (v:=?_) (a':=?_) gb12_ rfl rfl (any_of HT_.out (by kernel_rfl)) (fun _ _ _ h=>h) (Or.inl ⟨by rfl,?_⟩) ?_ ?_
 rotate_left
 ·intro w'
  go_simp
  with_reducible rfl
 rotate_left
 ·simp only [pS]
  rfl
 refine take_ (i:=12) (N:=some 19) (v:=?_) (a':=?_) gb13_ rfl rfl (take_ofW HT_.out HW_.out (by kernel_rfl)) (fun _ _ _ h=>h) (Or.inl ⟨by rfl,?_⟩) hHeld ?_ ?_
 rotate_left
 ·rintro w' s0
  go_simp
  with_reducible rfl
 rotate_left
 ·simp only [pS]
  rfl
 refine pure_ (i:=13) (N:=some 20) (v:=?_) (a':=?_) gb14_ rfl rfl (any_of HT_.out (by kernel_rfl)) (fun _ _ _ h=>h) (Or.inl ⟨by rfl,?_⟩) ?_ ?_
 rotate_left
 ·intro w'
  go_simp
  with_reducible rfl
 rotate_left
 ·simp only [pS]
  rfl
 refine pure_ (i:=14) (N:=some 21) (v:=?_) (a':=?_) gb15_ rfl rfl (any_of HT_.out (by kernel_rfl)) (fun _ _ _ h=>h) (Or.inl ⟨by rfl,?_⟩) ?_ ?_
 rotate_left
 ·intro w'
  go_simp
  with_reducible rfl
 rotate_left
 ·simp only [pS]
  rfl
 refine pure_ (i:=15) (N:=some 22) (v:=undef) (a':=?_) gb16_ rfl rfl (any_of HT_.out (by kernel_rfl)) (fun _ _ _ h=>h) (Or.inr ⟨by rfl,rfl⟩) ?_ ?_
 rotate_left
 ·simp only [pS]
  rfl
 refine pure_ (i:=16) (N:=some 23) (v:=undef) (a':=?_) gb17_ rfl rfl (any_of HT_.out (by kernel_rfl)) (fun _ _ _ h=>h) (Or.inr ⟨by rfl,rfl⟩) ?_ ?_
 rotate_left
 ·simp only [pS]
  rfl
 refine pure_ (i:=17) (N:=some 24) (v:=undef) (a':=?_) gb18_ rfl rfl (any_of HT_.out (by kernel_rfl)) (fun _ _ _ h=>h) (Or.inr ⟨by rfl,rfl⟩) ?_ ?_
 rotate_left
 ·simp only [pS]
  rfl
 refine pure_ (i:=18) (N:=some 25) (v:=undef) (a':=?_) gb19_ rfl rfl (any_of HT_.out (by kernel_rfl)) (fun _ _ _ h=>h) (Or.inr ⟨by rfl,rfl⟩) ?_ ?_
 rotate_left
 ·simp only [pS]
  rfl
 refine pure_ (i:=19) (N:=some 26) (v:=?_) (a':=?_) gb20_ rfl rfl (any_of HT_.out (by kernel_rfl)) (fun _ _ _ h=>h) (Or.inl ⟨by rfl,?_⟩) ?_ ?_
 rotate_left
 ·intro w'
  go_simp
  with_reducible rfl
 rotate_left
 ·simp only [pS]
  rfl
 refine pure_ (i:=20) (N:=some 27) (v:=?_) (a':=?_) gb21_ rfl rfl (any_of HT_.out (by kernel_rfl)) (fun _ _ _ h=>h) (Or.inl ⟨by rfl,?_⟩) ?_ ?_
 rotate_left
 ·intro w'
  go_simp
  with_reducible rfl
 rotate_left
 ·simp only [pS]
  rfl
 refine one_ (i:=21) (N:=some 4) gb22_ rfl rfl (one_of HT_.out (by kernel_rfl)) (by decide) (fun K hK=>?_)
 refine box_step ?hg (N:=4) ?hd (cs:=#[.slice none 0 0,.bool false,.bool false,.int .i64 0]) (t:=69) ?hr ?_;(case hd=>rfl);(case hg=>rfl);(case hr=>first | (go_simp;done) | (go_simp;rfl))
 intro g hg w1 hbox hb
 have hb1:Below w.heap.size w w1:=by
  rw [← hWd] at hb
  exact below_undrew hb
 have hgs:w.heap.size≤g:=by rw [hg,← hWd];exact Nat.le_refl _
 have hgb:gb≠g:=by omega
 have x2:=pw_cell_below hb1 x1
 clear hg hb
 refine hK.out _ _ x2 (fun hHeld2=>?_)
 refine last_ (i:=22) (N:=none) gb23_ rfl rfl (one_of HT_.out (by kernel_rfl)) (by decide) (fun K2 hK2=>?_)
 obtain ⟨z0,z1,z2,z3⟩:w1.cell? ⟨g,0,none⟩=some (.slice none 0 0)∧w1.cell? ⟨g,1,none⟩=some (.bool false)∧w1.cell? ⟨g,2,none⟩=some (.bool false)∧w1.cell? ⟨g,3,none⟩=some (.int .i64 0):=⟨(blk_cell hbox 0).trans rfl,(blk_cell hbox 1).trans rfl,(blk_cell hbox 2).trans rfl,(blk_cell hbox 3).trans rfl⟩
 have zf:∀ i,w1.frozen? ⟨g,i,none⟩=false:=fun i=>blk_frozen hbox i
 refine skip_ (w1:=(((w1.setCell ⟨g,0,none⟩ (.slice none 0 0)).setCell ⟨g,1,none⟩ (.bool false)).setCell ⟨g,2,none⟩ (.bool true)).setCell ⟨g,3,none⟩ (.int .i64 0)) (by rfl) rfl ?hrun ?_
 case hrun=>go_simp
 refine hK2.out _ _ (done_ (done_of HT_.out (by kernel_rfl)) ?_)
 have hbk:=blk_set (blk_set (blk_set (blk_set hbox 0 (.slice none 0 0)) 1 (.bool false)) 2 (.bool true)) 3 (.int .i64 0)
 have hb2:=below_set (below_set (below_set (below_set hb1 hgs (j:=0) (v:=.slice none 0 0)) hgs (j:=1) (v:=.bool false)) hgs (j:=2) (v:=.bool true)) hgs (j:=3) (v:=.int .i64 0)
 clear hb1 hbox hK hK2 hHeld hHeld2 z0 z1 z2 z3 zf x2
 generalize World.setCell _ ⟨g,3,none⟩ _=W2 at hbk hb2 ⊢
 replace hbk:W2.heap[g]? = some (.cells #[.slice none 0 0,.bool false,.bool true,.int .i64 0] 69 (0,0)):=hbk
 have HBK:=Aside0.mk hbk
 have HB2:=Aside0.mk hb2
 obtain ⟨z0,z1,z2,z3⟩:W2.cell? ⟨g,0,none⟩=some (.slice none 0 0)∧W2.cell? ⟨g,1,none⟩=some (.bool false)∧W2.cell? ⟨g,2,none⟩=some (.bool true)∧W2.cell? ⟨g,3,none⟩=some (.int .i64 0):=⟨(blk_cell hbk 0).trans rfl,(blk_cell hbk 1).trans rfl,(blk_cell hbk 2).trans rfl,(blk_cell hbk 3).trans rfl⟩
 have zf:∀ i,W2.frozen? ⟨g,i,none⟩=false:=fun i=>blk_frozen hbk i
 have HGB:=Aside0.mk hgb
 have HGS:=Aside0.mk hgs
 have HX1:=Aside0.mk x1
 clear hbk hb2 hgb hgs x1 hWd
 by_cases hk:ks.any (fun k=>!keyF k)=true
 ·have HK:=Aside0.mk hk
  clear hk
  go_wp2_with (first | (go_at_call 58;refine (ContainsFunc_walk _ _ ks _ (HL.out.below (below_set HB2.out HGS.out)) (Kd.F_now (Kd.F_below HF0.out (below_set HB2.out HGS.out)))).mono ?_;rintro e w3 ⟨rfl,hb3⟩;rw [HK.out];have hbk3:=blk_below (blk_set HBK.out 0 (.slice (some ⟨gb,ob + 2,none⟩) ks.length (c - 2))) hb3;replace hbk3:w3.heap[g]? = some (.cells #[.slice (some ⟨gb,ob + 2,none⟩) ks.length (c - 2),.bool false,.bool true,.int .i64 0] 69 (0,0)):=hbk3;obtain ⟨y0,y1,y2,y3⟩:w3.cell? ⟨g,0,none⟩=some (.slice (some ⟨gb,ob + 2,none⟩) ks.length (c - 2))∧w3.cell? ⟨g,1,none⟩=some (.bool false)∧w3.cell? ⟨g,2,none⟩=some (.bool true)∧w3.cell? ⟨g,3,none⟩=some (.int .i64 0):=⟨(blk_cell hbk3 0).trans rfl,(blk_cell hbk3 1).trans rfl,(blk_cell hbk3 2).trans rfl,(blk_cell hbk3 3).trans rfl⟩;have HBK3:=Aside0.mk hbk3;have HB3:=Aside0.mk (below_step (below_set HB2.out HGS.out) hb3);clear hbk3 hb3) | (go_at_call 47;refine (parse_bad.calls _ _ _ _ rfl).mono ?_;rintro e w4 ⟨rfl,hd⟩;have HD:=Aside0.mk hd;clear hd))
  go_ret2
  refine ⟨_,rfl,?_,below_step HB3.out HD.out.below⟩
  rw [HXX.out]
  unfold getX
  rw [if_pos (Or.inl HK.out)]
  exact rfl
 have HK:=Aside0.mk (by simpa using hk:ks.any (fun k=>!keyF k)=false)
 by_cases h64:64 < ks.length
 ·have H64:=Aside0.mk h64
  have f1:decide ((64:Int) < (ks.length:Int))=true:=decide_eq_true (by omega)
  have f2:decide (64 < ks.length)=true:=decide_eq_true (by omega)
  clear hk h64
  go_wp2_with (first | (go_at_call 58;refine (ContainsFunc_walk _ _ ks _ (HL.out.below (below_set HB2.out HGS.out)) (Kd.F_now (Kd.F_below HF0.out (below_set HB2.out HGS.out)))).mono ?_;rintro e w3 ⟨rfl,hb3⟩;rw [HK.out];have hbk3:=blk_below (blk_set HBK.out 0 (.slice (some ⟨gb,ob + 2,none⟩) ks.length (c - 2))) hb3;replace hbk3:w3.heap[g]? = some (.cells #[.slice (some ⟨gb,ob + 2,none⟩) ks.length (c - 2),.bool false,.bool true,.int .i64 0] 69 (0,0)):=hbk3;obtain ⟨y0,y1,y2,y3⟩:w3.cell? ⟨g,0,none⟩=some (.slice (some ⟨gb,ob + 2,none⟩) ks.length (c - 2))∧w3.cell? ⟨g,1,none⟩=some (.bool false)∧w3.cell? ⟨g,2,none⟩=some (.bool true)∧w3.cell? ⟨g,3,none⟩=some (.int .i64 0):=⟨(blk_cell hbk3 0).trans rfl,(blk_cell hbk3 1).trans rfl,(blk_cell hbk3 2).trans rfl,(blk_cell hbk3 3).trans rfl⟩;have HBK3:=Aside0.mk hbk3;have HB3:=Aside0.mk (below_step (below_set HB2.out HGS.out) hb3);clear hbk3 hb3) | (go_at_call 47;refine (parse_bad.calls _ _ _ _ rfl).mono ?_;rintro e w4 ⟨rfl,hd⟩;have HD:=Aside0.mk hd;clear hd))
  go_ret2
  refine ⟨_,rfl,?_,below_step HB3.out HD.out.below⟩
  rw [HXX.out]
  unfold getX
  rw [if_pos (Or.inr H64.out)]
  exact rfl
 have HNO:=Aside0.mk (show ¬ (ks.any (fun k=>!keyF k)=true∨64 < ks.length) from by rintro (h | h);exact hk h;exact h64 h)
 have H64:=Aside0.mk h64
 have f1:decide ((64:Int) < (ks.length:Int))=false:=decide_eq_false (by omega)
 have f2:decide (64 < ks.length)=false:=decide_eq_false (by omega)
 clear hk h64
 cases sk with
 | false=>
  go_wp2_with (first | (go_at_call 58;refine (ContainsFunc_walk _ _ ks _ (HL.out.below (below_set HB2.out HGS.out)) (Kd.F_now (Kd.F_below HF0.out (below_set HB2.out HGS.out)))).mono ?_;rintro e w3 ⟨rfl,hb3⟩;rw [HK.out];have hbk3:=blk_below (blk_set HBK.out 0 (.slice (some ⟨gb,ob + 2,none⟩) ks.length (c - 2))) hb3;replace hbk3:w3.heap[g]? = some (.cells #[.slice (some ⟨gb,ob + 2,none⟩) ks.length (c - 2),.bool false,.bool true,.int .i64 0] 69 (0,0)):=hbk3;obtain ⟨y0,y1,y2,y3⟩:w3.cell? ⟨g,0,none⟩=some (.slice (some ⟨gb,ob + 2,none⟩) ks.length (c - 2))∧w3.cell? ⟨g,1,none⟩=some (.bool false)∧w3.cell? ⟨g,2,none⟩=some (.bool true)∧w3.cell? ⟨g,3,none⟩=some (.int .i64 0):=⟨(blk_cell hbk3 0).trans rfl,(blk_cell hbk3 1).trans rfl,(blk_cell hbk3 2).trans rfl,(blk_cell hbk3 3).trans rfl⟩;have HBK3:=Aside0.mk hbk3;have HB3:=Aside0.mk (below_step (below_set HB2.out HGS.out) hb3);clear hbk3 hb3;have x5:=pw_cell_below HB3.out HX2.out) | (go_at_call 60;refine (words_Signed.calls k x _ _ _ (HL.out.below HB3.out) HSG.out).mono ?_;rintro e w4 ⟨rfl,hb4⟩;have hbk4:=blk_below HBK3.out hb4;obtain ⟨u0,u1,u2,u3⟩:w4.cell? ⟨g,0,none⟩=some (.slice (some ⟨gb,ob + 2,none⟩) ks.length (c - 2))∧w4.cell? ⟨g,1,none⟩=some (.bool false)∧w4.cell? ⟨g,2,none⟩=some (.bool true)∧w4.cell? ⟨g,3,none⟩=some (.int .i64 0):=⟨(blk_cell hbk4 0).trans rfl,(blk_cell hbk4 1).trans rfl,(blk_cell hbk4 2).trans rfl,(blk_cell hbk4 3).trans rfl⟩;have uf:∀ i,w4.frozen? ⟨g,i,none⟩=false:=fun i=>blk_frozen hbk4 i;have HB4:=Aside0.mk (below_step HB3.out hb4);clear hbk4 hb4) | (go_at_call 47;refine (parse_bad.calls _ _ _ _ rfl).mono ?_;rintro e w5 ⟨rfl,hd⟩;have HD:=Aside0.mk hd;clear hd))
  go_ret2
  refine ⟨_,rfl,?_,below_step (below_set HB4.out HGS.out) HD.out.below⟩
  rw [HXX.out]
  unfold getX
  rw [if_neg HNO.out]
  exact rfl
 | true=>
  go_wp2_with (first | (go_at_call 58;refine (ContainsFunc_walk _ _ ks _ (HL.out.below (below_set HB2.out HGS.out)) (Kd.F_now (Kd.F_below HF0.out (below_set HB2.out HGS.out)))).mono ?_;rintro e w3 ⟨rfl,hb3⟩;rw [HK.out];have hbk3:=blk_below (blk_set HBK.out 0 (.slice (some ⟨gb,ob + 2,none⟩) ks.length (c - 2))) hb3;replace hbk3:w3.heap[g]? = some (.cells #[.slice (some ⟨gb,ob + 2,none⟩) ks.length (c - 2),.bool false,.bool true,.int .i64 0] 69 (0,0)):=hbk3;obtain ⟨y0,y1,y2,y3⟩:w3.cell? ⟨g,0,none⟩=some (.slice (some ⟨gb,ob + 2,none⟩) ks.length (c - 2))∧w3.cell? ⟨g,1,none⟩=some (.bool false)∧w3.cell? ⟨g,2,none⟩=some (.bool true)∧w3.cell? ⟨g,3,none⟩=some (.int .i64 0):=⟨(blk_cell hbk3 0).trans rfl,(blk_cell hbk3 1).trans rfl,(blk_cell hbk3 2).trans rfl,(blk_cell hbk3 3).trans rfl⟩;have HBK3:=Aside0.mk hbk3;have HB3:=Aside0.mk (below_step (below_set HB2.out HGS.out) hb3);clear hbk3 hb3;have x5:=pw_cell_below HB3.out HX2.out) | (go_at_call 60;refine (words_Signed.calls k x _ _ _ (HL.out.below HB3.out) HSG.out).mono ?_;rintro e w4 ⟨rfl,hb4⟩;have hbk4:=blk_below HBK3.out hb4;obtain ⟨u0,u1,u2,u3⟩:w4.cell? ⟨g,0,none⟩=some (.slice (some ⟨gb,ob + 2,none⟩) ks.length (c - 2))∧w4.cell? ⟨g,1,none⟩=some (.bool false)∧w4.cell? ⟨g,2,none⟩=some (.bool true)∧w4.cell? ⟨g,3,none⟩=some (.int .i64 0):=⟨(blk_cell hbk4 0).trans rfl,(blk_cell hbk4 1).trans rfl,(blk_cell hbk4 2).trans rfl,(blk_cell hbk4 3).trans rfl⟩;have uf:∀ i,w4.frozen? ⟨g,i,none⟩=false:=fun i=>blk_frozen hbk4 i;have HB4:=Aside0.mk (below_step HB3.out hb4);clear hbk4 hb4))
  go_ret2
  refine ⟨_,rfl,?_,below_set HB4.out HGS.out⟩
  rw [HXX.out]
  unfold getX
  rw [if_neg HNO.out]
  exact ⟨_,_,rfl,⟨HN.out,by have:=H64.out;omega⟩,by have:=HCC.out;simp at this;omega,Kd.F_below HF0.out (below_set HB4.out HGS.out)⟩
set_option maxHeartbeats 8000000 in
set_option maxRecDepth 100000 in
theorem get_gats_short (A:Option Addr) (c:Nat) (r:List ByteArray) (w:World) (HLD:LaidA w) (hr:Kd.C Kd.string w A (⟨#[103,97,116,115]⟩::r).length (⟨#[103,97,116,115]⟩::r)) (hcc:(⟨#[103,97,116,115]⟩::r).length≤c) (hl:r.length < 2) :
  Calls Tryz.prog 48 #[.slice A (⟨#[103,97,116,115]⟩::r).length c] w fun e w'=>∃ v,e=.returned (.tuple #[v,.int .i64 (-1)])∧AnyR w' v (.pl (.bad ⟨#[69,82,82,79,82]⟩))∧Below w.heap.size w w':=by
 have hus:=Tryz.underlying22
 have hug:=Tryz.underlying69
 have hmax:=hr.2.1
 have HL:=Aside0.mk HLD
 obtain ⟨gb,ob,hA,hcell⟩:=str_cells hr (by simp)
 have x0:=hcell 0 (by simp)
 have x1:w.cell? ⟨gb,ob,none⟩=some (.string ⟨#[103,97,116,115]⟩):=x0
 subst hA
 have hlt:gb < w.heap.size:=World.block_lt_of_cell? w _ x1
 have hne:¬ gb=w.heap.size:=by omega
 have HC:=Aside0.mk hcell
 have HMX:=Aside0.mk hmax
 clear HLD hr hcell x0
 go_enter Tryz.func48,Tryz.ntmps48
 go_wp2
 refine start_ (n:=23) (S:=fun w'=>w'.cell? ⟨gb,ob,none⟩=some (.string ⟨#[103,97,116,115]⟩)) (ds:=[22]) gb0_ (by kernel_rfl) rfl rfl x1 (fun hHeld=>?_);refine with_tabW get_tab1 get_bits1 (fun HT_ HW_=>?_)
 generalize hWd:w.drew=wd at hHeld ⊢
 refine pure_ (i:=0) (N:=some 7) (v:=?_) (a':=?_) gb1_ rfl rfl (any_of HT_.out (by kernel_rfl)) (fun _ _ _ h=>h) (Or.inl ⟨by rfl,?_⟩) ?_ ?_
 rotate_left
 ·intro w'
  go_simp
  with_reducible rfl
 rotate_left
 ·simp only [pS]
  rfl
 refine pure_ (i:=1) (N:=some 8) (v:=?_) (a':=?_) gb2_ rfl rfl (any_of HT_.out (by kernel_rfl)) (fun _ _ _ h=>h) (Or.inl ⟨by rfl,?_⟩) ?_ ?_
 rotate_left
 ·intro w'
  go_simp
  with_reducible rfl
 rotate_left
 ·simp only [pS]
  rfl
 refine take_ (i:=2) (N:=some 9) (v:=?_) (a':=?_) gb3_ rfl rfl (take_ofW HT_.out HW_.out (by kernel_rfl)) (fun _ _ _ h=>h) (Or.inl ⟨by rfl,?_⟩) hHeld ?_ ?_
 rotate_left
 ·rintro w' s0
  go_simp
  with_reducible rfl
 rotate_left
 ·simp only [pS]
  rfl
 refine pure_ (i:=3) (N:=some 10) (v:=?_) (a':=?_) gb4_ rfl rfl (any_of HT_.out (by kernel_rfl)) (fun _ _ _ h=>h) (Or.inl ⟨by rfl,?_⟩) ?_ ?_
 rotate_left
 ·intro w'
  go_simp
  with_reducible rfl
 rotate_left
 ·simp only [pS]
  rfl
 refine pure_ (i:=4) (N:=some 11) (v:=?_) (a':=?_) gb5_ rfl rfl (any_of HT_.out (by kernel_rfl)) (fun _ _ _ h=>h) (Or.inl ⟨by rfl,?_⟩) ?_ ?_
 rotate_left
 ·intro w'
  go_simp
  with_reducible rfl
 rotate_left
 ·simp only [pS]
  rfl
 refine pure_ (i:=5) (N:=some 12) (v:=?_) (a':=?_) gb6_ rfl rfl (any_of HT_.out (by kernel_rfl)) (fun _ _ _ h=>h) (Or.inl ⟨by rfl,?_⟩) ?_ ?_
 rotate_left
 ·intro w'
  go_simp
  with_reducible rfl
 rotate_left
 ·simp only [pS]
  rfl
 refine pure_ (i:=6) (N:=some 13) (v:=?_) (a':=?_) gb7_ rfl rfl (any_of HT_.out (by kernel_rfl)) (fun _ _ _ h=>h) (Or.inl ⟨by rfl,?_⟩) ?_ ?_
 rotate_left
 ·intro w'
  go_simp
  with_reducible rfl
 rotate_left
 ·simp only [pS]
  rfl
 refine take_ (i:=7) (N:=some 14) (v:=?_) (a':=?_) gb8_ rfl rfl (take_ofW HT_.out HW_.out (by kernel_rfl)) (fun _ _ _ h=>h) (Or.inl ⟨by rfl,?_⟩) hHeld ?_ ?_
 rotate_left
 ·rintro w' s0
  go_simp
  with_reducible rfl
 rotate_left
 ·simp only [pS]
  rfl
 refine pure_ (i:=8) (N:=some 15) (v:=?_) (a':=?_) gb9_ rfl rfl (any_of HT_.out (by kernel_rfl)) (fun _ _ _ h=>h) (Or.inl ⟨by rfl,?_⟩) ?_ ?_
 rotate_left
 ·intro w'
  go_simp
  with_reducible rfl
 rotate_left
 ·simp only [pS]
  rfl
 refine pure_ (i:=9) (N:=some 16) (v:=?_) (a':=?_) gb10_ rfl rfl (any_of HT_.out (by kernel_rfl)) (fun _ _ _ h=>h) (Or.inl ⟨by rfl,?_⟩) ?_ ?_
 rotate_left
 ·intro w'
  go_simp
  with_reducible rfl
 rotate_left
 ·simp only [pS]
  rfl
 refine pure_ (i:=10) (N:=some 17) (v:=?_) (a':=?_) gb11_ rfl rfl (any_of HT_.out (by kernel_rfl)) (fun _ _ _ h=>h) (Or.inl ⟨by rfl,?_⟩) ?_ ?_
 rotate_left
 ·intro w'
  go_simp
  with_reducible rfl
 rotate_left
 ·simp only [pS]
  rfl
 refine pure_ (i:=11) (N:=some 18) (v:=?_) (a':=?_) gb12_ rfl rfl (any_of HT_.out (by kernel_rfl)) (fun _ _ _ h=>h) (Or.inl ⟨by rfl,?_⟩) ?_ ?_
 rotate_left
 ·intro w'
  go_simp
  with_reducible rfl
 rotate_left
 ·simp only [pS]
  rfl
 refine take_ (i:=12) (N:=some 19) (v:=?_) (a':=?_) gb13_ rfl rfl (take_ofW HT_.out HW_.out (by kernel_rfl)) (fun _ _ _ h=>h) (Or.inl ⟨by rfl,?_⟩) hHeld ?_ ?_
 rotate_left
 ·rintro w' s0
  go_simp
  with_reducible rfl
 rotate_left
 ·simp only [pS]
  rfl
 refine pure_ (i:=13) (N:=some 20) (v:=?_) (a':=?_) gb14_ rfl rfl (any_of HT_.out (by kernel_rfl)) (fun _ _ _ h=>h) (Or.inl ⟨by rfl,?_⟩) ?_ ?_
 rotate_left
 ·intro w'
  go_simp
  with_reducible rfl
 rotate_left
 ·simp only [pS]
  rfl
 refine pure_ (i:=14) (N:=some 21) (v:=?_) (a':=?_) gb15_ rfl rfl (any_of HT_.out (by kernel_rfl)) (fun _ _ _ h=>h) (Or.inl ⟨by rfl,?_⟩) ?_ ?_
 rotate_left
 ·intro w'
  go_simp
  with_reducible rfl
 rotate_left
 ·simp only [pS]
  rfl
 refine pure_ (i:=15) (N:=some 22) (v:=?_) (a':=?_) gb16_ rfl rfl (any_of HT_.out (by kernel_rfl)) (fun _ _ _ h=>h) (Or.inl ⟨by rfl,?_⟩) ?_ ?_
 rotate_left
 ·intro w'
  go_simp
  with_reducible rfl
 rotate_left
 ·simp only [pS]
  rfl
 refine pure_ (i:=16) (N:=some 23) (v:=?_) (a':=?_) gb17_ rfl rfl (any_of HT_.out (by kernel_rfl)) (fun _ _ _ h=>h) (Or.inl ⟨by rfl,?_⟩) ?_ ?_
 rotate_left
 ·intro w'
  go_simp
  with_reducible rfl
 rotate_left
 ·simp only [pS]
  rfl
 refine take_ (i:=17) (N:=some 24) (v:=?_) (a':=?_) gb18_ rfl rfl (take_ofW HT_.out HW_.out (by kernel_rfl)) (fun _ _ _ h=>h) (Or.inl ⟨by rfl,?_⟩) hHeld ?_ ?_
 rotate_left
 ·rintro w' s0
  go_simp
  with_reducible rfl
 rotate_left
 ·simp only [pS]
  rfl
 refine pure_ (i:=18) (N:=some 25) (v:=?_) (a':=?_) gb19_ rfl rfl (any_of HT_.out (by kernel_rfl)) (fun _ _ _ h=>h) (Or.inl ⟨by rfl,?_⟩) ?_ ?_
 rotate_left
 ·intro w'
  go_simp
  with_reducible rfl
 rotate_left
 ·simp only [pS]
  rfl
 refine pure_ (i:=19) (N:=some 26) (v:=?_) (a':=?_) gb20_ rfl rfl (any_of HT_.out (by kernel_rfl)) (fun _ _ _ h=>h) (Or.inl ⟨by rfl,?_⟩) ?_ ?_
 rotate_left
 ·intro w'
  go_simp
  with_reducible rfl
 rotate_left
 ·simp only [pS]
  rfl
 refine pure_ (i:=20) (N:=some 27) (v:=?_) (a':=?_) gb21_ rfl rfl (any_of HT_.out (by kernel_rfl)) (fun _ _ _ h=>h) (Or.inl ⟨by rfl,?_⟩) ?_ ?_
 rotate_left
 ·intro w'
  go_simp
  with_reducible rfl
 rotate_left
 ·simp only [pS]
  rfl
 refine one_ (i:=21) (N:=some 4) gb22_ rfl rfl (one_of HT_.out (by kernel_rfl)) (by decide) (fun K hK=>?_)
 refine box_step ?hg (N:=4) ?hd (cs:=#[.slice none 0 0,.bool false,.bool false,.int .i64 0]) (t:=69) ?hr ?_;(case hd=>rfl);(case hg=>rfl);(case hr=>first | (go_simp;done) | (go_simp;rfl))
 intro g hg w1 hbox hb
 have hb1:Below w.heap.size w w1:=by
  rw [← hWd] at hb
  exact below_undrew hb
 have hgs:w.heap.size≤g:=by rw [hg,← hWd];exact Nat.le_refl _
 have hgb:gb≠g:=by omega
 have x2:=pw_cell_below hb1 x1
 clear hg hb
 refine hK.out _ _ x2 (fun hHeld2=>?_)
 refine last_ (i:=22) (N:=none) gb23_ rfl rfl (one_of HT_.out (by kernel_rfl)) (by decide) (fun K2 hK2=>?_)
 obtain ⟨z0,z1,z2,z3⟩:w1.cell? ⟨g,0,none⟩=some (.slice none 0 0)∧w1.cell? ⟨g,1,none⟩=some (.bool false)∧w1.cell? ⟨g,2,none⟩=some (.bool false)∧w1.cell? ⟨g,3,none⟩=some (.int .i64 0):=⟨(blk_cell hbox 0).trans rfl,(blk_cell hbox 1).trans rfl,(blk_cell hbox 2).trans rfl,(blk_cell hbox 3).trans rfl⟩
 have zf:∀ i,w1.frozen? ⟨g,i,none⟩=false:=fun i=>blk_frozen hbox i
 refine skip_ (w1:=(((w1.setCell ⟨g,0,none⟩ (.slice none 0 0)).setCell ⟨g,1,none⟩ (.bool true)).setCell ⟨g,2,none⟩ (.bool true)).setCell ⟨g,3,none⟩ (.int .i64 0)) (by rfl) rfl ?hrun ?_
 case hrun=>go_simp
 refine hK2.out _ _ (done_ (done_of HT_.out (by kernel_rfl)) ?_)
 have hbk:=blk_set (blk_set (blk_set (blk_set hbox 0 (.slice none 0 0)) 1 (.bool true)) 2 (.bool true)) 3 (.int .i64 0)
 have hb2:=below_set (below_set (below_set (below_set hb1 hgs (j:=0) (v:=.slice none 0 0)) hgs (j:=1) (v:=.bool true)) hgs (j:=2) (v:=.bool true)) hgs (j:=3) (v:=.int .i64 0)
 clear hb1 hbox hK hK2 hHeld hHeld2 z0 z1 z2 z3 zf x2
 generalize World.setCell _ ⟨g,3,none⟩ _=W2 at hbk hb2 ⊢
 replace hbk:W2.heap[g]? = some (.cells #[.slice none 0 0,.bool true,.bool true,.int .i64 0] 69 (0,0)):=hbk
 have HBK:=Aside0.mk hbk
 have HB2:=Aside0.mk hb2
 obtain ⟨z0,z1,z2,z3⟩:W2.cell? ⟨g,0,none⟩=some (.slice none 0 0)∧W2.cell? ⟨g,1,none⟩=some (.bool true)∧W2.cell? ⟨g,2,none⟩=some (.bool true)∧W2.cell? ⟨g,3,none⟩=some (.int .i64 0):=⟨(blk_cell hbk 0).trans rfl,(blk_cell hbk 1).trans rfl,(blk_cell hbk 2).trans rfl,(blk_cell hbk 3).trans rfl⟩
 have zf:∀ i,W2.frozen? ⟨g,i,none⟩=false:=fun i=>blk_frozen hbk i
 have HGB:=Aside0.mk hgb
 have HGS:=Aside0.mk hgs
 have HX1:=Aside0.mk x1
 clear hbk hb2 hgb hgs x1 hWd
 have d1:decide (((r.length + 1:Nat):Int)≤2)=true:=decide_eq_true (by omega)
 have d2:decide (r.length + 1≤2)=true:=decide_eq_true (by omega)
 have d3:decide ((r.length:Int) + 1≤2)=true:=decide_eq_true (by omega)
 clear hl
 go_wp2_with (go_at_call 47;refine (parse_bad.calls _ _ _ _ rfl).mono ?_;rintro e w3 ⟨rfl,hd⟩;have HD:=Aside0.mk hd;clear hd)
 go_ret2
 exact ⟨_,rfl,rfl,below_step (by repeat (first | exact HB2.out | apply below_drew1 | apply below_alloc | apply pw_below_drewN)) HD.out.below⟩
set_option maxHeartbeats 8000000 in
set_option maxRecDepth 100000 in
theorem get_gats_full (A:Option Addr) (c:Nat) (ks:List ByteArray) (x:ByteArray) (w:World) (HLD:LaidA w) (hr:Kd.C Kd.string w A (⟨#[103,97,116,115]⟩::x::ks).length (⟨#[103,97,116,115]⟩::x::ks)) (hcc:(⟨#[103,97,116,115]⟩::x::ks).length≤c) (hn:0 < ks.length) (k:Nat) (sg:Int×Bool) (hsg:words_Signed.f k x=some sg) :
  Calls Tryz.prog 48 #[.slice A (⟨#[103,97,116,115]⟩::x::ks).length c] w fun e w'=>∃ v,e=.returned (.tuple #[v,.int .i64 (-1)])∧AnyR w' v (getX ks true true sg)∧Below w.heap.size w w':=by
 have hus:=Tryz.underlying22
 have hug:=Tryz.underlying69
 have hmax:=hr.2.1
 have HL:=Aside0.mk HLD
 obtain ⟨gb,ob,hA,hcell⟩:=str_cells hr (by simp)
 have x0:=hcell 0 (by simp)
 have x1:w.cell? ⟨gb,ob,none⟩=some (.string ⟨#[103,97,116,115]⟩):=x0
 subst hA
 have hlt:gb < w.heap.size:=World.block_lt_of_cell? w _ x1
 have hne:¬ gb=w.heap.size:=by omega
 have HC:=Aside0.mk hcell
 have HMX:=Aside0.mk hmax
 clear HLD hr hcell x0
 obtain ⟨sv,sk⟩:=sg
 obtain ⟨X,hX⟩:∃ X,X=getX ks true true (sv,sk):=⟨_,rfl⟩
 rw [← hX]
 have HXX:=Aside0.mk hX
 clear hX
 have hF0:Kd.F Kd.string w (fun _=>True) (some ⟨gb,ob + 2,none⟩) ks.length ks:=Kd.F_mono (Kd.C_F Kd.heap_string (str_drop (xs:=⟨#[103,97,116,115]⟩::x::ks) HMX.out HC.out 2 ks.length rfl)) (fun _ _=>trivial)
 have HF0:=Aside0.mk hF0
 have HN:=Aside0.mk hn
 have HCC:=Aside0.mk hcc
 have e3:(ks.length + 2≤c)=True:=eq_true (by simp at hcc;omega)
 have e4:¬ c=2:=by simp at hcc;omega
 have e5:¬ c=0:=by simp at hcc;omega
 have d1:decide (((ks.length + 2:Nat):Int)≤2)=false:=decide_eq_false (by omega)
 have d2:decide (ks.length + 2≤2)=false:=decide_eq_false (by omega)
 have d3:decide ((ks.length:Int) + 2≤2)=false:=decide_eq_false (by omega)
 have d5:decide ((ks.length:Int) + 1 + 1≤2)=false:=decide_eq_false (by omega)
 have e1:(2≤ks.length + 2)=True:=eq_true (by omega)
 have e6:((2:Int)≤(ks.length:Int) + 2)=True:=eq_true (by omega)
 clear hF0 hn hcc
 have e7:((0:Int) < (ks.length:Int) + 1 + 1)=True:=eq_true (by omega)
 have e8:((1:Int) < (ks.length:Int) + 1 + 1)=True:=eq_true (by omega)
 have e9:((2:Int)≤(ks.length:Int) + 1 + 1)=True:=eq_true (by omega)
 have e10:(ks.length + 1 + 1≤c)=True:=eq_true (by have:=of_eq_true e3;omega)
 have x1b:w.cell? ⟨gb,ob + 1,none⟩=some (.string x):=HC.out 1 (by simp)
 have HX2:=Aside0.mk x1b
 clear x1b
 have HSG:=Aside0.mk hsg
 clear hsg
 go_enter Tryz.func48,Tryz.ntmps48
 go_wp2
 refine start_ (n:=23) (S:=fun w'=>w'.cell? ⟨gb,ob,none⟩=some (.string ⟨#[103,97,116,115]⟩)) (ds:=[22]) gb0_ (by kernel_rfl) rfl rfl x1 (fun hHeld=>?_);refine with_tabW get_tab1 get_bits1 (fun HT_ HW_=>?_)
 generalize hWd:w.drew=wd at hHeld ⊢
 refine pure_ (i:=0) (N:=some 7) (v:=?_) (a':=?_) gb1_ rfl rfl (any_of HT_.out (by kernel_rfl)) (fun _ _ _ h=>h) (Or.inl ⟨by rfl,?_⟩) ?_ ?_
 rotate_left
 ·intro w'
  go_simp
  with_reducible rfl
 rotate_left
 ·simp only [pS]
  rfl
 refine pure_ (i:=1) (N:=some 8) (v:=?_) (a':=?_) gb2_ rfl rfl (any_of HT_.out (by kernel_rfl)) (fun _ _ _ h=>h) (Or.inl ⟨by rfl,?_⟩) ?_ ?_
 rotate_left
 ·intro w'
  go_simp
  with_reducible rfl
 rotate_left
 ·simp only [pS]
  rfl
 refine take_ (i:=2) (N:=some 9) (v:=?_) (a':=?_) gb3_ rfl rfl (take_ofW HT_.out HW_.out (by kernel_rfl)) (fun _ _ _ h=>h) (Or.inl ⟨by rfl,?_⟩) hHeld ?_ ?_
 rotate_left
 ·rintro w' s0
  go_simp
  with_reducible rfl
 rotate_left
 ·simp only [pS]
  rfl
 refine pure_ (i:=3) (N:=some 10) (v:=?_) (a':=?_) gb4_ rfl rfl (any_of HT_.out (by kernel_rfl)) (fun _ _ _ h=>h) (Or.inl ⟨by rfl,?_⟩) ?_ ?_
 rotate_left
 ·intro w'
  go_simp
  with_reducible rfl
 rotate_left
 ·simp only [pS]
  rfl
 refine pure_ (i:=4) (N:=some 11) (v:=?_) (a':=?_) gb5_ rfl rfl (any_of HT_.out (by kernel_rfl)) (fun _ _ _ h=>h) (Or.inl ⟨by rfl,?_⟩) ?_ ?_
 rotate_left
 ·intro w'
  go_simp
  with_reducible rfl
 rotate_left
 ·simp only [pS]
  rfl
 refine pure_ (i:=5) (N:=some 12) (v:=?_) (a':=?_) gb6_ rfl rfl (any_of HT_.out (by kernel_rfl)) (fun _ _ _ h=>h) (Or.inl ⟨by rfl,?_⟩) ?_ ?_
 rotate_left
 ·intro w'
  go_simp
  with_reducible rfl
 rotate_left
 ·simp only [pS]
  rfl
 refine pure_ (i:=6) (N:=some 13) (v:=?_) (a':=?_) gb7_ rfl rfl (any_of HT_.out (by kernel_rfl)) (fun _ _ _ h=>h) (Or.inl ⟨by rfl,?_⟩) ?_ ?_
 rotate_left
 ·intro w'
  go_simp
  with_reducible rfl
 rotate_left
 ·simp only [pS]
  rfl
 refine take_ (i:=7) (N:=some 14) (v:=?_) (a':=?_) gb8_ rfl rfl (take_ofW HT_.out HW_.out (by kernel_rfl)) (fun _ _ _ h=>h) (Or.inl ⟨by rfl,?_⟩) hHeld ?_ ?_
 rotate_left
 ·rintro w' s0
  go_simp
  with_reducible rfl
 rotate_left
 ·simp only [pS]
  rfl
 refine pure_ (i:=8) (N:=some 15) (v:=?_) (a':=?_) gb9_ rfl rfl (any_of HT_.out (by kernel_rfl)) (fun _ _ _ h=>h) (Or.inl ⟨by rfl,?_⟩) ?_ ?_
 rotate_left
 ·intro w'
  go_simp
  with_reducible rfl
 rotate_left
 ·simp only [pS]
  rfl
 refine pure_ (i:=9) (N:=some 16) (v:=?_) (a':=?_) gb10_ rfl rfl (any_of HT_.out (by kernel_rfl)) (fun _ _ _ h=>h) (Or.inl ⟨by rfl,?_⟩) ?_ ?_
 rotate_left
 ·intro w'
  go_simp
  with_reducible rfl
 rotate_left
 ·simp only [pS]
  rfl
 refine pure_ (i:=10) (N:=some 17) (v:=?_) (a':=?_) gb11_ rfl rfl (any_of HT_.out (by kernel_rfl)) (fun _ _ _ h=>h) (Or.inl ⟨by rfl,?_⟩) ?_ ?_
 rotate_left
 ·intro w'
  go_simp
  with_reducible rfl
 rotate_left
 ·simp only [pS]
  rfl
 refine pure_ (i:=11) (N:=some 18) (v:=?_) (a':=?_) gb12_ rfl rfl (any_of HT_.out (by kernel_rfl)) (fun _ _ _ h=>h) (Or.inl ⟨by rfl,?_⟩) ?_ ?_
 rotate_left
 ·intro w'
  go_simp
  with_reducible rfl
 rotate_left
 ·simp only [pS]
  rfl
 refine take_ (i:=12) (N:=some 19) (v:=?_) (a':=?_) gb13_ rfl rfl (take_ofW HT_.out HW_.out (by kernel_rfl)) (fun _ _ _ h=>h) (Or.inl ⟨by rfl,?_⟩) hHeld ?_ ?_
 rotate_left
 ·rintro w' s0
  go_simp
  with_reducible rfl
 rotate_left
 ·simp only [pS]
  rfl
 refine pure_ (i:=13) (N:=some 20) (v:=?_) (a':=?_) gb14_ rfl rfl (any_of HT_.out (by kernel_rfl)) (fun _ _ _ h=>h) (Or.inl ⟨by rfl,?_⟩) ?_ ?_
 rotate_left
 ·intro w'
  go_simp
  with_reducible rfl
 rotate_left
 ·simp only [pS]
  rfl
 refine pure_ (i:=14) (N:=some 21) (v:=?_) (a':=?_) gb15_ rfl rfl (any_of HT_.out (by kernel_rfl)) (fun _ _ _ h=>h) (Or.inl ⟨by rfl,?_⟩) ?_ ?_
 rotate_left
 ·intro w'
  go_simp
  with_reducible rfl
 rotate_left
 ·simp only [pS]
  rfl
 refine pure_ (i:=15) (N:=some 22) (v:=?_) (a':=?_) gb16_ rfl rfl (any_of HT_.out (by kernel_rfl)) (fun _ _ _ h=>h) (Or.inl ⟨by rfl,?_⟩) ?_ ?_
 rotate_left
 ·intro w'
  go_simp
  with_reducible rfl
 rotate_left
 ·simp only [pS]
  rfl
 refine pure_ (i:=16) (N:=some 23) (v:=?_) (a':=?_) gb17_ rfl rfl (any_of HT_.out (by kernel_rfl)) (fun _ _ _ h=>h) (Or.inl ⟨by rfl,?_⟩) ?_ ?_
 rotate_left
 ·intro w'
  go_simp
  with_reducible rfl
 rotate_left
 ·simp only [pS]
  rfl
 refine take_ (i:=17) (N:=some 24) (v:=?_) (a':=?_) gb18_ rfl rfl (take_ofW HT_.out HW_.out (by kernel_rfl)) (fun _ _ _ h=>h) (Or.inl ⟨by rfl,?_⟩) hHeld ?_ ?_
 rotate_left
 ·rintro w' s0
  go_simp
  with_reducible rfl
 rotate_left
 ·simp only [pS]
  rfl
 refine pure_ (i:=18) (N:=some 25) (v:=?_) (a':=?_) gb19_ rfl rfl (any_of HT_.out (by kernel_rfl)) (fun _ _ _ h=>h) (Or.inl ⟨by rfl,?_⟩) ?_ ?_
 rotate_left
 ·intro w'
  go_simp
  with_reducible rfl
 rotate_left
 ·simp only [pS]
  rfl
 refine pure_ (i:=19) (N:=some 26) (v:=?_) (a':=?_) gb20_ rfl rfl (any_of HT_.out (by kernel_rfl)) (fun _ _ _ h=>h) (Or.inl ⟨by rfl,?_⟩) ?_ ?_
 rotate_left
 ·intro w'
  go_simp
  with_reducible rfl
 rotate_left
 ·simp only [pS]
  rfl
 refine pure_ (i:=20) (N:=some 27) (v:=?_) (a':=?_) gb21_ rfl rfl (any_of HT_.out (by kernel_rfl)) (fun _ _ _ h=>h) (Or.inl ⟨by rfl,?_⟩) ?_ ?_
 rotate_left
 ·intro w'
  go_simp
  with_reducible rfl
 rotate_left
 ·simp only [pS]
  rfl
 refine one_ (i:=21) (N:=some 4) gb22_ rfl rfl (one_of HT_.out (by kernel_rfl)) (by decide) (fun K hK=>?_)
 refine box_step ?hg (N:=4) ?hd (cs:=#[.slice none 0 0,.bool false,.bool false,.int .i64 0]) (t:=69) ?hr ?_;(case hd=>rfl);(case hg=>rfl);(case hr=>first | (go_simp;done) | (go_simp;rfl))
 intro g hg w1 hbox hb
 have hb1:Below w.heap.size w w1:=by
  rw [← hWd] at hb
  exact below_undrew hb
 have hgs:w.heap.size≤g:=by rw [hg,← hWd];exact Nat.le_refl _
 have hgb:gb≠g:=by omega
 have x2:=pw_cell_below hb1 x1
 clear hg hb
 refine hK.out _ _ x2 (fun hHeld2=>?_)
 refine last_ (i:=22) (N:=none) gb23_ rfl rfl (one_of HT_.out (by kernel_rfl)) (by decide) (fun K2 hK2=>?_)
 obtain ⟨z0,z1,z2,z3⟩:w1.cell? ⟨g,0,none⟩=some (.slice none 0 0)∧w1.cell? ⟨g,1,none⟩=some (.bool false)∧w1.cell? ⟨g,2,none⟩=some (.bool false)∧w1.cell? ⟨g,3,none⟩=some (.int .i64 0):=⟨(blk_cell hbox 0).trans rfl,(blk_cell hbox 1).trans rfl,(blk_cell hbox 2).trans rfl,(blk_cell hbox 3).trans rfl⟩
 have zf:∀ i,w1.frozen? ⟨g,i,none⟩=false:=fun i=>blk_frozen hbox i
 refine skip_ (w1:=(((w1.setCell ⟨g,0,none⟩ (.slice none 0 0)).setCell ⟨g,1,none⟩ (.bool true)).setCell ⟨g,2,none⟩ (.bool true)).setCell ⟨g,3,none⟩ (.int .i64 0)) (by rfl) rfl ?hrun ?_
 case hrun=>go_simp
 refine hK2.out _ _ (done_ (done_of HT_.out (by kernel_rfl)) ?_)
 have hbk:=blk_set (blk_set (blk_set (blk_set hbox 0 (.slice none 0 0)) 1 (.bool true)) 2 (.bool true)) 3 (.int .i64 0)
 have hb2:=below_set (below_set (below_set (below_set hb1 hgs (j:=0) (v:=.slice none 0 0)) hgs (j:=1) (v:=.bool true)) hgs (j:=2) (v:=.bool true)) hgs (j:=3) (v:=.int .i64 0)
 clear hb1 hbox hK hK2 hHeld hHeld2 z0 z1 z2 z3 zf x2
 generalize World.setCell _ ⟨g,3,none⟩ _=W2 at hbk hb2 ⊢
 replace hbk:W2.heap[g]? = some (.cells #[.slice none 0 0,.bool true,.bool true,.int .i64 0] 69 (0,0)):=hbk
 have HBK:=Aside0.mk hbk
 have HB2:=Aside0.mk hb2
 obtain ⟨z0,z1,z2,z3⟩:W2.cell? ⟨g,0,none⟩=some (.slice none 0 0)∧W2.cell? ⟨g,1,none⟩=some (.bool true)∧W2.cell? ⟨g,2,none⟩=some (.bool true)∧W2.cell? ⟨g,3,none⟩=some (.int .i64 0):=⟨(blk_cell hbk 0).trans rfl,(blk_cell hbk 1).trans rfl,(blk_cell hbk 2).trans rfl,(blk_cell hbk 3).trans rfl⟩
 have zf:∀ i,W2.frozen? ⟨g,i,none⟩=false:=fun i=>blk_frozen hbk i
 have HGB:=Aside0.mk hgb
 have HGS:=Aside0.mk hgs
 have HX1:=Aside0.mk x1
 clear hbk hb2 hgb hgs x1 hWd
 by_cases hk:ks.any (fun k=>!keyF k)=true
 ·have HK:=Aside0.mk hk
  clear hk
  go_wp2_with (first | (go_at_call 58;refine (ContainsFunc_walk _ _ ks _ (HL.out.below (below_set HB2.out HGS.out)) (Kd.F_now (Kd.F_below HF0.out (below_set HB2.out HGS.out)))).mono ?_;rintro e w3 ⟨rfl,hb3⟩;rw [HK.out];have hbk3:=blk_below (blk_set HBK.out 0 (.slice (some ⟨gb,ob + 2,none⟩) ks.length (c - 2))) hb3;replace hbk3:w3.heap[g]? = some (.cells #[.slice (some ⟨gb,ob + 2,none⟩) ks.length (c - 2),.bool true,.bool true,.int .i64 0] 69 (0,0)):=hbk3;obtain ⟨y0,y1,y2,y3⟩:w3.cell? ⟨g,0,none⟩=some (.slice (some ⟨gb,ob + 2,none⟩) ks.length (c - 2))∧w3.cell? ⟨g,1,none⟩=some (.bool true)∧w3.cell? ⟨g,2,none⟩=some (.bool true)∧w3.cell? ⟨g,3,none⟩=some (.int .i64 0):=⟨(blk_cell hbk3 0).trans rfl,(blk_cell hbk3 1).trans rfl,(blk_cell hbk3 2).trans rfl,(blk_cell hbk3 3).trans rfl⟩;have HBK3:=Aside0.mk hbk3;have HB3:=Aside0.mk (below_step (below_set HB2.out HGS.out) hb3);clear hbk3 hb3) | (go_at_call 47;refine (parse_bad.calls _ _ _ _ rfl).mono ?_;rintro e w4 ⟨rfl,hd⟩;have HD:=Aside0.mk hd;clear hd))
  go_ret2
  refine ⟨_,rfl,?_,below_step HB3.out HD.out.below⟩
  rw [HXX.out]
  unfold getX
  rw [if_pos (Or.inl HK.out)]
  exact rfl
 have HK:=Aside0.mk (by simpa using hk:ks.any (fun k=>!keyF k)=false)
 by_cases h64:64 < ks.length
 ·have H64:=Aside0.mk h64
  have f1:decide ((64:Int) < (ks.length:Int))=true:=decide_eq_true (by omega)
  have f2:decide (64 < ks.length)=true:=decide_eq_true (by omega)
  clear hk h64
  go_wp2_with (first | (go_at_call 58;refine (ContainsFunc_walk _ _ ks _ (HL.out.below (below_set HB2.out HGS.out)) (Kd.F_now (Kd.F_below HF0.out (below_set HB2.out HGS.out)))).mono ?_;rintro e w3 ⟨rfl,hb3⟩;rw [HK.out];have hbk3:=blk_below (blk_set HBK.out 0 (.slice (some ⟨gb,ob + 2,none⟩) ks.length (c - 2))) hb3;replace hbk3:w3.heap[g]? = some (.cells #[.slice (some ⟨gb,ob + 2,none⟩) ks.length (c - 2),.bool true,.bool true,.int .i64 0] 69 (0,0)):=hbk3;obtain ⟨y0,y1,y2,y3⟩:w3.cell? ⟨g,0,none⟩=some (.slice (some ⟨gb,ob + 2,none⟩) ks.length (c - 2))∧w3.cell? ⟨g,1,none⟩=some (.bool true)∧w3.cell? ⟨g,2,none⟩=some (.bool true)∧w3.cell? ⟨g,3,none⟩=some (.int .i64 0):=⟨(blk_cell hbk3 0).trans rfl,(blk_cell hbk3 1).trans rfl,(blk_cell hbk3 2).trans rfl,(blk_cell hbk3 3).trans rfl⟩;have HBK3:=Aside0.mk hbk3;have HB3:=Aside0.mk (below_step (below_set HB2.out HGS.out) hb3);clear hbk3 hb3) | (go_at_call 47;refine (parse_bad.calls _ _ _ _ rfl).mono ?_;rintro e w4 ⟨rfl,hd⟩;have HD:=Aside0.mk hd;clear hd))
  go_ret2
  refine ⟨_,rfl,?_,below_step HB3.out HD.out.below⟩
  rw [HXX.out]
  unfold getX
  rw [if_pos (Or.inr H64.out)]
  exact rfl
 have HNO:=Aside0.mk (show ¬ (ks.any (fun k=>!keyF k)=true∨64 < ks.length) from by rintro (h | h);exact hk h;exact h64 h)
 have H64:=Aside0.mk h64
 have f1:decide ((64:Int) < (ks.length:Int))=false:=decide_eq_false (by omega)
 have f2:decide (64 < ks.length)=false:=decide_eq_false (by omega)
 clear hk h64
 cases sk with
 | false=>
  go_wp2_with (first | (go_at_call 58;refine (ContainsFunc_walk _ _ ks _ (HL.out.below (below_set HB2.out HGS.out)) (Kd.F_now (Kd.F_below HF0.out (below_set HB2.out HGS.out)))).mono ?_;rintro e w3 ⟨rfl,hb3⟩;rw [HK.out];have hbk3:=blk_below (blk_set HBK.out 0 (.slice (some ⟨gb,ob + 2,none⟩) ks.length (c - 2))) hb3;replace hbk3:w3.heap[g]? = some (.cells #[.slice (some ⟨gb,ob + 2,none⟩) ks.length (c - 2),.bool true,.bool true,.int .i64 0] 69 (0,0)):=hbk3;obtain ⟨y0,y1,y2,y3⟩:w3.cell? ⟨g,0,none⟩=some (.slice (some ⟨gb,ob + 2,none⟩) ks.length (c - 2))∧w3.cell? ⟨g,1,none⟩=some (.bool true)∧w3.cell? ⟨g,2,none⟩=some (.bool true)∧w3.cell? ⟨g,3,none⟩=some (.int .i64 0):=⟨(blk_cell hbk3 0).trans rfl,(blk_cell hbk3 1).trans rfl,(blk_cell hbk3 2).trans rfl,(blk_cell hbk3 3).trans rfl⟩;have HBK3:=Aside0.mk hbk3;have HB3:=Aside0.mk (below_step (below_set HB2.out HGS.out) hb3);clear hbk3 hb3;have x5:=pw_cell_below HB3.out HX2.out) | (go_at_call 60;refine (words_Signed.calls k x _ _ _ (HL.out.below HB3.out) HSG.out).mono ?_;rintro e w4 ⟨rfl,hb4⟩;have hbk4:=blk_below HBK3.out hb4;obtain ⟨u0,u1,u2,u3⟩:w4.cell? ⟨g,0,none⟩=some (.slice (some ⟨gb,ob + 2,none⟩) ks.length (c - 2))∧w4.cell? ⟨g,1,none⟩=some (.bool true)∧w4.cell? ⟨g,2,none⟩=some (.bool true)∧w4.cell? ⟨g,3,none⟩=some (.int .i64 0):=⟨(blk_cell hbk4 0).trans rfl,(blk_cell hbk4 1).trans rfl,(blk_cell hbk4 2).trans rfl,(blk_cell hbk4 3).trans rfl⟩;have uf:∀ i,w4.frozen? ⟨g,i,none⟩=false:=fun i=>blk_frozen hbk4 i;have HB4:=Aside0.mk (below_step HB3.out hb4);clear hbk4 hb4) | (go_at_call 47;refine (parse_bad.calls _ _ _ _ rfl).mono ?_;rintro e w5 ⟨rfl,hd⟩;have HD:=Aside0.mk hd;clear hd))
  go_ret2
  refine ⟨_,rfl,?_,below_step (below_set HB4.out HGS.out) HD.out.below⟩
  rw [HXX.out]
  unfold getX
  rw [if_neg HNO.out]
  exact rfl
 | true=>
  go_wp2_with (first | (go_at_call 58;refine (ContainsFunc_walk _ _ ks _ (HL.out.below (below_set HB2.out HGS.out)) (Kd.F_now (Kd.F_below HF0.out (below_set HB2.out HGS.out)))).mono ?_;rintro e w3 ⟨rfl,hb3⟩;rw [HK.out];have hbk3:=blk_below (blk_set HBK.out 0 (.slice (some ⟨gb,ob + 2,none⟩) ks.length (c - 2))) hb3;replace hbk3:w3.heap[g]? = some (.cells #[.slice (some ⟨gb,ob + 2,none⟩) ks.length (c - 2),.bool true,.bool true,.int .i64 0] 69 (0,0)):=hbk3;obtain ⟨y0,y1,y2,y3⟩:w3.cell? ⟨g,0,none⟩=some (.slice (some ⟨gb,ob + 2,none⟩) ks.length (c - 2))∧w3.cell? ⟨g,1,none⟩=some (.bool true)∧w3.cell? ⟨g,2,none⟩=some (.bool true)∧w3.cell? ⟨g,3,none⟩=some (.int .i64 0):=⟨(blk_cell hbk3 0).trans rfl,(blk_cell hbk3 1).trans rfl,(blk_cell hbk3 2).trans rfl,(blk_cell hbk3 3).trans rfl⟩;have HBK3:=Aside0.mk hbk3;have HB3:=Aside0.mk (below_step (below_set HB2.out HGS.out) hb3);clear hbk3 hb3;have x5:=pw_cell_below HB3.out HX2.out) | (go_at_call 60;refine (words_Signed.calls k x _ _ _ (HL.out.below HB3.out) HSG.out).mono ?_;rintro e w4 ⟨rfl,hb4⟩;have hbk4:=blk_below HBK3.out hb4;obtain ⟨u0,u1,u2,u3⟩:w4.cell? ⟨g,0,none⟩=some (.slice (some ⟨gb,ob + 2,none⟩) ks.length (c - 2))∧w4.cell? ⟨g,1,none⟩=some (.bool true)∧w4.cell? ⟨g,2,none⟩=some (.bool true)∧w4.cell? ⟨g,3,none⟩=some (.int .i64 0):=⟨(blk_cell hbk4 0).trans rfl,(blk_cell hbk4 1).trans rfl,(blk_cell hbk4 2).trans rfl,(blk_cell hbk4 3).trans rfl⟩;have uf:∀ i,w4.frozen? ⟨g,i,none⟩=false:=fun i=>blk_frozen hbk4 i;have HB4:=Aside0.mk (below_step HB3.out hb4);clear hbk4 hb4))
  go_ret2
  refine ⟨_,rfl,?_,below_set HB4.out HGS.out⟩
  rw [HXX.out]
  unfold getX
  rw [if_neg HNO.out]
  exact ⟨_,_,rfl,⟨HN.out,by have:=H64.out;omega⟩,by have:=HCC.out;simp at this;omega,Kd.F_below HF0.out (below_set HB4.out HGS.out)⟩
end Go.Proofs.YtfbhlbchmenloaaGreatDoor.H
end
section
namespace Go.Proofs.YtfbhlbchmenloaaGreatDoor.H
open Go.RowKit Go.Proofs.YtfbhlbchmenloaaGreatDoorW.PrintWords Go.Proofs.YtfbhlbchmenloaaGreatDoorW.PrintLast Go.Proofs.YtfbhlbchmenloaaGreatDoorW.PrintMore
set_option linter.unusedVariables false
set_option linter.unusedSimpArgs false
def badX:Cx:=.pl (.bad ⟨#[69,82,82,79,82]⟩)
def get1 (ca:Bool) (r:List ByteArray):Cx:=if r.length < 1 then badX else getX r ca false (0,true)
def get2 (k:Nat) (ca:Bool):List ByteArray→Option Cx
  | x::y::ks=>(words_Signed.f k x).map fun sg=>getX (y::ks) ca true sg
  | _=>some badX
def isGet (w:ByteArray):Bool:=decide (w=⟨#[103,101,116]⟩) || decide (w=⟨#[103,101,116,115]⟩) || decide (w=⟨#[103,97,116]⟩) || decide (w=⟨#[103,97,116,115]⟩)
def getLine (k:Nat) (w:ByteArray) (r:List ByteArray):Option Cx:=
  if w=⟨#[103,101,116]⟩ then some (get1 false r) else if w=⟨#[103,101,116,115]⟩ then some (get1 true r) else if w=⟨#[103,97,116]⟩ then get2 k false r else if w=⟨#[103,97,116,115]⟩ then get2 k true r else none
theorem get_get_all (k:Nat) (A:Option Addr) (c:Nat) (r:List ByteArray) (x:Cx) (w:World) (HLD:LaidA w) (hr:Kd.C Kd.string w A (⟨#[103,101,116]⟩::r).length (⟨#[103,101,116]⟩::r)) (hcc:(⟨#[103,101,116]⟩::r).length≤c) (h:some (get1 false r)=some x) :
    Calls Tryz.prog 48 #[.slice A (⟨#[103,101,116]⟩::r).length c] w fun e w'=>∃ v,e=.returned (.tuple #[v,.int .i64 (-1)])∧AnyR w' v x∧Below w.heap.size w w':=by
  obtain rfl:=Option.some.inj h
  unfold get1
  split
  case isTrue hl=>exact get_get_short A c r w HLD hr hcc hl
  case isFalse hl=>exact get_get_full A c r w HLD hr hcc (by omega)
set_option maxHeartbeats 8000000 in
set_option maxRecDepth 100000 in
theorem one_get (k:Nat) (s:ByteArray) (r:List ByteArray) (x:Cx) (hs:words_Split.f k s=some (⟨#[103,101,116]⟩::r)) (h:some (get1 false r)=some x):OneIs s x (-1):=by
  intro w HLD
  have HL:=Aside0.mk HLD
  have HS:=Aside0.mk hs
  have HX:=Aside0.mk h
  have hus:=Tryz.underlying22
  have d1:(((r.length + 1:Nat):Int)==0)=false:=by simp;omega
  have d2:(((r.length:Nat):Int) + 1==0)=false:=by simp;omega
  have d3:((0:Int) < (r.length:Int) + 1)=True:=eq_true (by omega)
  have d4:(0 < r.length + 1)=True:=eq_true (by omega)
  have d5:decide ((r.length:Int) + 1=0)=false:=decide_eq_false (by omega)
  have d6:((r.length:Int) + 1=0)=False:=eq_false (by omega)
  clear HLD hs h
  go_enter Tryz.func37,Tryz.ntmps37
  go_wp2_with (first
    | (go_at_call 46;refine (words_Split.calls k s _ _ HL.out HS.out).mono ?_;rintro e w1 ⟨v0,rfl,hr1,hb1⟩;obtain ⟨A1,c1,ev,hl1,hc1⟩:=Kd.R_reads hr1;subst ev;obtain ⟨gb,ob,hA,hcell⟩:=str_cells hc1 (by simp);subst hA;have x1:w1.cell? ⟨gb,ob,none⟩=some (.string ⟨#[103,101,116]⟩):=hcell 0 (by simp);have HC1:=Aside0.mk hc1;have HL1:=Aside0.mk hl1;have HB1:=Aside0.mk hb1;clear hr1 hb1 hc1 hl1 hcell)
    | (go_at_call 48;refine (get_get_all k _ c1 r x _ (HL.out.below HB1.out) HC1.out HL1.out HX.out).mono ?_;rintro e w2 ⟨v,rfl,ha,hb2⟩;have HA:=Aside0.mk ha;have HB2:=Aside0.mk hb2;clear ha hb2))
  go_ret2
  exact ⟨_,rfl,HA.out,below_step HB1.out HB2.out⟩
theorem get_gets_all (k:Nat) (A:Option Addr) (c:Nat) (r:List ByteArray) (x:Cx) (w:World) (HLD:LaidA w) (hr:Kd.C Kd.string w A (⟨#[103,101,116,115]⟩::r).length (⟨#[103,101,116,115]⟩::r)) (hcc:(⟨#[103,101,116,115]⟩::r).length≤c) (h:some (get1 true r)=some x) :
    Calls Tryz.prog 48 #[.slice A (⟨#[103,101,116,115]⟩::r).length c] w fun e w'=>∃ v,e=.returned (.tuple #[v,.int .i64 (-1)])∧AnyR w' v x∧Below w.heap.size w w':=by
  obtain rfl:=Option.some.inj h
  unfold get1
  split
  case isTrue hl=>exact get_gets_short A c r w HLD hr hcc hl
  case isFalse hl=>exact get_gets_full A c r w HLD hr hcc (by omega)
set_option maxHeartbeats 8000000 in
set_option maxRecDepth 100000 in
theorem one_gets (k:Nat) (s:ByteArray) (r:List ByteArray) (x:Cx) (hs:words_Split.f k s=some (⟨#[103,101,116,115]⟩::r)) (h:some (get1 true r)=some x):OneIs s x (-1):=by
  intro w HLD
  have HL:=Aside0.mk HLD
  have HS:=Aside0.mk hs
  have HX:=Aside0.mk h
  have hus:=Tryz.underlying22
  have d1:(((r.length + 1:Nat):Int)==0)=false:=by simp;omega
  have d2:(((r.length:Nat):Int) + 1==0)=false:=by simp;omega
  have d3:((0:Int) < (r.length:Int) + 1)=True:=eq_true (by omega)
  have d4:(0 < r.length + 1)=True:=eq_true (by omega)
  have d5:decide ((r.length:Int) + 1=0)=false:=decide_eq_false (by omega)
  have d6:((r.length:Int) + 1=0)=False:=eq_false (by omega)
  clear HLD hs h
  go_enter Tryz.func37,Tryz.ntmps37
  go_wp2_with (first
    | (go_at_call 46;refine (words_Split.calls k s _ _ HL.out HS.out).mono ?_;rintro e w1 ⟨v0,rfl,hr1,hb1⟩;obtain ⟨A1,c1,ev,hl1,hc1⟩:=Kd.R_reads hr1;subst ev;obtain ⟨gb,ob,hA,hcell⟩:=str_cells hc1 (by simp);subst hA;have x1:w1.cell? ⟨gb,ob,none⟩=some (.string ⟨#[103,101,116,115]⟩):=hcell 0 (by simp);have HC1:=Aside0.mk hc1;have HL1:=Aside0.mk hl1;have HB1:=Aside0.mk hb1;clear hr1 hb1 hc1 hl1 hcell)
    | (go_at_call 48;refine (get_gets_all k _ c1 r x _ (HL.out.below HB1.out) HC1.out HL1.out HX.out).mono ?_;rintro e w2 ⟨v,rfl,ha,hb2⟩;have HA:=Aside0.mk ha;have HB2:=Aside0.mk hb2;clear ha hb2))
  go_ret2
  exact ⟨_,rfl,HA.out,below_step HB1.out HB2.out⟩
theorem get_gat_all (k:Nat) (A:Option Addr) (c:Nat) (r:List ByteArray) (x:Cx) (w:World) (HLD:LaidA w) (hr:Kd.C Kd.string w A (⟨#[103,97,116]⟩::r).length (⟨#[103,97,116]⟩::r)) (hcc:(⟨#[103,97,116]⟩::r).length≤c) (h:get2 k false r=some x) :
    Calls Tryz.prog 48 #[.slice A (⟨#[103,97,116]⟩::r).length c] w fun e w'=>∃ v,e=.returned (.tuple #[v,.int .i64 (-1)])∧AnyR w' v x∧Below w.heap.size w w':=by
  match r,hr,hcc,h with
  | [],hr,hcc,h=>obtain rfl:=Option.some.inj h;exact get_gat_short A c [] w HLD hr hcc (by decide)
  | [a],hr,hcc,h=>obtain rfl:=Option.some.inj h;exact get_gat_short A c [a] w HLD hr hcc (by simp)
  | a::d::ks,hr,hcc,h=>
    replace h:(words_Signed.f k a).map (fun sg=>getX (d::ks) false true sg)=some x:=h
    cases hs:words_Signed.f k a with
    | none=>rw [hs] at h;cases h
    | some sg=>
      rw [hs] at h
      obtain rfl:=Option.some.inj h
      exact get_gat_full A c (d::ks) a w HLD hr hcc (by simp) k sg hs
set_option maxHeartbeats 8000000 in
set_option maxRecDepth 100000 in
theorem one_gat (k:Nat) (s:ByteArray) (r:List ByteArray) (x:Cx) (hs:words_Split.f k s=some (⟨#[103,97,116]⟩::r)) (h:get2 k false r=some x):OneIs s x (-1):=by
  intro w HLD
  have HL:=Aside0.mk HLD
  have HS:=Aside0.mk hs
  have HX:=Aside0.mk h
  have hus:=Tryz.underlying22
  have d1:(((r.length + 1:Nat):Int)==0)=false:=by simp;omega
  have d2:(((r.length:Nat):Int) + 1==0)=false:=by simp;omega
  have d3:((0:Int) < (r.length:Int) + 1)=True:=eq_true (by omega)
  have d4:(0 < r.length + 1)=True:=eq_true (by omega)
  have d5:decide ((r.length:Int) + 1=0)=false:=decide_eq_false (by omega)
  have d6:((r.length:Int) + 1=0)=False:=eq_false (by omega)
  clear HLD hs h
  go_enter Tryz.func37,Tryz.ntmps37
  go_wp2_with (first
    | (go_at_call 46;refine (words_Split.calls k s _ _ HL.out HS.out).mono ?_;rintro e w1 ⟨v0,rfl,hr1,hb1⟩;obtain ⟨A1,c1,ev,hl1,hc1⟩:=Kd.R_reads hr1;subst ev;obtain ⟨gb,ob,hA,hcell⟩:=str_cells hc1 (by simp);subst hA;have x1:w1.cell? ⟨gb,ob,none⟩=some (.string ⟨#[103,97,116]⟩):=hcell 0 (by simp);have HC1:=Aside0.mk hc1;have HL1:=Aside0.mk hl1;have HB1:=Aside0.mk hb1;clear hr1 hb1 hc1 hl1 hcell)
    | (go_at_call 48;refine (get_gat_all k _ c1 r x _ (HL.out.below HB1.out) HC1.out HL1.out HX.out).mono ?_;rintro e w2 ⟨v,rfl,ha,hb2⟩;have HA:=Aside0.mk ha;have HB2:=Aside0.mk hb2;clear ha hb2))
  go_ret2
  exact ⟨_,rfl,HA.out,below_step HB1.out HB2.out⟩
theorem get_gats_all (k:Nat) (A:Option Addr) (c:Nat) (r:List ByteArray) (x:Cx) (w:World) (HLD:LaidA w) (hr:Kd.C Kd.string w A (⟨#[103,97,116,115]⟩::r).length (⟨#[103,97,116,115]⟩::r)) (hcc:(⟨#[103,97,116,115]⟩::r).length≤c) (h:get2 k true r=some x) :
    Calls Tryz.prog 48 #[.slice A (⟨#[103,97,116,115]⟩::r).length c] w fun e w'=>∃ v,e=.returned (.tuple #[v,.int .i64 (-1)])∧AnyR w' v x∧Below w.heap.size w w':=by
  match r,hr,hcc,h with
  | [],hr,hcc,h=>obtain rfl:=Option.some.inj h;exact get_gats_short A c [] w HLD hr hcc (by decide)
  | [a],hr,hcc,h=>obtain rfl:=Option.some.inj h;exact get_gats_short A c [a] w HLD hr hcc (by simp)
  | a::d::ks,hr,hcc,h=>
    replace h:(words_Signed.f k a).map (fun sg=>getX (d::ks) true true sg)=some x:=h
    cases hs:words_Signed.f k a with
    | none=>rw [hs] at h;cases h
    | some sg=>
      rw [hs] at h
      obtain rfl:=Option.some.inj h
      exact get_gats_full A c (d::ks) a w HLD hr hcc (by simp) k sg hs
set_option maxHeartbeats 8000000 in
set_option maxRecDepth 100000 in
theorem one_gats (k:Nat) (s:ByteArray) (r:List ByteArray) (x:Cx) (hs:words_Split.f k s=some (⟨#[103,97,116,115]⟩::r)) (h:get2 k true r=some x):OneIs s x (-1):=by
  intro w HLD
  have HL:=Aside0.mk HLD
  have HS:=Aside0.mk hs
  have HX:=Aside0.mk h
  have hus:=Tryz.underlying22
  have d1:(((r.length + 1:Nat):Int)==0)=false:=by simp;omega
  have d2:(((r.length:Nat):Int) + 1==0)=false:=by simp;omega
  have d3:((0:Int) < (r.length:Int) + 1)=True:=eq_true (by omega)
  have d4:(0 < r.length + 1)=True:=eq_true (by omega)
  have d5:decide ((r.length:Int) + 1=0)=false:=decide_eq_false (by omega)
  have d6:((r.length:Int) + 1=0)=False:=eq_false (by omega)
  clear HLD hs h
  go_enter Tryz.func37,Tryz.ntmps37
  go_wp2_with (first
    | (go_at_call 46;refine (words_Split.calls k s _ _ HL.out HS.out).mono ?_;rintro e w1 ⟨v0,rfl,hr1,hb1⟩;obtain ⟨A1,c1,ev,hl1,hc1⟩:=Kd.R_reads hr1;subst ev;obtain ⟨gb,ob,hA,hcell⟩:=str_cells hc1 (by simp);subst hA;have x1:w1.cell? ⟨gb,ob,none⟩=some (.string ⟨#[103,97,116,115]⟩):=hcell 0 (by simp);have HC1:=Aside0.mk hc1;have HL1:=Aside0.mk hl1;have HB1:=Aside0.mk hb1;clear hr1 hb1 hc1 hl1 hcell)
    | (go_at_call 48;refine (get_gats_all k _ c1 r x _ (HL.out.below HB1.out) HC1.out HL1.out HX.out).mono ?_;rintro e w2 ⟨v,rfl,ha,hb2⟩;have HA:=Aside0.mk ha;have HB2:=Aside0.mk hb2;clear ha hb2))
  go_ret2
  exact ⟨_,rfl,HA.out,below_step HB1.out HB2.out⟩
/-- What parse.one tells of a line, a Get's as well. -/
def oneF (k:Nat) (s:ByteArray):Option (Cx×Int):=(words_Split.f k s).bind fun t=>match t with
  | []=>(parse_one.f k s).map fun p=>(.pl p.1,p.2)
  | w::r=>if isGet w=true then (getLine k w r).map fun x=>(x,-1) else (parse_one.f k s).map fun p=>(.pl p.1,p.2)
theorem one_plain (k:Nat) (s:ByteArray) (x:Cx) (n:Int) (h:(parse_one.f k s).map (fun p=>(Cx.pl p.1,p.2))=some (x,n)):OneIs s x n:=by
  cases hf:parse_one.f k s with
  | none=>rw [hf] at h;cases h
  | some p=>
    rw [hf] at h
    obtain ⟨c,m⟩:=p
    simp only [Option.map_some,Option.some.injEq,Prod.mk.injEq] at h
    obtain ⟨rfl,rfl⟩:=h
    intro w HLD
    refine (parse_one.calls k s c m w HLD hf).mono ?_
    rintro e w' ⟨rfl,hb⟩
    exact ⟨_,rfl,rfl,hb⟩
theorem one_all (k:Nat) (s:ByteArray) (x:Cx) (n:Int) (h:oneF k s=some (x,n)):OneIs s x n:=by
  unfold oneF at h
  cases hf:words_Split.f k s with
  | none=>rw [hf] at h;cases h
  | some t=>
    rw [hf,Option.bind_some] at h
    match t,hf,h with
    | [],_,h=>exact one_plain k s x n h
    | w::r,hf,h=>
      by_cases hg:isGet w=true
      · simp only [hg,if_true] at h
        cases hx:getLine k w r with
        | none=>rw [hx] at h;cases h
        | some y=>
          rw [hx] at h
          simp only [Option.map_some,Option.some.injEq,Prod.mk.injEq] at h
          obtain ⟨rfl,rfl⟩:=h
          unfold getLine at hx
          by_cases h1:w=⟨#[103,101,116]⟩
          · subst h1
            exact one_get k s r y hf (by simpa using hx)
          rw [if_neg h1] at hx
          by_cases h2:w=⟨#[103,101,116,115]⟩
          · subst h2
            exact one_gets k s r y hf (by simpa using hx)
          rw [if_neg h2] at hx
          by_cases h3:w=⟨#[103,97,116]⟩
          · subst h3
            exact one_gat k s r y hf (by simpa using hx)
          rw [if_neg h3] at hx
          by_cases h4:w=⟨#[103,97,116,115]⟩
          · subst h4
            exact one_gats k s r y hf (by simpa using hx)
          rw [if_neg h4] at hx
          cases hx
      · simp only [hg] at h
        exact one_plain k s x n (by simpa using h)
end Go.Proofs.YtfbhlbchmenloaaGreatDoor.H
end
section
namespace Go.Proofs.YtfbhlbchmenloaaGreatDoor.H
open Go.RowKit Go.Proofs.YtfbhlbchmenloaaGreatDoorW.PrintWords Go.Proofs.YtfbhlbchmenloaaGreatDoorW.PrintLast Go.Proofs.YtfbhlbchmenloaaGreatDoorW.PrintMore
set_option linter.unusedVariables false
set_option linter.unusedSimpArgs false
/-- A command's twelve fields. -/
abbrev C12:Type:=ByteArray×ByteArray×List ByteArray×ByteArray×Int×Int×Int×Int×Bool×Bool×Bool×Bool
abbrev C12P:Type:=ByteArray×ByteArray×List ByteArray×ByteArray×Int×Int×Int×Int×Bool×Bool×Bool×Bool×Bool×PS
abbrev C12N:Type:=ByteArray×ByteArray×List ByteArray×ByteArray×Int×Int×Int×Int×Bool×Bool×Bool×Bool×Int
def outN (d:Cd) (n:Int):C12N:=(d.what,d.verb,d.keys,d.data,d.flags,d.exp,d.cas,d.by_,d.withCas,d.withTouch,d.down,d.quiet,n)
def outP (d:Cd) (ok:Bool) (ps:PS):C12P:=(d.what,d.verb,d.keys,d.data,d.flags,d.exp,d.cas,d.by_,d.withCas,d.withTouch,d.down,d.quiet,ok,ps)
def parse_One.f (k:Nat) (s:ByteArray):Option C12N:=(oneF k s).bind fun p=>some (outN (toX p.1) p.2)
def needsLine (ps:PS):Bool:=!decide (idx10 (psPass ps).2.b < 0)&&!decide (2048 < (lineL (psPass ps).2).length)
def parse_Next.f (k:Nat) (ps:PS):Option C12P:=
  (if needsLine ps=true then oneF k (strOfNums (lineL (psPass ps).2)) else some (.pl .nil,-1)).bind fun p=>(psNext ps p.1 p.2).bind fun q=>some (outP (toX q.1) q.2.1 q.2.2)
def parse_New.f:Option PS:=some psNew
def parse_Feed.f (ps:PS) (l:List Int):Option PS:=if ps.b.length + l.length≤140737488355328 then some (psFeed ps l) else none
def parse_Waits.f (ps:PS):Option (Int×PS):=some ((ps.b.length:Int),ps)
theorem getLine_mono (k:Nat) (w:ByteArray) (r:List ByteArray):LeO (getLine k w r) (getLine (k + 1) w r):=by
  unfold getLine
  have h2:∀ ca,LeO (get2 k ca r) (get2 (k + 1) ca r):=by
    intro ca
    match r with
    | []=>exact LeO.refl _
    | [a]=>exact LeO.refl _
    | a::b::ks=>
      intro x hx
      replace hx:(words_Signed.f k a).map (fun sg=>getX (b::ks) ca true sg)=some x:=hx
      show (words_Signed.f (k + 1) a).map (fun sg=>getX (b::ks) ca true sg)=some x
      cases hs:words_Signed.f k a with
      | none=>rw [hs] at hx;cases hx
      | some sg=>
        rw [hs] at hx
        rw [words_Signed.mono a k sg hs]
        exact hx
  repeat' first
    | exact LeO.refl _
    | exact h2 _
    | refine LeO.ite ?_ ?_
theorem map_mono {α β:Type} {x y:Option α} (f:α→β) (h:LeO x y):LeO (x.map f) (y.map f):=by
  intro r hr
  cases hx:x with
  | none=>rw [hx] at hr;cases hr
  | some a=>rw [hx] at hr;rw [h a hx];exact hr
theorem oneF_mono (k:Nat) (s:ByteArray):LeO (oneF k s) (oneF (k + 1) s):=by
  unfold oneF
  refine LeO.bind (words_Split.mono s k) (fun t=>?_)
  match t with
  | []=>exact map_mono _ (parse_one.mono s k)
  | w::r=>
    refine LeO.ite (map_mono _ (getLine_mono k w r)) (map_mono _ (parse_one.mono s k))
theorem parse_Next.mono (ps:PS) (k:Nat):LeO (parse_Next.f k ps) (parse_Next.f (k + 1) ps):=by
  unfold parse_Next.f
  refine LeO.bind (LeO.ite (oneF_mono k _) (LeO.refl _)) (fun _=>LeO.refl _)
theorem parse_One.mono (s:ByteArray) (k:Nat):LeO (parse_One.f k s) (parse_One.f (k + 1) s):=by
  unfold parse_One.f
  exact LeO.bind (oneF_mono k s) (fun _=>LeO.refl _)
theorem oneF_plain {k:Nat} {s:ByteArray} {x:Cx} {n:Int} (h:oneF k s=some (x,n)):n≠-1→∃ c,x=.pl c:=by
  intro hn
  have hp:∀ z:Option (Cm×Int),z.map (fun p=>(Cx.pl p.1,p.2))=some (x,n)→∃ c,x=.pl c:=by
    intro z hz
    cases z with
    | none=>cases hz
    | some p=>
      simp only [Option.map_some,Option.some.injEq,Prod.mk.injEq] at hz
      exact ⟨_,hz.1.symm⟩
  unfold oneF at h
  cases hf:words_Split.f k s with
  | none=>rw [hf] at h;cases h
  | some t=>
    rw [hf,Option.bind_some] at h
    match t,h with
    | [],h=>exact hp _ h
    | w::r,h=>
      by_cases hg:isGet w=true
      · simp only [hg,if_true] at h
        cases hx:getLine k w r with
        | none=>rw [hx] at h;cases h
        | some y=>
          rw [hx] at h
          simp only [Option.map_some,Option.some.injEq,Prod.mk.injEq] at h
          exact absurd h.2.symm hn
      · simp only [hg] at h
        exact hp _ (by simpa using h)
set_option maxHeartbeats 4000000 in
set_option maxRecDepth 100000 in
theorem parse_One.calls (k:Nat) (s:ByteArray) (r1 r2:ByteArray) (r3:List ByteArray) (r4:ByteArray) (r5 r6 r7 r8:Int) (r9 r10 r11 r12:Bool) (n:Int) (w:World) (HLD:LaidA w) (h:parse_One.f k s=some (r1,r2,r3,r4,r5,r6,r7,r8,r9,r10,r11,r12,n)) :
    Calls Tryz.prog 22 #[.string s] w fun e w'=>∃ v0_:Value,e=.returned (.tuple #[.agg #[.string r1,.string r2,v0_,.string r4,.int .u32 r5,.int .i64 r6,.int .u64 r7,.int .u64 r8,.bool r9,.bool r10,.bool r11,.bool r12],.int .i64 n])∧Kd.R Kd.string 9 w' w.heap.size (fun _=>True) v0_ r3∧Below w.heap.size w w':=by
  unfold parse_One.f at h
  cases ho:oneF k s with
  | none=>rw [ho] at h;cases h
  | some p=>
    obtain ⟨x,m⟩:=p
    rw [ho,Option.bind_some] at h
    have h:=Option.some.inj h
    simp only [outN,Prod.mk.injEq] at h
    obtain ⟨rfl,rfl,rfl,rfl,rfl,rfl,rfl,rfl,rfl,rfl,rfl,rfl,rfl⟩:=h
    have HONE:=Aside0.mk (one_all k s x m ho)
    have HL:=Aside0.mk HLD
    clear HLD ho
    have hu:=Tryz.underlying29
    go_enter Tryz.func22,Tryz.ntmps22
    go_wp2_with (first
      | (go_at_call 37;refine (HONE.out _ (by repeat (first | exact HL.out | apply LaidA.alloc | apply LaidA.drew))).mono ?_;rintro e w1 ⟨v,rfl,ha,hb1⟩;have hbr1:=blk_below (heap_alloc_new w _) hb1;have HA:=Aside0.mk ha;have HB1:=Aside0.mk (below_step (below_alloc (Below.refl _ _) _) hb1);have HBR1:=Aside0.mk hbr1;clear ha hb1 hbr1)
      | (go_at_call 29;refine (To_any HA.out).mono ?_;rintro e w2 ⟨v2,rfl,hr2,hb2⟩;obtain ⟨Av,cv,ev⟩:=Kd.R_slice hr2;subst ev;unfold cdV;have hbr2:=blk_below HBR1.out hb2;obtain ⟨⟨y0,y1,y2,y3,y4,y5,y6,y7,y8,y9,y10,y11⟩,yf⟩:=cmdCells hbr2;have HR2:=Aside0.mk hr2;have HB2:=Aside0.mk hb2;have HBR2:=Aside0.mk hbr2;clear hr2 hb2 hbr2))
    have hbr:=HBR2.out
    refine bodyPost_ret (results_ct rfl _ _ w.heap.size 29 #[.string (toX x).what,.string (toX x).verb,.slice Av (toX x).keys.length cv,.string (toX x).data,.int .u32 (toX x).flags,.int .i64 (toX x).exp,.int .u64 (toX x).cas,.int .u64 (toX x).by_,.bool (toX x).withCas,.bool (toX x).withTouch,.bool (toX x).down,.bool (toX x).quiet] (0,0) _ rfl (put12 hbr) Tryz.underlying29 rfl (by kernel_rfl)) rfl ?_
    refine ⟨.slice Av (toX x).keys.length cv,rfl,?_,below12 (below_step HB1.out HB2.out) (Nat.le_refl _) _ _ _ _ _ _ _ _ _ _ _ _⟩
    have hR:=Kd.R_types (Kd.R_lower HR2.out HB1.out.size) hbr (by decide)
    exact Kd.R_mono (Kd.R_step hR (fun k hk _=>far12 _ _ _ _ _ _ _ _ _ _ _ _ k hk.2)) (fun _ _=>trivial)
set_option maxHeartbeats 4000000 in
set_option maxRecDepth 100000 in
theorem Waits_walk (g:Nat) (ps:PS) (w0 W:World) (hI:IsS55 w0 W g ps) (hB:Below w0.heap.size w0 W) :
    Calls Tryz.prog 15 #[.pointer (some ⟨g,0,none⟩)] W fun e w'=>e=.returned (.int .i64 (ps.b.length:Int))∧w'=W:=by
  obtain ⟨hg,vb,hb,hq⟩:=hI
  have hu:=Tryz.underlying55
  obtain ⟨A0,c0,rfl,hnc⟩:=q_slice hq
  have hc0:W.cell? ⟨g,0,none⟩=some (.slice A0 ps.b.length c0):=(blk_cell hb 0).trans rfl
  clear hb hq hB
  go_enter Tryz.func15,Tryz.ntmps15
  go_wp2
  go_ret
  exact ⟨rfl,rfl⟩
theorem parse_Waits.calls (g:Nat) (ps:PS) (n:Int) (ps':PS) (w0 W:World) (hI:IsS55 w0 W g ps) (hB:Below w0.heap.size w0 W) (HLD:LaidA W) (h:parse_Waits.f ps=some (n,ps')) :
    Calls Tryz.prog 15 #[.pointer (some ⟨g,0,none⟩)] W fun e w'=>e=.returned (.int .i64 n)∧IsS55 w0 w' g ps'∧Below w0.heap.size w0 w'∧KeepBut W w' g none:=by
  simp only [parse_Waits.f,Option.some.injEq,Prod.mk.injEq] at h
  obtain ⟨rfl,rfl⟩:=h
  refine (Waits_walk g ps w0 W hI hB).mono ?_
  rintro e w' ⟨rfl,rfl⟩
  exact ⟨rfl,hI,hB,⟨Nat.le_refl _,fun _ _ _ _=>rfl⟩⟩
theorem parse_New.calls (t:PS) (w0 W:World) (hB:Below w0.heap.size w0 W) (HLD:LaidA W) (h:parse_New.f=some t) :
    Calls Tryz.prog 12 #[] W fun e w'=>∃ g,e=.returned (.pointer (some ⟨g,0,none⟩))∧IsS55 w0 w' g t∧Below w0.heap.size w0 w'∧Below W.heap.size W w':=by
  obtain rfl:=Option.some.inj h
  exact New_walk w0 W hB
theorem parse_Feed.calls (g:Nat) (ps:PS) (A:Option Addr) (c:Nat) (l:List Int) (ps':PS) (w0 W:World) (hI:IsS55 w0 W g ps) (hB:Below w0.heap.size w0 W) (HLD:LaidA W) (hr:Kd.C (Kd.int .u8) W A l.length l) (hc:l.length≤c) (h:parse_Feed.f ps l=some ps') :
    Calls Tryz.prog 13 #[.pointer (some ⟨g,0,none⟩),.slice A l.length c] W fun e w'=>e=.returned (.tuple #[])∧IsS55 w0 w' g ps'∧Below w0.heap.size w0 w'∧KeepRow W w' g:=by
  unfold parse_Feed.f at h
  split at h
  case isFalse=>cases h
  case isTrue hl=>
    obtain rfl:=Option.some.inj h
    exact Feed_walk g ps A c l w0 W hI hB hr hc hl
theorem parse_Next.calls (k:Nat) (g:Nat) (ps:PS) (r1 r2:ByteArray) (r3:List ByteArray) (r4:ByteArray) (r5 r6 r7 r8:Int) (r9 r10 r11 r12:Bool) (ok:Bool) (ps':PS) (w0 W:World) (hI:IsS55 w0 W g ps) (hB:Below w0.heap.size w0 W) (HLD:LaidA W)
    (h:parse_Next.f k ps=some (r1,r2,r3,r4,r5,r6,r7,r8,r9,r10,r11,r12,ok,ps')) :
    Calls Tryz.prog 14 #[.pointer (some ⟨g,0,none⟩)] W fun e w'=>∃ v,e=.returned (.tuple #[.agg #[.string r1,.string r2,v,.string r4,.int .u32 r5,.int .i64 r6,.int .u64 r7,.int .u64 r8,.bool r9,.bool r10,.bool r11,.bool r12],.bool ok])∧Kd.R Kd.string 9 w' W.heap.size (fun _=>True) v r3∧IsS55 w0 w' g ps'∧Below w0.heap.size w0 w'∧KeepBut W w' g none:=by
  unfold parse_Next.f at h
  cases hp:(if needsLine ps=true then oneF k (strOfNums (lineL (psPass ps).2)) else some (.pl .nil,-1)) with
  | none=>rw [hp] at h;cases h
  | some p=>
    rw [hp,Option.bind_some] at h
    obtain ⟨x,n⟩:=p
    cases hq:psNext ps x n with
    | none=>rw [hq] at h;cases h
    | some q=>
      rw [hq,Option.bind_some] at h
      obtain ⟨y,b,ps2⟩:=q
      have h:=Option.some.inj h
      simp only [outP,Prod.mk.injEq] at h
      obtain ⟨rfl,rfl,rfl,rfl,rfl,rfl,rfl,rfl,rfl,rfl,rfl,rfl,rfl,rfl⟩:=h
      by_cases hl:needsLine ps=true
      · rw [if_pos hl] at hp
        exact Next_walk g ps x n y b ps2 w0 W HLD hI hB (fun _ _=>one_all k _ x n hp) (oneF_plain hp) hq
      · rw [if_neg hl] at hp
        have hp:=Option.some.inj hp
        simp only [Prod.mk.injEq] at hp
        obtain ⟨rfl,rfl⟩:=hp
        refine Next_walk g ps (.pl .nil) (-1) y b ps2 w0 W HLD hI hB (fun h1 h2=>?_) (fun h=>absurd rfl h) hq
        exact absurd (by unfold needsLine;simp [h1,h2]) hl
end Go.Proofs.YtfbhlbchmenloaaGreatDoor.H
end
section
namespace Go.Proofs.YtfbhlbchmenloaaGreatDoor.H
open Go.RowKit Go.Proofs.YtfbhlbchmenloaaGreatDoorW.PrintWords Go.Proofs.YtfbhlbchmenloaaGreatDoorW.PrintLast Go.Proofs.YtfbhlbchmenloaaGreatDoorW.PrintMore
set_option linter.unusedVariables false
theorem TypedAt.set {W:World} {k t:Nat} {p:Addr} {u:Value} (h:TypedAt W k t):TypedAt (W.setCell p u) k t:=by
  obtain ⟨cs,fr,h⟩:=h
  by_cases hk:k=p.block
  · subst hk
    by_cases hs:p.spot.isSome=true
    · exact ⟨cs,fr,by simp [World.setCell,Array.getElem?_modify,h,hs]⟩
    · exact ⟨cs.setIfInBounds p.off u,fr,by simp [World.setCell,Array.getElem?_modify,h,hs]⟩
  · exact ⟨cs,fr,(Below.heap_setCell W p u k hk).trans h⟩
end Go.Proofs.YtfbhlbchmenloaaGreatDoor.H
end
section
namespace Go.Proofs.YtfbhlbchmenloaaGreatDoor.H
open Go.RowKit Go.Sort Go.Proofs.YtfbhlbchmenloaaGreatDoorW.PrintWords Go.Proofs.YtfbhlbchmenloaaGreatDoorW.PrintLast Go.Proofs.YtfbhlbchmenloaaGreatDoorW.PrintMore
set_option linter.unusedVariables false

/-! A conversion's row. -/
def convB.f (s:ByteArray):Option (List Int):=if s.size≤9223372036854775807 then some (bytesOf s) else none
theorem bytesWorld_Below (W:World) (e:TypeId) (s:ByteArray):Below W.heap.size W (Lib.bytesWorld W e s):=
  ⟨rfl,rfl,rfl,by rw [Lib.bytesWorld_size];omega,fun i hi=>Lib.bytesWorld_at_old W e s i hi⟩
theorem conv_event {P:Program} {ops:Array Oper} {o:Oper} {rest:List Oper} {a:Act} {Q:Exit→Act→World→Prop} {W:World} (hgd:o.guard=none) {N:Tmp} (hd:o.dst=some N) {x:Operand} (ts td e:TypeId)
    (ho:o.op=.convert ts td x) (hs:P.underlying ts=some .string) (ht:P.underlying td=some (.slice e)) (he:P.underlying e=some (.int .u8)) (s:ByteArray) (r:List Int) (hx:a.eval x=.string s) (h0:convB.f s=some r)
    (h:∀ v1 w1,Kd.V (Kd.int .u8) e w1 W.heap.size (fun k_=>W.heap.size≤k_) v1 r→Below W.heap.size W w1→wpList P ops Q rest (a.put o.dst v1) w1):wpList P ops Q (o::rest) a W:=by
  unfold convB.f at h0
  by_cases hc:s.size≤9223372036854775807
  · rw [if_pos hc] at h0
    obtain rfl:=Option.some.inj h0
    have hlen:(bytesOf s).length=s.size:=bytesOf_length s
    refine Kd.event_run hgd (v:=.slice (some ⟨W.heap.size,0,none⟩) (bytesOf s).length (grownCap W s.size 0 e)) (w1:=Lib.bytesWorld W e s) ?_ (h _ _ (Kd.V_mk (by rw [hlen];exact grownCap_ge _ _ _ _) ?_) (bytesWorld_Below W e s))
    · rw [hlen]
      simp [execOp,ho,hx,Lib.run_convert_string_bytes W ts td e s hs ht he]
    · intro W' hW
      have hb:=hW W.heap.size (Nat.le_refl _) (by rw [Lib.bytesWorld_size];omega)
      refine ⟨rfl,by rw [hlen];exact hc,fun _=>⟨_,rfl,fun j p hj=>⟨[.int .u8 p],rfl,rfl,fun i u hu=>?_⟩⟩⟩
      have hi:i=0:=by
        cases i with
        | zero=>rfl
        | succ n=>simp at hu
      subst hi
      obtain rfl:Value.int .u8 p=u:=by simpa using hu
      have hjs:j < s.size:=by
        have:=(List.getElem?_eq_some_iff.1 hj).1
        rwa [hlen] at this
      have hc2:W'.cell? ⟨W.heap.size,j,none⟩=(Lib.bytesWorld W e s).cell? ⟨W.heap.size,j,none⟩:=World.cell?_of_block hb
      have ha:(⟨W.heap.size,0,none⟩:Addr).add (j * 1 + 0)=⟨W.heap.size,j,none⟩:=by unfold Addr.add;split<;>simp_all
      show W'.cell? ((⟨W.heap.size,0,none⟩:Addr).add (j * 1 + 0))=_
      rw [ha,hc2,Lib.bytesWorld_cell W e s j hjs]
      have hp:p=((s.data.toList.getD j 0).toNat:Int):=by
        have hj2:=hj
        unfold bytesOf at hj2
        rw [List.getElem?_map] at hj2
        have hl:j < s.data.toList.length:=by rw [data_length];exact hjs
        rw [List.getElem?_eq_getElem hl] at hj2
        rw [List.getD_eq_getElem?_getD,List.getElem?_eq_getElem hl]
        exact (Option.some.inj hj2).symm
      rw [hp]
  · rw [if_neg hc] at h0
    cases h0

/-! A constant's row: a literal, then the conversion to its own type, which marks the row. -/
def litB.f (l:List Int):Option (List Int):=if l.length≤9223372036854775807 then some l else none
def markW (W:World) (e:TypeId) (cells:Array Value):World:=(W.alloc (.cells cells e)).freeze ⟨W.heap.size,cells.size,none⟩ 1
theorem run_convert_mark {P:Program} (W:World) (t e:TypeId) (cells:Array Value) (n c:Nat) (ht:P.underlying t=some (.slice e)) (he:P.underlying e=some (.int .u8)) :
    (convert t t (.slice (some ⟨W.heap.size,0,none⟩) n c)).run P (W.alloc (.cells cells e))=.ok (.slice (some ⟨W.heap.size,0,none⟩) n c) (markW W e cells):=by
  have hsh:(W.alloc (.cells cells e)).shape? W.heap.size=some (e,cells.size):=by
    simp [World.shape?,World.alloc,-World.alloc_eq]
  simp [convert,run_underlying ht,run_underlying he,markStringish,hsh,markW,Result.andThen]
theorem markW_at_old (w:World) (e:TypeId) (cells:Array Value) (j:Nat) (hj:j < w.heap.size):(markW w e cells).heap[j]? = w.heap[j]?:=by
  have h1:w.heap.size≠j:=by omega
  simp [markW,World.freeze,World.alloc,-World.alloc_eq,Array.getElem?_modify,Array.getElem?_push,h1,Ne.symm h1]
theorem markW_at_new (w:World) (e:TypeId) (cells:Array Value):(markW w e cells).heap[w.heap.size]? = some (.cells cells e (cells.size,cells.size + 1)):=by
  simp [markW,World.freeze,World.alloc,-World.alloc_eq]
  rw [Array.getElem_modify_self]
  simp
theorem markW_size (w:World) (e:TypeId) (cells:Array Value):(markW w e cells).heap.size=w.heap.size + 1:=by
  simp [markW,World.freeze,World.alloc,-World.alloc_eq]
theorem lit_event {P:Program} {ops:Array Oper} {o1 o2:Oper} {rest:List Oper} {a:Act} {Q:Exit→Act→World→Prop} {W:World} (hg1:o1.guard=none) (hg2:o2.guard=none) {N:Tmp} (hd:o1.dst=some N) (t e:TypeId) (l r:List Int)
    (ho2:o2.op=.convert t t (.tmp N)) (ht:P.underlying t=some (.slice e)) (he:P.underlying e=some (.int .u8)) (h0:litB.f l=some r)
    (hr:(execOp a.eval o1).run P W=.ok (.value (.slice (some ⟨W.heap.size,0,none⟩) l.length l.length)) (W.alloc (.cells (l.map fun z=>Value.int .u8 z).toArray e)))
    (hp:∀ v,(a.put o1.dst v).eval (.tmp N)=v)
    (h:∀ v1 w1,Kd.V (Kd.int .u8) e w1 W.heap.size (fun k_=>W.heap.size≤k_) v1 r→Below W.heap.size W w1→wpList P ops Q rest ((a.put o1.dst v1).put o2.dst v1) w1):wpList P ops Q (o1::o2::rest) a W:=by
  obtain ⟨hl,rfl⟩:l.length≤9223372036854775807∧l=r:=by
    unfold litB.f at h0
    by_cases hc:l.length≤9223372036854775807
    · rw [if_pos hc] at h0
      exact ⟨hc,Option.some.inj h0⟩
    · rw [if_neg hc] at h0;cases h0
  refine Kd.event_run hg1 hr ?_
  refine Kd.event_run hg2 (v:=.slice (some ⟨W.heap.size,0,none⟩) l.length l.length) (w1:=markW W e (l.map fun z=>Value.int .u8 z).toArray) ?_ (h _ _ (Kd.V_mk (Nat.le_refl _) ?_) ?_)
  · simp [execOp,ho2,hp,run_convert_mark W t e _ _ _ ht he]
  · intro W' hW
    have hb:=hW W.heap.size (Nat.le_refl _) (by rw [markW_size];omega)
    refine ⟨rfl,hl,fun _=>⟨_,rfl,fun j p hj=>⟨[.int .u8 p],rfl,rfl,fun i u hu=>?_⟩⟩⟩
    have hi:i=0:=by
      cases i with
      | zero=>rfl
      | succ n=>simp at hu
    subst hi
    obtain rfl:Value.int .u8 p=u:=by simpa using hu
    have ha:(⟨W.heap.size,0,none⟩:Addr).add (j * 1 + 0)=⟨W.heap.size,j,none⟩:=by unfold Addr.add;split<;>simp_all
    show W'.cell? ((⟨W.heap.size,0,none⟩:Addr).add (j * 1 + 0))=_
    rw [ha,World.cell?_of_block (w:=markW W e (l.map fun z=>Value.int .u8 z).toArray) (a:=⟨W.heap.size,j,none⟩) hb,cell_of_row _ W.heap.size j _ e _ (markW_at_new W e _)]
    simp [hj]
  · exact ⟨rfl,rfl,rfl,by rw [markW_size];omega,fun i hi=>markW_at_old W e _ i hi⟩

/-! Behind the twelve stores of a command. -/
theorem R_far12 {α:Type} {d:Kd α} {e base:Nat} {ok:Nat→Prop} {W:World} {v:Value} {xs:List α} (g:Nat) (h:Kd.R d e W base (fun k=>ok k∧k≠g) v xs) (v0 v1 v2 v3 v4 v5 v6 v7 v8 v9 v10 v11:Value) :
    Kd.R d e ((((((((((((W.setCell ⟨g,0,none⟩ v0).setCell ⟨g,1,none⟩ v1).setCell ⟨g,2,none⟩ v2).setCell ⟨g,3,none⟩ v3).setCell ⟨g,4,none⟩ v4).setCell ⟨g,5,none⟩ v5).setCell ⟨g,6,none⟩ v6).setCell ⟨g,7,none⟩ v7).setCell ⟨g,8,none⟩ v8).setCell ⟨g,9,none⟩ v9).setCell ⟨g,10,none⟩ v10).setCell ⟨g,11,none⟩ v11) base (fun k=>ok k∧k≠g) v xs:=
  Kd.R_far (p:=⟨g,11,none⟩) (Kd.R_far (p:=⟨g,10,none⟩) (Kd.R_far (p:=⟨g,9,none⟩) (Kd.R_far (p:=⟨g,8,none⟩) (Kd.R_far (p:=⟨g,7,none⟩) (Kd.R_far (p:=⟨g,6,none⟩) (Kd.R_far (p:=⟨g,5,none⟩) (Kd.R_far (p:=⟨g,4,none⟩) (Kd.R_far (p:=⟨g,3,none⟩) (Kd.R_far (p:=⟨g,2,none⟩) (Kd.R_far (p:=⟨g,1,none⟩) (Kd.R_far (p:=⟨g,0,none⟩) h (fun _ hk=>hk.2) v0) (fun _ hk=>hk.2) v1) (fun _ hk=>hk.2) v2) (fun _ hk=>hk.2) v3) (fun _ hk=>hk.2) v4) (fun _ hk=>hk.2) v5) (fun _ hk=>hk.2) v6) (fun _ hk=>hk.2) v7) (fun _ hk=>hk.2) v8) (fun _ hk=>hk.2) v9) (fun _ hk=>hk.2) v10) (fun _ hk=>hk.2) v11
/-! Short names, for texts that would be too long. -/
section
variable {w0 W W1:World} {g t k:Nat} {ps:PS}
theorem M0 {p:Prop} (h:p):Aside0 p:=Aside0.mk h
theorem bA {w:World} {g:Nat} {o:Obj} (h:w.heap[g]? = some o) (o':Obj):(w.alloc o').heap[g]? = some o:=blk_alloc h o'
theorem bD {w:World} {g:Nat} {o:Obj} (h:w.heap[g]? = some o):w.drew.heap[g]? = some o:=h
theorem bN {w:World} {g:Nat} {o:Obj} (h:w.heap[g]? = some o) (n:Nat):(w.drewN n).heap[g]? = some o:=h
theorem wA {w W:World} (h:Below w.heap.size w W) (o:Obj):Below w.heap.size w (W.alloc o):=below_alloc h o
theorem wN {B:Nat} {w W:World} (h:Below B w W) (n:Nat):Below B w (W.drewN n):=pw_below_drewN h n
theorem wD {base:Nat} {w W:World} (h:Below base w W):Below base w W.drew:=below_drew1 h
theorem rA {α:Type} {d:Kd α} {e base:Nat} {ok:Nat→Prop} {w:World} {v:Value} {xs:List α} (h:d.R e w base ok v xs) (o:Obj):d.R e (w.alloc o) base ok v xs:=Kd.R_alloc h o
theorem rD {α:Type} {d:Kd α} {e base:Nat} {ok:Nat→Prop} {w:World} {v:Value} {xs:List α} (h:d.R e w base ok v xs):d.R e w.drew base ok v xs:=Kd.R_drew h
theorem rN {α:Type} {d:Kd α} {e base:Nat} {ok:Nat→Prop} {w:World} {v:Value} {xs:List α} (h:d.R e w base ok v xs) (m:Nat):d.R e (w.drewN m) base ok v xs:=Kd.R_drewN h m
end
theorem bF {W:World} {g k:Nat} {t:TypeId} {cs:Array Value} {v0 v1 v2 v3 v4 v5 v6 v7 v8 v9 v10 v11:Value} (h:W.heap[g]? = some (.cells cs t (0,0))) (hne:g≠k):((((((((((((W.setCell ⟨k,0,none⟩ v0).setCell ⟨k,1,none⟩ v1).setCell ⟨k,2,none⟩ v2).setCell ⟨k,3,none⟩ v3).setCell ⟨k,4,none⟩ v4).setCell ⟨k,5,none⟩ v5).setCell ⟨k,6,none⟩ v6).setCell ⟨k,7,none⟩ v7).setCell ⟨k,8,none⟩ v8).setCell ⟨k,9,none⟩ v9).setCell ⟨k,10,none⟩ v10).setCell ⟨k,11,none⟩ v11).heap[g]? = some (.cells cs t (0,0)):=blk_far (p:=⟨k,11,none⟩) (blk_far (p:=⟨k,10,none⟩) (blk_far (p:=⟨k,9,none⟩) (blk_far (p:=⟨k,8,none⟩) (blk_far (p:=⟨k,7,none⟩) (blk_far (p:=⟨k,6,none⟩) (blk_far (p:=⟨k,5,none⟩) (blk_far (p:=⟨k,4,none⟩) (blk_far (p:=⟨k,3,none⟩) (blk_far (p:=⟨k,2,none⟩) (blk_far (p:=⟨k,1,none⟩) (blk_far (p:=⟨k,0,none⟩) h hne v0) hne v1) hne v2) hne v3) hne v4) hne v5) hne v6) hne v7) hne v8) hne v9) hne v10) hne v11
theorem celL {W:World} {g t:Nat} {c0 c1 c2 c3 c4 c5 c6 c7 c8 c9 c10 c11:Value} (h:W.heap[g]? = some (.cells #[c0,c1,c2,c3,c4,c5,c6,c7,c8,c9,c10,c11] t (0,0))):W.cell? ⟨g,0,none⟩=some c0∧W.cell? ⟨g,1,none⟩=some c1∧W.cell? ⟨g,2,none⟩=some c2∧W.cell? ⟨g,3,none⟩=some c3∧W.cell? ⟨g,4,none⟩=some c4∧W.cell? ⟨g,5,none⟩=some c5∧W.cell? ⟨g,6,none⟩=some c6∧W.cell? ⟨g,7,none⟩=some c7∧W.cell? ⟨g,8,none⟩=some c8∧W.cell? ⟨g,9,none⟩=some c9∧W.cell? ⟨g,10,none⟩=some c10∧W.cell? ⟨g,11,none⟩=some c11:=
  ⟨(blk_cell h 0).trans rfl,(blk_cell h 1).trans rfl,(blk_cell h 2).trans rfl,(blk_cell h 3).trans rfl,(blk_cell h 4).trans rfl,(blk_cell h 5).trans rfl,(blk_cell h 6).trans rfl,(blk_cell h 7).trans rfl,(blk_cell h 8).trans rfl,(blk_cell h 9).trans rfl,(blk_cell h 10).trans rfl,(blk_cell h 11).trans rfl⟩
theorem froZ {W:World} {g t:Nat} {cs:Array Value} (h:W.heap[g]? = some (.cells cs t (0,0))):W.frozen? ⟨g,0,none⟩=false∧W.frozen? ⟨g,1,none⟩=false∧W.frozen? ⟨g,2,none⟩=false∧W.frozen? ⟨g,3,none⟩=false∧W.frozen? ⟨g,4,none⟩=false∧W.frozen? ⟨g,5,none⟩=false∧W.frozen? ⟨g,6,none⟩=false∧W.frozen? ⟨g,7,none⟩=false∧W.frozen? ⟨g,8,none⟩=false∧W.frozen? ⟨g,9,none⟩=false∧W.frozen? ⟨g,10,none⟩=false∧W.frozen? ⟨g,11,none⟩=false:=
  ⟨blk_frozen h 0,blk_frozen h 1,blk_frozen h 2,blk_frozen h 3,blk_frozen h 4,blk_frozen h 5,blk_frozen h 6,blk_frozen h 7,blk_frozen h 8,blk_frozen h 9,blk_frozen h 10,blk_frozen h 11⟩
end Go.Proofs.YtfbhlbchmenloaaGreatDoor.H
end
section
namespace Go.Proofs.YtfbhlbchmenloaaGreatDoor.H
open Go.RowKit Go.Proofs.YtfbhlbchmenloaaGreatDoorW.PrintWords Go.Proofs.YtfbhlbchmenloaaGreatDoorW.PrintLast Go.Proofs.YtfbhlbchmenloaaGreatDoorW.PrintMore
attribute [local go_sem] max2_int min2_int max_two min_two max_three min_three max_four min_four   -- for this text's walks alone
set_option linter.unusedVariables false
set_option linter.unusedSimpArgs false



/-! #### struct type 55 -/
structure S55 where
  f0:ByteArray
def z55:S55:=⟨(⟨#[]⟩:ByteArray)⟩
/-! #### struct type 29 -/
end Go.Proofs.YtfbhlbchmenloaaGreatDoor.H
end
section
namespace Go.Proofs.YtfbhlbchmenloaaGreatDoor.L
open Go
set_option linter.unusedSimpArgs false
set_option linter.unusedVariables false

/-- The words of a line, acc ahead of it. -/
def wl (acc:List UInt8):List UInt8→List (List UInt8)
  | []=>if acc=[] then [] else [acc]
  | c::r=>if c=32 then (if acc=[] then wl [] r else acc::wl [] r) else wl (acc++[c]) r
/-- The pieces between blanks. -/
def pc (acc:List UInt8):List UInt8→List (List UInt8)
  | []=>[acc]
  | c::r=>if c=32 then acc::pc [] r else pc (acc++[c]) r

theorem wl_pc (l:List UInt8):∀ acc,wl acc l=(pc acc l).filter (fun w=>w≠[]):=by
  induction l with
  | nil=>intro acc;by_cases h:acc=[]<;>simp [wl,pc,h]
  | cons c r ih=>
    intro acc
    by_cases hc:c=32
    · by_cases h:acc=[]<;>simp [wl,pc,h,hc,ih]
    · simp [wl,pc,hc,ih]

theorem pc_none (l:List UInt8):∀ acc,(∀ c∈l,c≠32)→pc acc l=[acc++l]:=by
  induction l with
  | nil=>intro acc _;simp [pc]
  | cons c r ih=>
    intro acc h
    have hc:c≠32:=h c (by simp)
    simp only [pc,if_neg hc]
    rw [ih _ (fun d hd=>h d (by simp [hd]))]
    simp
theorem pc_hit (l r:List UInt8):∀ acc,(∀ c∈l,c≠32)→pc acc (l++32::r)=(acc++l)::pc [] r:=by
  induction l with
  | nil=>intro acc _;simp [pc]
  | cons c l ih=>
    intro acc h
    have hc:c≠32:=h c (by simp)
    simp only [List.cons_append,pc,if_neg hc]
    rw [ih _ (fun d hd=>h d (by simp [hd]))]
    simp
theorem wl_word (l:List UInt8):∀ acc,(∀ c∈l,c≠32)→wl acc l=if acc++l=[] then [] else [acc++l]:=by
  intro acc h
  rw [wl_pc,pc_none l acc h]
  by_cases e:acc++l=[]<;>simp [e]
theorem wl_app (l r:List UInt8):∀ acc,wl acc (l++32::r)=wl acc l++wl [] r:=by
  induction l with
  | nil=>intro acc;by_cases h:acc=[]<;>simp [wl,h]
  | cons c l ih=>
    intro acc
    by_cases hc:c=32
    · by_cases h:acc=[]<;>simp [wl,h,hc,ih]
    · simp [wl,hc,ih]
theorem pc_len (l:List UInt8):∀ acc,(pc acc l).length≤1 + l.length:=by
  induction l with
  | nil=>intro acc;simp [pc]
  | cons c r ih=>
    intro acc
    by_cases hc:c=32
    · have:=ih [];simp [pc,hc];omega
    · have:=ih (acc++[c]);simp [pc,hc];omega

/-! The library's split at a blank is these pieces. -/
def ba (l:List UInt8):ByteArray:=⟨l.toArray⟩
theorem ba_toList (l:List UInt8):(ba l).data.toList=l:=by simp [ba]
theorem ba_of (s:ByteArray):ba s.data.toList=s:=by cases s;simp [ba]
def sp:ByteArray:=⟨#[32]⟩
theorem index_sp (s:ByteArray):Lib.indexB s sp=Lib.indexByte s.data.toList 32:=Lib.index_one _ _
theorem split_pc:∀ (n:Nat) (s:ByteArray),s.size≤n→Lib.splitB sp 0 (Lib.countB s sp) s=(pc [] s.data.toList).map ba
  | n,s,hn=>by
    rcases Lib.indexB_cases s sp with hix | ⟨i,hix,hroom⟩
    · rw [Lib.countB_miss s sp hix,Lib.splitB_zero,pc_none]
      · simp [ba_of]
      · intro c hc e
        rw [index_sp] at hix
        obtain ⟨k,hk,hck⟩:=List.getElem_of_mem hc
        exact Lib.indexByte_none hix k (by rw [List.getElem?_eq_getElem hk,hck,e])
    · have hsz:sp.size=1:=rfl
      rw [hsz] at hroom
      rw [Lib.countB_hit s sp i (by rw [hsz];omega) hix,Nat.add_comm 1,Lib.splitB_hit sp 0 _ s i hix,hsz]
      have hl:s.data.toList.length=s.size:=Array.length_toList
      obtain ⟨m,rfl⟩:∃ m,n=m + 1:=⟨n - 1,by omega⟩
      rw [split_pc m (s.extract (i + 1) s.size) (by rw [ByteArray.size_extract];omega)]
      rw [index_sp] at hix
      obtain ⟨h1,h2⟩:=Lib.indexByte_some hix
      have hdec:s.data.toList=s.data.toList.take i++32::s.data.toList.drop (i + 1):=by
        have hi:i < s.data.toList.length:=by omega
        rw [List.getElem?_eq_getElem hi] at h1
        rw [← Option.some.inj h1,← List.drop_eq_getElem_cons hi,List.take_append_drop]
      have h3:pc [] s.data.toList=s.data.toList.take i::pc [] (s.data.toList.drop (i + 1)):=by
        conv=>lhs;rw [hdec]
        rw [pc_hit]
        · simp
        · intro c hc e
          obtain ⟨k,hk,hck⟩:=List.getElem_of_mem hc
          rw [List.length_take] at hk
          rw [List.getElem_take] at hck
          exact h2 k (by omega) (by rw [List.getElem?_eq_getElem (by omega),hck,e])
      rw [h3,List.map_cons]
      congr 1
      · rw [← ba_of (s.extract 0 (i + 0)),Lib.extract_data]
        simp
      · congr 2
        rw [Lib.extract_to_end]
theorem len_eq (s:ByteArray):s.data.toList.length=s.size:=Array.length_toList
end Go.Proofs.YtfbhlbchmenloaaGreatDoor.L

namespace Go.Proofs.YtfbhlbchmenloaaGreatDoor.Pure
open Go Go.RowKit Go.Proofs.YtfbhlbchmenloaaGreatDoorW.PrintWords Go.Proofs.YtfbhlbchmenloaaGreatDoor.H Go.Proofs.YtfbhlbchmenloaaGreatDoor.L
set_option linter.unusedSimpArgs false
set_option linter.unusedVariables false

theorem wrap_next {i:Int} (h0:0≤i) (h:i < 140737488355328):wrap64 (i + 1)=i + 1:=by unfold wrap64;omega
theorem rdOf_at {α:Type} (d:α) (xs:List α) (i:Nat) (h:i < xs.length):rdOf d xs (i:Int)=xs[i]:=by
  unfold rdOf
  rw [Int.toNat_natCast,List.getD_eq_getElem?_getD,List.getElem?_eq_getElem h]
  rfl
theorem tl (s:ByteArray):s.toList=s.data.toList:=ByteArray.toList_eq s
theorem tl_ba (l:List UInt8):(ba l).toList=l:=by rw [tl,ba_toList]

theorem split_loop (xs:List ByteArray) (hxs:xs.length < 8000000000000):∀ (d i:Nat) (out:List ByteArray),i + d=xs.length→out.length≤i →
    Ev (fun k=>words_Split.l0 k out xs (xs.length:Int) (i:Int)) (out++(xs.drop i).filter (fun s=>decide (s.toList≠[])))
  | 0,i,out,hi,ho=>by
    refine Ev.step (fun k=>words_Split.l0.eq_2 _ _ _ _ _) ?_
    simp only [if_neg (show ¬ ((i:Int) < (xs.length:Int)) by omega)]
    rw [List.drop_of_length_le (by omega)]
    simpa using Ev.now _
  | d + 1,i,out,hi,ho=>by
    have hlt:i < xs.length:=by omega
    refine Ev.step (fun k=>words_Split.l0.eq_2 _ _ _ _ _) ?_
    simp only [if_pos (show (i:Int) < (xs.length:Int) by omega),if_pos (show (0:Int)≤(i:Int) by omega),rdOf_at ByteArray.empty xs i hlt,wrap_next (show (0:Int)≤(i:Int) by omega) (by omega)]
    rw [List.drop_eq_getElem_cons hlt]
    by_cases he:xs[i].toList=[]
    · simp only [if_pos he]
      have h:=split_loop xs hxs d (i + 1) out (by omega) (by omega)
      rw [List.filter_cons,if_neg (by simp [he])]
      exact h
    · simp only [if_neg he,if_pos (show out.length < 8796093022208 by omega)]
      have h:=split_loop xs hxs d (i + 1) (out++[xs[i]]) (by omega) (by simp;omega)
      rw [List.append_assoc,List.singleton_append] at h
      rw [List.filter_cons,if_pos (by simpa using he)]
      exact h
theorem evSplit (s:ByteArray) (hs:s.size < 4000000000):Ev (fun k=>words_Split.f k s) ((wl [] s.data.toList).map ba):=by
  have hp:strings_Split.f s ⟨#[32]⟩=some ((pc [] s.data.toList).map ba):=by
    unfold strings_Split.f
    rw [if_pos ⟨by omega,by show 1≤1;omega⟩]
    exact congrArg some (split_pc s.size s (Nat.le_refl _))
  have hl:s.data.toList.length=s.size:=Array.length_toList
  have hlen:((pc [] s.data.toList).map ba).length < 8000000000000:=by
    have:=pc_len s.data.toList []
    rw [List.length_map];omega
  have h:=split_loop _ hlen _ 0 [] (Nat.zero_add _) (Nat.le_refl _)
  unfold words_Split.f
  simp only [hp,Option.bind_some]
  rw [wl_pc]
  refine Ev.congr (fun k=>rfl) ?_
  have e:([]:List ByteArray)++(((pc [] s.data.toList).map ba).drop 0).filter (fun s=>decide (s.toList≠[]))=((pc [] s.data.toList).filter (fun w=>decide (w≠[]))).map ba:=by
    rw [List.nil_append,List.drop_zero,List.filter_map]
    congr 1
    apply List.filter_congr
    intro w _
    simp [tl_ba]
  rw [e] at h
  exact h
def numG (acc:Nat):List UInt8→Int×Bool
  | []=>((acc:Int),true)
  | c::r=>if 48≤c.toNat∧c.toNat≤57 then (if 1844674407370955161 < acc∨(acc=1844674407370955161∧5 < c.toNat - 48) then (0,false) else numG (acc * 10 + (c.toNat - 48)) r) else (0,false)
theorem numG_bad:∀ (l:List UInt8) (acc:Nat),l.all isDig≠true→numG acc l=(0,false)
  | [],acc,h=>by simp at h
  | c::r,acc,h=>by
    unfold numG
    by_cases hc:48≤c.toNat∧c.toNat≤57
    · rw [if_pos hc]
      by_cases ho:1844674407370955161 < acc∨(acc=1844674407370955161∧5 < c.toNat - 48)
      · rw [if_pos ho]
      · rw [if_neg ho]
        refine numG_bad r _ (fun e=>h ?_)
        rw [List.all_cons,e]
        simp [isDig,hc.1,hc.2]
    · rw [if_neg hc]
theorem numG_parse:∀ (l:List UInt8) (acc:Nat),l.all isDig=true→(match Lib.parseUintM (2 ^ 64 - 1) acc l with | .ok u=>((u:Int),true) | _=>(0,false))=numG acc l
  | [],acc,_=>rfl
  | c::r,acc,h=>by
    rw [List.all_cons,Bool.and_eq_true] at h
    have hc:48≤c.toNat∧c.toNat≤57:=by have:=h.1;simp [isDig] at this;exact this
    unfold numG Lib.parseUintM
    rw [if_pos hc,if_pos hc]
    by_cases h1:1844674407370955162≤acc
    · rw [if_pos h1,if_pos (by omega)]
    · rw [if_neg h1]
      by_cases h2:2 ^ 64 - 1 < acc * 10 + (c.toNat - 48)
      · rw [if_pos h2,if_pos (by omega)]
      · rw [if_neg h2,if_neg (by omega)]
        exact numG_parse r _ h.2
theorem numF_eq (l:List UInt8):numF l=if l.length < 1∨20 < l.length then (0,false) else numG 0 l:=by
  unfold numF
  by_cases h:l.length < 1∨20 < l.length
  · rw [if_pos h,if_pos h]
  · rw [if_neg h,if_neg h]
    by_cases hd:l.all isDig=true
    · rw [if_pos hd]
      unfold Lib.parseUintB
      rw [if_neg (by intro e;rw [e] at h;simp at h)]
      exact numG_parse l 0 hd
    · rw [if_neg hd,numG_bad l 0 hd]
theorem numG_range:∀ (l:List UInt8) (acc:Nat),acc < 18446744073709551616→0≤(numG acc l).1∧(numG acc l).1 < 18446744073709551616
  | [],acc,h=>by simp [numG];omega
  | c::r,acc,h=>by
    unfold numG
    by_cases hc:48≤c.toNat∧c.toNat≤57
    · rw [if_pos hc]
      by_cases ho:1844674407370955161 < acc∨(acc=1844674407370955161∧5 < c.toNat - 48)
      · rw [if_pos ho];simp
      · rw [if_neg ho];exact numG_range r _ (by omega)
    · rw [if_neg hc];simp
theorem numF_range (l:List UInt8):0≤(numF l).1∧(numF l).1 < 18446744073709551616:=by
  rw [numF_eq]
  by_cases h:l.length < 1∨20 < l.length
  · rw [if_pos h];simp
  · rw [if_neg h];exact numG_range l 0 (by omega)

def negL:List UInt8→Bool
  | c::_=>c==45
  | []=>false
def signF (l:List UInt8):Int×Bool:=
  if negL l=true then (if (numF (l.drop 1)).2=true∧(numF (l.drop 1)).1≤9223372036854775808 then (wrap64 (-(wrap64 (numF (l.drop 1)).1)),true) else (0,false))
  else (if (numF l).2=true∧(numF l).1 < 9223372036854775808 then (wrap64 (numF l).1,true) else (0,false))
theorem hasPrefix_minus (s:ByteArray):strings_HasPrefix.f s ⟨#[45]⟩=some (negL s.data.toList):=by
  unfold strings_HasPrefix.f stringslite_HasPrefix.f
  have e1:((⟨#[45]⟩:ByteArray).size:Int)=1:=rfl
  simp only [e1]
  have hl:=len_eq s
  by_cases h:1≤s.size
  · rw [if_pos (by omega),if_pos (by omega),if_pos (by omega),Option.bind_some]
    rw [tl,tl,Lib.extract_data]
    match hm:s.data.toList with
    | []=>rw [hm] at hl;simp at hl;omega
    | c::r=>simp [negL]
  · rw [if_neg (by omega),Option.bind_some]
    have:s.data.toList=[]:=List.eq_nil_of_length_eq_zero (by omega)
    rw [this]
    rfl
theorem trimPrefix_minus (s:ByteArray):strings_TrimPrefix.f s ⟨#[45]⟩=some (if negL s.data.toList=true then s.extract 1 s.size else s):=by
  have hp:=hasPrefix_minus s
  unfold strings_HasPrefix.f at hp
  have hp2:stringslite_HasPrefix.f s ⟨#[45]⟩=some (negL s.data.toList):=by
    cases h:stringslite_HasPrefix.f s ⟨#[45]⟩ with
    | none=>rw [h] at hp;cases hp
    | some b=>rw [h] at hp;exact hp
  unfold strings_TrimPrefix.f stringslite_TrimPrefix.f
  have e1:((⟨#[45]⟩:ByteArray).size:Int)=1:=rfl
  rw [hp2]
  simp only [Option.bind_some,e1]
  by_cases h:negL s.data.toList=true
  · have hl:=len_eq s
    have:1≤s.size:=by
      by_cases h0:1≤s.size
      · exact h0
      · have e:s.data.toList=[]:=List.eq_nil_of_length_eq_zero (by omega)
        rw [e] at h;cases h
    rw [if_pos h,if_pos h,if_pos (by omega),if_pos (by omega)]
    rfl
  · rw [if_neg h,if_neg h]
    rfl
theorem evSigned (s:ByteArray):Ev (fun k=>words_Signed.f k s) (signF s.data.toList):=by
  unfold words_Signed.f signF words_Number.f
  simp only [trimPrefix_minus,hasPrefix_minus,Option.bind_some]
  by_cases h:negL s.data.toList=true
  · simp only [if_pos h,Lib.extract_to_end]
    by_cases h1:(numF (s.data.toList.drop 1)).2=true
    · simp only [if_pos h1]
      refine Ev.step (fun k=>words_Signed.j0.eq_2 _ _ _ _) ?_
      by_cases h2:(numF (s.data.toList.drop 1)).1≤9223372036854775808
      · simp only [decide_eq_true h2,if_true,if_pos (And.intro h1 h2)];exact Ev.now _
      · simp only [decide_eq_false h2,Bool.false_eq_true,if_false,hasPrefix_minus,Option.bind_some,if_pos h,if_neg (fun e:_∧_=>h2 e.2)];exact Ev.now _
    · simp only [if_neg h1,if_neg (fun e:_∧_=>h1 e.1)];exact Ev.now _
  · simp only [if_neg h]
    by_cases h1:(numF s.data.toList).2=true
    · simp only [if_pos h1]
      refine Ev.step (fun k=>words_Signed.j0.eq_2 _ _ _ _) ?_
      simp only [Bool.false_eq_true,if_false,hasPrefix_minus,Option.bind_some,if_neg h]
      by_cases h2:(numF s.data.toList).1 < 9223372036854775808
      · simp only [if_pos h2,if_pos (And.intro h1 h2)];exact Ev.now _
      · simp only [if_neg h2,if_neg (fun e:_∧_=>h2 e.2)];exact Ev.now _
    · simp only [if_neg h1,if_neg (fun e:_∧_=>h1 e.1)];exact Ev.now _
end Go.Proofs.YtfbhlbchmenloaaGreatDoor.Pure
end
section
namespace Go.Proofs.YtfbhlbchmenloaaGreatDoor.Pure
open Go Go.RowKit Go.Proofs.YtfbhlbchmenloaaGreatDoorW.PrintWords Go.Proofs.YtfbhlbchmenloaaGreatDoor.H Go.Proofs.YtfbhlbchmenloaaGreatDoor.L
set_option linter.unusedSimpArgs false
set_option linter.unusedVariables false
theorem ba_ext {a b:ByteArray} (h:a.data.toList=b.data.toList):a=b:=by rw [← ba_of a,← ba_of b,h]
theorem tl_inj (a b:ByteArray):a.toList=b.toList↔a=b:=by
  rw [tl,tl]
  exact ⟨ba_ext,fun h=>by rw [h]⟩
theorem beq_tl (a b:ByteArray) (l:List UInt8) (hl:b.toList=l):(a.toList==l)=decide (a=b):=by
  subst hl
  rw [Bool.eq_iff_iff,beq_iff_eq,decide_eq_true_iff,tl_inj]
theorem eq_tl (a b:ByteArray) (l:List UInt8) (hl:b.toList=l):(a.toList=l)=(a=b):=by
  subst hl
  rw [tl_inj]
def memB (a:ByteArray) (xs:List ByteArray):Bool:=xs.any fun z=>decide (a=z)
def at_ (ws:List ByteArray) (i:Nat):ByteArray:=ws.getD i ByteArray.empty
theorem evIndex (xs:List ByteArray) (a:ByteArray) (hxs:xs.length < 1000000):∀ (d i:Nat),i + d=xs.length →
    ∃ r,Ev (fun k=>slices_Index_string_string.l0 k xs a (xs.length:Int) (i:Int)) r∧decide (r≥0)=memB a (xs.drop i)
  | 0,i,hi=>by
    refine ⟨-1,Ev.step (fun k=>slices_Index_string_string.l0.eq_2 _ _ _ _ _) ?_,?_⟩
    · simp only [if_neg (show ¬ (i:Int) < (xs.length:Int) by omega)];exact Ev.now _
    · rw [List.drop_of_length_le (by omega)];rfl
  | d + 1,i,hi=>by
    have hlt:i < xs.length:=by omega
    by_cases he:a=xs[i]
    · refine ⟨(i:Int),Ev.step (fun k=>slices_Index_string_string.l0.eq_2 _ _ _ _ _) ?_,?_⟩
      · simp only [if_pos (show (i:Int) < (xs.length:Int) by omega),if_pos (show (0:Int)≤(i:Int) by omega),rdOf_at ByteArray.empty xs i hlt,tl_inj,if_pos he];exact Ev.now _
      · rw [List.drop_eq_getElem_cons hlt]
        unfold memB
        rw [List.any_cons,decide_eq_true he,Bool.true_or]
        exact decide_eq_true (by omega)
    · obtain ⟨r,h1,h2⟩:=evIndex xs a hxs d (i + 1) (by omega)
      refine ⟨r,Ev.step (fun k=>slices_Index_string_string.l0.eq_2 _ _ _ _ _) ?_,?_⟩
      · simp only [if_pos (show (i:Int) < (xs.length:Int) by omega),if_pos (show (0:Int)≤(i:Int) by omega),rdOf_at ByteArray.empty xs i hlt,tl_inj,if_neg he,wrap_next (show (0:Int)≤(i:Int) by omega) (by omega)]
        exact h1
      · rw [h2,List.drop_eq_getElem_cons hlt]
        unfold memB
        rw [List.any_cons,decide_eq_false he,Bool.false_or]
theorem evContains (xs:List ByteArray) (a:ByteArray) (hxs:xs.length < 1000000):Ev (fun k=>slices_Contains_string_string.f k xs a) (memB a xs):=by
  obtain ⟨r,h1,h2⟩:=evIndex xs a hxs xs.length 0 (by omega)
  unfold slices_Contains_string_string.f slices_Index_string_string.f
  rw [List.drop_zero] at h2
  rw [← h2]
  exact Ev.bind h1 (Ev.now _)
@[reducible] def noreplyW:ByteArray:=⟨#[110,111,114,101,112,108,121]⟩
@[reducible] def noughtW:ByteArray:=⟨#[48]⟩
def endsR (ws:List ByteArray) (n:Nat) (more:List ByteArray):Bool×Bool:=
  if ws.length=n then (false,true) else if ws.length=n + 1∧memB (at_ ws n) more=true then (decide (at_ ws n=noreplyW),true) else (false,false)
theorem endsR_len {ws:List ByteArray} {n:Nat} {more:List ByteArray} (h:(endsR ws n more).2=true):ws.length=n∨ws.length=n + 1:=by
  unfold endsR at h
  by_cases h1:ws.length=n
  · exact .inl h1
  · rw [if_neg h1] at h
    by_cases h2:ws.length=n + 1∧memB (at_ ws n) more=true
    · exact .inr h2.1
    · rw [if_neg h2] at h;cases h
theorem rdOf_at_ (ws:List ByteArray) (n:Nat) (h:n < ws.length):rdOf ByteArray.empty ws (n:Int)=at_ ws n:=by
  rw [rdOf_at _ _ _ h]
  unfold at_
  rw [List.getD_eq_getElem?_getD,List.getElem?_eq_getElem h]
  rfl
theorem evEnds (ws:List ByteArray) (n:Nat) (a:Int) (ha:a=(n:Int)) (hn:n < 1000) (more:List ByteArray) (hm:more.length < 1000000):Ev (fun k=>parse_ends.f k ws a more) (endsR ws n more):=by
  subst ha
  unfold parse_ends.f endsR
  have hw:wrap64 ((n:Int) + 1)=((n + 1:Nat):Int):=by unfold wrap64;omega
  by_cases h1:ws.length=n
  · simp only [h1,if_true]
    exact Ev.now _
  · simp only [if_neg (show ¬ (ws.length:Int)=(n:Int) by omega),if_neg h1,hw]
    by_cases h2:ws.length=n + 1
    · have e2:(ws.length=n + 1∧memB (at_ ws n) more=true)=(memB (at_ ws n) more=true):=propext ⟨fun z=>z.2,fun z=>⟨h2,z⟩⟩
      simp only [if_pos (show (ws.length:Int)=((n + 1:Nat):Int) by omega),if_pos (show (0:Int)≤(n:Int) by omega),if_pos (show (n:Int) < (ws.length:Int) by omega),rdOf_at_ ws n (by omega),e2]
      refine Ev.bind (evContains more _ hm) ?_
      by_cases h3:memB (at_ ws n) more=true
      · simp only [if_pos h3]
        rw [beq_tl (at_ ws n) noreplyW _ (tl _)]
        exact Ev.now _
      · simp only [if_neg h3]
        exact Ev.now _
    · simp only [if_neg (show ¬ (ws.length:Int)=((n + 1:Nat):Int) by omega),if_neg (fun e:_∧_=>h2 e.1)]
      exact Ev.now _
@[reducible] def getW:ByteArray:=⟨#[103,101,116]⟩
@[reducible] def getsW:ByteArray:=⟨#[103,101,116,115]⟩
@[reducible] def gatW:ByteArray:=⟨#[103,97,116]⟩
@[reducible] def gatsW:ByteArray:=⟨#[103,97,116,115]⟩
@[reducible] def setW:ByteArray:=⟨#[115,101,116]⟩
@[reducible] def addW:ByteArray:=⟨#[97,100,100]⟩
@[reducible] def replaceW:ByteArray:=⟨#[114,101,112,108,97,99,101]⟩
@[reducible] def appendW:ByteArray:=⟨#[97,112,112,101,110,100]⟩
@[reducible] def prependW:ByteArray:=⟨#[112,114,101,112,101,110,100]⟩
@[reducible] def casW:ByteArray:=⟨#[99,97,115]⟩
@[reducible] def incrW:ByteArray:=⟨#[105,110,99,114]⟩
@[reducible] def decrW:ByteArray:=⟨#[100,101,99,114]⟩
@[reducible] def touchW:ByteArray:=⟨#[116,111,117,99,104]⟩
@[reducible] def deleteW:ByteArray:=⟨#[100,101,108,101,116,101]⟩
@[reducible] def flushW:ByteArray:=⟨#[102,108,117,115,104,95,97,108,108]⟩
@[reducible] def versionW:ByteArray:=⟨#[118,101,114,115,105,111,110]⟩
@[reducible] def quitW:ByteArray:=⟨#[113,117,105,116]⟩
@[reducible] def errT:ByteArray:=⟨#[69,82,82,79,82]⟩
@[reducible] def formT:ByteArray:=⟨#[67,76,73,69,78,84,95,69,82,82,79,82,32,98,97,100,32,99,111,109,109,97,110,100,32,108,105,110,101,32,102,111,114,109,97,116]⟩
@[reducible] def deltaT:ByteArray:=⟨#[67,76,73,69,78,84,95,69,82,82,79,82,32,105,110,118,97,108,105,100,32,110,117,109,101,114,105,99,32,100,101,108,116,97,32,97,114,103,117,109,101,110,116]⟩
@[reducible] def timeT:ByteArray:=⟨#[67,76,73,69,78,84,95,69,82,82,79,82,32,105,110,118,97,108,105,100,32,101,120,112,116,105,109,101,32,97,114,103,117,109,101,110,116]⟩
@[reducible] def largeT:ByteArray:=⟨#[83,69,82,86,69,82,95,69,82,82,79,82,32,111,98,106,101,99,116,32,116,111,111,32,108,97,114,103,101,32,102,111,114,32,99,97,99,104,101]⟩
def storeP (ws:List ByteArray) (six:Bool):Cm×Int:=
  let en:=endsR ws (if six then 6 else 5) [noreplyW]
  let f:=numF (at_ ws 2).data.toList
  let e:=signF (at_ ws 3).data.toList
  let s:=numF (at_ ws 4).data.toList
  let c:=if six then numF (at_ ws 5).data.toList else (0,true)
  if en.2=false then (.bad errT,-1)
  else if keyF (at_ ws 1)=false then (.bad formT,-1)
  else if f.2=true∧e.2=true∧s.2=true∧c.2=true∧f.1≤4294967295∧s.1≤2147483647 then
    (if s.1 > 1024 then (.bad largeT,s.1) else (.store (at_ ws 0) (at_ ws 1) ⟨#[]⟩ (f.1 % 4294967296) e.1 c.1 en.1,s.1))
  else (.bad formT,-1)
theorem evStore2 (ws:List ByteArray) (hl:5≤ws.length) (q:Bool) (f e s c:Int) (hs:0≤s) (b:Bool) (hb:b=decide (s > 2147483647)) :
    Ev (fun k=>parse_store.j2 k ws q f e s c b) (if s≤2147483647 then (if s > 1024 then (.bad largeT,s) else (.store (at_ ws 0) (at_ ws 1) ⟨#[]⟩ (f % 4294967296) e c q,s)) else (.bad formT,-1)):=by
  refine Ev.step (fun k=>parse_store.j2.eq_2 _ _ _ _ _ _ _ _) ?_
  subst hb
  by_cases h:s > 2147483647
  · simp only [decide_eq_true h,if_true,if_neg (show ¬ s≤2147483647 by omega),parse_bad.f,Option.bind_some];exact Ev.now _
  · have hw:wrap64 s=s:=by unfold wrap64;omega
    simp only [decide_eq_false h,Bool.false_eq_true,if_false,if_pos (show s≤2147483647 by omega),hw,if_pos (show 0 < (ws.length:Int) by omega),if_pos (show 1 < (ws.length:Int) by omega)]
    by_cases h1:s > 1024
    · simp only [if_pos h1];exact Ev.now _
    · simp only [if_neg h1];exact Ev.now _
theorem evStore2t (ws:List ByteArray) (q:Bool) (f e s c:Int):Ev (fun k=>parse_store.j2 k ws q f e s c true) (.bad formT,-1):=by
  refine Ev.step (fun k=>parse_store.j2.eq_2 _ _ _ _ _ _ _ _) ?_
  simp only [if_true,parse_bad.f,Option.bind_some];exact Ev.now _
theorem evStore1 (ws:List ByteArray) (hl:5≤ws.length) (q:Bool) (f e s c:Int×Bool) (hs:0≤s.1) :
    Ev (fun k=>parse_store.j1 k ws q f.1 f.2 e.1 e.2 s.1 s.2 c.1 c.2) (if f.2=true∧e.2=true∧s.2=true∧c.2=true∧f.1≤4294967295∧s.1≤2147483647 then
    (if s.1 > 1024 then (.bad largeT,s.1) else (.store (at_ ws 0) (at_ ws 1) ⟨#[]⟩ (f.1 % 4294967296) e.1 c.1 q,s.1)) else (.bad formT,-1)):=by
  refine Ev.step (fun k=>parse_store.j1.eq_2 _ _ _ _ _ _ _ _ _ _ _) ?_
  by_cases h1:f.2=true
  · by_cases h2:e.2=true
    · by_cases h3:s.2=true
      · by_cases h4:c.2=true
        · by_cases h5:f.1 > 4294967295
          · simp only [if_pos h1,if_pos h2,if_pos h3,if_pos h4,if_pos h5,if_neg (show ¬ (f.2=true∧e.2=true∧s.2=true∧c.2=true∧f.1≤4294967295∧s.1≤2147483647) by omega)]
            exact evStore2t _ _ _ _ _ _
          · simp only [if_pos h1,if_pos h2,if_pos h3,if_pos h4,if_neg h5]
            have h:=evStore2 ws hl q f.1 e.1 s.1 c.1 hs _ rfl
            by_cases h6:s.1≤2147483647
            · rw [if_pos h6] at h
              rw [if_pos ⟨h1,h2,h3,h4,by omega,h6⟩]
              exact h
            · rw [if_neg h6] at h
              rw [if_neg (fun z=>h6 z.2.2.2.2.2)]
              exact h
        · simp only [if_pos h1,if_pos h2,if_pos h3,if_neg h4,if_neg (fun z:_∧_∧_∧_∧_∧_=>h4 z.2.2.2.1)];exact evStore2t _ _ _ _ _ _
      · simp only [if_pos h1,if_pos h2,if_neg h3,if_neg (fun z:_∧_∧_∧_∧_∧_=>h3 z.2.2.1)];exact evStore2t _ _ _ _ _ _
    · simp only [if_pos h1,if_neg h2,if_neg (fun z:_∧_∧_∧_∧_∧_=>h2 z.2.1)];exact evStore2t _ _ _ _ _ _
  · simp only [if_neg h1,if_neg (fun z:_∧_∧_∧_∧_∧_=>h1 z.1)];exact evStore2t _ _ _ _ _ _
theorem evStore0 (ws:List ByteArray) (six:Bool) (a:Int) (ha:a=if six=true then 6 else 5):Ev (fun k=>parse_store.j0 k ws a) (storeP ws six):=by
  refine Ev.step (fun k=>parse_store.j0.eq_2 _ _ _) ?_
  unfold storeP
  refine Ev.bind (evEnds ws (if six=true then 6 else 5) a (by rw [ha];cases six<;>rfl) (by cases six<;>decide) [noreplyW] (by decide)) ?_
  by_cases hen:(endsR ws (if six=true then 6 else 5) [noreplyW]).2=true
  · have hl:=endsR_len hen
    have hl5:5≤ws.length:=by cases six<;>simp at hl<;>omega
    simp only [if_pos hen,hen,Bool.true_eq_false,if_false,if_pos (show 1 < (ws.length:Int) by omega),if_pos (show 2 < (ws.length:Int) by omega),if_pos (show 3 < (ws.length:Int) by omega),if_pos (show 4 < (ws.length:Int) by omega),words_Key.f,words_Number.f,Option.bind_some]
    have r1:rdOf ByteArray.empty ws 1=at_ ws 1:=rfl
    have r2:rdOf ByteArray.empty ws 2=at_ ws 2:=rfl
    have r3:rdOf ByteArray.empty ws 3=at_ ws 3:=rfl
    have r4:rdOf ByteArray.empty ws 4=at_ ws 4:=rfl
    have r5:rdOf ByteArray.empty ws 5=at_ ws 5:=rfl
    simp only [r1,r2,r3,r4,r5]
    by_cases hk:keyF (at_ ws 1)=true
    · simp only [if_pos hk,hk,Bool.true_eq_false,if_false]
      refine Ev.bind (evSigned _) ?_
      cases six with
      | true=>
        simp only [if_true] at ha hl
        subst ha
        simp only [if_true,if_pos (show 5 < (ws.length:Int) by omega)]
        exact evStore1 ws hl5 _ _ _ _ _ (numF_range _).1
      | false=>
        simp only [Bool.false_eq_true,if_false] at ha
        subst ha
        simp only [show ¬ ((5:Int)=6) by decide,if_false,Bool.false_eq_true]
        have h:=evStore1 ws hl5 (endsR ws 5 [noreplyW]).1 (numF (at_ ws 2).data.toList) (signF (at_ ws 3).data.toList) (numF (at_ ws 4).data.toList) (0,true) (numF_range _).1
        simp only [true_and] at h ⊢
        exact h
    · have hk2:keyF (at_ ws 1)=false:=by simpa using hk
      simp only [hk2,Bool.false_eq_true,if_false,if_true,parse_bad.f,Option.bind_some]
      exact Ev.now _
  · have hen2:=eq_false_of_ne_true hen
    simp only [hen2,Bool.false_eq_true,if_false,if_true,parse_bad.f,Option.bind_some]
    exact Ev.now _
def storeR (ws:List ByteArray):Cm×Int:=storeP ws (decide (at_ ws 0=casW))
theorem evStore (ws:List ByteArray) (h:0 < ws.length):Ev (fun k=>parse_store.f k ws) (storeR ws):=by
  unfold parse_store.f storeR
  have r0:rdOf ByteArray.empty ws 0=at_ ws 0:=rfl
  simp only [if_pos (show 0 < (ws.length:Int) by omega),r0,eq_tl (at_ ws 0) casW _ (tl _)]
  by_cases hc:at_ ws 0=casW
  · simp only [if_pos hc,decide_eq_true hc];exact evStore0 ws true 6 rfl
  · simp only [if_neg hc,decide_eq_false hc];exact evStore0 ws false 5 rfl
def keyedR (ws:List ByteArray):Cm×Int:=
  let en:=endsR ws 3 [noreplyW]
  if en.2=false then (.bad errT,-1)
  else if keyF (at_ ws 1)=false then (.bad formT,-1)
  else if at_ ws 0=touchW then (if (signF (at_ ws 2).data.toList).2=true then (.touch (at_ ws 1) (signF (at_ ws 2).data.toList).1 en.1,-1) else (.bad timeT,-1))
  else (if (numF (at_ ws 2).data.toList).2=true then (.arith (at_ ws 1) (numF (at_ ws 2).data.toList).1 (decide (at_ ws 0=decrW)) en.1,-1) else (.bad deltaT,-1))
theorem evKeyed (ws:List ByteArray):Ev (fun k=>parse_keyed.f k ws) (keyedR ws):=by
  unfold parse_keyed.f keyedR
  refine Ev.bind (evEnds ws 3 3 rfl (by decide) [noreplyW] (by decide)) ?_
  by_cases hen:(endsR ws 3 [noreplyW]).2=true
  · have hl:=endsR_len hen
    have r0:rdOf ByteArray.empty ws 0=at_ ws 0:=rfl
    have r1:rdOf ByteArray.empty ws 1=at_ ws 1:=rfl
    have r2:rdOf ByteArray.empty ws 2=at_ ws 2:=rfl
    simp only [if_pos hen,hen,Bool.true_eq_false,if_false,if_pos (show 0 < (ws.length:Int) by omega),if_pos (show 1 < (ws.length:Int) by omega),if_pos (show 2 < (ws.length:Int) by omega),words_Key.f,words_Number.f,Option.bind_some,r0,r1,r2,eq_tl (at_ ws 0) touchW _ (tl _),beq_tl (at_ ws 0) decrW _ (tl _)]
    by_cases hk:keyF (at_ ws 1)=true
    · simp only [if_pos hk,hk,Bool.true_eq_false,if_false]
      by_cases ht:at_ ws 0=touchW
      · simp only [if_pos ht]
        refine Ev.bind (evSigned _) ?_
        by_cases hs:(signF (at_ ws 2).data.toList).2=true
        · simp only [if_pos hs];exact Ev.now _
        · simp only [if_neg hs,parse_bad.f,Option.bind_some];exact Ev.now _
      · simp only [if_neg ht]
        by_cases hs:(numF (at_ ws 2).data.toList).2=true
        · simp only [if_pos hs];exact Ev.now _
        · simp only [if_neg hs,parse_bad.f,Option.bind_some];exact Ev.now _
    · have hk2:keyF (at_ ws 1)=false:=by simpa using hk
      simp only [hk2,Bool.false_eq_true,if_false,if_true,parse_bad.f,Option.bind_some]
      exact Ev.now _
  · have hen2:=eq_false_of_ne_true hen
    simp only [hen2,Bool.false_eq_true,if_false,if_true,parse_bad.f,Option.bind_some]
    exact Ev.now _
def deleteR (ws:List ByteArray):Cm×Int:=
  if (endsR ws 2 [noreplyW,noughtW]).2=true then (if keyF (at_ ws 1)=true then (.delete (at_ ws 1) (endsR ws 2 [noreplyW,noughtW]).1,-1) else (.bad formT,-1)) else (.bad errT,-1)
def flushR (ws:List ByteArray):Cm×Int:=
  if (endsR ws 1 [noreplyW,noughtW]).2=true then (.flush (endsR ws 1 [noreplyW,noughtW]).1,-1) else (.bad errT,-1)
def wordR (ws:List ByteArray):Cm×Int:=if ws.length=1 then (.word (at_ ws 0),-1) else (.bad errT,-1)
def isStoreW (w:ByteArray):Prop:=w=setW∨w=addW∨w=replaceW∨w=appendW∨w=prependW∨w=casW
instance (w:ByteArray):Decidable (isStoreW w):=by unfold isStoreW;infer_instance
def isKeyedW (w:ByteArray):Prop:=w=incrW∨w=decrW∨w=touchW
instance (w:ByteArray):Decidable (isKeyedW w):=by unfold isKeyedW;infer_instance
/-- A line that is no Get's. -/
def plainR (ws:List ByteArray):Cm×Int:=
  if isStoreW (at_ ws 0) then storeR ws else if isKeyedW (at_ ws 0) then keyedR ws else if at_ ws 0=deleteW then deleteR ws else if at_ ws 0=flushW then flushR ws
  else if at_ ws 0=versionW∨at_ ws 0=quitW then wordR ws else (.bad errT,-1)
theorem evOne3 (ws:List ByteArray) (h:0 < ws.length) (b:Bool):Ev (fun k=>parse_one.j3 k ws b) (if b=true then wordR ws else (.bad errT,-1)):=by
  refine Ev.step (fun k=>parse_one.j3.eq_2 _ _ _) ?_
  have r0:rdOf ByteArray.empty ws 0=at_ ws 0:=rfl
  unfold wordR
  cases b with
  | true=>
    simp only [if_true,r0,if_pos (show 0 < (ws.length:Int) by omega)]
    by_cases h1:ws.length=1
    · simp only [if_pos (show (ws.length:Int)=1 by omega),if_pos h1];exact Ev.now _
    · simp only [if_neg (show ¬ (ws.length:Int)=1 by omega),if_neg h1,parse_bad.f,Option.bind_some];exact Ev.now _
  | false=>simp only [Bool.false_eq_true,if_false,parse_bad.f,Option.bind_some];exact Ev.now _
theorem evOne2 (ws:List ByteArray) (h:0 < ws.length) (hs:¬ isStoreW (at_ ws 0)) (b:Bool) (hb:b=decide (isKeyedW (at_ ws 0))):Ev (fun k=>parse_one.j2 k ws (at_ ws 0) b) (plainR ws):=by
  refine Ev.step (fun k=>parse_one.j2.eq_2 _ _ _ _) ?_
  subst hb
  have r1:rdOf ByteArray.empty ws 1=at_ ws 1:=rfl
  unfold plainR
  rw [if_neg hs]
  by_cases hk:isKeyedW (at_ ws 0)
  · simp only [if_pos hk,decide_eq_true hk,if_true]
    exact Ev.bind (evKeyed ws) (Ev.now _)
  · simp only [if_neg hk,decide_eq_false hk,Bool.false_eq_true,if_false,eq_tl (at_ ws 0) deleteW _ (tl _),eq_tl (at_ ws 0) flushW _ (tl _),eq_tl (at_ ws 0) versionW _ (tl _),beq_tl (at_ ws 0) versionW _ (tl _),beq_tl (at_ ws 0) quitW _ (tl _)]
    by_cases hd:at_ ws 0=deleteW
    · simp only [if_pos hd,deleteR]
      refine Ev.bind (evEnds ws 2 2 rfl (by decide) [noreplyW,noughtW] (by decide)) ?_
      by_cases he:(endsR ws 2 [noreplyW,noughtW]).2=true
      · have hl:=endsR_len he
        simp only [if_pos he,if_pos (show 1 < (ws.length:Int) by omega),words_Key.f,Option.bind_some,r1]
        by_cases hk:keyF (at_ ws 1)=true
        · simp only [if_pos hk];exact Ev.now _
        · simp only [if_neg hk,parse_bad.f,Option.bind_some];exact Ev.now _
      · simp only [if_neg he,parse_bad.f,Option.bind_some];exact Ev.now _
    · simp only [if_neg hd]
      by_cases hf:at_ ws 0=flushW
      · simp only [if_pos hf,flushR]
        refine Ev.bind (evEnds ws 1 1 rfl (by decide) [noreplyW,noughtW] (by decide)) ?_
        by_cases he:(endsR ws 1 [noreplyW,noughtW]).2=true
        · simp only [if_pos he];exact Ev.now _
        · simp only [if_neg he,parse_bad.f,Option.bind_some];exact Ev.now _
      · simp only [if_neg hf]
        by_cases hv:at_ ws 0=versionW
        · simp only [if_pos hv,if_pos (show at_ ws 0=versionW∨at_ ws 0=quitW from .inl hv),decide_eq_true hv]
          exact evOne3 ws h true
        · simp only [if_neg hv]
          have h3:=evOne3 ws h (decide (at_ ws 0=quitW))
          by_cases hq:at_ ws 0=quitW
          · rw [if_pos (show at_ ws 0=versionW∨at_ ws 0=quitW from .inr hq)]
            rw [if_pos (decide_eq_true hq)] at h3
            exact h3
          · rw [if_neg (show ¬ (at_ ws 0=versionW∨at_ ws 0=quitW) from fun z=>z.elim hv hq)]
            rw [if_neg (by simpa using hq)] at h3
            exact h3
theorem evOne1 (ws:List ByteArray) (h:0 < ws.length) (b:Bool) (hb:b=decide (isStoreW (at_ ws 0))):Ev (fun k=>parse_one.j1 k ws (at_ ws 0) b) (plainR ws):=by
  refine Ev.step (fun k=>parse_one.j1.eq_2 _ _ _ _) ?_
  subst hb
  by_cases hs:isStoreW (at_ ws 0)
  · simp only [decide_eq_true hs,if_true]
    unfold plainR
    rw [if_pos hs]
    exact Ev.bind (evStore ws h) (Ev.now _)
  · simp only [decide_eq_false hs,Bool.false_eq_true,if_false,eq_tl (at_ ws 0) incrW _ (tl _),eq_tl (at_ ws 0) decrW _ (tl _),beq_tl (at_ ws 0) incrW _ (tl _),beq_tl (at_ ws 0) decrW _ (tl _),beq_tl (at_ ws 0) touchW _ (tl _)]
    by_cases h1:at_ ws 0=incrW
    · simp only [if_pos h1];exact evOne2 ws h hs _ (decide_eq_decide.2 ⟨fun z=>.inl z,fun _=>h1⟩)
    · simp only [if_neg h1]
      by_cases h2:at_ ws 0=decrW
      · simp only [if_pos h2];exact evOne2 ws h hs _ (decide_eq_decide.2 ⟨fun z=>.inr (.inl z),fun _=>h2⟩)
      · simp only [if_neg h2];exact evOne2 ws h hs _ (decide_eq_decide.2 ⟨fun z=>.inr (.inr z),fun z=>z.elim (fun e=>absurd e h1) fun z=>z.elim (fun e=>absurd e h2) id⟩)
theorem evOne0 (ws:List ByteArray) (h:0 < ws.length):Ev (fun k=>parse_one.j0 k ws (at_ ws 0) false) (plainR ws):=by
  refine Ev.step (fun k=>parse_one.j0.eq_2 _ _ _ _) ?_
  simp only [Bool.false_eq_true,if_false,eq_tl (at_ ws 0) setW _ (tl _),eq_tl (at_ ws 0) addW _ (tl _),eq_tl (at_ ws 0) replaceW _ (tl _),eq_tl (at_ ws 0) appendW _ (tl _),eq_tl (at_ ws 0) prependW _ (tl _),beq_tl (at_ ws 0) setW _ (tl _),beq_tl (at_ ws 0) addW _ (tl _),beq_tl (at_ ws 0) replaceW _ (tl _),beq_tl (at_ ws 0) appendW _ (tl _),beq_tl (at_ ws 0) prependW _ (tl _),beq_tl (at_ ws 0) casW _ (tl _)]
  by_cases h1:at_ ws 0=setW
  · simp only [if_pos h1];exact evOne1 ws h _ (decide_eq_decide.2 ⟨fun z=>.inl z,fun _=>h1⟩)
  · simp only [if_neg h1]
    by_cases h2:at_ ws 0=addW
    · simp only [if_pos h2];exact evOne1 ws h _ (decide_eq_decide.2 ⟨fun z=>.inr (.inl z),fun _=>h2⟩)
    · simp only [if_neg h2]
      by_cases h3:at_ ws 0=replaceW
      · simp only [if_pos h3];exact evOne1 ws h _ (decide_eq_decide.2 ⟨fun z=>.inr (.inr (.inl z)),fun _=>h3⟩)
      · simp only [if_neg h3]
        by_cases h4:at_ ws 0=appendW
        · simp only [if_pos h4];exact evOne1 ws h _ (decide_eq_decide.2 ⟨fun z=>.inr (.inr (.inr (.inl z))),fun _=>h4⟩)
        · simp only [if_neg h4]
          by_cases h5:at_ ws 0=prependW
          · simp only [if_pos h5];exact evOne1 ws h _ (decide_eq_decide.2 ⟨fun z=>.inr (.inr (.inr (.inr (.inl z)))),fun _=>h5⟩)
          · simp only [if_neg h5];exact evOne1 ws h _ (decide_eq_decide.2 ⟨fun z=>.inr (.inr (.inr (.inr (.inr z)))),fun z=>z.elim (fun e=>absurd e h1) fun z=>z.elim (fun e=>absurd e h2) fun z=>z.elim (fun e=>absurd e h3) fun z=>z.elim (fun e=>absurd e h4) fun z=>z.elim (fun e=>absurd e h5) id⟩)
/-- What a line's words tell. -/
def lineX (ws:List ByteArray):Cx×Int:=
  match ws with
  | []=>(.pl (.bad errT),-1)
  | w::r=>
    if w=getW then (get1 false r,-1) else if w=getsW then (get1 true r,-1)
    else if w=gatW then (match r with | x::y::ks=>(getX (y::ks) false true (signF x.data.toList),-1) | _=>(badX,-1))
    else if w=gatsW then (match r with | x::y::ks=>(getX (y::ks) true true (signF x.data.toList),-1) | _=>(badX,-1))
    else (.pl (plainR (w::r)).1,(plainR (w::r)).2)
theorem evMap {α β:Type} {g:Nat→Option α} {a:α} (f:α→β) (h:Ev g a):Ev (fun k=>(g k).map f) (f a):=by
  obtain ⟨K,hK⟩:=h
  exact ⟨K,fun k hk=>by show (g k).map f=_;rw [hK k hk];rfl⟩
theorem ev_get2 (ca:Bool) (r:List ByteArray):Ev (fun k=>get2 k ca r) (match r with | x::y::ks=>getX (y::ks) ca true (signF x.data.toList) | _=>badX):=by
  match r with
  | []=>exact Ev.now _
  | [a]=>exact Ev.now _
  | a::b::ks=>exact evMap (fun sg=>getX (b::ks) ca true sg) (evSigned a)
theorem evPlain (s:ByteArray) (hs:s.size < 4000000000) (ws:List ByteArray) (hws:(wl [] s.data.toList).map ba=ws) (h:0 < ws.length) (hg:isGet (at_ ws 0)≠true):Ev (fun k=>parse_one.f k s) (plainR ws):=by
  unfold parse_one.f
  refine Ev.bind (hws▸evSplit s hs) ?_
  unfold isGet at hg
  simp only [ne_eq,Bool.or_eq_true,decide_eq_true_iff,not_or] at hg
  obtain ⟨⟨⟨g1,g2⟩,g3⟩,g4⟩:=hg
  have r0:rdOf ByteArray.empty ws 0=at_ ws 0:=rfl
  simp only [if_neg (show ¬ (ws.length:Int)=0 by omega),if_pos (show 0 < (ws.length:Int) by omega),r0,eq_tl (at_ ws 0) getW _ (tl _),eq_tl (at_ ws 0) getsW _ (tl _),eq_tl (at_ ws 0) gatW _ (tl _),beq_tl (at_ ws 0) gatsW _ (tl _),if_neg g1,if_neg g2,if_neg g3,decide_eq_false g4]
  exact evOne0 ws h
theorem evOneF (s:ByteArray) (hs:s.size < 4000000000):Ev (fun k=>oneF k s) (lineX ((wl [] s.data.toList).map ba)):=by
  generalize hws:(wl [] s.data.toList).map ba=ws
  unfold oneF
  refine Ev.bind (hws▸evSplit s hs) ?_
  match ws,hws with
  | [],hws=>
    have hp:Ev (fun k=>parse_one.f k s) (Cm.bad errT,(-1:Int)):=by
      unfold parse_one.f
      refine Ev.bind (hws▸evSplit s hs) ?_
      simp only [List.length_nil,Int.natCast_zero,if_true,parse_bad.f,Option.bind_some]
      exact Ev.now _
    exact evMap (fun p:Cm×Int=>(Cx.pl p.1,p.2)) hp
  | w::r,hws=>
    by_cases hg:isGet w=true
    · simp only [if_pos hg,lineX,getLine]
      unfold isGet at hg
      simp only [Bool.or_eq_true,decide_eq_true_iff] at hg
      by_cases g1:w=getW
      · simp only [if_pos g1];exact evMap (fun x:Cx=>(x,(-1:Int))) (Ev.now _)
      · simp only [if_neg g1]
        by_cases g2:w=getsW
        · simp only [if_pos g2];exact evMap (fun x:Cx=>(x,(-1:Int))) (Ev.now _)
        · simp only [if_neg g2]
          by_cases g3:w=gatW
          · simp only [if_pos g3]
            have h:=evMap (fun x:Cx=>(x,(-1:Int))) (ev_get2 false r)
            match r,h with
            | [],h=>exact h
            | [a],h=>exact h
            | a::b::ks,h=>exact h
          · simp only [if_neg g3]
            have g4:w=gatsW:=by
              rcases hg with ((h | h) | h) | h
              · exact absurd h g1
              · exact absurd h g2
              · exact absurd h g3
              · exact h
            simp only [if_pos g4]
            have h:=evMap (fun x:Cx=>(x,(-1:Int))) (ev_get2 true r)
            match r,h with
            | [],h=>exact h
            | [a],h=>exact h
            | a::b::ks,h=>exact h
    · simp only [if_neg hg,lineX]
      have hg2:=hg
      unfold isGet at hg2
      simp only [Bool.or_eq_true,decide_eq_true_iff,not_or] at hg2
      obtain ⟨⟨⟨g1,g2⟩,g3⟩,g4⟩:=hg2
      rw [if_neg g1,if_neg g2,if_neg g3,if_neg g4]
      exact evMap (fun p:Cm×Int=>(Cx.pl p.1,p.2)) (evPlain s hs (w::r) hws (by simp) hg)
end Go.Proofs.YtfbhlbchmenloaaGreatDoor.Pure
end
section
namespace Go.Proofs.YtfbhlbchmenloaaGreatDoor.Pure
open Go Go.RowKit Go.Proofs.YtfbhlbchmenloaaGreatDoorW.PrintWords Go.Proofs.YtfbhlbchmenloaaGreatDoor.H Go.Proofs.YtfbhlbchmenloaaGreatDoor.L
set_option linter.unusedSimpArgs false
set_option linter.unusedVariables false
/-! Where a byte 10 is. -/
theorem ib_app (c:UInt8):∀ l r:List UInt8,Lib.indexByte (l++r) c=if Lib.indexByte l c < 0 then (if Lib.indexByte r c < 0 then -1 else l.length + Lib.indexByte r c) else Lib.indexByte l c
  | [],r=>by
    have:=Lib.indexByte_ge r c
    simp only [List.nil_append,Lib.indexByte,List.length_nil]
    rw [if_pos (by decide)]
    split<;>omega
  | b::l,r=>by
    have ih:=ib_app c l r
    have h1:=Lib.indexByte_ge l c
    have h2:=Lib.indexByte_ge r c
    simp only [List.cons_append,Lib.indexByte]
    by_cases hb:(b==c)=true
    · simp [hb]
    · simp only [hb,Bool.false_eq_true,if_false,ih,beq_iff_eq]
      by_cases h3:Lib.indexByte l c < 0
      · rw [if_pos h3]
        have h3':Lib.indexByte l c=-1:=by omega
        rw [h3']
        by_cases h4:Lib.indexByte r c < 0
        · simp [h4]
        · simp only [if_neg h4,List.length_cons]
          simp only [if_true,show ((-1:Int) < 0) from by decide]
          rw [if_neg (by omega)]
          omega
      · simp only [if_neg h3,if_neg (show ¬ Lib.indexByte l c=-1 by omega)]
        rw [if_neg (by omega)]
theorem ib_lt (c:UInt8):∀ l:List UInt8,Lib.indexByte l c < l.length
  | []=>by simp [Lib.indexByte]
  | b::l=>by
    have ih:=ib_lt c l
    simp only [Lib.indexByte,List.length_cons]
    split
    · omega
    · split<;>omega
theorem bytesOf_len (b:List Int):(Lib.bytesOf b).length=b.length:=by unfold Lib.bytesOf;rw [List.length_map]
theorem idx_lt (b:List Int):idx10 b < b.length:=by
  have:=ib_lt 10 (Lib.bytesOf b)
  rw [bytesOf_len] at this
  exact this
theorem idx_app (b l:List Int):idx10 (b++l)=if idx10 b < 0 then (if idx10 l < 0 then -1 else b.length + idx10 l) else idx10 b:=by
  unfold idx10
  rw [show Lib.bytesOf (b++l)=Lib.bytesOf b++Lib.bytesOf l from List.map_append,ib_app,bytesOf_len]
/-! What is passed over. -/
def nrm (ps:PS):PS:=(psPass ps).2
theorem nrm_off {ps:PS} (h:ps.skip=false):nrm ps=ps:=by unfold nrm psPass;rw [if_pos h]
theorem nrm_wait {ps:PS} (h:ps.skip=true) (hi:idx10 ps.b < 0):nrm ps={ ps with b:=[] }:=by
  unfold nrm psPass psUse
  rw [if_neg (by rw [h];decide),if_pos hi,List.drop_length]
theorem nrm_on {ps:PS} (h:ps.skip=true) (hi:¬ idx10 ps.b < 0):nrm ps={ ps with b:=ps.b.drop ((idx10 ps.b).toNat + 1),skip:=false }:=by
  unfold nrm psPass psUse
  rw [if_neg (by rw [h];decide),if_neg hi]
theorem pass_1 (ps:PS):(psPass ps).1=!(nrm ps).skip:=by
  cases h:ps.skip with
  | false=>rw [nrm_off h,h];unfold psPass;rw [if_pos h];rfl
  | true=>
    by_cases hi:idx10 ps.b < 0
    · rw [nrm_wait h hi];unfold psPass;rw [if_neg (by rw [h];decide),if_pos hi];simp [h]
    · rw [nrm_on h hi];unfold psPass;rw [if_neg (by rw [h];decide),if_neg hi];rfl
theorem nrm_c (ps:PS):(nrm ps).c=ps.c∧(nrm ps).n=ps.n∧(nrm ps).b.length≤ps.b.length:=by
  cases h:ps.skip with
  | false=>rw [nrm_off h];exact ⟨rfl,rfl,Nat.le_refl _⟩
  | true=>
    by_cases hi:idx10 ps.b < 0
    · rw [nrm_wait h hi];exact ⟨rfl,rfl,Nat.zero_le _⟩
    · rw [nrm_on h hi];exact ⟨rfl,rfl,by rw [List.length_drop];omega⟩
/-! The next command. -/
def lineT (q:PS):Cx×Int:=lineX ((wl [] (strOfNums (lineL q)).data.toList).map ba)
def dataR (ps:PS):Cx×Bool×PS:=(.pl (psData ps ps.n.toNat).1,(psData ps ps.n.toNat).2.1,(psData ps ps.n.toNat).2.2)
def pend (q:PS):PS:={ psUse q ((idx10 q.b).toNat + 1) with c:=(match (lineT q).1 with | .pl c=>c | _=>.nil),n:=(lineT q).2 }
def nextN (q:PS):Cx×Bool×PS:=
  if q.skip=true then (.pl .nil,false,q)
  else if isNil q.c=true then
    (if idx10 q.b < 0 then (if 2048 < (trimL q.b).length then (.pl (.bad textLong),true,{ q with b:=[],skip:=true }) else (.pl .nil,false,q))
    else if 2048 < (lineL q).length then (.pl (.bad textLong),true,psUse q ((idx10 q.b).toNat + 1))
    else if (lineT q).2=-1 then ((lineT q).1,true,psUse q ((idx10 q.b).toNat + 1))
    else dataR (pend q))
  else dataR q
def nextR (ps:PS):Cx×Bool×PS:=nextN (nrm ps)
def OkL (p:Cm×Int):Prop:=isNil p.1=false∧(p.2=-1∨0≤p.2)∧(toD p.1).keys.length≤64
theorem okL_ite {c:Prop} [Decidable c] {a b:Cm×Int} (ha:OkL a) (hb:OkL b):OkL (if c then a else b):=by split<;>assumption
theorem okL_bad (t:ByteArray):OkL (.bad t,-1):=⟨rfl,.inl rfl,by simp [toD]⟩
theorem okL_store (ws:List ByteArray) (six:Bool):OkL (storeP ws six):=by
  unfold storeP
  refine okL_ite (okL_bad _) (okL_ite (okL_bad _) (okL_ite (okL_ite ⟨rfl,.inr (numF_range _).1,by simp [toD]⟩ ⟨rfl,.inr (numF_range _).1,by simp [toD]⟩) (okL_bad _)))
theorem okL_plain (ws:List ByteArray):OkL (plainR ws):=by
  unfold plainR
  refine okL_ite (okL_store _ _) (okL_ite ?_ (okL_ite ?_ (okL_ite ?_ (okL_ite ?_ (okL_bad _)))))
  · unfold keyedR
    exact okL_ite (okL_bad _) (okL_ite (okL_bad _) (okL_ite (okL_ite ⟨rfl,.inl rfl,by simp [toD]⟩ (okL_bad _)) (okL_ite ⟨rfl,.inl rfl,by simp [toD]⟩ (okL_bad _))))
  · unfold deleteR
    exact okL_ite (okL_ite ⟨rfl,.inl rfl,by simp [toD]⟩ (okL_bad _)) (okL_bad _)
  · unfold flushR
    exact okL_ite ⟨rfl,.inl rfl,by simp [toD]⟩ (okL_bad _)
  · unfold wordR
    exact okL_ite ⟨rfl,.inl rfl,by simp [toD]⟩ (okL_bad _)
def OkX (p:Cx×Int):Prop:=isNilX p.1=false∧(p.2=-1∨0≤p.2∧∃ c,p.1=.pl c∧isNil c=false)∧(toX p.1).keys.length≤64
theorem okX_bad:OkX (badX,-1):=⟨rfl,.inl rfl,by simp [badX,toX,toD]⟩
theorem okX_get (ks:List ByteArray) (ca t:Bool) (sg:Int×Bool):OkX (getX ks ca t sg,-1):=by
  unfold getX
  by_cases h:ks.any (fun k=>!keyF k)=true∨64 < ks.length
  · rw [if_pos h];exact ⟨rfl,.inl rfl,by simp [toX,toD]⟩
  · rw [if_neg h]
    have h2:¬ 64 < ks.length:=fun z=>h (.inr z)
    match sg with
    | (e,true)=>exact ⟨rfl,.inl rfl,by simp only [toX,Go.Proofs.YtfbhlbchmenloaaGreatDoor.H.getD];omega⟩
    | (_,false)=>exact ⟨rfl,.inl rfl,by simp [toX,toD]⟩
theorem okX_get1 (ca:Bool) (r:List ByteArray):OkX (get1 ca r,-1):=by
  unfold get1
  split
  · exact okX_bad
  · exact okX_get _ _ _ _
theorem okX_line (ws:List ByteArray):OkX (lineX ws):=by
  unfold lineX
  match ws with
  | []=>exact okX_bad
  | w::r=>
    have hp:=okL_plain (w::r)
    simp only
    by_cases g1:w=getW
    · rw [if_pos g1];exact okX_get1 _ _
    · rw [if_neg g1]
      by_cases g2:w=getsW
      · rw [if_pos g2];exact okX_get1 _ _
      · rw [if_neg g2]
        by_cases g3:w=gatW
        · rw [if_pos g3]
          match r with
          | []=>exact okX_bad
          | [a]=>exact okX_bad
          | a::b::ks=>exact okX_get _ _ _ _
        · rw [if_neg g3]
          by_cases g4:w=gatsW
          · rw [if_pos g4]
            match r with
            | []=>exact okX_bad
            | [a]=>exact okX_bad
            | a::b::ks=>exact okX_get _ _ _ _
          · rw [if_neg g4]
            exact ⟨hp.1,hp.2.1.imp id (fun h=>⟨h,_,rfl,hp.1⟩),hp.2.2⟩
/-- A command that waits has a length. -/
def Inv (ps:PS):Prop:=isNil ps.c=false→0≤ps.n
theorem Inv.nrm {ps:PS} (h:Inv ps):Inv (nrm ps):=by
  obtain ⟨h1,h2,_⟩:=nrm_c ps
  unfold Inv
  rw [h1,h2]
  exact h
theorem Inv.feed {ps:PS} (h:Inv ps) (l:List Int):Inv (psFeed ps l):=h
theorem pend_ok (q:PS) (h:¬ (lineT q).2=-1):0≤(pend q).n∧isNil (pend q).c=false∧(pend q).skip=q.skip:=by
  obtain ⟨h1,h2,_⟩:=okX_line ((wl [] (strOfNums (lineL q)).data.toList).map ba)
  rcases h2 with h2 | ⟨h2,c,hc,hn⟩
  · exact absurd h2 h
  · refine ⟨h2,?_,rfl⟩
    unfold pend lineT
    rw [hc]
    exact hn
theorem data_some {ps:PS} (h:0≤ps.n):dataX ps=some (dataR ps):=by unfold dataX dataR;rw [if_pos h]
theorem next_is (ps:PS) (hI:Inv ps) (x:Cx) (n:Int) (hx:needsLine ps=true→(x,n)=lineT (nrm ps)):psNext ps x n=some (nextR ps):=by
  have hN:=hI.nrm
  unfold psNext nextR nextN
  rw [pass_1]
  show (if (!(nrm ps).skip)=false then some (Cx.pl .nil,false,nrm ps) else if isNil (nrm ps).c=true then (if (psLine (nrm ps) x n).2.1=false∨isNilX (psLine (nrm ps) x n).1=false then some (psLine (nrm ps) x n) else dataX (psLine (nrm ps) x n).2.2) else dataX (nrm ps))=_
  have hx:¬ idx10 (nrm ps).b < 0→¬ 2048 < (lineL (nrm ps)).length→(x,n)=lineT (nrm ps):=fun h1 h2=>hx (by
    unfold needsLine
    rw [show (psPass ps).2=nrm ps from rfl]
    simp [h1,h2])
  generalize nrm ps=q at *
  cases hs:q.skip with
  | true=>simp
  | false=>
    simp only [Bool.not_false,Bool.true_eq_false,if_false,Bool.false_eq_true]
    by_cases hc:isNil q.c=true
    · simp only [if_pos hc]
      unfold psLine
      by_cases h1:idx10 q.b < 0
      · simp only [if_pos h1]
        by_cases h2:2048 < (trimL q.b).length
        · simp only [if_pos h2]
          rw [if_pos (.inr rfl)]
          unfold psUse
          rw [List.drop_length]
        · simp only [if_neg h2,true_or,if_true]
      · simp only [if_neg h1]
        by_cases h2:2048 < (lineL q).length
        · simp only [if_pos h2]
          rw [if_pos (.inr rfl)]
        · simp only [if_neg h2]
          have hxn:=hx h1 h2
          have e1:x=(lineT q).1:=by rw [← hxn]
          have e2:n=(lineT q).2:=by rw [← hxn]
          subst e1 e2
          obtain ⟨h3,_⟩:=okX_line ((wl [] (strOfNums (lineL q)).data.toList).map ba)
          by_cases h4:(lineT q).2=-1
          · simp only [if_pos h4]
            rw [if_pos (.inr h3)]
          · simp only [if_neg h4,Bool.true_eq_false,isNilX,isNil,or_self,if_false]
            exact data_some (pend_ok q h4).1
    · simp only [if_neg hc]
      exact data_some (hN (by simpa using hc))
theorem sos_size (b:List Int):(strOfNums b).size=b.length:=by unfold strOfNums;simp [ByteArray.size]
theorem evNext (ps:PS) (hI:Inv ps):Ev (fun k=>parse_Next.f k ps) (outP (toX (nextR ps).1) (nextR ps).2.1 (nextR ps).2.2):=by
  unfold parse_Next.f
  by_cases h:needsLine ps=true
  · simp only [if_pos h]
    have hz:(lineL (psPass ps).2).length≤2048:=by
      unfold needsLine at h
      simp at h
      omega
    refine Ev.bind (a:=lineT (nrm ps)) (evOneF (strOfNums (lineL (psPass ps).2)) (by rw [sos_size];omega)) ?_
    have e:=next_is ps hI (lineT (nrm ps)).1 (lineT (nrm ps)).2 (fun _=>rfl)
    simp only [e]
    exact Ev.now _
  · simp only [if_neg h,Option.bind_some]
    rw [next_is ps hI _ _ (fun e=>absurd e h)]
    exact Ev.now _
/-! What is fed later. -/
/-! All that is told till nothing more comes. -/
/-! It ends. -/
/-! What stays true. -/
theorem next_keys (ps:PS):(toX (nextR ps).1).keys.length≤64:=by
  have hp:∀ c:Cm,(toX (.pl c)).keys.length≤64:=fun c=>by cases c<;>simp [toX,toD]
  unfold nextR
  generalize nrm ps=q at *
  unfold nextN
  by_cases hs:q.skip=true
  · rw [if_pos hs];exact hp _
  · rw [if_neg hs]
    by_cases hc:isNil q.c=true
    · rw [if_pos hc]
      by_cases h1:idx10 q.b < 0
      · rw [if_pos h1]
        by_cases h2:2048 < (trimL q.b).length
        · rw [if_pos h2];exact hp _
        · rw [if_neg h2];exact hp _
      · rw [if_neg h1]
        by_cases h2:2048 < (lineL q).length
        · rw [if_pos h2];exact hp _
        · rw [if_neg h2]
          by_cases h3:(lineT q).2=-1
          · rw [if_pos h3];exact (okX_line _).2.2
          · rw [if_neg h3];exact hp _
    · rw [if_neg hc];exact hp _
end Go.Proofs.YtfbhlbchmenloaaGreatDoor.Pure
end
section
namespace Go.Proofs.YtfbhlbchmenloaaGreatDoor.Pure
open Go Go.RowKit Go.Proofs.YtfbhlbchmenloaaGreatDoorW.PrintWords Go.Proofs.YtfbhlbchmenloaaGreatDoor.H Go.Proofs.YtfbhlbchmenloaaGreatDoor.L
set_option linter.unusedSimpArgs false
set_option linter.unusedVariables false
theorem u8_nat (c:UInt8):UInt8.ofNat ((c.toNat:Int)).toNat=c:=by rw [Int.toNat_natCast,UInt8.ofNat_toNat]
theorem back_bytes (s:ByteArray):Lib.bytesOf (bytesOf s)=s.data.toList:=by
  unfold Lib.bytesOf bytesOf
  rw [List.map_map]
  conv=>rhs;rw [← List.map_id s.data.toList]
  exact List.map_congr_left fun c _=>u8_nat c
theorem back_str (s:ByteArray):strOfNums (bytesOf s)=s:=by
  refine ba_ext ?_
  have h:=Lib.strOfNums_toList (bytesOf s)
  rw [tl] at h
  rw [h,back_bytes]
theorem bytes_len (s:ByteArray):(bytesOf s).length=s.size:=by
  unfold bytesOf
  rw [List.length_map]
  exact len_eq s
theorem bytes_app (a b:ByteArray):bytesOf (a++b)=bytesOf a++bytesOf b:=by
  unfold bytesOf
  rw [ByteArray.data_append,Array.toList_append,List.map_append]
/-- A text without one of the bytes. -/
def Lacks (c:UInt8) (s:ByteArray):Prop:=∀ x∈s.data.toList,x≠c
theorem ib_none (c:UInt8):∀ l:List UInt8,(∀ x∈l,x≠c)→Lib.indexByte l c=-1
  | [],_=>rfl
  | b::l,h=>by
    have hb:(b==c)=false:=beq_eq_false_iff_ne.mpr (h b (List.mem_cons_self ..))
    have ih:=ib_none c l fun x hx=>h x (List.mem_cons_of_mem _ hx)
    simp [Lib.indexByte,hb,ih]
theorem idx_lacks {s:ByteArray} (h:Lacks 10 s):idx10 (bytesOf s)=-1:=by
  unfold idx10
  rw [back_bytes]
  exact ib_none 10 _ h
theorem idx_line {s:ByteArray} (h:Lacks 10 s) (l:List Int):idx10 (bytesOf s++10::l)=(s.size:Int):=by
  rw [idx_app,idx_lacks h,if_pos (by decide)]
  have h0:idx10 (10::l)=0:=by
    unfold idx10 Lib.bytesOf
    rw [List.map_cons]
    simp [Lib.indexByte]
  rw [h0,if_neg (by decide),bytes_len]
  omega
/-- A line without the byte 13 at its end. -/
def cutR (s:ByteArray):ByteArray:=strOfNums (trimL (bytesOf s))
def lineW (s:ByteArray):Cx×Int:=lineX (((wl [] (cutR s).data.toList).map ba))
theorem next_line {s:ByteArray} (h:Lacks 10 s) (hs:(trimL (bytesOf s)).length≤2048) (l:List Int) (m:Int) :
    nextR ⟨bytesOf s++10::l,false,.nil,m⟩=if (lineW s).2=-1 then ((lineW s).1,true,⟨l,false,.nil,m⟩) else dataR ⟨l,false,(match (lineW s).1 with | .pl c=>c | _=>.nil),(lineW s).2⟩:=by
  have hi:=idx_line h l
  have hL:lineL ⟨bytesOf s++10::l,false,.nil,m⟩=trimL (bytesOf s):=by
    unfold lineL
    rw [hi,Int.toNat_natCast,← bytes_len s,List.take_left']
    rfl
  have hT:lineT ⟨bytesOf s++10::l,false,.nil,m⟩=lineW s:=by
    unfold lineT lineW cutR
    rw [hL]
  have hU:∀ c n,({ psUse ⟨bytesOf s++10::l,false,.nil,m⟩ ((s.size:Int).toNat + 1) with c:=c,n:=n }:PS)=⟨l,false,c,n⟩:=by
    intro c n
    unfold psUse
    simp only [PS.mk.injEq,and_true,true_and]
    rw [Int.toNat_natCast,← bytes_len s,show (bytesOf s).length + 1=(bytesOf s++[10]).length by simp,show bytesOf s++10::l=(bytesOf s++[10])++l by simp,List.drop_left]
  have hP:pend ⟨bytesOf s++10::l,false,.nil,m⟩=⟨l,false,(match (lineW s).1 with | .pl c=>c | _=>.nil),(lineW s).2⟩:=by
    unfold pend
    rw [hT]
    simp only [hi]
    exact hU _ _
  unfold nextR
  rw [nrm_off rfl]
  unfold nextN
  rw [if_neg (by simp),if_pos (by rfl)]
  simp only [hi]
  rw [if_neg (by omega),if_neg (by rw [hL];omega),hT,hP]
  have hU2:=hU .nil m
  by_cases hn:(lineW s).2=-1
  · rw [if_pos hn,if_pos hn]
    rw [show psUse ⟨bytesOf s++10::l,false,.nil,m⟩ ((s.size:Int).toNat + 1)=⟨l,false,.nil,m⟩ from hU2]
  · rw [if_neg hn,if_neg hn]
theorem suffix_last (l:List Int) (x:Int):Lib.hasSuffix (Lib.bytesOf (l++[x])) [13]=decide (UInt8.ofNat x.toNat=13):=by
  unfold Lib.hasSuffix Lib.bytesOf
  rw [List.map_append,List.map_cons,List.map_nil]
  unfold List.isSuffixOf
  rw [List.reverse_append,List.reverse_cons,List.reverse_nil,List.nil_append,List.reverse_cons,List.reverse_nil,List.nil_append,List.singleton_append]
  unfold List.isPrefixOf
  rw [List.isPrefixOf]
  rw [Bool.eq_iff_iff]
  simp only [Bool.and_true,beq_iff_eq,decide_eq_true_iff]
  exact ⟨Eq.symm,Eq.symm⟩
theorem trim_cr (l:List Int):trimL (l++[13])=l:=by
  unfold trimL
  rw [suffix_last,if_pos (by decide)]
  simp
theorem numG_snoc (c:UInt8) (d:Nat) (hc:c.toNat=48 + d) (hd:d < 10) (m:Nat):∀ (l:List UInt8) (a:Nat),numG a l=((m:Int),true)→m * 10 + d < 18446744073709551616→numG a (l++[c])=(((m * 10 + d:Nat):Int),true)
  | [],a,h,hm=>by
    have ha:a=m:=by simp [numG] at h;omega
    subst ha
    simp only [List.nil_append,numG]
    rw [if_pos (by omega),if_neg (by omega),hc]
    rw [show 48 + d - 48=d by omega]
  | b::r,a,h,hm=>by
    simp only [List.cons_append,numG] at h ⊢
    by_cases h1:48≤b.toNat∧b.toNat≤57
    · rw [if_pos h1] at h ⊢
      by_cases h2:1844674407370955161 < a∨(a=1844674407370955161∧5 < b.toNat - 48)
      · rw [if_pos h2] at h;simp at h
      · rw [if_neg h2] at h ⊢
        exact numG_snoc c d hc hd m r _ h hm
    · rw [if_neg h1] at h;simp at h
theorem dig_num (d:Nat) (h:d < 10):(UInt8.ofNat (48 + d)).toNat=48 + d:=by rw [UInt8.toNat_ofNat',Nat.mod_eq_of_lt (by omega)]
theorem numG_dec (n:Nat) (h:n < 18446744073709551616):numG 0 (Lib.decDigits n)=((n:Int),true):=by
  induction n using Nat.strongRecOn with
  | _ n ih=>
    rw [Lib.decDigits]
    by_cases h1:n < 10
    · rw [dif_pos h1]
      simp only [numG]
      rw [dig_num n h1,if_pos (by omega),if_neg (by omega)]
      simp
    · rw [dif_neg h1]
      have:=numG_snoc (UInt8.ofNat (48 + n % 10)) (n % 10) (dig_num _ (by omega)) (by omega) (n / 10) _ 0 (ih (n / 10) (by omega) (by omega)) (by omega)
      rw [this]
      congr 1
      omega
theorem numG_zeros (l:List UInt8):∀ z:Nat,numG 0 (List.replicate z 48++l)=numG 0 l
  | 0=>rfl
  | z + 1=>by
    rw [List.replicate_succ,List.cons_append]
    simp only [numG]
    rw [if_pos (by decide),if_neg (by decide)]
    exact numG_zeros l z
theorem dec_len (n:Nat) (h:n < 18446744073709551616):1≤(Lib.decDigits n).length∧(Lib.decDigits n).length≤20:=by
  rw [Lib.decDigits_length]
  refine ⟨Lib.nDigits_pos n,?_⟩
  by_cases hz:n=0
  · subst hz;rw [Lib.nDigits_small (by omega)];omega
  · have:=Lib.numDigits_eq n (by omega) h
    split at this<;>omega
theorem numF_dec (n z:Nat) (h:n < 18446744073709551616) (hz:z + (Lib.decDigits n).length≤20):numF (List.replicate z 48++Lib.decDigits n)=((n:Int),true):=by
  have hl:=dec_len n h
  rw [numF_eq,if_neg (by rw [List.length_append,List.length_replicate];omega),numG_zeros,numG_dec n h]

theorem dec_mem (n:Nat):∀ c∈Lib.decDigits n,48≤c.toNat∧c.toNat≤57:=by
  induction n using Nat.strongRecOn with
  | _ n ih=>
    intro c hc
    rw [Lib.decDigits] at hc
    split at hc
    · rename_i h
      obtain rfl:=List.mem_singleton.1 hc
      simp only [UInt8.toNat_ofNat']
      omega
    · rename_i h
      rcases List.mem_append.1 hc with hc | hc
      · exact ih (n / 10) (by omega) c hc
      · obtain rfl:=List.mem_singleton.1 hc
        simp only [UInt8.toNat_ofNat']
        omega
theorem dec_ne (n:Nat) (z:UInt8) (hz:z.toNat < 48):∀ c∈Lib.decDigits n,c≠z:=fun c hc e=>by
  have:=dec_mem n c hc
  rw [e] at this
  omega

/-! The line of a set. -/
def crB:ByteArray:=⟨#[13]⟩
theorem num_digits (n:Nat) (h:n < 18446744073709551616):numF (ba (Lib.decDigits n)).data.toList=((n:Int),true):=by
  have hl:=dec_len n h
  have hf:=numF_dec n 0 h (by omega)
  rw [List.replicate_zero,List.nil_append] at hf
  rw [ba_toList,hf]
theorem lacks_app {c:UInt8} {a b:ByteArray} (ha:Lacks c a) (hb:Lacks c b):Lacks c (a++b):=by
  intro x hx
  rw [ByteArray.data_append,Array.toList_append] at hx
  rcases List.mem_append.1 hx with h | h
  · exact ha x h
  · exact hb x h
theorem cr_lacks:Lacks 10 crB:=by
  unfold Lacks crB
  decide
theorem trim_crB (s:ByteArray):trimL (bytesOf (s++crB))=bytesOf s:=by
  rw [bytes_app]
  exact trim_cr _
theorem cut_cr (s:ByteArray):cutR (s++crB)=s:=by
  unfold cutR
  rw [trim_crB,back_str]
theorem line_cr (s:ByteArray):lineW (s++crB)=lineX ((wl [] s.data.toList).map ba):=by
  unfold lineW
  rw [cut_cr]
/-- A line with 13 10 at its end. -/
theorem next_crlf {s:ByteArray} (h:Lacks 10 s) (hs:s.size≤2048) (l:List Int) (m:Int) :
    nextR ⟨bytesOf s++13::10::l,false,.nil,m⟩=if (lineX ((wl [] s.data.toList).map ba)).2=-1 then ((lineX ((wl [] s.data.toList).map ba)).1,true,⟨l,false,.nil,m⟩) else dataR ⟨l,false,(match (lineX ((wl [] s.data.toList).map ba)).1 with | .pl c=>c | _=>.nil),(lineX ((wl [] s.data.toList).map ba)).2⟩:=by
  have e:=next_line (lacks_app h cr_lacks) (by rw [trim_crB,bytes_len];exact hs) l m
  rw [line_cr,bytes_app,show bytesOf crB=[13] from rfl,List.append_assoc] at e
  exact e
/-! Data awaited. -/
theorem data_crlf (l r:List Int) (s:Bool) (c:Cm):dataR ⟨l++13::10::r,s,c,(l.length:Int)⟩=(.pl (withData c (strOfNums l)),true,⟨r,s,.nil,(l.length:Int)⟩):=by
  have e:psEnd (l++13::10::r) l.length=2:=by
    unfold psEnd
    rw [if_neg (by simp),show (l++13::10::r).getD l.length 0=13 by rw [List.getD_eq_getElem?_getD,List.getElem?_append_right (Nat.le_refl _)];simp,if_neg (by decide),if_neg (by decide),if_neg (by simp),show (l++13::10::r).getD (l.length + 1) 0=10 by rw [List.getD_eq_getElem?_getD,List.getElem?_append_right (by omega)];simp,if_pos rfl]
  unfold dataR psData
  simp only [Int.toNat_natCast,e]
  rw [if_neg (by decide),if_neg (by decide)]
  simp
/-! Bytes that are passed over. -/
end Go.Proofs.YtfbhlbchmenloaaGreatDoor.Pure
end
section
namespace Go.Proofs.YtfbhlbchmenloaaGreatDoor.H
open Go.RowKit Go.Proofs.YtfbhlbchmenloaaGreatDoorW.PrintWords Go.Proofs.YtfbhlbchmenloaaGreatDoorW.PrintLast Go.Proofs.YtfbhlbchmenloaaGreatDoorW.PrintMore
attribute [local go_sem] max2_int min2_int max_two min_two max_three min_three max_four min_four   -- for this text's walks alone
set_option linter.unusedVariables false
set_option linter.unusedSimpArgs false

/-! ### cellaretref17_Is: function 18 -/
def cellaretref17_Is.f (a0_0:ByteArray) (a0_1:ByteArray) (l0_2:List ByteArray) (a0_3:ByteArray) (a0_4:Int) (a0_5:Int) (a0_6:Int) (a0_7:Int) (a0_8:Bool) (a0_9:Bool) (a0_10:Bool) (a0_11:Bool) (a1:ByteArray) (a2:ByteArray):Option (Bool):=if a0_0.toList=a1.toList then (if a0_1.toList=a2.toList then (some ((l0_2.length:Int)==0)) else (some false)) else (some false)
theorem bBY7 {B:Nat} {w W:World} (h:Below B w W:=by repeat (first | (with_reducible first | exact HB.out | apply wA | apply wN | apply wD | refine below_set ?_ qC.out) | exact HB.out)):Below B w W:=h
set_option maxHeartbeats 8000000 in
set_option maxRecDepth 100000 in
theorem cellaretref17_Is.calls (a0_0:ByteArray) (a0_1:ByteArray) (A0_2:Option Addr) (c0_2:Nat) (l0_2:List ByteArray) (a0_3:ByteArray) (a0_4:Int) (a0_5:Int) (a0_6:Int) (a0_7:Int) (a0_8:Bool) (a0_9:Bool) (a0_10:Bool) (a0_11:Bool) (a1:ByteArray) (a2:ByteArray) (r:Bool) (w:World) (hr0_2:Kd.C Kd.string w A0_2 l0_2.length l0_2) (hc0_2:l0_2.length≤c0_2) (h:cellaretref17_Is.f a0_0 a0_1 l0_2 a0_3 a0_4 a0_5 a0_6 a0_7 a0_8 a0_9 a0_10 a0_11 a1 a2=some r) :
  Calls Tryz.prog 18 #[.agg #[.string a0_0,.string a0_1,.slice A0_2 l0_2.length c0_2,.string a0_3,.int .u32 a0_4,.int .i64 a0_5,.int .u64 a0_6,.int .u64 a0_7,.bool a0_8,.bool a0_9,.bool a0_10,.bool a0_11],.string a1,.string a2] w fun e w'=>e=.returned (.bool r)∧Below w.heap.size w w':=by
 have hu29:=Tryz.underlying29
 have HR0_2:=M0 hr0_2
 have HC0_2:=M0 hc0_2
 clear hr0_2 hc0_2
 have HB:=M0 (Below.refl w.heap.size w)
 have H:(if a0_0.toList=a1.toList then (if a0_1.toList=a2.toList then (some ((l0_2.length:Int)==0)) else (some false)) else (some false))=some r:=h
 clear h
 by_cases c4:a0_0.toList=a1.toList
 ·rw [if_pos c4] at H
  have c4b0:(a0_0.toList==a1.toList)=true:=beq_iff_eq.mpr c4
  have c4b1:(a0_0.toList != a1.toList)=false:=bne_eq_false_iff_eq.mpr c4
  clear c4
  by_cases c5:a0_1.toList=a2.toList
  ·rw [if_pos c5] at H
   have c5b0:(a0_1.toList==a2.toList)=true:=beq_iff_eq.mpr c5
   have c5b1:(a0_1.toList != a2.toList)=false:=bne_eq_false_iff_eq.mpr c5
   clear c5
   obtain rfl:=Option.some.inj H
   go_enter Tryz.func18,Tryz.ntmps18
   go_wp2_with (first | ((with_reducible refine gate_dst (N:=3) rfl ?_);(try (refine gate_guard (by rfl) ?_;dsimp only));refine box_event ?hg (N:=3) ?hd (cs:=#[.string a0_0,.string a0_1,.slice A0_2 l0_2.length c0_2,.string a0_3,.int .u32 a0_4,.int .i64 a0_5,.int .u64 a0_6,.int .u64 a0_7,.bool a0_8,.bool a0_9,.bool a0_10,.bool a0_11]) (t:=29) ?hr ?_;(case hd=>rfl);(case hg=>rfl);(case hr=>first | (go_simp;done) | (go_simp;rfl));intro qA hg w6 hbox hb;have n0_:=M0 (below_step bBY7 hb);have n1_:=M0 (hbox);have n2_:=M0 ((by rw [hg];exact (below_size bBY7):w.heap.size≤qA));have n3_:=M0 ((by rw [hg];exact (below_size bBY7):w.heap.size≤qA));clear HB;have HB:=n0_;have qB:=n1_;have GW114:=n2_;have qC:=n3_;clear n0_ n1_ n2_ n3_;clear hb hbox hg;obtain ⟨qj,qk,ql,qm,qn,qo,qp,qq,qr,qs,qH,qI⟩:=celL qB.out;obtain ⟨qt,qu,qv,qw,qx,qy,qz,qAA,qAB,qAC,qJ,qK⟩:=froZ qB.out))
   go_ret
   exact ⟨by first | rfl | (simp [errW_none,errW_some]<;>rfl) | (simp [*,errW_none,errW_some]<;>rfl),bBY7⟩
  ·rw [if_neg c5] at H
   have c5b0:(a0_1.toList==a2.toList)=false:=beq_eq_false_iff_ne.mpr c5
   have c5b1:(a0_1.toList != a2.toList)=true:=bne_iff_ne.mpr c5
   obtain rfl:=Option.some.inj H
   go_enter Tryz.func18,Tryz.ntmps18
   go_wp2_with (first | ((with_reducible refine gate_dst (N:=3) rfl ?_);(try (refine gate_guard (by rfl) ?_;dsimp only));refine box_event ?hg (N:=3) ?hd (cs:=#[.string a0_0,.string a0_1,.slice A0_2 l0_2.length c0_2,.string a0_3,.int .u32 a0_4,.int .i64 a0_5,.int .u64 a0_6,.int .u64 a0_7,.bool a0_8,.bool a0_9,.bool a0_10,.bool a0_11]) (t:=29) ?hr ?_;(case hd=>rfl);(case hg=>rfl);(case hr=>first | (go_simp;done) | (go_simp;rfl));intro qA hg w8 hbox hb;have n0_:=M0 (below_step bBY7 hb);have n1_:=M0 (hbox);have n2_:=M0 ((by rw [hg];exact (below_size bBY7):w.heap.size≤qA));have n3_:=M0 ((by rw [hg];exact (below_size bBY7):w.heap.size≤qA));clear HB;have HB:=n0_;have qB:=n1_;have GW114:=n2_;have qC:=n3_;clear n0_ n1_ n2_ n3_;clear hb hbox hg;obtain ⟨qAD,qAE,qAF,qAG,qAH,qAI,qAJ,qAK,qAL,qAM,qL,qM⟩:=celL qB.out;obtain ⟨qAN,qAO,qAP,qAQ,qAR,qAS,qAT,qAU,qAV,qAW,qN,qO⟩:=froZ qB.out))
   go_ret
   exact ⟨by first | rfl | (simp [errW_none,errW_some]<;>rfl) | (simp [*,errW_none,errW_some]<;>rfl),bBY7⟩
 ·rw [if_neg c4] at H
  have c4b0:(a0_0.toList==a1.toList)=false:=beq_eq_false_iff_ne.mpr c4
  have c4b1:(a0_0.toList != a1.toList)=true:=bne_iff_ne.mpr c4
  obtain rfl:=Option.some.inj H
  go_enter Tryz.func18,Tryz.ntmps18
  go_wp2_with (first | ((with_reducible refine gate_dst (N:=3) rfl ?_);(try (refine gate_guard (by rfl) ?_;dsimp only));refine box_event ?hg (N:=3) ?hd (cs:=#[.string a0_0,.string a0_1,.slice A0_2 l0_2.length c0_2,.string a0_3,.int .u32 a0_4,.int .i64 a0_5,.int .u64 a0_6,.int .u64 a0_7,.bool a0_8,.bool a0_9,.bool a0_10,.bool a0_11]) (t:=29) ?hr ?_;(case hd=>rfl);(case hg=>rfl);(case hr=>first | (go_simp;done) | (go_simp;rfl));intro qA hg w10 hbox hb;have n0_:=M0 (below_step bBY7 hb);have n1_:=M0 (hbox);have n2_:=M0 ((by rw [hg];exact (below_size bBY7):w.heap.size≤qA));have n3_:=M0 ((by rw [hg];exact (below_size bBY7):w.heap.size≤qA));clear HB;have HB:=n0_;have qB:=n1_;have GW114:=n2_;have qC:=n3_;clear n0_ n1_ n2_ n3_;clear hb hbox hg;obtain ⟨qP,qQ,qR,qS,qT,qU,qV,qW,qX,qY,qD,qE⟩:=celL qB.out;obtain ⟨qZ,qa,qb,qc,qd,qe,qf,qg,qh,qi,qF,qG⟩:=froZ qB.out))
  go_ret
  exact ⟨by first | rfl | (simp [errW_none,errW_some]<;>rfl) | (simp [*,errW_none,errW_some]<;>rfl),bBY7⟩

end Go.Proofs.YtfbhlbchmenloaaGreatDoor.H
-- thinned
end
section
namespace Go.Proofs.YtfbhlbchmenloaaGreatDoor.H
open Go.RowKit Go.Proofs.YtfbhlbchmenloaaGreatDoorW.PrintWords Go.Proofs.YtfbhlbchmenloaaGreatDoorW.PrintLast Go.Proofs.YtfbhlbchmenloaaGreatDoorW.PrintMore
set_option linter.unusedVariables false
set_option linter.unusedSimpArgs false
theorem wp_var2 {P:Program} {c:Code} {a:Act} {K:Exit→Act→World→Prop} {W:World} {cs cs':Array Value} {t t':TypeId} (h:∀ W':World,Below W.heap.size W W'→W'.heap[W.heap.size]? = some (.cells cs t (0,0))→W'.heap[W.heap.size + 1]? = some (.cells cs' t' (0,0))→c.wp P K a W'):c.wp P K a ((W.alloc (.cells cs t)).alloc (.cells cs' t')):=by
  have e:(W.alloc (.cells cs t)).heap.size=W.heap.size + 1:=by simp [World.alloc,-World.alloc_eq]
  refine h _ (below_alloc (below_alloc (Below.refl _ _) _) _) (blk_alloc (heap_alloc_new W _) _) ?_
  rw [← e]
  exact heap_alloc_new _ _
set_option maxHeartbeats 4000000 in
set_option maxRecDepth 100000 in
theorem same_walk (d:Cd) {A A':Option Addr} {c c':Nat} {W:World} (hk:d.keys.length < 1000000) (hr:Kd.C Kd.string W A d.keys.length d.keys) (hc:d.keys.length≤c) (hr':Kd.C Kd.string W A' d.keys.length d.keys) (hc':d.keys.length≤c') :
    Calls Tryz.prog 16 #[cdV d (.slice A d.keys.length c),cdV d (.slice A' d.keys.length c')] W fun e w'=>e=.returned (.bool true)∧Below W.heap.size W w':=by
  have hu26:=Tryz.underlying26
  have HR:=Aside0.mk hr
  have HR':=Aside0.mk hr'
  have HB:=Aside0.mk (Below.refl W.heap.size W)
  clear hr hr'
  unfold cdV
  go_enter Tryz.func16,Tryz.ntmps16
  go_wp2_with fail
  refine wp_var2 ?_
  intro W1 hs ha hb
  have HVa:=Aside0.mk ha
  have HVb:=Aside0.mk hb
  replace HB:=Aside0.mk hs
  clear hs ha hb
  go_loopg [5] d.keys.length (fun kq v5 w'=>∃ i:Nat,v5=.int .i64 (i:Int)∧Aside0 (i + kq=d.keys.length)∧Aside0 (w'.heap[W.heap.size]? = some (.cells #[.string d.what,.string d.verb,.slice A d.keys.length c,.string d.data,.int .u32 d.flags,.int .i64 d.exp,.int .u64 d.cas,.int .u64 d.by_,.bool d.withCas,.bool d.withTouch,.bool d.down,.bool d.quiet] 26 (0,0)))∧Aside0 (w'.heap[W.heap.size + 1]? = some (.cells #[.string d.what,.string d.verb,.slice A' d.keys.length c',.string d.data,.int .u32 d.flags,.int .i64 d.exp,.int .u64 d.cas,.int .u64 d.by_,.bool d.withCas,.bool d.withTouch,.bool d.down,.bool d.quiet] 26 (0,0)))∧Aside0 (Below W.heap.size W w'))
  case atStart=>exact ⟨0,rfl,⟨Nat.zero_add _⟩,HVa,HVb,HB⟩
  case round=>
    clear HVa HVb HB
    obtain ⟨i,rfl,HI,HVa,HVb,HB⟩:=hrel
    have hi:=HI.out
    obtain ⟨ra0,ra1,ra2,ra3,ra4,ra5,ra6,ra7,ra8,ra9,ra10,ra11⟩:=celL HVa.out
    obtain ⟨rb0,rb1,rb2,rb3,rb4,rb5,rb6,rb7,rb8,rb9,rb10,rb11⟩:=celL HVb.out
    by_cases h:i < d.keys.length
    · have hr1:=Kd.C_below HR.out HB.out
      have hr2:=Kd.C_below HR'.out HB.out
      obtain ⟨gb,ob,hA,hcell⟩:=str_cells hr1 (by omega)
      obtain ⟨gb',ob',hA',hcell'⟩:=str_cells hr2 (by omega)
      have y1:=hcell i h
      have y2:=hcell' i h
      subst hA
      subst hA'
      have i1:((i:Int) < (d.keys.length:Int))=True:=eq_true (by omega)
      have i2:decide ((i:Int) < (d.keys.length:Int))=true:=decide_eq_true (by omega)
      have i3:(0:Int)≤(i:Int):=by omega
      have i4:(i:Int) < (d.keys.length:Int):=by omega
      have i5:(i < d.keys.length)=True:=eq_true h
      have hw:wrap64 ((i:Int) + 1)=((i + 1:Nat):Int):=by unfold wrap64;omega
      clear hr1 hr2 hcell hcell'
      go_wp2_with fail
      go_region_held3 (fun w'=>w'.cell? ⟨W.heap.size,2,none⟩=some (.slice (some ⟨gb,ob,none⟩) d.keys.length c)∧w'.cell? ⟨W.heap.size + 1,2,none⟩=some (.slice (some ⟨gb',ob',none⟩) d.keys.length c')∧w'.cell? ⟨gb,ob + i,none⟩=some (.string (d.keys.getD i ByteArray.empty))∧w'.cell? ⟨gb',ob' + i,none⟩=some (.string (d.keys.getD i ByteArray.empty))) (go_keep) (fail)
      go_wp2_with fail
      go_roundg (gk - 1)
      case measure=>omega
      case rel=>exact ⟨i + 1,rfl,⟨by omega⟩,⟨blk_drew HVa.out⟩,⟨blk_drew HVb.out⟩,⟨below_drew1 HB.out⟩⟩
    · have i1:((i:Int) < (d.keys.length:Int))=False:=eq_false (by omega)
      have i2:decide ((i:Int) < (d.keys.length:Int))=false:=decide_eq_false (by omega)
      have i5:(i < d.keys.length)=False:=eq_false h
      go_wp2_with fail
      go_ret
      exact ⟨rfl,HB.out⟩
end Go.Proofs.YtfbhlbchmenloaaGreatDoor.H
end
