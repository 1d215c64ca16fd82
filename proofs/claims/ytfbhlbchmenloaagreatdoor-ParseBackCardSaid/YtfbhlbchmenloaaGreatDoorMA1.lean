/-
  The law's own walk, its plain statement and its row: the law holds. Its condition: none beside the given row's own.
-/
import Derived.Test.YtfbhlbchmenloaaGreatDoorMA0
section
namespace Go.Proofs.YtfbhlbchmenloaaGreatDoor.H
open Go.RowKit Go.Proofs.YtfbhlbchmenloaaGreatDoorW.PrintWords Go.Proofs.YtfbhlbchmenloaaGreatDoorW.PrintLast Go.Proofs.YtfbhlbchmenloaaGreatDoorW.PrintMore
attribute [local go_sem] max2_int min2_int max_two min_two max_three min_three max_four min_four   -- for this text's walks alone
set_option linter.unusedVariables false
set_option linter.unusedSimpArgs false

/-! ### parse_store: function 49 -/
mutual
def parse_store.j0:Nat→List ByteArray→Int→Option (Cm×Int)
  | 0,_,_=>none
  | k + 1,x0,x4=>(parse_ends.f k x0 x4 (([(⟨#[110,111,114,101,112,108,121]⟩:ByteArray)]:List ByteArray))).bind fun bt135=>(if bt135.2=true then (if 1 < (x0.length:Int) then ((words_Key.f (rdOf ByteArray.empty x0 1)).bind fun t140=>(if t140=true then (if 2 < (x0.length:Int) then ((words_Number.f (rdOf ByteArray.empty x0 2)).bind fun bt144=>(if 3 < (x0.length:Int) then ((words_Signed.f k (rdOf ByteArray.empty x0 3)).bind fun bt147=>(if 4 < (x0.length:Int) then ((words_Number.f (rdOf ByteArray.empty x0 4)).bind fun bt150=>(if x4=6 then (if 5 < (x0.length:Int) then ((words_Number.f (rdOf ByteArray.empty x0 5)).bind fun bt153=>(parse_store.j1 k x0 bt135.1 bt144.1 bt144.2 bt147.1 bt147.2 bt150.1 bt150.2 bt153.1 bt153.2)) else (none)) else (parse_store.j1 k x0 bt135.1 bt144.1 bt144.2 bt147.1 bt147.2 bt150.1 bt150.2 0 true))) else (none))) else (none))) else (none)) else ((parse_bad.f (⟨#[67,76,73,69,78,84,95,69,82,82,79,82,32,98,97,100,32,99,111,109,109,97,110,100,32,108,105,110,101,32,102,111,114,109,97,116]⟩:ByteArray)).bind fun bt141=>(some (bt141.1,bt141.2))))) else (none)) else ((parse_bad.f (⟨#[69,82,82,79,82]⟩:ByteArray)).bind fun bt137=>(some (bt137.1,bt137.2))))
def parse_store.j1:Nat→List ByteArray→Bool→Int→Bool→Int→Bool→Int→Bool→Int→Bool→Option (Cm×Int)
  | 0,_,_,_,_,_,_,_,_,_,_=>none
  | k + 1,x0,x5,x7,x8,x9,x10,x11,x12,x13,x14=>if x8=true then (if x10=true then (if x12=true then (if x14=true then (if x7 > 4294967295 then (parse_store.j2 k x0 x5 x7 x9 x11 x13 true) else (parse_store.j2 k x0 x5 x7 x9 x11 x13 (decide (x11 > 2147483647)))) else (parse_store.j2 k x0 x5 x7 x9 x11 x13 true)) else (parse_store.j2 k x0 x5 x7 x9 x11 x13 true)) else (parse_store.j2 k x0 x5 x7 x9 x11 x13 true)) else (parse_store.j2 k x0 x5 x7 x9 x11 x13 true)
def parse_store.j2:Nat→List ByteArray→Bool→Int→Int→Int→Int→Bool→Option (Cm×Int)
  | 0,_,_,_,_,_,_,_=>none
  | k + 1,x0,x5,x7,x9,x11,x13,x69=>if x69=true then ((parse_bad.f (⟨#[67,76,73,69,78,84,95,69,82,82,79,82,32,98,97,100,32,99,111,109,109,97,110,100,32,108,105,110,101,32,102,111,114,109,97,116]⟩:ByteArray)).bind fun bt155=>(some (bt155.1,bt155.2))) else (if x11 > 1024 then (some ((Cm.bad (⟨#[83,69,82,86,69,82,95,69,82,82,79,82,32,111,98,106,101,99,116,32,116,111,111,32,108,97,114,103,101,32,102,111,114,32,99,97,99,104,101]⟩:ByteArray)),wrap64 (x11))) else (if 0 < (x0.length:Int) then (if 1 < (x0.length:Int) then (some ((Cm.store (rdOf ByteArray.empty x0 0) (rdOf ByteArray.empty x0 1) (⟨#[]⟩:ByteArray) ((x7) % 4294967296) x9 x13 x5),wrap64 (x11))) else (none)) else (none)))
end
def parse_store.f (k:Nat) (l0:List ByteArray):Option (Cm×Int):=if 0 < (l0.length:Int) then (if (rdOf ByteArray.empty l0 0).toList=([99,97,115]:List UInt8) then (parse_store.j0 k l0 6) else (parse_store.j0 k l0 5)) else (none)
theorem parse_store.mono_l:∀ k,(∀ y0 y1,LeO (parse_store.j0 k y0 y1) (parse_store.j0 (k + 1) y0 y1))∧(∀ y0 y1 y2 y3 y4 y5 y6 y7 y8 y9,LeO (parse_store.j1 k y0 y1 y2 y3 y4 y5 y6 y7 y8 y9) (parse_store.j1 (k + 1) y0 y1 y2 y3 y4 y5 y6 y7 y8 y9))∧(∀ y0 y1 y2 y3 y4 y5 y6,LeO (parse_store.j2 k y0 y1 y2 y3 y4 y5 y6) (parse_store.j2 (k + 1) y0 y1 y2 y3 y4 y5 y6))
  | 0=>⟨fun _ _ r h=>by simp [parse_store.j0] at h,fun _ _ _ _ _ _ _ _ _ _ r h=>by simp [parse_store.j1] at h,fun _ _ _ _ _ _ _ r h=>by simp [parse_store.j2] at h⟩
  | k + 1=>by
    obtain ⟨ih0,ih1,ih2⟩:=parse_store.mono_l k
    refine ⟨?_,?_,?_⟩
    · intro y0 y1
      unfold parse_store.j0
      repeat' first
      | (with_reducible exact ih0 _ _)
      | (with_reducible exact ih1 _ _ _ _ _ _ _ _ _ _)
      | (with_reducible exact ih2 _ _ _ _ _ _ _)
      | (with_reducible exact parse_ends.mono _ _ _ _)
      | (with_reducible exact words_Signed.mono _ _)
      | (with_reducible exact LeO.refl _)
      | (with_reducible exact LeO.none _)
      | (with_reducible refine LeO.ite ?_ ?_)
      | (with_reducible refine LeO.bind ?_ (fun _=>?_))
      | exact ih0 _ _
      | exact ih1 _ _ _ _ _ _ _ _ _ _
      | exact ih2 _ _ _ _ _ _ _
      | exact parse_ends.mono _ _ _ _
      | exact words_Signed.mono _ _
      | exact LeO.none _
      | refine LeO.ite ?_ ?_
      | refine LeO.bind ?_ (fun _=>?_)
    · intro y0 y1 y2 y3 y4 y5 y6 y7 y8 y9
      unfold parse_store.j1
      repeat' first
      | (with_reducible exact ih0 _ _)
      | (with_reducible exact ih1 _ _ _ _ _ _ _ _ _ _)
      | (with_reducible exact ih2 _ _ _ _ _ _ _)
      | (with_reducible exact parse_ends.mono _ _ _ _)
      | (with_reducible exact words_Signed.mono _ _)
      | (with_reducible exact LeO.refl _)
      | (with_reducible exact LeO.none _)
      | (with_reducible refine LeO.ite ?_ ?_)
      | (with_reducible refine LeO.bind ?_ (fun _=>?_))
      | exact ih0 _ _
      | exact ih1 _ _ _ _ _ _ _ _ _ _
      | exact ih2 _ _ _ _ _ _ _
      | exact parse_ends.mono _ _ _ _
      | exact words_Signed.mono _ _
      | exact LeO.none _
      | refine LeO.ite ?_ ?_
      | refine LeO.bind ?_ (fun _=>?_)
    · intro y0 y1 y2 y3 y4 y5 y6
      unfold parse_store.j2
      repeat' first
      | (with_reducible exact ih0 _ _)
      | (with_reducible exact ih1 _ _ _ _ _ _ _ _ _ _)
      | (with_reducible exact ih2 _ _ _ _ _ _ _)
      | (with_reducible exact parse_ends.mono _ _ _ _)
      | (with_reducible exact words_Signed.mono _ _)
      | (with_reducible exact LeO.refl _)
      | (with_reducible exact LeO.none _)
      | (with_reducible refine LeO.ite ?_ ?_)
      | (with_reducible refine LeO.bind ?_ (fun _=>?_))
      | exact ih0 _ _
      | exact ih1 _ _ _ _ _ _ _ _ _ _
      | exact ih2 _ _ _ _ _ _ _
      | exact parse_ends.mono _ _ _ _
      | exact words_Signed.mono _ _
      | exact LeO.none _
      | refine LeO.ite ?_ ?_
      | refine LeO.bind ?_ (fun _=>?_)
theorem parse_store.mono:∀ a0 k,LeO (parse_store.f k a0) (parse_store.f (k + 1) a0):=by
  intro a0 k
  obtain ⟨ih0,ih1,ih2⟩:=parse_store.mono_l k
  unfold parse_store.f
  repeat' first
      | (with_reducible exact ih0 _ _)
      | (with_reducible exact ih1 _ _ _ _ _ _ _ _ _ _)
      | (with_reducible exact ih2 _ _ _ _ _ _ _)
      | (with_reducible exact parse_ends.mono _ _ _ _)
      | (with_reducible exact words_Signed.mono _ _)
      | (with_reducible exact LeO.refl _)
      | (with_reducible exact LeO.none _)
      | (with_reducible refine LeO.ite ?_ ?_)
      | (with_reducible refine LeO.bind ?_ (fun _=>?_))
      | exact ih0 _ _
      | exact ih1 _ _ _ _ _ _ _ _ _ _
      | exact ih2 _ _ _ _ _ _ _
      | exact parse_ends.mono _ _ _ _
      | exact words_Signed.mono _ _
      | exact LeO.none _
      | refine LeO.ite ?_ ?_
      | refine LeO.bind ?_ (fun _=>?_)
theorem bBX22 {B:Nat} {w W:World} (h:Below B w W:=by repeat (first | (with_reducible first | exact HB.out | apply below_alloc | apply pw_below_drewN | apply below_drew1) | exact HB.out)):Below B w W:=h
set_option maxHeartbeats 8000000 in
set_option maxRecDepth 100000 in
theorem parse_store.calls (k:Nat) (A0:Option Addr) (c0:Nat) (l0:List ByteArray) (r1:Cm) (r2:Int) (w:World) (HLD:LaidA w) (hr0:Kd.C Kd.string w A0 l0.length l0) (hc0:l0.length≤c0) (h:parse_store.f k l0=some (r1,r2)) :
  Calls Tryz.prog 49 #[.slice A0 l0.length c0] w fun e w'=>e=.returned (.tuple #[anyW r1,.int .i64 r2])∧Below w.heap.size w w':=by
 have hu88:=Tryz.underlying88
 have hu73:=Tryz.underlying73
 have HR0:=Aside0.mk hr0
 have HC0:=Aside0.mk hc0
 clear hr0 hc0
 have HB:=Aside0.mk (Below.refl w.heap.size w)
 have H:(if 0 < (l0.length:Int) then (if (rdOf ByteArray.empty l0 0).toList=([99,97,115]:List UInt8) then (parse_store.j0 k l0 6) else (parse_store.j0 k l0 5)) else (none))=some (r1,r2):=h
 clear h
 by_cases c2:0 < (l0.length:Int)
 ·rw [if_pos c2] at H
  have c2b0:decide (0 < (l0.length:Int))=true:=decide_eq_true c2
  have c2b1:decide (0 < l0.length)=true:=decide_eq_true (by omega)
  clear c2
  have HC3:=Aside0.mk H
  clear H
  have p131:0≤(0:Int):=(by omega)
  have q131:0 < (l0.length:Int):=of_decide_eq_true (by first | (with_reducible assumption) | assumption)
  obtain ⟨qJ,e131,qO⟩:=Kd.at_string HR0.out 0 p131 q131
  cases e131
  have qi131:(0 < l0.length)=True:=eq_true (by omega)
  (try rw [show ((0:Int)).toNat=0 from rfl] at qO)
  (try rw [Addr.add_zero'] at qO)
  replace p131:=eq_true p131
  replace q131:=eq_true q131
  go_enter Tryz.func49,Tryz.ntmps49
  go_upto_if 18 with (fail)
  repeat (go_quiet (fail);go_upto_if 18 with (fail))
  go_cut [4] (fun v4 wc=>∃ (kq:Nat) (x4_2:Int),v4=.int .i64 x4_2∧Aside0 (parse_store.j0 kq l0 x4_2=some (r1,r2))∧Aside0 (kq≤k)∧Aside0 (Below w.heap.size w wc))
  case first=>
   have H:=HC3.out
   clear HC3
   by_cases c4:(rdOf ByteArray.empty l0 0).toList=([99,97,115]:List UInt8)
   ·rw [if_pos c4] at H
    have c4b0:((rdOf ByteArray.empty l0 0).toList==([99,97,115]:List UInt8))=true:=beq_iff_eq.mpr c4
    have c4b1:((rdOf ByteArray.empty l0 0).toList != ([99,97,115]:List UInt8))=false:=bne_eq_false_iff_eq.mpr c4
    clear c4
    (first | rw [c4b0] | (simp only [i64_w,i32_w];rw [c4b0]) | skip)
    have H':=Aside0.mk H
    clear H
    go_wp2
    repeat (go_quiet (fail);try go_wp2)
    go_meet
    case rel=>exact ⟨_,(6),(by first | rfl | (simp;done) | (simp [*];done)),H',⟨by first | omega | exact Nat.le_refl _⟩,⟨bBX22⟩⟩
   ·rw [if_neg c4] at H
    have c4b0:((rdOf ByteArray.empty l0 0).toList==([99,97,115]:List UInt8))=false:=beq_eq_false_iff_ne.mpr c4
    have c4b1:((rdOf ByteArray.empty l0 0).toList != ([99,97,115]:List UInt8))=true:=bne_iff_ne.mpr c4
    (first | rw [c4b0] | (simp only [i64_w,i32_w];rw [c4b0]) | skip)
    have H':=Aside0.mk H
    clear H
    go_wp2
    repeat (go_quiet (fail);try go_wp2)
    go_meet
    case rel=>exact ⟨_,(5),(by first | rfl | (simp;done) | (simp [*];done)),H',⟨by first | omega | exact Nat.le_refl _⟩,⟨bBX22⟩⟩
  case rest=>
   clear HC3
   clear c2b0 c2b1 qO p131 q131
   obtain ⟨kq,x4_2,rfl,HA,HJ2,HB⟩:=hcut
   cases kq with
   | zero=>exact absurd HA.out (by simp [parse_store.j0])
   | succ kj2=>
    have H:=HA.out
    clear HA
    simp only [parse_store.j0] at H
    obtain ⟨y132,hy132⟩:∃ y_:List ByteArray,y_=(([(⟨#[110,111,114,101,112,108,121]⟩:ByteArray)]:List ByteArray)):=⟨_,rfl⟩
    replace H:((parse_ends.f kj2 l0 x4_2 y132).bind fun bt135=>(if bt135.2=true then (if 1 < (l0.length:Int) then ((words_Key.f (rdOf ByteArray.empty l0 1)).bind fun qR=>(if qR=true then (if 2 < (l0.length:Int) then ((words_Number.f (rdOf ByteArray.empty l0 2)).bind fun bt144=>(if 3 < (l0.length:Int) then ((words_Signed.f kj2 (rdOf ByteArray.empty l0 3)).bind fun bt147=>(if 4 < (l0.length:Int) then ((words_Number.f (rdOf ByteArray.empty l0 4)).bind fun bt150=>(if x4_2=6 then (if 5 < (l0.length:Int) then ((words_Number.f (rdOf ByteArray.empty l0 5)).bind fun bt153=>(parse_store.j1 kj2 l0 bt135.1 bt144.1 bt144.2 bt147.1 bt147.2 bt150.1 bt150.2 bt153.1 bt153.2)) else (none)) else (parse_store.j1 kj2 l0 bt135.1 bt144.1 bt144.2 bt147.1 bt147.2 bt150.1 bt150.2 0 true))) else (none))) else (none))) else (none)) else ((parse_bad.f (⟨#[67,76,73,69,78,84,95,69,82,82,79,82,32,98,97,100,32,99,111,109,109,97,110,100,32,108,105,110,101,32,102,111,114,109,97,116]⟩:ByteArray)).bind fun bt141=>(some (bt141.1,bt141.2))))) else (none)) else ((parse_bad.f (⟨#[69,82,82,79,82]⟩:ByteArray)).bind fun bt137=>(some (bt137.1,bt137.2)))))=some (r1,r2):=by first | (rw [hy132];with_reducible exact H) | (have H2_:=(Option.bind_some _ _).symm.trans H;rw [hy132];with_reducible exact H2_) | (have H2_:=(Option.bind_some _ _).symm.trans H;with_reducible exact H2_) | with_reducible exact H | (rw [hy132];exact H) | exact H
    have qS:=Aside0.mk hy132
    clear hy132
    replace H:=Option.bind_eq_some_iff.mp H
    obtain ⟨⟨qB,qf⟩,A50,H⟩:=H
    replace H:(if qf=true then (if 1 < (l0.length:Int) then ((words_Key.f (rdOf ByteArray.empty l0 1)).bind fun qR=>(if qR=true then (if 2 < (l0.length:Int) then ((words_Number.f (rdOf ByteArray.empty l0 2)).bind fun bt144=>(if 3 < (l0.length:Int) then ((words_Signed.f kj2 (rdOf ByteArray.empty l0 3)).bind fun bt147=>(if 4 < (l0.length:Int) then ((words_Number.f (rdOf ByteArray.empty l0 4)).bind fun bt150=>(if x4_2=6 then (if 5 < (l0.length:Int) then ((words_Number.f (rdOf ByteArray.empty l0 5)).bind fun bt153=>(parse_store.j1 kj2 l0 qB bt144.1 bt144.2 bt147.1 bt147.2 bt150.1 bt150.2 bt153.1 bt153.2)) else (none)) else (parse_store.j1 kj2 l0 qB bt144.1 bt144.2 bt147.1 bt147.2 bt150.1 bt150.2 0 true))) else (none))) else (none))) else (none)) else ((parse_bad.f (⟨#[67,76,73,69,78,84,95,69,82,82,79,82,32,98,97,100,32,99,111,109,109,97,110,100,32,108,105,110,101,32,102,111,114,109,97,116]⟩:ByteArray)).bind fun bt141=>(some (bt141.1,bt141.2))))) else (none)) else ((parse_bad.f (⟨#[69,82,82,79,82]⟩:ByteArray)).bind fun bt137=>(some (bt137.1,bt137.2))))=some (r1,r2):=H
    have A5:=Aside0.mk A50
    clear A50
    by_cases c6:qf=true
    ·subst c6
     have H1:(if 1 < (l0.length:Int) then ((words_Key.f (rdOf ByteArray.empty l0 1)).bind fun qR=>(if qR=true then (if 2 < (l0.length:Int) then ((words_Number.f (rdOf ByteArray.empty l0 2)).bind fun bt144=>(if 3 < (l0.length:Int) then ((words_Signed.f kj2 (rdOf ByteArray.empty l0 3)).bind fun bt147=>(if 4 < (l0.length:Int) then ((words_Number.f (rdOf ByteArray.empty l0 4)).bind fun bt150=>(if x4_2=6 then (if 5 < (l0.length:Int) then ((words_Number.f (rdOf ByteArray.empty l0 5)).bind fun bt153=>(parse_store.j1 kj2 l0 qB bt144.1 bt144.2 bt147.1 bt147.2 bt150.1 bt150.2 bt153.1 bt153.2)) else (none)) else (parse_store.j1 kj2 l0 qB bt144.1 bt144.2 bt147.1 bt147.2 bt150.1 bt150.2 0 true))) else (none))) else (none))) else (none)) else ((parse_bad.f (⟨#[67,76,73,69,78,84,95,69,82,82,79,82,32,98,97,100,32,99,111,109,109,97,110,100,32,108,105,110,101,32,102,111,114,109,97,116]⟩:ByteArray)).bind fun bt141=>(some (bt141.1,bt141.2))))) else (none))=some (r1,r2):=by rw [if_pos rfl] at H;exact H
     clear H
     have H:=H1
     clear H1
     by_cases c7:1 < (l0.length:Int)
     ·rw [if_pos c7] at H
      have c7b0:decide (1 < (l0.length:Int))=true:=decide_eq_true c7
      have c7b1:decide (1 < l0.length)=true:=decide_eq_true (by omega)
      clear c7
      replace H:=Option.bind_eq_some_iff.mp H
      obtain ⟨qR,A80,H⟩:=H
      replace H:(if qR=true then (if 2 < (l0.length:Int) then ((words_Number.f (rdOf ByteArray.empty l0 2)).bind fun bt144=>(if 3 < (l0.length:Int) then ((words_Signed.f kj2 (rdOf ByteArray.empty l0 3)).bind fun bt147=>(if 4 < (l0.length:Int) then ((words_Number.f (rdOf ByteArray.empty l0 4)).bind fun bt150=>(if x4_2=6 then (if 5 < (l0.length:Int) then ((words_Number.f (rdOf ByteArray.empty l0 5)).bind fun bt153=>(parse_store.j1 kj2 l0 qB bt144.1 bt144.2 bt147.1 bt147.2 bt150.1 bt150.2 bt153.1 bt153.2)) else (none)) else (parse_store.j1 kj2 l0 qB bt144.1 bt144.2 bt147.1 bt147.2 bt150.1 bt150.2 0 true))) else (none))) else (none))) else (none)) else ((parse_bad.f (⟨#[67,76,73,69,78,84,95,69,82,82,79,82,32,98,97,100,32,99,111,109,109,97,110,100,32,108,105,110,101,32,102,111,114,109,97,116]⟩:ByteArray)).bind fun bt141=>(some (bt141.1,bt141.2))))=some (r1,r2):=H
      have A8:=Aside0.mk A80
      clear A80
      by_cases c9:qR=true
      ·subst c9
       have H1:(if 2 < (l0.length:Int) then ((words_Number.f (rdOf ByteArray.empty l0 2)).bind fun bt144=>(if 3 < (l0.length:Int) then ((words_Signed.f kj2 (rdOf ByteArray.empty l0 3)).bind fun bt147=>(if 4 < (l0.length:Int) then ((words_Number.f (rdOf ByteArray.empty l0 4)).bind fun bt150=>(if x4_2=6 then (if 5 < (l0.length:Int) then ((words_Number.f (rdOf ByteArray.empty l0 5)).bind fun bt153=>(parse_store.j1 kj2 l0 qB bt144.1 bt144.2 bt147.1 bt147.2 bt150.1 bt150.2 bt153.1 bt153.2)) else (none)) else (parse_store.j1 kj2 l0 qB bt144.1 bt144.2 bt147.1 bt147.2 bt150.1 bt150.2 0 true))) else (none))) else (none))) else (none))=some (r1,r2):=by rw [if_pos rfl] at H;exact H
       clear H
       have H:=H1
       clear H1
       by_cases c10:2 < (l0.length:Int)
       ·rw [if_pos c10] at H
        have c10b0:decide (2 < (l0.length:Int))=true:=decide_eq_true c10
        have c10b1:decide (2 < l0.length)=true:=decide_eq_true (by omega)
        clear c10
        replace H:=Option.bind_eq_some_iff.mp H
        obtain ⟨⟨qC,qL⟩,A110,H⟩:=H
        replace H:(if 3 < (l0.length:Int) then ((words_Signed.f kj2 (rdOf ByteArray.empty l0 3)).bind fun bt147=>(if 4 < (l0.length:Int) then ((words_Number.f (rdOf ByteArray.empty l0 4)).bind fun bt150=>(if x4_2=6 then (if 5 < (l0.length:Int) then ((words_Number.f (rdOf ByteArray.empty l0 5)).bind fun bt153=>(parse_store.j1 kj2 l0 qB qC qL bt147.1 bt147.2 bt150.1 bt150.2 bt153.1 bt153.2)) else (none)) else (parse_store.j1 kj2 l0 qB qC qL bt147.1 bt147.2 bt150.1 bt150.2 0 true))) else (none))) else (none))=some (r1,r2):=H
        have A11:=Aside0.mk A110
        clear A110
        by_cases c12:3 < (l0.length:Int)
        ·rw [if_pos c12] at H
         have c12b0:decide (3 < (l0.length:Int))=true:=decide_eq_true c12
         have c12b1:decide (3 < l0.length)=true:=decide_eq_true (by omega)
         clear c12
         replace H:=Option.bind_eq_some_iff.mp H
         obtain ⟨⟨qH,qM⟩,A130,H⟩:=H
         replace H:(if 4 < (l0.length:Int) then ((words_Number.f (rdOf ByteArray.empty l0 4)).bind fun bt150=>(if x4_2=6 then (if 5 < (l0.length:Int) then ((words_Number.f (rdOf ByteArray.empty l0 5)).bind fun bt153=>(parse_store.j1 kj2 l0 qB qC qL qH qM bt150.1 bt150.2 bt153.1 bt153.2)) else (none)) else (parse_store.j1 kj2 l0 qB qC qL qH qM bt150.1 bt150.2 0 true))) else (none))=some (r1,r2):=H
         have A13:=Aside0.mk A130
         clear A130
         by_cases c14:4 < (l0.length:Int)
         ·rw [if_pos c14] at H
          have c14b0:decide (4 < (l0.length:Int))=true:=decide_eq_true c14
          have c14b1:decide (4 < l0.length)=true:=decide_eq_true (by omega)
          clear c14
          replace H:=Option.bind_eq_some_iff.mp H
          obtain ⟨⟨qD,qN⟩,A150,H⟩:=H
          replace H:(if x4_2=6 then (if 5 < (l0.length:Int) then ((words_Number.f (rdOf ByteArray.empty l0 5)).bind fun bt153=>(parse_store.j1 kj2 l0 qB qC qL qH qM qD qN bt153.1 bt153.2)) else (none)) else (parse_store.j1 kj2 l0 qB qC qL qH qM qD qN 0 true))=some (r1,r2):=H
          have A15:=Aside0.mk A150
          clear A150
          have HC16:=Aside0.mk H
          clear H
          go_upto_if 61 with (first | ((with_reducible refine gate_dst (N:=22) rfl ?_);refine Kd.R_lit Kd.string _ 9 ?hg (N:=22) ?hd (xs:=([(⟨#[110,111,114,101,112,108,121]⟩:ByteArray)]:List ByteArray)) (inner:=[.string (⟨#[110,111,114,101,112,108,121]⟩:ByteArray)]) (ok:=fun _=>True) (okp:=fun _=>True) ?hr ?hp (fun _ hk=>hk) trivial (Below.refl _ _) (Nat.le_refl _) (by simp) ?_;(case hd=>rfl);(case hg=>rfl);(case hr=>first | (go_simp;done) | (go_simp;rfl));(case hp=>exact (Reps.one (show Kd.M Kd.string _ _ _ (⟨#[110,111,114,101,112,108,121]⟩:ByteArray) [.string (⟨#[110,111,114,101,112,108,121]⟩:ByteArray)] from rfl) (Reps.none _ _)));intro v133 w17 ho18 hb hg_ hnew_;clear hg_ hnew_;(first | rw [← qS.out] at ho18 | (simp only [Int.reduceToNat] at ho18;rw [← qS.out] at ho18));have n0_:=Aside0.mk (Kd.R_lower ho18 (below_size bBX22));have n1_:=Aside0.mk (below_step bBX22 hb);clear HB;have qA:=n0_;have HB:=n1_;clear n0_ n1_;clear hb ho18;obtain ⟨qq,qr,qk⟩:=Kd.R_slice qA.out;subst qk) | (go_at_call 51;(with_reducible refine (parse_ends.calls kj2 _ _ l0 x4_2 _ _ y132 qB true _ ?side1 ?side2 ?side3 ?side4 A5.out).mono ?_);(case side1=>repeat (first | exact (Kd.C_below HR0.out HB.out) | (with_reducible refine Kd.C_alloc ?_ _) | (with_reducible refine Kd.C_drewN ?_ _) | (with_reducible refine Kd.C_drew ?_)));(case side2=>exact HC0.out);(case side3=>repeat (first | exact (Kd.R_reads' qA.out).2.2 | (with_reducible refine Kd.C_alloc ?_ _) | (with_reducible refine Kd.C_drewN ?_ _) | (with_reducible refine Kd.C_drew ?_)));(case side4=>exact (Kd.R_reads' qA.out).2.1);rintro e w' ⟨rfl,⟨nd,rfl⟩⟩;(try first | exact ⟨rfl,_,World.drewN_drewN _ _ _⟩ | exact ⟨rfl,_,Eq.trans (World.drewN_drewN _ _ _) (congrArg (World.drewN _) (Nat.add_assoc _ _ _))⟩);have p139:0≤(1:Int):=(by omega);have q139:1 < (l0.length:Int):=of_decide_eq_true (by first | (with_reducible assumption) | assumption);obtain ⟨qY,e139,qI⟩:=Kd.at_string HR0.out 1 p139 q139;obtain rfl:qJ=qY:=(by injection e139);(try simp only [show (1:Int).toNat=1 from rfl,Nat.reduceMul,Nat.reduceEqDiff,Go.Addr.add,↓reduceIte] at qI);have qi139:(1 < l0.length)=True:=eq_true (by omega);(try rw [show ((1:Int)).toNat=1 from rfl] at qI);replace qI:=(HB.out.cell (World.block_lt_of_cell? w _ qI)).trans qI;replace p139:=eq_true p139;replace q139:=eq_true q139) | (go_at_call 52;(with_reducible refine (words_Key.calls (rdOf ByteArray.empty l0 1) true _ ?side1 A8.out).mono ?_);(case side1=>exact HLD.below bBX22);rintro e w20 ⟨rfl,hb⟩;have n0_:=Aside0.mk (Kd.R_below (by (with_reducible repeat (first | apply Kd.R_alloc | apply Kd.R_drewN | apply Kd.R_drew));exact qA.out) hb);have n1_:=Aside0.mk (below_step bBX22 hb);clear qA;clear HB;have qA:=n0_;have HB:=n1_;clear n0_ n1_;(try clear hb);(try clear hb2);(try clear hk);(try clear hi);have p143:0≤(2:Int):=(by omega);have q143:2 < (l0.length:Int):=of_decide_eq_true (by first | (with_reducible assumption) | assumption);obtain ⟨qT,e143,qE⟩:=Kd.at_string HR0.out 2 p143 q143;obtain rfl:qJ=qT:=(by injection e143);(try simp only [show (2:Int).toNat=2 from rfl,Nat.reduceMul,Nat.reduceEqDiff,Go.Addr.add,↓reduceIte] at qE);have qi143:(2 < l0.length)=True:=eq_true (by omega);(try rw [show ((2:Int)).toNat=2 from rfl] at qE);replace qE:=(HB.out.cell (World.block_lt_of_cell? w _ qE)).trans qE;replace p143:=eq_true p143;replace q143:=eq_true q143) | (go_at_call 61;(with_reducible refine (words_Number.calls (rdOf ByteArray.empty l0 2) qC qL _ ?side1 A11.out).mono ?_);(case side1=>exact HLD.below bBX22);rintro e w21 ⟨rfl,hb⟩;have n0_:=Aside0.mk (Kd.R_below (by (with_reducible repeat (first | apply Kd.R_alloc | apply Kd.R_drewN | apply Kd.R_drew));exact qA.out) hb);have n1_:=Aside0.mk (below_step bBX22 hb);clear qA;clear HB;have qA:=n0_;have HB:=n1_;clear n0_ n1_;(try clear hb);(try clear hb2);(try clear hk);(try clear hi);have p146:0≤(3:Int):=(by omega);have q146:3 < (l0.length:Int):=of_decide_eq_true (by first | (with_reducible assumption) | assumption);obtain ⟨qU,e146,qF⟩:=Kd.at_string HR0.out 3 p146 q146;obtain rfl:qJ=qU:=(by injection e146);(try simp only [show (3:Int).toNat=3 from rfl,Nat.reduceMul,Nat.reduceEqDiff,Go.Addr.add,↓reduceIte] at qF);have qi146:(3 < l0.length)=True:=eq_true (by omega);(try rw [show ((3:Int)).toNat=3 from rfl] at qF);replace qF:=(HB.out.cell (World.block_lt_of_cell? w _ qF)).trans qF;replace p146:=eq_true p146;replace q146:=eq_true q146) | (go_at_call 60;(with_reducible refine (words_Signed.calls kj2 (rdOf ByteArray.empty l0 3) qH qM _ ?side1 A13.out).mono ?_);(case side1=>exact HLD.below bBX22);rintro e w22 ⟨rfl,hb⟩;have n0_:=Aside0.mk (Kd.R_below (by (with_reducible repeat (first | apply Kd.R_alloc | apply Kd.R_drewN | apply Kd.R_drew));exact qA.out) hb);have n1_:=Aside0.mk (below_step bBX22 hb);clear qA;clear HB;have qA:=n0_;have HB:=n1_;clear n0_ n1_;(try clear hb);(try clear hb2);(try clear hk);(try clear hi);have p149:0≤(4:Int):=(by omega);have q149:4 < (l0.length:Int):=of_decide_eq_true (by first | (with_reducible assumption) | assumption);obtain ⟨qV,e149,qG⟩:=Kd.at_string HR0.out 4 p149 q149;obtain rfl:qJ=qV:=(by injection e149);(try simp only [show (4:Int).toNat=4 from rfl,Nat.reduceMul,Nat.reduceEqDiff,Go.Addr.add,↓reduceIte] at qG);have qi149:(4 < l0.length)=True:=eq_true (by omega);(try rw [show ((4:Int)).toNat=4 from rfl] at qG);replace qG:=(HB.out.cell (World.block_lt_of_cell? w _ qG)).trans qG;replace p149:=eq_true p149;replace q149:=eq_true q149) | (go_at_call 61;(with_reducible refine (words_Number.calls (rdOf ByteArray.empty l0 4) qD qN _ ?side1 A15.out).mono ?_);(case side1=>exact HLD.below bBX22);rintro e w23 ⟨rfl,hb⟩;have n0_:=Aside0.mk (Kd.R_below (by (with_reducible repeat (first | apply Kd.R_alloc | apply Kd.R_drewN | apply Kd.R_drew));exact qA.out) hb);have n1_:=Aside0.mk (below_step bBX22 hb);clear qA;clear HB;have qA:=n0_;have HB:=n1_;clear n0_ n1_;(try clear hb);(try clear hb2);(try clear hk);(try clear hi)))
          repeat (go_quiet (first | (go_at_call 52;(with_reducible refine (words_Key.calls (rdOf ByteArray.empty l0 1) true _ ?side1 A8.out).mono ?_);(case side1=>exact HLD.below bBX22);rintro e w20 ⟨rfl,hb⟩;have n0_:=Aside0.mk (Kd.R_below (by (with_reducible repeat (first | apply Kd.R_alloc | apply Kd.R_drewN | apply Kd.R_drew));exact qA.out) hb);have n1_:=Aside0.mk (below_step bBX22 hb);clear qA;clear HB;have qA:=n0_;have HB:=n1_;clear n0_ n1_;(try clear hb);(try clear hb2);(try clear hk);(try clear hi);have p143:0≤(2:Int):=(by omega);have q143:2 < (l0.length:Int):=of_decide_eq_true (by first | (with_reducible assumption) | assumption);obtain ⟨qT,e143,qE⟩:=Kd.at_string HR0.out 2 p143 q143;obtain rfl:qJ=qT:=(by injection e143);(try simp only [show (2:Int).toNat=2 from rfl,Nat.reduceMul,Nat.reduceEqDiff,Go.Addr.add,↓reduceIte] at qE);have qi143:(2 < l0.length)=True:=eq_true (by omega);(try rw [show ((2:Int)).toNat=2 from rfl] at qE);replace qE:=(HB.out.cell (World.block_lt_of_cell? w _ qE)).trans qE;replace p143:=eq_true p143;replace q143:=eq_true q143) | (go_at_call 61;(with_reducible refine (words_Number.calls (rdOf ByteArray.empty l0 2) qC qL _ ?side1 A11.out).mono ?_);(case side1=>exact HLD.below bBX22);rintro e w21 ⟨rfl,hb⟩;have n0_:=Aside0.mk (Kd.R_below (by (with_reducible repeat (first | apply Kd.R_alloc | apply Kd.R_drewN | apply Kd.R_drew));exact qA.out) hb);have n1_:=Aside0.mk (below_step bBX22 hb);clear qA;clear HB;have qA:=n0_;have HB:=n1_;clear n0_ n1_;(try clear hb);(try clear hb2);(try clear hk);(try clear hi);have p146:0≤(3:Int):=(by omega);have q146:3 < (l0.length:Int):=of_decide_eq_true (by first | (with_reducible assumption) | assumption);obtain ⟨qU,e146,qF⟩:=Kd.at_string HR0.out 3 p146 q146;obtain rfl:qJ=qU:=(by injection e146);(try simp only [show (3:Int).toNat=3 from rfl,Nat.reduceMul,Nat.reduceEqDiff,Go.Addr.add,↓reduceIte] at qF);have qi146:(3 < l0.length)=True:=eq_true (by omega);(try rw [show ((3:Int)).toNat=3 from rfl] at qF);replace qF:=(HB.out.cell (World.block_lt_of_cell? w _ qF)).trans qF;replace p146:=eq_true p146;replace q146:=eq_true q146) | (go_at_call 60;(with_reducible refine (words_Signed.calls kj2 (rdOf ByteArray.empty l0 3) qH qM _ ?side1 A13.out).mono ?_);(case side1=>exact HLD.below bBX22);rintro e w22 ⟨rfl,hb⟩;have n0_:=Aside0.mk (Kd.R_below (by (with_reducible repeat (first | apply Kd.R_alloc | apply Kd.R_drewN | apply Kd.R_drew));exact qA.out) hb);have n1_:=Aside0.mk (below_step bBX22 hb);clear qA;clear HB;have qA:=n0_;have HB:=n1_;clear n0_ n1_;(try clear hb);(try clear hb2);(try clear hk);(try clear hi);have p149:0≤(4:Int):=(by omega);have q149:4 < (l0.length:Int):=of_decide_eq_true (by first | (with_reducible assumption) | assumption);obtain ⟨qV,e149,qG⟩:=Kd.at_string HR0.out 4 p149 q149;obtain rfl:qJ=qV:=(by injection e149);(try simp only [show (4:Int).toNat=4 from rfl,Nat.reduceMul,Nat.reduceEqDiff,Go.Addr.add,↓reduceIte] at qG);have qi149:(4 < l0.length)=True:=eq_true (by omega);(try rw [show ((4:Int)).toNat=4 from rfl] at qG);replace qG:=(HB.out.cell (World.block_lt_of_cell? w _ qG)).trans qG;replace p149:=eq_true p149;replace q149:=eq_true q149) | (go_at_call 61;(with_reducible refine (words_Number.calls (rdOf ByteArray.empty l0 4) qD qN _ ?side1 A15.out).mono ?_);(case side1=>exact HLD.below bBX22);rintro e w23 ⟨rfl,hb⟩;have n0_:=Aside0.mk (Kd.R_below (by (with_reducible repeat (first | apply Kd.R_alloc | apply Kd.R_drewN | apply Kd.R_drew));exact qA.out) hb);have n1_:=Aside0.mk (below_step bBX22 hb);clear qA;clear HB;have qA:=n0_;have HB:=n1_;clear n0_ n1_;(try clear hb);(try clear hb2);(try clear hk);(try clear hi)));go_upto_if 61 with (first | (go_at_call 52;(with_reducible refine (words_Key.calls (rdOf ByteArray.empty l0 1) true _ ?side1 A8.out).mono ?_);(case side1=>exact HLD.below bBX22);rintro e w20 ⟨rfl,hb⟩;have n0_:=Aside0.mk (Kd.R_below (by (with_reducible repeat (first | apply Kd.R_alloc | apply Kd.R_drewN | apply Kd.R_drew));exact qA.out) hb);have n1_:=Aside0.mk (below_step bBX22 hb);clear qA;clear HB;have qA:=n0_;have HB:=n1_;clear n0_ n1_;(try clear hb);(try clear hb2);(try clear hk);(try clear hi);have p143:0≤(2:Int):=(by omega);have q143:2 < (l0.length:Int):=of_decide_eq_true (by first | (with_reducible assumption) | assumption);obtain ⟨qT,e143,qE⟩:=Kd.at_string HR0.out 2 p143 q143;obtain rfl:qJ=qT:=(by injection e143);(try simp only [show (2:Int).toNat=2 from rfl,Nat.reduceMul,Nat.reduceEqDiff,Go.Addr.add,↓reduceIte] at qE);have qi143:(2 < l0.length)=True:=eq_true (by omega);(try rw [show ((2:Int)).toNat=2 from rfl] at qE);replace qE:=(HB.out.cell (World.block_lt_of_cell? w _ qE)).trans qE;replace p143:=eq_true p143;replace q143:=eq_true q143) | (go_at_call 61;(with_reducible refine (words_Number.calls (rdOf ByteArray.empty l0 2) qC qL _ ?side1 A11.out).mono ?_);(case side1=>exact HLD.below bBX22);rintro e w21 ⟨rfl,hb⟩;have n0_:=Aside0.mk (Kd.R_below (by (with_reducible repeat (first | apply Kd.R_alloc | apply Kd.R_drewN | apply Kd.R_drew));exact qA.out) hb);have n1_:=Aside0.mk (below_step bBX22 hb);clear qA;clear HB;have qA:=n0_;have HB:=n1_;clear n0_ n1_;(try clear hb);(try clear hb2);(try clear hk);(try clear hi);have p146:0≤(3:Int):=(by omega);have q146:3 < (l0.length:Int):=of_decide_eq_true (by first | (with_reducible assumption) | assumption);obtain ⟨qU,e146,qF⟩:=Kd.at_string HR0.out 3 p146 q146;obtain rfl:qJ=qU:=(by injection e146);(try simp only [show (3:Int).toNat=3 from rfl,Nat.reduceMul,Nat.reduceEqDiff,Go.Addr.add,↓reduceIte] at qF);have qi146:(3 < l0.length)=True:=eq_true (by omega);(try rw [show ((3:Int)).toNat=3 from rfl] at qF);replace qF:=(HB.out.cell (World.block_lt_of_cell? w _ qF)).trans qF;replace p146:=eq_true p146;replace q146:=eq_true q146) | (go_at_call 60;(with_reducible refine (words_Signed.calls kj2 (rdOf ByteArray.empty l0 3) qH qM _ ?side1 A13.out).mono ?_);(case side1=>exact HLD.below bBX22);rintro e w22 ⟨rfl,hb⟩;have n0_:=Aside0.mk (Kd.R_below (by (with_reducible repeat (first | apply Kd.R_alloc | apply Kd.R_drewN | apply Kd.R_drew));exact qA.out) hb);have n1_:=Aside0.mk (below_step bBX22 hb);clear qA;clear HB;have qA:=n0_;have HB:=n1_;clear n0_ n1_;(try clear hb);(try clear hb2);(try clear hk);(try clear hi);have p149:0≤(4:Int):=(by omega);have q149:4 < (l0.length:Int):=of_decide_eq_true (by first | (with_reducible assumption) | assumption);obtain ⟨qV,e149,qG⟩:=Kd.at_string HR0.out 4 p149 q149;obtain rfl:qJ=qV:=(by injection e149);(try simp only [show (4:Int).toNat=4 from rfl,Nat.reduceMul,Nat.reduceEqDiff,Go.Addr.add,↓reduceIte] at qG);have qi149:(4 < l0.length)=True:=eq_true (by omega);(try rw [show ((4:Int)).toNat=4 from rfl] at qG);replace qG:=(HB.out.cell (World.block_lt_of_cell? w _ qG)).trans qG;replace p149:=eq_true p149;replace q149:=eq_true q149) | (go_at_call 61;(with_reducible refine (words_Number.calls (rdOf ByteArray.empty l0 4) qD qN _ ?side1 A15.out).mono ?_);(case side1=>exact HLD.below bBX22);rintro e w23 ⟨rfl,hb⟩;have n0_:=Aside0.mk (Kd.R_below (by (with_reducible repeat (first | apply Kd.R_alloc | apply Kd.R_drewN | apply Kd.R_drew));exact qA.out) hb);have n1_:=Aside0.mk (below_step bBX22 hb);clear qA;clear HB;have qA:=n0_;have HB:=n1_;clear n0_ n1_;(try clear hb);(try clear hb2);(try clear hk);(try clear hi))))
          (try simp only [Act.put,List.setIfInBounds_toArray,List.set_cons_zero,List.set_cons_succ])
          go_cut [13,14] (fun v13 v14 wc=>∃ (kq:Nat) (x13_15:Int) (x14_15:Bool),v13=.int .u64 x13_15∧v14=.bool x14_15∧Aside0 (parse_store.j1 kq l0 qB qC qL qH qM qD qN x13_15 x14_15=some (r1,r2))∧Aside0 (kq≤kj2)∧Aside0 (Below w.heap.size w wc))
          case first=>
           have H:=HC16.out
           clear HC16
           by_cases c24:x4_2=6
           ·rw [if_pos c24] at H
            have c24b0:(x4_2==6)=true:=beq_iff_eq.mpr c24
            have c24b1:(x4_2 != 6)=false:=bne_eq_false_iff_eq.mpr c24
            clear c24
            (first | rw [c24b0] | (simp only [i64_w,i32_w];rw [c24b0]) | skip)
            by_cases c25:5 < (l0.length:Int)
            ·rw [if_pos c25] at H
             have c25b0:decide (5 < (l0.length:Int))=true:=decide_eq_true c25
             have c25b1:decide (5 < l0.length)=true:=decide_eq_true (by omega)
             clear c25
             replace H:=Option.bind_eq_some_iff.mp H
             obtain ⟨⟨qW,qX⟩,A260,H⟩:=H
             replace H:(parse_store.j1 kj2 l0 qB qC qL qH qM qD qN qW qX)=some (r1,r2):=H
             have A26:=Aside0.mk A260
             clear A260
             have H':=Aside0.mk H
             clear H
             have p152:0≤(5:Int):=(by omega)
             have q152:5 < (l0.length:Int):=of_decide_eq_true (by first | (with_reducible assumption) | assumption)
             obtain ⟨qg,e152,qK⟩:=Kd.at_string HR0.out 5 p152 q152
             obtain rfl:qJ=qg:=(by injection e152)
             (try simp only [show (5:Int).toNat=5 from rfl,Nat.reduceMul,Nat.reduceEqDiff,Go.Addr.add,↓reduceIte] at qK)
             have qi152:(5 < l0.length)=True:=eq_true (by omega)
             (try rw [show ((5:Int)).toNat=5 from rfl] at qK)
             replace qK:=(HB.out.cell (World.block_lt_of_cell? w _ qK)).trans qK
             replace p152:=eq_true p152
             replace q152:=eq_true q152
             go_wp2_with (first | (go_at_call 61;(with_reducible refine (words_Number.calls (rdOf ByteArray.empty l0 5) qW qX _ ?side1 A26.out).mono ?_);(case side1=>exact HLD.below bBX22);rintro e w27 ⟨rfl,hb⟩;have n0_:=Aside0.mk (Kd.R_below (by (with_reducible repeat (first | apply Kd.R_alloc | apply Kd.R_drewN | apply Kd.R_drew));exact qA.out) hb);have n1_:=Aside0.mk (below_step bBX22 hb);clear qA;clear HB;have qA:=n0_;have HB:=n1_;clear n0_ n1_;(try clear hb);(try clear hb2);(try clear hk);(try clear hi)))
             repeat (go_quiet (first | (go_at_call 61;(with_reducible refine (words_Number.calls (rdOf ByteArray.empty l0 5) qW qX _ ?side1 A26.out).mono ?_);(case side1=>exact HLD.below bBX22);rintro e w27 ⟨rfl,hb⟩;have n0_:=Aside0.mk (Kd.R_below (by (with_reducible repeat (first | apply Kd.R_alloc | apply Kd.R_drewN | apply Kd.R_drew));exact qA.out) hb);have n1_:=Aside0.mk (below_step bBX22 hb);clear qA;clear HB;have qA:=n0_;have HB:=n1_;clear n0_ n1_;(try clear hb);(try clear hb2);(try clear hk);(try clear hi)));try go_wp2_with (first | (go_at_call 61;(with_reducible refine (words_Number.calls (rdOf ByteArray.empty l0 5) qW qX _ ?side1 A26.out).mono ?_);(case side1=>exact HLD.below bBX22);rintro e w27 ⟨rfl,hb⟩;have n0_:=Aside0.mk (Kd.R_below (by (with_reducible repeat (first | apply Kd.R_alloc | apply Kd.R_drewN | apply Kd.R_drew));exact qA.out) hb);have n1_:=Aside0.mk (below_step bBX22 hb);clear qA;clear HB;have qA:=n0_;have HB:=n1_;clear n0_ n1_;(try clear hb);(try clear hb2);(try clear hk);(try clear hi))))
             go_meet
             case rel=>exact ⟨_,(qW),(qX),(by first | rfl | (simp;done) | (simp [*];done)),(by first | rfl | (simp;done) | (simp [*];done)),H',⟨by have:=HJ2.out;first | omega | exact Nat.le_refl _⟩,⟨bBX22⟩⟩
            ·rw [if_neg c25] at H
             exact absurd H (by simp)
           ·rw [if_neg c24] at H
            have c24b0:(x4_2==6)=false:=beq_eq_false_iff_ne.mpr c24
            have c24b1:(x4_2 != 6)=true:=bne_iff_ne.mpr c24
            (first | rw [c24b0] | (simp only [i64_w,i32_w];rw [c24b0]) | skip)
            have H':=Aside0.mk H
            clear H
            go_wp2
            repeat (go_quiet (fail);try go_wp2)
            go_meet
            case rel=>exact ⟨_,(0),(true),(by first | rfl | (simp;done) | (simp [*];done)),(by first | rfl | (simp;done) | (simp [*];done)),H',⟨by have:=HJ2.out;first | omega | exact Nat.le_refl _⟩,⟨bBX22⟩⟩
          case rest=>
           clear HC16
           clear c7b0 c7b1 c10b0 c10b1 c12b0 c12b1 c14b0 c14b1 qI qE qF qG p139 p143 p146 p149 q139 q143 q146 q149
           obtain ⟨kq,x13_15,x14_15,rfl,rfl,HA,HJ15,HB⟩:=hcut
           cases kq with
           | zero=>exact absurd HA.out (by simp [parse_store.j1])
           | succ kj15=>
            have H:=HA.out
            clear HA
            simp only [parse_store.j1] at H
            have HC28:=Aside0.mk H
            clear H
            go_upto_region 15 with (fail)
            repeat (go_quiet (fail);go_upto_region 15 with (fail))
            go_cut [69] (fun v69 wc=>∃ (kq:Nat) (x69_27:Bool),v69=.bool x69_27∧Aside0 (parse_store.j2 kq l0 qB qC qH qD x13_15 x69_27=some (r1,r2))∧Aside0 (kq≤kj15)∧Aside0 (Below w.heap.size w wc))
            case first=>
             have H:=HC28.out
             clear HC28
             by_cases c29:qL=true
             ·subst c29
              have H1:(if qM=true then (if qN=true then (if x14_15=true then (if qC > 4294967295 then (parse_store.j2 kj15 l0 qB qC qH qD x13_15 true) else (parse_store.j2 kj15 l0 qB qC qH qD x13_15 (decide (qD > 2147483647)))) else (parse_store.j2 kj15 l0 qB qC qH qD x13_15 true)) else (parse_store.j2 kj15 l0 qB qC qH qD x13_15 true)) else (parse_store.j2 kj15 l0 qB qC qH qD x13_15 true))=some (r1,r2):=by rw [if_pos rfl] at H;exact H
              clear H
              have H:=H1
              clear H1
              by_cases c30:qM=true
              ·subst c30
               have H1:(if qN=true then (if x14_15=true then (if qC > 4294967295 then (parse_store.j2 kj15 l0 qB qC qH qD x13_15 true) else (parse_store.j2 kj15 l0 qB qC qH qD x13_15 (decide (qD > 2147483647)))) else (parse_store.j2 kj15 l0 qB qC qH qD x13_15 true)) else (parse_store.j2 kj15 l0 qB qC qH qD x13_15 true))=some (r1,r2):=by rw [if_pos rfl] at H;exact H
               clear H
               have H:=H1
               clear H1
               by_cases c31:qN=true
               ·subst c31
                have H1:(if x14_15=true then (if qC > 4294967295 then (parse_store.j2 kj15 l0 qB qC qH qD x13_15 true) else (parse_store.j2 kj15 l0 qB qC qH qD x13_15 (decide (qD > 2147483647)))) else (parse_store.j2 kj15 l0 qB qC qH qD x13_15 true))=some (r1,r2):=by rw [if_pos rfl] at H;exact H
                clear H
                have H:=H1
                clear H1
                by_cases c32:x14_15=true
                ·subst c32
                 have H1:(if qC > 4294967295 then (parse_store.j2 kj15 l0 qB qC qH qD x13_15 true) else (parse_store.j2 kj15 l0 qB qC qH qD x13_15 (decide (qD > 2147483647))))=some (r1,r2):=by rw [if_pos rfl] at H;exact H
                 clear H
                 have H:=H1
                 clear H1
                 by_cases c33:qC > 4294967295
                 ·rw [if_pos c33] at H
                  have c33b0:decide (4294967295 < qC)=true:=decide_eq_true c33
                  clear c33
                  (first | rw [c33b0] | (simp only [i64_w,i32_w];rw [c33b0]) | skip)
                  have H':=Aside0.mk H
                  clear H
                  go_wp2
                  repeat (go_quiet (fail);try go_wp2)
                  go_meet
                  case rel=>exact ⟨_,(true),(by first | rfl | (simp;done) | (simp [*];done)),H',⟨by have:=HJ2.out;have:=HJ15.out;first | omega | exact Nat.le_refl _⟩,⟨bBX22⟩⟩
                 ·rw [if_neg c33] at H
                  have c33b0:decide (4294967295 < qC)=false:=decide_eq_false c33
                  clear c33
                  (first | rw [c33b0] | (simp only [i64_w,i32_w];rw [c33b0]) | skip)
                  have H':=Aside0.mk H
                  clear H
                  go_wp2
                  repeat (go_quiet (fail);try go_wp2)
                  go_meet
                  case rel=>exact ⟨_,(decide (qD > 2147483647)),(by first | rfl | (simp;done) | (simp [*];done)),H',⟨by have:=HJ2.out;have:=HJ15.out;first | omega | exact Nat.le_refl _⟩,⟨bBX22⟩⟩
                ·replace c32:=Bool.eq_false_iff.mpr c32
                 subst c32
                 have H1:(parse_store.j2 kj15 l0 qB qC qH qD x13_15 true)=some (r1,r2):=by rw [if_neg (show ¬ (false=true) by decide)] at H;exact H
                 clear H
                 have H:=H1
                 clear H1
                 have H':=Aside0.mk H
                 clear H
                 go_wp2
                 repeat (go_quiet (fail);try go_wp2)
                 go_meet
                 case rel=>exact ⟨_,(true),(by first | rfl | (simp;done) | (simp [*];done)),H',⟨by have:=HJ2.out;have:=HJ15.out;first | omega | exact Nat.le_refl _⟩,⟨bBX22⟩⟩
               ·replace c31:=Bool.eq_false_iff.mpr c31
                subst c31
                have H1:(parse_store.j2 kj15 l0 qB qC qH qD x13_15 true)=some (r1,r2):=by rw [if_neg (show ¬ (false=true) by decide)] at H;exact H
                clear H
                have H:=H1
                clear H1
                have H':=Aside0.mk H
                clear H
                go_wp2
                repeat (go_quiet (fail);try go_wp2)
                go_meet
                case rel=>exact ⟨_,(true),(by first | rfl | (simp;done) | (simp [*];done)),H',⟨by have:=HJ2.out;have:=HJ15.out;first | omega | exact Nat.le_refl _⟩,⟨bBX22⟩⟩
              ·replace c30:=Bool.eq_false_iff.mpr c30
               subst c30
               have H1:(parse_store.j2 kj15 l0 qB qC qH qD x13_15 true)=some (r1,r2):=by rw [if_neg (show ¬ (false=true) by decide)] at H;exact H
               clear H
               have H:=H1
               clear H1
               have H':=Aside0.mk H
               clear H
               go_wp2
               repeat (go_quiet (fail);try go_wp2)
               go_meet
               case rel=>exact ⟨_,(true),(by first | rfl | (simp;done) | (simp [*];done)),H',⟨by have:=HJ2.out;have:=HJ15.out;first | omega | exact Nat.le_refl _⟩,⟨bBX22⟩⟩
             ·replace c29:=Bool.eq_false_iff.mpr c29
              subst c29
              have H1:(parse_store.j2 kj15 l0 qB qC qH qD x13_15 true)=some (r1,r2):=by rw [if_neg (show ¬ (false=true) by decide)] at H;exact H
              clear H
              have H:=H1
              clear H1
              have H':=Aside0.mk H
              clear H
              go_wp2
              repeat (go_quiet (fail);try go_wp2)
              go_meet
              case rel=>exact ⟨_,(true),(by first | rfl | (simp;done) | (simp [*];done)),H',⟨by have:=HJ2.out;have:=HJ15.out;first | omega | exact Nat.le_refl _⟩,⟨bBX22⟩⟩
            case rest=>
             clear HC28
             obtain ⟨kq,x69_27,rfl,HA,HJ27,HB⟩:=hcut
             cases kq with
             | zero=>exact absurd HA.out (by simp [parse_store.j2])
             | succ kj27=>
              have H:=HA.out
              clear HA
              simp only [parse_store.j2] at H
              by_cases c34:x69_27=true
              ·subst c34
               have H1:((parse_bad.f (⟨#[67,76,73,69,78,84,95,69,82,82,79,82,32,98,97,100,32,99,111,109,109,97,110,100,32,108,105,110,101,32,102,111,114,109,97,116]⟩:ByteArray)).bind fun bt155=>(some (bt155.1,bt155.2)))=some (r1,r2):=by rw [if_pos rfl] at H;exact H
               clear H
               have H:=H1
               clear H1
               replace H:=Option.bind_eq_some_iff.mp H
               obtain ⟨⟨qZ,qa⟩,A350,H⟩:=H
               replace H:(some (qZ,qa))=some (r1,r2):=H
               have A35:=Aside0.mk A350
               clear A350
               simp only [Option.some.injEq,Prod.mk.injEq] at H
               obtain ⟨rfl,rfl⟩:=H
               go_wp2_with (first | (go_at_call 47;(with_reducible refine (parse_bad.calls (⟨#[67,76,73,69,78,84,95,69,82,82,79,82,32,98,97,100,32,99,111,109,109,97,110,100,32,108,105,110,101,32,102,111,114,109,97,116]⟩:ByteArray) qZ qa _ A35.out).mono ?_);rintro e w' ⟨rfl,⟨nd,rfl⟩⟩;(try first | exact ⟨rfl,_,World.drewN_drewN _ _ _⟩ | exact ⟨rfl,_,Eq.trans (World.drewN_drewN _ _ _) (congrArg (World.drewN _) (Nat.add_assoc _ _ _))⟩)))
               repeat (go_quiet (first | (go_at_call 47;(with_reducible refine (parse_bad.calls (⟨#[67,76,73,69,78,84,95,69,82,82,79,82,32,98,97,100,32,99,111,109,109,97,110,100,32,108,105,110,101,32,102,111,114,109,97,116]⟩:ByteArray) qZ qa _ A35.out).mono ?_);rintro e w' ⟨rfl,⟨nd,rfl⟩⟩;(try first | exact ⟨rfl,_,World.drewN_drewN _ _ _⟩ | exact ⟨rfl,_,Eq.trans (World.drewN_drewN _ _ _) (congrArg (World.drewN _) (Nat.add_assoc _ _ _))⟩)));try go_wp2_with (first | (go_at_call 47;(with_reducible refine (parse_bad.calls (⟨#[67,76,73,69,78,84,95,69,82,82,79,82,32,98,97,100,32,99,111,109,109,97,110,100,32,108,105,110,101,32,102,111,114,109,97,116]⟩:ByteArray) qZ qa _ A35.out).mono ?_);rintro e w' ⟨rfl,⟨nd,rfl⟩⟩;(try first | exact ⟨rfl,_,World.drewN_drewN _ _ _⟩ | exact ⟨rfl,_,Eq.trans (World.drewN_drewN _ _ _) (congrArg (World.drewN _) (Nat.add_assoc _ _ _))⟩))))
               go_ret2
               exact ⟨by first | rfl | (simp [errW_none,errW_some]<;>rfl) | (simp [*,errW_none,errW_some]<;>rfl),bBX22⟩
              ·replace c34:=Bool.eq_false_iff.mpr c34
               subst c34
               have H1:(if qD > 1024 then (some ((Cm.bad (⟨#[83,69,82,86,69,82,95,69,82,82,79,82,32,111,98,106,101,99,116,32,116,111,111,32,108,97,114,103,101,32,102,111,114,32,99,97,99,104,101]⟩:ByteArray)),wrap64 (qD))) else (if 0 < (l0.length:Int) then (if 1 < (l0.length:Int) then (some ((Cm.store (rdOf ByteArray.empty l0 0) (rdOf ByteArray.empty l0 1) (⟨#[]⟩:ByteArray) ((qC) % 4294967296) qH x13_15 qB),wrap64 (qD))) else (none)) else (none)))=some (r1,r2):=by rw [if_neg (show ¬ (false=true) by decide)] at H;exact H
               clear H
               have H:=H1
               clear H1
               by_cases c36:qD > 1024
               ·rw [if_pos c36] at H
                have c36b0:decide (1024 < qD)=true:=decide_eq_true c36
                clear c36
                simp only [Option.some.injEq,Prod.mk.injEq] at H
                obtain ⟨rfl,rfl⟩:=H
                go_wp2
                repeat (go_quiet (fail);try go_wp2)
                go_ret2
                exact ⟨by first | rfl | (simp [errW_none,errW_some]<;>rfl) | (simp [*,errW_none,errW_some]<;>rfl),bBX22⟩
               ·rw [if_neg c36] at H
                have c36b0:decide (1024 < qD)=false:=decide_eq_false c36
                clear c36
                by_cases c37:0 < (l0.length:Int)
                ·rw [if_pos c37] at H
                 have c37b0:decide (0 < (l0.length:Int))=true:=decide_eq_true c37
                 have c37b1:decide (0 < l0.length)=true:=decide_eq_true (by omega)
                 clear c37
                 by_cases c38:1 < (l0.length:Int)
                 ·rw [if_pos c38] at H
                  have c38b0:decide (1 < (l0.length:Int))=true:=decide_eq_true c38
                  have c38b1:decide (1 < l0.length)=true:=decide_eq_true (by omega)
                  clear c38
                  simp only [Option.some.injEq,Prod.mk.injEq] at H
                  obtain ⟨rfl,rfl⟩:=H
                  have p157:0≤(0:Int):=(by omega)
                  have q157:0 < (l0.length:Int):=of_decide_eq_true (by first | (with_reducible assumption) | assumption)
                  obtain ⟨qh,e157,qP⟩:=Kd.at_string HR0.out 0 p157 q157
                  obtain rfl:qJ=qh:=(by injection e157)
                  have qi157:(0 < l0.length)=True:=eq_true (by omega)
                  (try rw [show ((0:Int)).toNat=0 from rfl] at qP)
                  (try rw [Addr.add_zero'] at qP)
                  replace qP:=(HB.out.cell (World.block_lt_of_cell? w _ qP)).trans qP
                  replace p157:=eq_true p157
                  replace q157:=eq_true q157
                  have p158:0≤(1:Int):=(by omega)
                  have q158:1 < (l0.length:Int):=of_decide_eq_true (by first | (with_reducible assumption) | assumption)
                  obtain ⟨qi,e158,qQ⟩:=Kd.at_string HR0.out 1 p158 q158
                  obtain rfl:qJ=qi:=(by injection e158)
                  (try simp only [show (1:Int).toNat=1 from rfl,Nat.reduceMul,Nat.reduceEqDiff,Go.Addr.add,↓reduceIte] at qQ)
                  have qi158:(1 < l0.length)=True:=eq_true (by omega)
                  (try rw [show ((1:Int)).toNat=1 from rfl] at qQ)
                  replace qQ:=(HB.out.cell (World.block_lt_of_cell? w _ qQ)).trans qQ
                  replace p158:=eq_true p158
                  replace q158:=eq_true q158
                  go_wp2
                  repeat (go_quiet (fail);try go_wp2)
                  go_ret2
                  exact ⟨by first | rfl | (simp [errW_none,errW_some]<;>rfl) | (simp [*,errW_none,errW_some]<;>rfl),bBX22⟩
                 ·rw [if_neg c38] at H
                  exact absurd H (by simp)
                ·rw [if_neg c37] at H
                 exact absurd H (by simp)
         ·rw [if_neg c14] at H
          exact absurd H (by simp)
        ·rw [if_neg c12] at H
         exact absurd H (by simp)
       ·rw [if_neg c10] at H
        exact absurd H (by simp)
      ·replace c9:=Bool.eq_false_iff.mpr c9
       subst c9
       have H1:((parse_bad.f (⟨#[67,76,73,69,78,84,95,69,82,82,79,82,32,98,97,100,32,99,111,109,109,97,110,100,32,108,105,110,101,32,102,111,114,109,97,116]⟩:ByteArray)).bind fun bt141=>(some (bt141.1,bt141.2)))=some (r1,r2):=by rw [if_neg (show ¬ (false=true) by decide)] at H;exact H
       clear H
       have H:=H1
       clear H1
       replace H:=Option.bind_eq_some_iff.mp H
       obtain ⟨⟨qb,qc⟩,A390,H⟩:=H
       replace H:(some (qb,qc))=some (r1,r2):=H
       have A39:=Aside0.mk A390
       clear A390
       simp only [Option.some.injEq,Prod.mk.injEq] at H
       obtain ⟨rfl,rfl⟩:=H
       go_wp2_with (first | ((with_reducible refine gate_dst (N:=22) rfl ?_);refine Kd.R_lit Kd.string _ 9 ?hg (N:=22) ?hd (xs:=([(⟨#[110,111,114,101,112,108,121]⟩:ByteArray)]:List ByteArray)) (inner:=[.string (⟨#[110,111,114,101,112,108,121]⟩:ByteArray)]) (ok:=fun _=>True) (okp:=fun _=>True) ?hr ?hp (fun _ hk=>hk) trivial (Below.refl _ _) (Nat.le_refl _) (by simp) ?_;(case hd=>rfl);(case hg=>rfl);(case hr=>first | (go_simp;done) | (go_simp;rfl));(case hp=>exact (Reps.one (show Kd.M Kd.string _ _ _ (⟨#[110,111,114,101,112,108,121]⟩:ByteArray) [.string (⟨#[110,111,114,101,112,108,121]⟩:ByteArray)] from rfl) (Reps.none _ _)));intro v133 w40 ho41 hb hg_ hnew_;clear hg_ hnew_;(first | rw [← qS.out] at ho41 | (simp only [Int.reduceToNat] at ho41;rw [← qS.out] at ho41));have n0_:=Aside0.mk (Kd.R_lower ho41 (below_size bBX22));have n1_:=Aside0.mk (below_step bBX22 hb);clear HB;have qA:=n0_;have HB:=n1_;clear n0_ n1_;clear hb ho41;obtain ⟨qs,qt,qo⟩:=Kd.R_slice qA.out;subst qo) | (go_at_call 51;(with_reducible refine (parse_ends.calls kj2 _ _ l0 x4_2 _ _ y132 qB true _ ?side1 ?side2 ?side3 ?side4 A5.out).mono ?_);(case side1=>repeat (first | exact (Kd.C_below HR0.out HB.out) | (with_reducible refine Kd.C_alloc ?_ _) | (with_reducible refine Kd.C_drewN ?_ _) | (with_reducible refine Kd.C_drew ?_)));(case side2=>exact HC0.out);(case side3=>repeat (first | exact (Kd.R_reads' qA.out).2.2 | (with_reducible refine Kd.C_alloc ?_ _) | (with_reducible refine Kd.C_drewN ?_ _) | (with_reducible refine Kd.C_drew ?_)));(case side4=>exact (Kd.R_reads' qA.out).2.1);rintro e w' ⟨rfl,⟨nd,rfl⟩⟩;(try first | exact ⟨rfl,_,World.drewN_drewN _ _ _⟩ | exact ⟨rfl,_,Eq.trans (World.drewN_drewN _ _ _) (congrArg (World.drewN _) (Nat.add_assoc _ _ _))⟩);have p139:0≤(1:Int):=(by omega);have q139:1 < (l0.length:Int):=of_decide_eq_true (by first | (with_reducible assumption) | assumption);obtain ⟨qY,e139,qI⟩:=Kd.at_string HR0.out 1 p139 q139;obtain rfl:qJ=qY:=(by injection e139);(try simp only [show (1:Int).toNat=1 from rfl,Nat.reduceMul,Nat.reduceEqDiff,Go.Addr.add,↓reduceIte] at qI);have qi139:(1 < l0.length)=True:=eq_true (by omega);(try rw [show ((1:Int)).toNat=1 from rfl] at qI);replace qI:=(HB.out.cell (World.block_lt_of_cell? w _ qI)).trans qI;replace p139:=eq_true p139;replace q139:=eq_true q139) | (go_at_call 52;(with_reducible refine (words_Key.calls (rdOf ByteArray.empty l0 1) false _ ?side1 A8.out).mono ?_);(case side1=>exact HLD.below bBX22);rintro e w43 ⟨rfl,hb⟩;have n0_:=Aside0.mk (Kd.R_below (by (with_reducible repeat (first | apply Kd.R_alloc | apply Kd.R_drewN | apply Kd.R_drew));exact qA.out) hb);have n1_:=Aside0.mk (below_step bBX22 hb);clear qA;clear HB;have qA:=n0_;have HB:=n1_;clear n0_ n1_;(try clear hb);(try clear hb2);(try clear hk);(try clear hi)) | (go_at_call 47;(with_reducible refine (parse_bad.calls (⟨#[67,76,73,69,78,84,95,69,82,82,79,82,32,98,97,100,32,99,111,109,109,97,110,100,32,108,105,110,101,32,102,111,114,109,97,116]⟩:ByteArray) qb qc _ A39.out).mono ?_);rintro e w' ⟨rfl,⟨nd,rfl⟩⟩;(try first | exact ⟨rfl,_,World.drewN_drewN _ _ _⟩ | exact ⟨rfl,_,Eq.trans (World.drewN_drewN _ _ _) (congrArg (World.drewN _) (Nat.add_assoc _ _ _))⟩)))
       repeat (go_quiet (first | (go_at_call 52;(with_reducible refine (words_Key.calls (rdOf ByteArray.empty l0 1) false _ ?side1 A8.out).mono ?_);(case side1=>exact HLD.below bBX22);rintro e w43 ⟨rfl,hb⟩;have n0_:=Aside0.mk (Kd.R_below (by (with_reducible repeat (first | apply Kd.R_alloc | apply Kd.R_drewN | apply Kd.R_drew));exact qA.out) hb);have n1_:=Aside0.mk (below_step bBX22 hb);clear qA;clear HB;have qA:=n0_;have HB:=n1_;clear n0_ n1_;(try clear hb);(try clear hb2);(try clear hk);(try clear hi)) | (go_at_call 47;(with_reducible refine (parse_bad.calls (⟨#[67,76,73,69,78,84,95,69,82,82,79,82,32,98,97,100,32,99,111,109,109,97,110,100,32,108,105,110,101,32,102,111,114,109,97,116]⟩:ByteArray) qb qc _ A39.out).mono ?_);rintro e w' ⟨rfl,⟨nd,rfl⟩⟩;(try first | exact ⟨rfl,_,World.drewN_drewN _ _ _⟩ | exact ⟨rfl,_,Eq.trans (World.drewN_drewN _ _ _) (congrArg (World.drewN _) (Nat.add_assoc _ _ _))⟩)));try go_wp2_with (first | (go_at_call 52;(with_reducible refine (words_Key.calls (rdOf ByteArray.empty l0 1) false _ ?side1 A8.out).mono ?_);(case side1=>exact HLD.below bBX22);rintro e w43 ⟨rfl,hb⟩;have n0_:=Aside0.mk (Kd.R_below (by (with_reducible repeat (first | apply Kd.R_alloc | apply Kd.R_drewN | apply Kd.R_drew));exact qA.out) hb);have n1_:=Aside0.mk (below_step bBX22 hb);clear qA;clear HB;have qA:=n0_;have HB:=n1_;clear n0_ n1_;(try clear hb);(try clear hb2);(try clear hk);(try clear hi)) | (go_at_call 47;(with_reducible refine (parse_bad.calls (⟨#[67,76,73,69,78,84,95,69,82,82,79,82,32,98,97,100,32,99,111,109,109,97,110,100,32,108,105,110,101,32,102,111,114,109,97,116]⟩:ByteArray) qb qc _ A39.out).mono ?_);rintro e w' ⟨rfl,⟨nd,rfl⟩⟩;(try first | exact ⟨rfl,_,World.drewN_drewN _ _ _⟩ | exact ⟨rfl,_,Eq.trans (World.drewN_drewN _ _ _) (congrArg (World.drewN _) (Nat.add_assoc _ _ _))⟩))))
       go_ret2
       exact ⟨by first | rfl | (simp [errW_none,errW_some]<;>rfl) | (simp [*,errW_none,errW_some]<;>rfl),bBX22⟩
     ·rw [if_neg c7] at H
      exact absurd H (by simp)
    ·replace c6:=Bool.eq_false_iff.mpr c6
     subst c6
     have H1:((parse_bad.f (⟨#[69,82,82,79,82]⟩:ByteArray)).bind fun bt137=>(some (bt137.1,bt137.2)))=some (r1,r2):=by rw [if_neg (show ¬ (false=true) by decide)] at H;exact H
     clear H
     have H:=H1
     clear H1
     replace H:=Option.bind_eq_some_iff.mp H
     obtain ⟨⟨qd,qe⟩,A440,H⟩:=H
     replace H:(some (qd,qe))=some (r1,r2):=H
     have A44:=Aside0.mk A440
     clear A440
     simp only [Option.some.injEq,Prod.mk.injEq] at H
     obtain ⟨rfl,rfl⟩:=H
     go_wp2_with (first | ((with_reducible refine gate_dst (N:=22) rfl ?_);refine Kd.R_lit Kd.string _ 9 ?hg (N:=22) ?hd (xs:=([(⟨#[110,111,114,101,112,108,121]⟩:ByteArray)]:List ByteArray)) (inner:=[.string (⟨#[110,111,114,101,112,108,121]⟩:ByteArray)]) (ok:=fun _=>True) (okp:=fun _=>True) ?hr ?hp (fun _ hk=>hk) trivial (Below.refl _ _) (Nat.le_refl _) (by simp) ?_;(case hd=>rfl);(case hg=>rfl);(case hr=>first | (go_simp;done) | (go_simp;rfl));(case hp=>exact (Reps.one (show Kd.M Kd.string _ _ _ (⟨#[110,111,114,101,112,108,121]⟩:ByteArray) [.string (⟨#[110,111,114,101,112,108,121]⟩:ByteArray)] from rfl) (Reps.none _ _)));intro v133 w45 ho46 hb hg_ hnew_;clear hg_ hnew_;(first | rw [← qS.out] at ho46 | (simp only [Int.reduceToNat] at ho46;rw [← qS.out] at ho46));have n0_:=Aside0.mk (Kd.R_lower ho46 (below_size bBX22));have n1_:=Aside0.mk (below_step bBX22 hb);clear HB;have qA:=n0_;have HB:=n1_;clear n0_ n1_;clear hb ho46;obtain ⟨qu,qv,qp⟩:=Kd.R_slice qA.out;subst qp) | (go_at_call 51;(with_reducible refine (parse_ends.calls kj2 _ _ l0 x4_2 _ _ y132 qB false _ ?side1 ?side2 ?side3 ?side4 A5.out).mono ?_);(case side1=>repeat (first | exact (Kd.C_below HR0.out HB.out) | (with_reducible refine Kd.C_alloc ?_ _) | (with_reducible refine Kd.C_drewN ?_ _) | (with_reducible refine Kd.C_drew ?_)));(case side2=>exact HC0.out);(case side3=>repeat (first | exact (Kd.R_reads' qA.out).2.2 | (with_reducible refine Kd.C_alloc ?_ _) | (with_reducible refine Kd.C_drewN ?_ _) | (with_reducible refine Kd.C_drew ?_)));(case side4=>exact (Kd.R_reads' qA.out).2.1);rintro e w' ⟨rfl,⟨nd,rfl⟩⟩;(try first | exact ⟨rfl,_,World.drewN_drewN _ _ _⟩ | exact ⟨rfl,_,Eq.trans (World.drewN_drewN _ _ _) (congrArg (World.drewN _) (Nat.add_assoc _ _ _))⟩)) | (go_at_call 47;(with_reducible refine (parse_bad.calls (⟨#[69,82,82,79,82]⟩:ByteArray) qd qe _ A44.out).mono ?_);rintro e w' ⟨rfl,⟨nd,rfl⟩⟩;(try first | exact ⟨rfl,_,World.drewN_drewN _ _ _⟩ | exact ⟨rfl,_,Eq.trans (World.drewN_drewN _ _ _) (congrArg (World.drewN _) (Nat.add_assoc _ _ _))⟩)))
     repeat (go_quiet (first | (go_at_call 47;(with_reducible refine (parse_bad.calls (⟨#[69,82,82,79,82]⟩:ByteArray) qd qe _ A44.out).mono ?_);rintro e w' ⟨rfl,⟨nd,rfl⟩⟩;(try first | exact ⟨rfl,_,World.drewN_drewN _ _ _⟩ | exact ⟨rfl,_,Eq.trans (World.drewN_drewN _ _ _) (congrArg (World.drewN _) (Nat.add_assoc _ _ _))⟩)));try go_wp2_with (first | (go_at_call 47;(with_reducible refine (parse_bad.calls (⟨#[69,82,82,79,82]⟩:ByteArray) qd qe _ A44.out).mono ?_);rintro e w' ⟨rfl,⟨nd,rfl⟩⟩;(try first | exact ⟨rfl,_,World.drewN_drewN _ _ _⟩ | exact ⟨rfl,_,Eq.trans (World.drewN_drewN _ _ _) (congrArg (World.drewN _) (Nat.add_assoc _ _ _))⟩))))
     go_ret2
     exact ⟨by first | rfl | (simp [errW_none,errW_some]<;>rfl) | (simp [*,errW_none,errW_some]<;>rfl),bBX22⟩
 ·rw [if_neg c2] at H
  exact absurd H (by simp)

end Go.Proofs.YtfbhlbchmenloaaGreatDoor.H
-- thinned
end
section
namespace Go.Proofs.YtfbhlbchmenloaaGreatDoor.H
open Go.RowKit Go.Proofs.YtfbhlbchmenloaaGreatDoorW.PrintWords Go.Proofs.YtfbhlbchmenloaaGreatDoorW.PrintLast Go.Proofs.YtfbhlbchmenloaaGreatDoorW.PrintMore
attribute [local go_sem] max2_int min2_int max_two min_two max_three min_three max_four min_four   -- for this text's walks alone
set_option linter.unusedVariables false
set_option linter.unusedSimpArgs false

/-! ### parse_keyed: function 50 -/
def parse_keyed.f (k:Nat) (l0:List ByteArray):Option (Cm×Int):=(parse_ends.f k l0 3 (([(⟨#[110,111,114,101,112,108,121]⟩:ByteArray)]:List ByteArray))).bind fun bt162=>(if bt162.2=true then (if 1 < (l0.length:Int) then ((words_Key.f (rdOf ByteArray.empty l0 1)).bind fun t165=>(if t165=true then (if 0 < (l0.length:Int) then (if (rdOf ByteArray.empty l0 0).toList=([116,111,117,99,104]:List UInt8) then (if 2 < (l0.length:Int) then ((words_Signed.f k (rdOf ByteArray.empty l0 2)).bind fun bt172=>(if bt172.2=true then (some ((Cm.touch (rdOf ByteArray.empty l0 1) bt172.1 bt162.1),(-1))) else ((parse_bad.f (⟨#[67,76,73,69,78,84,95,69,82,82,79,82,32,105,110,118,97,108,105,100,32,101,120,112,116,105,109,101,32,97,114,103,117,109,101,110,116]⟩:ByteArray)).bind fun bt175=>(some (bt175.1,bt175.2))))) else (none)) else (if 2 < (l0.length:Int) then ((words_Number.f (rdOf ByteArray.empty l0 2)).bind fun bt178=>(if bt178.2=true then (some ((Cm.arith (rdOf ByteArray.empty l0 1) bt178.1 ((rdOf ByteArray.empty l0 0).toList==([100,101,99,114]:List UInt8)) bt162.1),(-1))) else ((parse_bad.f (⟨#[67,76,73,69,78,84,95,69,82,82,79,82,32,105,110,118,97,108,105,100,32,110,117,109,101,114,105,99,32,100,101,108,116,97,32,97,114,103,117,109,101,110,116]⟩:ByteArray)).bind fun bt182=>(some (bt182.1,bt182.2))))) else (none))) else (none)) else ((parse_bad.f (⟨#[67,76,73,69,78,84,95,69,82,82,79,82,32,98,97,100,32,99,111,109,109,97,110,100,32,108,105,110,101,32,102,111,114,109,97,116]⟩:ByteArray)).bind fun bt166=>(some (bt166.1,bt166.2))))) else (none)) else ((parse_bad.f (⟨#[69,82,82,79,82]⟩:ByteArray)).bind fun bt168=>(some (bt168.1,bt168.2))))
theorem parse_keyed.mono:∀ a0 k,LeO (parse_keyed.f k a0) (parse_keyed.f (k + 1) a0):=by
  intro a0 k
  unfold parse_keyed.f
  repeat' first
      | (with_reducible exact parse_ends.mono _ _ _ _)
      | (with_reducible exact words_Signed.mono _ _)
      | (with_reducible exact LeO.refl _)
      | (with_reducible exact LeO.none _)
      | (with_reducible refine LeO.ite ?_ ?_)
      | (with_reducible refine LeO.bind ?_ (fun _=>?_))
      | exact parse_ends.mono _ _ _ _
      | exact words_Signed.mono _ _
      | exact LeO.none _
      | refine LeO.ite ?_ ?_
      | refine LeO.bind ?_ (fun _=>?_)
theorem bBX23 {B:Nat} {w W:World} (h:Below B w W:=by repeat (first | (with_reducible first | exact HB.out | apply below_alloc | apply pw_below_drewN | apply below_drew1) | exact HB.out)):Below B w W:=h
set_option maxHeartbeats 8000000 in
set_option maxRecDepth 100000 in
theorem parse_keyed.calls (k:Nat) (A0:Option Addr) (c0:Nat) (l0:List ByteArray) (r1:Cm) (r2:Int) (w:World) (HLD:LaidA w) (hr0:Kd.C Kd.string w A0 l0.length l0) (hc0:l0.length≤c0) (h:parse_keyed.f k l0=some (r1,r2)) :
  Calls Tryz.prog 50 #[.slice A0 l0.length c0] w fun e w'=>e=.returned (.tuple #[anyW r1,.int .i64 r2])∧Below w.heap.size w w':=by
 have hu79:=Tryz.underlying79
 have hu76:=Tryz.underlying76
 have HR0:=Aside0.mk hr0
 have HC0:=Aside0.mk hc0
 clear hr0 hc0
 have HB:=Aside0.mk (Below.refl w.heap.size w)
 have H:((parse_ends.f k l0 3 (([(⟨#[110,111,114,101,112,108,121]⟩:ByteArray)]:List ByteArray))).bind fun bt162=>(if bt162.2=true then (if 1 < (l0.length:Int) then ((words_Key.f (rdOf ByteArray.empty l0 1)).bind fun qL=>(if qL=true then (if 0 < (l0.length:Int) then (if (rdOf ByteArray.empty l0 0).toList=([116,111,117,99,104]:List UInt8) then (if 2 < (l0.length:Int) then ((words_Signed.f k (rdOf ByteArray.empty l0 2)).bind fun bt172=>(if bt172.2=true then (some ((Cm.touch (rdOf ByteArray.empty l0 1) bt172.1 bt162.1),(-1))) else ((parse_bad.f (⟨#[67,76,73,69,78,84,95,69,82,82,79,82,32,105,110,118,97,108,105,100,32,101,120,112,116,105,109,101,32,97,114,103,117,109,101,110,116]⟩:ByteArray)).bind fun bt175=>(some (bt175.1,bt175.2))))) else (none)) else (if 2 < (l0.length:Int) then ((words_Number.f (rdOf ByteArray.empty l0 2)).bind fun bt178=>(if bt178.2=true then (some ((Cm.arith (rdOf ByteArray.empty l0 1) bt178.1 ((rdOf ByteArray.empty l0 0).toList==([100,101,99,114]:List UInt8)) bt162.1),(-1))) else ((parse_bad.f (⟨#[67,76,73,69,78,84,95,69,82,82,79,82,32,105,110,118,97,108,105,100,32,110,117,109,101,114,105,99,32,100,101,108,116,97,32,97,114,103,117,109,101,110,116]⟩:ByteArray)).bind fun bt182=>(some (bt182.1,bt182.2))))) else (none))) else (none)) else ((parse_bad.f (⟨#[67,76,73,69,78,84,95,69,82,82,79,82,32,98,97,100,32,99,111,109,109,97,110,100,32,108,105,110,101,32,102,111,114,109,97,116]⟩:ByteArray)).bind fun bt166=>(some (bt166.1,bt166.2))))) else (none)) else ((parse_bad.f (⟨#[69,82,82,79,82]⟩:ByteArray)).bind fun bt168=>(some (bt168.1,bt168.2)))))=some (r1,r2):=h
 clear h
 obtain ⟨y159,hy159⟩:∃ y_:List ByteArray,y_=(([(⟨#[110,111,114,101,112,108,121]⟩:ByteArray)]:List ByteArray)):=⟨_,rfl⟩
 replace H:((parse_ends.f k l0 3 y159).bind fun bt162=>(if bt162.2=true then (if 1 < (l0.length:Int) then ((words_Key.f (rdOf ByteArray.empty l0 1)).bind fun qL=>(if qL=true then (if 0 < (l0.length:Int) then (if (rdOf ByteArray.empty l0 0).toList=([116,111,117,99,104]:List UInt8) then (if 2 < (l0.length:Int) then ((words_Signed.f k (rdOf ByteArray.empty l0 2)).bind fun bt172=>(if bt172.2=true then (some ((Cm.touch (rdOf ByteArray.empty l0 1) bt172.1 bt162.1),(-1))) else ((parse_bad.f (⟨#[67,76,73,69,78,84,95,69,82,82,79,82,32,105,110,118,97,108,105,100,32,101,120,112,116,105,109,101,32,97,114,103,117,109,101,110,116]⟩:ByteArray)).bind fun bt175=>(some (bt175.1,bt175.2))))) else (none)) else (if 2 < (l0.length:Int) then ((words_Number.f (rdOf ByteArray.empty l0 2)).bind fun bt178=>(if bt178.2=true then (some ((Cm.arith (rdOf ByteArray.empty l0 1) bt178.1 ((rdOf ByteArray.empty l0 0).toList==([100,101,99,114]:List UInt8)) bt162.1),(-1))) else ((parse_bad.f (⟨#[67,76,73,69,78,84,95,69,82,82,79,82,32,105,110,118,97,108,105,100,32,110,117,109,101,114,105,99,32,100,101,108,116,97,32,97,114,103,117,109,101,110,116]⟩:ByteArray)).bind fun bt182=>(some (bt182.1,bt182.2))))) else (none))) else (none)) else ((parse_bad.f (⟨#[67,76,73,69,78,84,95,69,82,82,79,82,32,98,97,100,32,99,111,109,109,97,110,100,32,108,105,110,101,32,102,111,114,109,97,116]⟩:ByteArray)).bind fun bt166=>(some (bt166.1,bt166.2))))) else (none)) else ((parse_bad.f (⟨#[69,82,82,79,82]⟩:ByteArray)).bind fun bt168=>(some (bt168.1,bt168.2)))))=some (r1,r2):=by first | (rw [hy159];with_reducible exact H) | (have H2_:=(Option.bind_some _ _).symm.trans H;rw [hy159];with_reducible exact H2_) | (have H2_:=(Option.bind_some _ _).symm.trans H;with_reducible exact H2_) | with_reducible exact H | (rw [hy159];exact H) | exact H
 have qK:=Aside0.mk hy159
 clear hy159
 replace H:=Option.bind_eq_some_iff.mp H
 obtain ⟨⟨qJ,qc⟩,A20,H⟩:=H
 replace H:(if qc=true then (if 1 < (l0.length:Int) then ((words_Key.f (rdOf ByteArray.empty l0 1)).bind fun qL=>(if qL=true then (if 0 < (l0.length:Int) then (if (rdOf ByteArray.empty l0 0).toList=([116,111,117,99,104]:List UInt8) then (if 2 < (l0.length:Int) then ((words_Signed.f k (rdOf ByteArray.empty l0 2)).bind fun bt172=>(if bt172.2=true then (some ((Cm.touch (rdOf ByteArray.empty l0 1) bt172.1 qJ),(-1))) else ((parse_bad.f (⟨#[67,76,73,69,78,84,95,69,82,82,79,82,32,105,110,118,97,108,105,100,32,101,120,112,116,105,109,101,32,97,114,103,117,109,101,110,116]⟩:ByteArray)).bind fun bt175=>(some (bt175.1,bt175.2))))) else (none)) else (if 2 < (l0.length:Int) then ((words_Number.f (rdOf ByteArray.empty l0 2)).bind fun bt178=>(if bt178.2=true then (some ((Cm.arith (rdOf ByteArray.empty l0 1) bt178.1 ((rdOf ByteArray.empty l0 0).toList==([100,101,99,114]:List UInt8)) qJ),(-1))) else ((parse_bad.f (⟨#[67,76,73,69,78,84,95,69,82,82,79,82,32,105,110,118,97,108,105,100,32,110,117,109,101,114,105,99,32,100,101,108,116,97,32,97,114,103,117,109,101,110,116]⟩:ByteArray)).bind fun bt182=>(some (bt182.1,bt182.2))))) else (none))) else (none)) else ((parse_bad.f (⟨#[67,76,73,69,78,84,95,69,82,82,79,82,32,98,97,100,32,99,111,109,109,97,110,100,32,108,105,110,101,32,102,111,114,109,97,116]⟩:ByteArray)).bind fun bt166=>(some (bt166.1,bt166.2))))) else (none)) else ((parse_bad.f (⟨#[69,82,82,79,82]⟩:ByteArray)).bind fun bt168=>(some (bt168.1,bt168.2))))=some (r1,r2):=H
 have A2:=Aside0.mk A20
 clear A20
 by_cases c3:qc=true
 ·subst c3
  have H1:(if 1 < (l0.length:Int) then ((words_Key.f (rdOf ByteArray.empty l0 1)).bind fun qL=>(if qL=true then (if 0 < (l0.length:Int) then (if (rdOf ByteArray.empty l0 0).toList=([116,111,117,99,104]:List UInt8) then (if 2 < (l0.length:Int) then ((words_Signed.f k (rdOf ByteArray.empty l0 2)).bind fun bt172=>(if bt172.2=true then (some ((Cm.touch (rdOf ByteArray.empty l0 1) bt172.1 qJ),(-1))) else ((parse_bad.f (⟨#[67,76,73,69,78,84,95,69,82,82,79,82,32,105,110,118,97,108,105,100,32,101,120,112,116,105,109,101,32,97,114,103,117,109,101,110,116]⟩:ByteArray)).bind fun bt175=>(some (bt175.1,bt175.2))))) else (none)) else (if 2 < (l0.length:Int) then ((words_Number.f (rdOf ByteArray.empty l0 2)).bind fun bt178=>(if bt178.2=true then (some ((Cm.arith (rdOf ByteArray.empty l0 1) bt178.1 ((rdOf ByteArray.empty l0 0).toList==([100,101,99,114]:List UInt8)) qJ),(-1))) else ((parse_bad.f (⟨#[67,76,73,69,78,84,95,69,82,82,79,82,32,105,110,118,97,108,105,100,32,110,117,109,101,114,105,99,32,100,101,108,116,97,32,97,114,103,117,109,101,110,116]⟩:ByteArray)).bind fun bt182=>(some (bt182.1,bt182.2))))) else (none))) else (none)) else ((parse_bad.f (⟨#[67,76,73,69,78,84,95,69,82,82,79,82,32,98,97,100,32,99,111,109,109,97,110,100,32,108,105,110,101,32,102,111,114,109,97,116]⟩:ByteArray)).bind fun bt166=>(some (bt166.1,bt166.2))))) else (none))=some (r1,r2):=by rw [if_pos rfl] at H;exact H
  clear H
  have H:=H1
  clear H1
  by_cases c4:1 < (l0.length:Int)
  ·rw [if_pos c4] at H
   have c4b0:decide (1 < (l0.length:Int))=true:=decide_eq_true c4
   have c4b1:decide (1 < l0.length)=true:=decide_eq_true (by omega)
   clear c4
   replace H:=Option.bind_eq_some_iff.mp H
   obtain ⟨qL,A50,H⟩:=H
   replace H:(if qL=true then (if 0 < (l0.length:Int) then (if (rdOf ByteArray.empty l0 0).toList=([116,111,117,99,104]:List UInt8) then (if 2 < (l0.length:Int) then ((words_Signed.f k (rdOf ByteArray.empty l0 2)).bind fun bt172=>(if bt172.2=true then (some ((Cm.touch (rdOf ByteArray.empty l0 1) bt172.1 qJ),(-1))) else ((parse_bad.f (⟨#[67,76,73,69,78,84,95,69,82,82,79,82,32,105,110,118,97,108,105,100,32,101,120,112,116,105,109,101,32,97,114,103,117,109,101,110,116]⟩:ByteArray)).bind fun bt175=>(some (bt175.1,bt175.2))))) else (none)) else (if 2 < (l0.length:Int) then ((words_Number.f (rdOf ByteArray.empty l0 2)).bind fun bt178=>(if bt178.2=true then (some ((Cm.arith (rdOf ByteArray.empty l0 1) bt178.1 ((rdOf ByteArray.empty l0 0).toList==([100,101,99,114]:List UInt8)) qJ),(-1))) else ((parse_bad.f (⟨#[67,76,73,69,78,84,95,69,82,82,79,82,32,105,110,118,97,108,105,100,32,110,117,109,101,114,105,99,32,100,101,108,116,97,32,97,114,103,117,109,101,110,116]⟩:ByteArray)).bind fun bt182=>(some (bt182.1,bt182.2))))) else (none))) else (none)) else ((parse_bad.f (⟨#[67,76,73,69,78,84,95,69,82,82,79,82,32,98,97,100,32,99,111,109,109,97,110,100,32,108,105,110,101,32,102,111,114,109,97,116]⟩:ByteArray)).bind fun bt166=>(some (bt166.1,bt166.2))))=some (r1,r2):=H
   have A5:=Aside0.mk A50
   clear A50
   by_cases c6:qL=true
   ·subst c6
    have H1:(if 0 < (l0.length:Int) then (if (rdOf ByteArray.empty l0 0).toList=([116,111,117,99,104]:List UInt8) then (if 2 < (l0.length:Int) then ((words_Signed.f k (rdOf ByteArray.empty l0 2)).bind fun bt172=>(if bt172.2=true then (some ((Cm.touch (rdOf ByteArray.empty l0 1) bt172.1 qJ),(-1))) else ((parse_bad.f (⟨#[67,76,73,69,78,84,95,69,82,82,79,82,32,105,110,118,97,108,105,100,32,101,120,112,116,105,109,101,32,97,114,103,117,109,101,110,116]⟩:ByteArray)).bind fun bt175=>(some (bt175.1,bt175.2))))) else (none)) else (if 2 < (l0.length:Int) then ((words_Number.f (rdOf ByteArray.empty l0 2)).bind fun bt178=>(if bt178.2=true then (some ((Cm.arith (rdOf ByteArray.empty l0 1) bt178.1 ((rdOf ByteArray.empty l0 0).toList==([100,101,99,114]:List UInt8)) qJ),(-1))) else ((parse_bad.f (⟨#[67,76,73,69,78,84,95,69,82,82,79,82,32,105,110,118,97,108,105,100,32,110,117,109,101,114,105,99,32,100,101,108,116,97,32,97,114,103,117,109,101,110,116]⟩:ByteArray)).bind fun bt182=>(some (bt182.1,bt182.2))))) else (none))) else (none))=some (r1,r2):=by rw [if_pos rfl] at H;exact H
    clear H
    have H:=H1
    clear H1
    by_cases c7:0 < (l0.length:Int)
    ·rw [if_pos c7] at H
     have c7b0:decide (0 < (l0.length:Int))=true:=decide_eq_true c7
     have c7b1:decide (0 < l0.length)=true:=decide_eq_true (by omega)
     clear c7
     by_cases c8:(rdOf ByteArray.empty l0 0).toList=([116,111,117,99,104]:List UInt8)
     ·rw [if_pos c8] at H
      have c8b0:((rdOf ByteArray.empty l0 0).toList==([116,111,117,99,104]:List UInt8))=true:=beq_iff_eq.mpr c8
      have c8b1:((rdOf ByteArray.empty l0 0).toList != ([116,111,117,99,104]:List UInt8))=false:=bne_eq_false_iff_eq.mpr c8
      clear c8
      by_cases c9:2 < (l0.length:Int)
      ·rw [if_pos c9] at H
       have c9b0:decide (2 < (l0.length:Int))=true:=decide_eq_true c9
       have c9b1:decide (2 < l0.length)=true:=decide_eq_true (by omega)
       clear c9
       replace H:=Option.bind_eq_some_iff.mp H
       obtain ⟨⟨qN,qd⟩,A100,H⟩:=H
       replace H:(if qd=true then (some ((Cm.touch (rdOf ByteArray.empty l0 1) qN qJ),(-1))) else ((parse_bad.f (⟨#[67,76,73,69,78,84,95,69,82,82,79,82,32,105,110,118,97,108,105,100,32,101,120,112,116,105,109,101,32,97,114,103,117,109,101,110,116]⟩:ByteArray)).bind fun bt175=>(some (bt175.1,bt175.2))))=some (r1,r2):=H
       have A10:=Aside0.mk A100
       clear A100
       by_cases c11:qd=true
       ·subst c11
        have H1:(some ((Cm.touch (rdOf ByteArray.empty l0 1) qN qJ),(-1)))=some (r1,r2):=by rw [if_pos rfl] at H;exact H
        clear H
        have H:=H1
        clear H1
        simp only [Option.some.injEq,Prod.mk.injEq] at H
        obtain ⟨rfl,rfl⟩:=H
        go_enter Tryz.func50,Tryz.ntmps50
        go_wp2_with (first | ((with_reducible refine gate_dst (N:=11) rfl ?_);refine Kd.R_lit Kd.string _ 9 ?hg (N:=11) ?hd (xs:=([(⟨#[110,111,114,101,112,108,121]⟩:ByteArray)]:List ByteArray)) (inner:=[.string (⟨#[110,111,114,101,112,108,121]⟩:ByteArray)]) (ok:=fun _=>True) (okp:=fun _=>True) ?hr ?hp (fun _ hk=>hk) trivial (Below.refl _ _) (Nat.le_refl _) (by simp) ?_;(case hd=>rfl);(case hg=>rfl);(case hr=>first | (go_simp;done) | (go_simp;rfl));(case hp=>exact (Reps.one (show Kd.M Kd.string _ _ _ (⟨#[110,111,114,101,112,108,121]⟩:ByteArray) [.string (⟨#[110,111,114,101,112,108,121]⟩:ByteArray)] from rfl) (Reps.none _ _)));intro v160 w12 ho13 hb hg_ hnew_;clear hg_ hnew_;(first | rw [← qK.out] at ho13 | (simp only [Int.reduceToNat] at ho13;rw [← qK.out] at ho13));have n0_:=Aside0.mk (Kd.R_lower ho13 (below_size bBX23));have n1_:=Aside0.mk (below_step bBX23 hb);clear HB;have qA:=n0_;have HB:=n1_;clear n0_ n1_;clear hb ho13;obtain ⟨ql,qm,qf⟩:=Kd.R_slice qA.out;subst qf) | (go_at_call 51;(with_reducible refine (parse_ends.calls k _ _ l0 3 _ _ y159 qJ true _ ?side1 ?side2 ?side3 ?side4 A2.out).mono ?_);(case side1=>repeat (first | exact (Kd.C_below HR0.out HB.out) | (with_reducible refine Kd.C_alloc ?_ _) | (with_reducible refine Kd.C_drewN ?_ _) | (with_reducible refine Kd.C_drew ?_)));(case side2=>exact HC0.out);(case side3=>repeat (first | exact (Kd.R_reads' qA.out).2.2 | (with_reducible refine Kd.C_alloc ?_ _) | (with_reducible refine Kd.C_drewN ?_ _) | (with_reducible refine Kd.C_drew ?_)));(case side4=>exact (Kd.R_reads' qA.out).2.1);rintro e w' ⟨rfl,⟨nd,rfl⟩⟩;(try first | exact ⟨rfl,_,World.drewN_drewN _ _ _⟩ | exact ⟨rfl,_,Eq.trans (World.drewN_drewN _ _ _) (congrArg (World.drewN _) (Nat.add_assoc _ _ _))⟩);have p164:0≤(1:Int):=(by omega);have q164:1 < (l0.length:Int):=of_decide_eq_true (by first | (with_reducible assumption) | assumption);obtain ⟨qG,e164,qB⟩:=Kd.at_string HR0.out 1 p164 q164;cases e164;(try simp only [show (1:Int).toNat=1 from rfl,Nat.reduceMul,Nat.reduceEqDiff,Go.Addr.add,↓reduceIte] at qB);have qi164:(1 < l0.length)=True:=eq_true (by omega);(try rw [show ((1:Int)).toNat=1 from rfl] at qB);replace qB:=(HB.out.cell (World.block_lt_of_cell? w _ qB)).trans qB;replace p164:=eq_true p164;replace q164:=eq_true q164) | (go_at_call 52;(with_reducible refine (words_Key.calls (rdOf ByteArray.empty l0 1) true _ ?side1 A5.out).mono ?_);(case side1=>exact HLD.below bBX23);rintro e w15 ⟨rfl,hb⟩;have n0_:=Aside0.mk (Kd.R_below (by (with_reducible repeat (first | apply Kd.R_alloc | apply Kd.R_drewN | apply Kd.R_drew));exact qA.out) hb);have n1_:=Aside0.mk (below_step bBX23 hb);clear qA;clear HB;have qA:=n0_;have HB:=n1_;clear n0_ n1_;(try clear hb);(try clear hb2);(try clear hk);(try clear hi);have p170:0≤(0:Int):=(by omega);have q170:0 < (l0.length:Int):=of_decide_eq_true (by first | (with_reducible assumption) | assumption);obtain ⟨qM,e170,qC⟩:=Kd.at_string HR0.out 0 p170 q170;obtain rfl:qG=qM:=(by injection e170);have qi170:(0 < l0.length)=True:=eq_true (by omega);(try rw [show ((0:Int)).toNat=0 from rfl] at qC);(try rw [Addr.add_zero'] at qC);replace qC:=(HB.out.cell (World.block_lt_of_cell? w _ qC)).trans qC;replace p170:=eq_true p170;replace q170:=eq_true q170;have p171:0≤(2:Int):=(by omega);have q171:2 < (l0.length:Int):=of_decide_eq_true (by first | (with_reducible assumption) | assumption);obtain ⟨qS,e171,qH⟩:=Kd.at_string HR0.out 2 p171 q171;obtain rfl:qG=qS:=(by injection e171);(try simp only [show (2:Int).toNat=2 from rfl,Nat.reduceMul,Nat.reduceEqDiff,Go.Addr.add,↓reduceIte] at qH);have qi171:(2 < l0.length)=True:=eq_true (by omega);(try rw [show ((2:Int)).toNat=2 from rfl] at qH);replace qH:=(HB.out.cell (World.block_lt_of_cell? w _ qH)).trans qH;replace p171:=eq_true p171;replace q171:=eq_true q171) | (go_at_call 60;(with_reducible refine (words_Signed.calls k (rdOf ByteArray.empty l0 2) qN true _ ?side1 A10.out).mono ?_);(case side1=>exact HLD.below bBX23);rintro e w16 ⟨rfl,hb⟩;have n0_:=Aside0.mk (Kd.R_below (by (with_reducible repeat (first | apply Kd.R_alloc | apply Kd.R_drewN | apply Kd.R_drew));exact qA.out) hb);have n1_:=Aside0.mk (below_step bBX23 hb);clear qA;clear HB;have qA:=n0_;have HB:=n1_;clear n0_ n1_;(try clear hb);(try clear hb2);(try clear hk);(try clear hi);have p174:0≤(1:Int):=(by omega);have q174:1 < (l0.length:Int):=of_decide_eq_true (by first | (with_reducible assumption) | assumption);obtain ⟨qP,e174,qD⟩:=Kd.at_string HR0.out 1 p174 q174;obtain rfl:qG=qP:=(by injection e174);(try simp only [show (1:Int).toNat=1 from rfl,Nat.reduceMul,Nat.reduceEqDiff,Go.Addr.add,↓reduceIte] at qD);have qi174:(1 < l0.length)=True:=eq_true (by omega);(try rw [show ((1:Int)).toNat=1 from rfl] at qD);replace qD:=(HB.out.cell (World.block_lt_of_cell? w _ qD)).trans qD;replace p174:=eq_true p174;replace q174:=eq_true q174))
        repeat (go_quiet (first | (go_at_call 60;(with_reducible refine (words_Signed.calls k (rdOf ByteArray.empty l0 2) qN true _ ?side1 A10.out).mono ?_);(case side1=>exact HLD.below bBX23);rintro e w16 ⟨rfl,hb⟩;have n0_:=Aside0.mk (Kd.R_below (by (with_reducible repeat (first | apply Kd.R_alloc | apply Kd.R_drewN | apply Kd.R_drew));exact qA.out) hb);have n1_:=Aside0.mk (below_step bBX23 hb);clear qA;clear HB;have qA:=n0_;have HB:=n1_;clear n0_ n1_;(try clear hb);(try clear hb2);(try clear hk);(try clear hi);have p174:0≤(1:Int):=(by omega);have q174:1 < (l0.length:Int):=of_decide_eq_true (by first | (with_reducible assumption) | assumption);obtain ⟨qP,e174,qD⟩:=Kd.at_string HR0.out 1 p174 q174;obtain rfl:qG=qP:=(by injection e174);(try simp only [show (1:Int).toNat=1 from rfl,Nat.reduceMul,Nat.reduceEqDiff,Go.Addr.add,↓reduceIte] at qD);have qi174:(1 < l0.length)=True:=eq_true (by omega);(try rw [show ((1:Int)).toNat=1 from rfl] at qD);replace qD:=(HB.out.cell (World.block_lt_of_cell? w _ qD)).trans qD;replace p174:=eq_true p174;replace q174:=eq_true q174));try go_wp2_with (first | (go_at_call 60;(with_reducible refine (words_Signed.calls k (rdOf ByteArray.empty l0 2) qN true _ ?side1 A10.out).mono ?_);(case side1=>exact HLD.below bBX23);rintro e w16 ⟨rfl,hb⟩;have n0_:=Aside0.mk (Kd.R_below (by (with_reducible repeat (first | apply Kd.R_alloc | apply Kd.R_drewN | apply Kd.R_drew));exact qA.out) hb);have n1_:=Aside0.mk (below_step bBX23 hb);clear qA;clear HB;have qA:=n0_;have HB:=n1_;clear n0_ n1_;(try clear hb);(try clear hb2);(try clear hk);(try clear hi);have p174:0≤(1:Int):=(by omega);have q174:1 < (l0.length:Int):=of_decide_eq_true (by first | (with_reducible assumption) | assumption);obtain ⟨qP,e174,qD⟩:=Kd.at_string HR0.out 1 p174 q174;obtain rfl:qG=qP:=(by injection e174);(try simp only [show (1:Int).toNat=1 from rfl,Nat.reduceMul,Nat.reduceEqDiff,Go.Addr.add,↓reduceIte] at qD);have qi174:(1 < l0.length)=True:=eq_true (by omega);(try rw [show ((1:Int)).toNat=1 from rfl] at qD);replace qD:=(HB.out.cell (World.block_lt_of_cell? w _ qD)).trans qD;replace p174:=eq_true p174;replace q174:=eq_true q174)))
        go_ret2
        exact ⟨by first | rfl | (simp [errW_none,errW_some]<;>rfl) | (simp [*,errW_none,errW_some]<;>rfl),bBX23⟩
       ·replace c11:=Bool.eq_false_iff.mpr c11
        subst c11
        have H1:((parse_bad.f (⟨#[67,76,73,69,78,84,95,69,82,82,79,82,32,105,110,118,97,108,105,100,32,101,120,112,116,105,109,101,32,97,114,103,117,109,101,110,116]⟩:ByteArray)).bind fun bt175=>(some (bt175.1,bt175.2)))=some (r1,r2):=by rw [if_neg (show ¬ (false=true) by decide)] at H;exact H
        clear H
        have H:=H1
        clear H1
        replace H:=Option.bind_eq_some_iff.mp H
        obtain ⟨⟨qT,qU⟩,A170,H⟩:=H
        replace H:(some (qT,qU))=some (r1,r2):=H
        have A17:=Aside0.mk A170
        clear A170
        simp only [Option.some.injEq,Prod.mk.injEq] at H
        obtain ⟨rfl,rfl⟩:=H
        go_enter Tryz.func50,Tryz.ntmps50
        go_wp2_with (first | ((with_reducible refine gate_dst (N:=11) rfl ?_);refine Kd.R_lit Kd.string _ 9 ?hg (N:=11) ?hd (xs:=([(⟨#[110,111,114,101,112,108,121]⟩:ByteArray)]:List ByteArray)) (inner:=[.string (⟨#[110,111,114,101,112,108,121]⟩:ByteArray)]) (ok:=fun _=>True) (okp:=fun _=>True) ?hr ?hp (fun _ hk=>hk) trivial (Below.refl _ _) (Nat.le_refl _) (by simp) ?_;(case hd=>rfl);(case hg=>rfl);(case hr=>first | (go_simp;done) | (go_simp;rfl));(case hp=>exact (Reps.one (show Kd.M Kd.string _ _ _ (⟨#[110,111,114,101,112,108,121]⟩:ByteArray) [.string (⟨#[110,111,114,101,112,108,121]⟩:ByteArray)] from rfl) (Reps.none _ _)));intro v160 w18 ho19 hb hg_ hnew_;clear hg_ hnew_;(first | rw [← qK.out] at ho19 | (simp only [Int.reduceToNat] at ho19;rw [← qK.out] at ho19));have n0_:=Aside0.mk (Kd.R_lower ho19 (below_size bBX23));have n1_:=Aside0.mk (below_step bBX23 hb);clear HB;have qA:=n0_;have HB:=n1_;clear n0_ n1_;clear hb ho19;obtain ⟨qn,qo,qg⟩:=Kd.R_slice qA.out;subst qg) | (go_at_call 51;(with_reducible refine (parse_ends.calls k _ _ l0 3 _ _ y159 qJ true _ ?side1 ?side2 ?side3 ?side4 A2.out).mono ?_);(case side1=>repeat (first | exact (Kd.C_below HR0.out HB.out) | (with_reducible refine Kd.C_alloc ?_ _) | (with_reducible refine Kd.C_drewN ?_ _) | (with_reducible refine Kd.C_drew ?_)));(case side2=>exact HC0.out);(case side3=>repeat (first | exact (Kd.R_reads' qA.out).2.2 | (with_reducible refine Kd.C_alloc ?_ _) | (with_reducible refine Kd.C_drewN ?_ _) | (with_reducible refine Kd.C_drew ?_)));(case side4=>exact (Kd.R_reads' qA.out).2.1);rintro e w' ⟨rfl,⟨nd,rfl⟩⟩;(try first | exact ⟨rfl,_,World.drewN_drewN _ _ _⟩ | exact ⟨rfl,_,Eq.trans (World.drewN_drewN _ _ _) (congrArg (World.drewN _) (Nat.add_assoc _ _ _))⟩);have p164:0≤(1:Int):=(by omega);have q164:1 < (l0.length:Int):=of_decide_eq_true (by first | (with_reducible assumption) | assumption);obtain ⟨qG,e164,qB⟩:=Kd.at_string HR0.out 1 p164 q164;cases e164;(try simp only [show (1:Int).toNat=1 from rfl,Nat.reduceMul,Nat.reduceEqDiff,Go.Addr.add,↓reduceIte] at qB);have qi164:(1 < l0.length)=True:=eq_true (by omega);(try rw [show ((1:Int)).toNat=1 from rfl] at qB);replace qB:=(HB.out.cell (World.block_lt_of_cell? w _ qB)).trans qB;replace p164:=eq_true p164;replace q164:=eq_true q164) | (go_at_call 52;(with_reducible refine (words_Key.calls (rdOf ByteArray.empty l0 1) true _ ?side1 A5.out).mono ?_);(case side1=>exact HLD.below bBX23);rintro e w21 ⟨rfl,hb⟩;have n0_:=Aside0.mk (Kd.R_below (by (with_reducible repeat (first | apply Kd.R_alloc | apply Kd.R_drewN | apply Kd.R_drew));exact qA.out) hb);have n1_:=Aside0.mk (below_step bBX23 hb);clear qA;clear HB;have qA:=n0_;have HB:=n1_;clear n0_ n1_;(try clear hb);(try clear hb2);(try clear hk);(try clear hi);have p170:0≤(0:Int):=(by omega);have q170:0 < (l0.length:Int):=of_decide_eq_true (by first | (with_reducible assumption) | assumption);obtain ⟨qM,e170,qC⟩:=Kd.at_string HR0.out 0 p170 q170;obtain rfl:qG=qM:=(by injection e170);have qi170:(0 < l0.length)=True:=eq_true (by omega);(try rw [show ((0:Int)).toNat=0 from rfl] at qC);(try rw [Addr.add_zero'] at qC);replace qC:=(HB.out.cell (World.block_lt_of_cell? w _ qC)).trans qC;replace p170:=eq_true p170;replace q170:=eq_true q170;have p171:0≤(2:Int):=(by omega);have q171:2 < (l0.length:Int):=of_decide_eq_true (by first | (with_reducible assumption) | assumption);obtain ⟨qS,e171,qH⟩:=Kd.at_string HR0.out 2 p171 q171;obtain rfl:qG=qS:=(by injection e171);(try simp only [show (2:Int).toNat=2 from rfl,Nat.reduceMul,Nat.reduceEqDiff,Go.Addr.add,↓reduceIte] at qH);have qi171:(2 < l0.length)=True:=eq_true (by omega);(try rw [show ((2:Int)).toNat=2 from rfl] at qH);replace qH:=(HB.out.cell (World.block_lt_of_cell? w _ qH)).trans qH;replace p171:=eq_true p171;replace q171:=eq_true q171) | (go_at_call 60;(with_reducible refine (words_Signed.calls k (rdOf ByteArray.empty l0 2) qN false _ ?side1 A10.out).mono ?_);(case side1=>exact HLD.below bBX23);rintro e w22 ⟨rfl,hb⟩;have n0_:=Aside0.mk (Kd.R_below (by (with_reducible repeat (first | apply Kd.R_alloc | apply Kd.R_drewN | apply Kd.R_drew));exact qA.out) hb);have n1_:=Aside0.mk (below_step bBX23 hb);clear qA;clear HB;have qA:=n0_;have HB:=n1_;clear n0_ n1_;(try clear hb);(try clear hb2);(try clear hk);(try clear hi)) | (go_at_call 47;(with_reducible refine (parse_bad.calls (⟨#[67,76,73,69,78,84,95,69,82,82,79,82,32,105,110,118,97,108,105,100,32,101,120,112,116,105,109,101,32,97,114,103,117,109,101,110,116]⟩:ByteArray) qT qU _ A17.out).mono ?_);rintro e w' ⟨rfl,⟨nd,rfl⟩⟩;(try first | exact ⟨rfl,_,World.drewN_drewN _ _ _⟩ | exact ⟨rfl,_,Eq.trans (World.drewN_drewN _ _ _) (congrArg (World.drewN _) (Nat.add_assoc _ _ _))⟩)))
        repeat (go_quiet (first | (go_at_call 60;(with_reducible refine (words_Signed.calls k (rdOf ByteArray.empty l0 2) qN false _ ?side1 A10.out).mono ?_);(case side1=>exact HLD.below bBX23);rintro e w22 ⟨rfl,hb⟩;have n0_:=Aside0.mk (Kd.R_below (by (with_reducible repeat (first | apply Kd.R_alloc | apply Kd.R_drewN | apply Kd.R_drew));exact qA.out) hb);have n1_:=Aside0.mk (below_step bBX23 hb);clear qA;clear HB;have qA:=n0_;have HB:=n1_;clear n0_ n1_;(try clear hb);(try clear hb2);(try clear hk);(try clear hi)) | (go_at_call 47;(with_reducible refine (parse_bad.calls (⟨#[67,76,73,69,78,84,95,69,82,82,79,82,32,105,110,118,97,108,105,100,32,101,120,112,116,105,109,101,32,97,114,103,117,109,101,110,116]⟩:ByteArray) qT qU _ A17.out).mono ?_);rintro e w' ⟨rfl,⟨nd,rfl⟩⟩;(try first | exact ⟨rfl,_,World.drewN_drewN _ _ _⟩ | exact ⟨rfl,_,Eq.trans (World.drewN_drewN _ _ _) (congrArg (World.drewN _) (Nat.add_assoc _ _ _))⟩)));try go_wp2_with (first | (go_at_call 60;(with_reducible refine (words_Signed.calls k (rdOf ByteArray.empty l0 2) qN false _ ?side1 A10.out).mono ?_);(case side1=>exact HLD.below bBX23);rintro e w22 ⟨rfl,hb⟩;have n0_:=Aside0.mk (Kd.R_below (by (with_reducible repeat (first | apply Kd.R_alloc | apply Kd.R_drewN | apply Kd.R_drew));exact qA.out) hb);have n1_:=Aside0.mk (below_step bBX23 hb);clear qA;clear HB;have qA:=n0_;have HB:=n1_;clear n0_ n1_;(try clear hb);(try clear hb2);(try clear hk);(try clear hi)) | (go_at_call 47;(with_reducible refine (parse_bad.calls (⟨#[67,76,73,69,78,84,95,69,82,82,79,82,32,105,110,118,97,108,105,100,32,101,120,112,116,105,109,101,32,97,114,103,117,109,101,110,116]⟩:ByteArray) qT qU _ A17.out).mono ?_);rintro e w' ⟨rfl,⟨nd,rfl⟩⟩;(try first | exact ⟨rfl,_,World.drewN_drewN _ _ _⟩ | exact ⟨rfl,_,Eq.trans (World.drewN_drewN _ _ _) (congrArg (World.drewN _) (Nat.add_assoc _ _ _))⟩))))
        go_ret2
        exact ⟨by first | rfl | (simp [errW_none,errW_some]<;>rfl) | (simp [*,errW_none,errW_some]<;>rfl),bBX23⟩
      ·rw [if_neg c9] at H
       exact absurd H (by simp)
     ·rw [if_neg c8] at H
      have c8b0:((rdOf ByteArray.empty l0 0).toList==([116,111,117,99,104]:List UInt8))=false:=beq_eq_false_iff_ne.mpr c8
      have c8b1:((rdOf ByteArray.empty l0 0).toList != ([116,111,117,99,104]:List UInt8))=true:=bne_iff_ne.mpr c8
      by_cases c23:2 < (l0.length:Int)
      ·rw [if_pos c23] at H
       have c23b0:decide (2 < (l0.length:Int))=true:=decide_eq_true c23
       have c23b1:decide (2 < l0.length)=true:=decide_eq_true (by omega)
       clear c23
       replace H:=Option.bind_eq_some_iff.mp H
       obtain ⟨⟨qO,qe⟩,A240,H⟩:=H
       replace H:(if qe=true then (some ((Cm.arith (rdOf ByteArray.empty l0 1) qO ((rdOf ByteArray.empty l0 0).toList==([100,101,99,114]:List UInt8)) qJ),(-1))) else ((parse_bad.f (⟨#[67,76,73,69,78,84,95,69,82,82,79,82,32,105,110,118,97,108,105,100,32,110,117,109,101,114,105,99,32,100,101,108,116,97,32,97,114,103,117,109,101,110,116]⟩:ByteArray)).bind fun bt182=>(some (bt182.1,bt182.2))))=some (r1,r2):=H
       have A24:=Aside0.mk A240
       clear A240
       by_cases c25:qe=true
       ·subst c25
        have H1:(some ((Cm.arith (rdOf ByteArray.empty l0 1) qO ((rdOf ByteArray.empty l0 0).toList==([100,101,99,114]:List UInt8)) qJ),(-1)))=some (r1,r2):=by rw [if_pos rfl] at H;exact H
        clear H
        have H:=H1
        clear H1
        simp only [Option.some.injEq,Prod.mk.injEq] at H
        obtain ⟨rfl,rfl⟩:=H
        go_enter Tryz.func50,Tryz.ntmps50
        go_wp2_with (first | ((with_reducible refine gate_dst (N:=11) rfl ?_);refine Kd.R_lit Kd.string _ 9 ?hg (N:=11) ?hd (xs:=([(⟨#[110,111,114,101,112,108,121]⟩:ByteArray)]:List ByteArray)) (inner:=[.string (⟨#[110,111,114,101,112,108,121]⟩:ByteArray)]) (ok:=fun _=>True) (okp:=fun _=>True) ?hr ?hp (fun _ hk=>hk) trivial (Below.refl _ _) (Nat.le_refl _) (by simp) ?_;(case hd=>rfl);(case hg=>rfl);(case hr=>first | (go_simp;done) | (go_simp;rfl));(case hp=>exact (Reps.one (show Kd.M Kd.string _ _ _ (⟨#[110,111,114,101,112,108,121]⟩:ByteArray) [.string (⟨#[110,111,114,101,112,108,121]⟩:ByteArray)] from rfl) (Reps.none _ _)));intro v160 w26 ho27 hb hg_ hnew_;clear hg_ hnew_;(first | rw [← qK.out] at ho27 | (simp only [Int.reduceToNat] at ho27;rw [← qK.out] at ho27));have n0_:=Aside0.mk (Kd.R_lower ho27 (below_size bBX23));have n1_:=Aside0.mk (below_step bBX23 hb);clear HB;have qA:=n0_;have HB:=n1_;clear n0_ n1_;clear hb ho27;obtain ⟨qp,qq,qh⟩:=Kd.R_slice qA.out;subst qh) | (go_at_call 51;(with_reducible refine (parse_ends.calls k _ _ l0 3 _ _ y159 qJ true _ ?side1 ?side2 ?side3 ?side4 A2.out).mono ?_);(case side1=>repeat (first | exact (Kd.C_below HR0.out HB.out) | (with_reducible refine Kd.C_alloc ?_ _) | (with_reducible refine Kd.C_drewN ?_ _) | (with_reducible refine Kd.C_drew ?_)));(case side2=>exact HC0.out);(case side3=>repeat (first | exact (Kd.R_reads' qA.out).2.2 | (with_reducible refine Kd.C_alloc ?_ _) | (with_reducible refine Kd.C_drewN ?_ _) | (with_reducible refine Kd.C_drew ?_)));(case side4=>exact (Kd.R_reads' qA.out).2.1);rintro e w' ⟨rfl,⟨nd,rfl⟩⟩;(try first | exact ⟨rfl,_,World.drewN_drewN _ _ _⟩ | exact ⟨rfl,_,Eq.trans (World.drewN_drewN _ _ _) (congrArg (World.drewN _) (Nat.add_assoc _ _ _))⟩);have p164:0≤(1:Int):=(by omega);have q164:1 < (l0.length:Int):=of_decide_eq_true (by first | (with_reducible assumption) | assumption);obtain ⟨qG,e164,qB⟩:=Kd.at_string HR0.out 1 p164 q164;cases e164;(try simp only [show (1:Int).toNat=1 from rfl,Nat.reduceMul,Nat.reduceEqDiff,Go.Addr.add,↓reduceIte] at qB);have qi164:(1 < l0.length)=True:=eq_true (by omega);(try rw [show ((1:Int)).toNat=1 from rfl] at qB);replace qB:=(HB.out.cell (World.block_lt_of_cell? w _ qB)).trans qB;replace p164:=eq_true p164;replace q164:=eq_true q164) | (go_at_call 52;(with_reducible refine (words_Key.calls (rdOf ByteArray.empty l0 1) true _ ?side1 A5.out).mono ?_);(case side1=>exact HLD.below bBX23);rintro e w29 ⟨rfl,hb⟩;have n0_:=Aside0.mk (Kd.R_below (by (with_reducible repeat (first | apply Kd.R_alloc | apply Kd.R_drewN | apply Kd.R_drew));exact qA.out) hb);have n1_:=Aside0.mk (below_step bBX23 hb);clear qA;clear HB;have qA:=n0_;have HB:=n1_;clear n0_ n1_;(try clear hb);(try clear hb2);(try clear hk);(try clear hi);have p170:0≤(0:Int):=(by omega);have q170:0 < (l0.length:Int):=of_decide_eq_true (by first | (with_reducible assumption) | assumption);obtain ⟨qM,e170,qC⟩:=Kd.at_string HR0.out 0 p170 q170;obtain rfl:qG=qM:=(by injection e170);have qi170:(0 < l0.length)=True:=eq_true (by omega);(try rw [show ((0:Int)).toNat=0 from rfl] at qC);(try rw [Addr.add_zero'] at qC);replace qC:=(HB.out.cell (World.block_lt_of_cell? w _ qC)).trans qC;replace p170:=eq_true p170;replace q170:=eq_true q170;have p177:0≤(2:Int):=(by omega);have q177:2 < (l0.length:Int):=of_decide_eq_true (by first | (with_reducible assumption) | assumption);obtain ⟨qV,e177,qI⟩:=Kd.at_string HR0.out 2 p177 q177;obtain rfl:qG=qV:=(by injection e177);(try simp only [show (2:Int).toNat=2 from rfl,Nat.reduceMul,Nat.reduceEqDiff,Go.Addr.add,↓reduceIte] at qI);have qi177:(2 < l0.length)=True:=eq_true (by omega);(try rw [show ((2:Int)).toNat=2 from rfl] at qI);replace qI:=(HB.out.cell (World.block_lt_of_cell? w _ qI)).trans qI;replace p177:=eq_true p177;replace q177:=eq_true q177) | (go_at_call 61;(with_reducible refine (words_Number.calls (rdOf ByteArray.empty l0 2) qO true _ ?side1 A24.out).mono ?_);(case side1=>exact HLD.below bBX23);rintro e w30 ⟨rfl,hb⟩;have n0_:=Aside0.mk (Kd.R_below (by (with_reducible repeat (first | apply Kd.R_alloc | apply Kd.R_drewN | apply Kd.R_drew));exact qA.out) hb);have n1_:=Aside0.mk (below_step bBX23 hb);clear qA;clear HB;have qA:=n0_;have HB:=n1_;clear n0_ n1_;(try clear hb);(try clear hb2);(try clear hk);(try clear hi);have p180:0≤(1:Int):=(by omega);have q180:1 < (l0.length:Int):=of_decide_eq_true (by first | (with_reducible assumption) | assumption);obtain ⟨qQ,e180,qE⟩:=Kd.at_string HR0.out 1 p180 q180;obtain rfl:qG=qQ:=(by injection e180);(try simp only [show (1:Int).toNat=1 from rfl,Nat.reduceMul,Nat.reduceEqDiff,Go.Addr.add,↓reduceIte] at qE);have qi180:(1 < l0.length)=True:=eq_true (by omega);(try rw [show ((1:Int)).toNat=1 from rfl] at qE);replace qE:=(HB.out.cell (World.block_lt_of_cell? w _ qE)).trans qE;replace p180:=eq_true p180;replace q180:=eq_true q180;have p181:0≤(0:Int):=(by omega);have q181:0 < (l0.length:Int):=of_decide_eq_true (by first | (with_reducible assumption) | assumption);obtain ⟨qR,e181,qF⟩:=Kd.at_string HR0.out 0 p181 q181;obtain rfl:qG=qR:=(by injection e181);have qi181:(0 < l0.length)=True:=eq_true (by omega);(try rw [show ((0:Int)).toNat=0 from rfl] at qF);(try rw [Addr.add_zero'] at qF);replace qF:=(HB.out.cell (World.block_lt_of_cell? w _ qF)).trans qF;replace p181:=eq_true p181;replace q181:=eq_true q181))
        repeat (go_quiet (first | (go_at_call 61;(with_reducible refine (words_Number.calls (rdOf ByteArray.empty l0 2) qO true _ ?side1 A24.out).mono ?_);(case side1=>exact HLD.below bBX23);rintro e w30 ⟨rfl,hb⟩;have n0_:=Aside0.mk (Kd.R_below (by (with_reducible repeat (first | apply Kd.R_alloc | apply Kd.R_drewN | apply Kd.R_drew));exact qA.out) hb);have n1_:=Aside0.mk (below_step bBX23 hb);clear qA;clear HB;have qA:=n0_;have HB:=n1_;clear n0_ n1_;(try clear hb);(try clear hb2);(try clear hk);(try clear hi);have p180:0≤(1:Int):=(by omega);have q180:1 < (l0.length:Int):=of_decide_eq_true (by first | (with_reducible assumption) | assumption);obtain ⟨qQ,e180,qE⟩:=Kd.at_string HR0.out 1 p180 q180;obtain rfl:qG=qQ:=(by injection e180);(try simp only [show (1:Int).toNat=1 from rfl,Nat.reduceMul,Nat.reduceEqDiff,Go.Addr.add,↓reduceIte] at qE);have qi180:(1 < l0.length)=True:=eq_true (by omega);(try rw [show ((1:Int)).toNat=1 from rfl] at qE);replace qE:=(HB.out.cell (World.block_lt_of_cell? w _ qE)).trans qE;replace p180:=eq_true p180;replace q180:=eq_true q180;have p181:0≤(0:Int):=(by omega);have q181:0 < (l0.length:Int):=of_decide_eq_true (by first | (with_reducible assumption) | assumption);obtain ⟨qR,e181,qF⟩:=Kd.at_string HR0.out 0 p181 q181;obtain rfl:qG=qR:=(by injection e181);have qi181:(0 < l0.length)=True:=eq_true (by omega);(try rw [show ((0:Int)).toNat=0 from rfl] at qF);(try rw [Addr.add_zero'] at qF);replace qF:=(HB.out.cell (World.block_lt_of_cell? w _ qF)).trans qF;replace p181:=eq_true p181;replace q181:=eq_true q181));try go_wp2_with (first | (go_at_call 61;(with_reducible refine (words_Number.calls (rdOf ByteArray.empty l0 2) qO true _ ?side1 A24.out).mono ?_);(case side1=>exact HLD.below bBX23);rintro e w30 ⟨rfl,hb⟩;have n0_:=Aside0.mk (Kd.R_below (by (with_reducible repeat (first | apply Kd.R_alloc | apply Kd.R_drewN | apply Kd.R_drew));exact qA.out) hb);have n1_:=Aside0.mk (below_step bBX23 hb);clear qA;clear HB;have qA:=n0_;have HB:=n1_;clear n0_ n1_;(try clear hb);(try clear hb2);(try clear hk);(try clear hi);have p180:0≤(1:Int):=(by omega);have q180:1 < (l0.length:Int):=of_decide_eq_true (by first | (with_reducible assumption) | assumption);obtain ⟨qQ,e180,qE⟩:=Kd.at_string HR0.out 1 p180 q180;obtain rfl:qG=qQ:=(by injection e180);(try simp only [show (1:Int).toNat=1 from rfl,Nat.reduceMul,Nat.reduceEqDiff,Go.Addr.add,↓reduceIte] at qE);have qi180:(1 < l0.length)=True:=eq_true (by omega);(try rw [show ((1:Int)).toNat=1 from rfl] at qE);replace qE:=(HB.out.cell (World.block_lt_of_cell? w _ qE)).trans qE;replace p180:=eq_true p180;replace q180:=eq_true q180;have p181:0≤(0:Int):=(by omega);have q181:0 < (l0.length:Int):=of_decide_eq_true (by first | (with_reducible assumption) | assumption);obtain ⟨qR,e181,qF⟩:=Kd.at_string HR0.out 0 p181 q181;obtain rfl:qG=qR:=(by injection e181);have qi181:(0 < l0.length)=True:=eq_true (by omega);(try rw [show ((0:Int)).toNat=0 from rfl] at qF);(try rw [Addr.add_zero'] at qF);replace qF:=(HB.out.cell (World.block_lt_of_cell? w _ qF)).trans qF;replace p181:=eq_true p181;replace q181:=eq_true q181)))
        go_ret2
        exact ⟨by first | rfl | (simp [errW_none,errW_some]<;>rfl) | (simp [*,errW_none,errW_some]<;>rfl),bBX23⟩
       ·replace c25:=Bool.eq_false_iff.mpr c25
        subst c25
        have H1:((parse_bad.f (⟨#[67,76,73,69,78,84,95,69,82,82,79,82,32,105,110,118,97,108,105,100,32,110,117,109,101,114,105,99,32,100,101,108,116,97,32,97,114,103,117,109,101,110,116]⟩:ByteArray)).bind fun bt182=>(some (bt182.1,bt182.2)))=some (r1,r2):=by rw [if_neg (show ¬ (false=true) by decide)] at H;exact H
        clear H
        have H:=H1
        clear H1
        replace H:=Option.bind_eq_some_iff.mp H
        obtain ⟨⟨qW,qX⟩,A310,H⟩:=H
        replace H:(some (qW,qX))=some (r1,r2):=H
        have A31:=Aside0.mk A310
        clear A310
        simp only [Option.some.injEq,Prod.mk.injEq] at H
        obtain ⟨rfl,rfl⟩:=H
        go_enter Tryz.func50,Tryz.ntmps50
        go_wp2_with (first | ((with_reducible refine gate_dst (N:=11) rfl ?_);refine Kd.R_lit Kd.string _ 9 ?hg (N:=11) ?hd (xs:=([(⟨#[110,111,114,101,112,108,121]⟩:ByteArray)]:List ByteArray)) (inner:=[.string (⟨#[110,111,114,101,112,108,121]⟩:ByteArray)]) (ok:=fun _=>True) (okp:=fun _=>True) ?hr ?hp (fun _ hk=>hk) trivial (Below.refl _ _) (Nat.le_refl _) (by simp) ?_;(case hd=>rfl);(case hg=>rfl);(case hr=>first | (go_simp;done) | (go_simp;rfl));(case hp=>exact (Reps.one (show Kd.M Kd.string _ _ _ (⟨#[110,111,114,101,112,108,121]⟩:ByteArray) [.string (⟨#[110,111,114,101,112,108,121]⟩:ByteArray)] from rfl) (Reps.none _ _)));intro v160 w32 ho33 hb hg_ hnew_;clear hg_ hnew_;(first | rw [← qK.out] at ho33 | (simp only [Int.reduceToNat] at ho33;rw [← qK.out] at ho33));have n0_:=Aside0.mk (Kd.R_lower ho33 (below_size bBX23));have n1_:=Aside0.mk (below_step bBX23 hb);clear HB;have qA:=n0_;have HB:=n1_;clear n0_ n1_;clear hb ho33;obtain ⟨qr,qs,qi⟩:=Kd.R_slice qA.out;subst qi) | (go_at_call 51;(with_reducible refine (parse_ends.calls k _ _ l0 3 _ _ y159 qJ true _ ?side1 ?side2 ?side3 ?side4 A2.out).mono ?_);(case side1=>repeat (first | exact (Kd.C_below HR0.out HB.out) | (with_reducible refine Kd.C_alloc ?_ _) | (with_reducible refine Kd.C_drewN ?_ _) | (with_reducible refine Kd.C_drew ?_)));(case side2=>exact HC0.out);(case side3=>repeat (first | exact (Kd.R_reads' qA.out).2.2 | (with_reducible refine Kd.C_alloc ?_ _) | (with_reducible refine Kd.C_drewN ?_ _) | (with_reducible refine Kd.C_drew ?_)));(case side4=>exact (Kd.R_reads' qA.out).2.1);rintro e w' ⟨rfl,⟨nd,rfl⟩⟩;(try first | exact ⟨rfl,_,World.drewN_drewN _ _ _⟩ | exact ⟨rfl,_,Eq.trans (World.drewN_drewN _ _ _) (congrArg (World.drewN _) (Nat.add_assoc _ _ _))⟩);have p164:0≤(1:Int):=(by omega);have q164:1 < (l0.length:Int):=of_decide_eq_true (by first | (with_reducible assumption) | assumption);obtain ⟨qG,e164,qB⟩:=Kd.at_string HR0.out 1 p164 q164;cases e164;(try simp only [show (1:Int).toNat=1 from rfl,Nat.reduceMul,Nat.reduceEqDiff,Go.Addr.add,↓reduceIte] at qB);have qi164:(1 < l0.length)=True:=eq_true (by omega);(try rw [show ((1:Int)).toNat=1 from rfl] at qB);replace qB:=(HB.out.cell (World.block_lt_of_cell? w _ qB)).trans qB;replace p164:=eq_true p164;replace q164:=eq_true q164) | (go_at_call 52;(with_reducible refine (words_Key.calls (rdOf ByteArray.empty l0 1) true _ ?side1 A5.out).mono ?_);(case side1=>exact HLD.below bBX23);rintro e w35 ⟨rfl,hb⟩;have n0_:=Aside0.mk (Kd.R_below (by (with_reducible repeat (first | apply Kd.R_alloc | apply Kd.R_drewN | apply Kd.R_drew));exact qA.out) hb);have n1_:=Aside0.mk (below_step bBX23 hb);clear qA;clear HB;have qA:=n0_;have HB:=n1_;clear n0_ n1_;(try clear hb);(try clear hb2);(try clear hk);(try clear hi);have p170:0≤(0:Int):=(by omega);have q170:0 < (l0.length:Int):=of_decide_eq_true (by first | (with_reducible assumption) | assumption);obtain ⟨qM,e170,qC⟩:=Kd.at_string HR0.out 0 p170 q170;obtain rfl:qG=qM:=(by injection e170);have qi170:(0 < l0.length)=True:=eq_true (by omega);(try rw [show ((0:Int)).toNat=0 from rfl] at qC);(try rw [Addr.add_zero'] at qC);replace qC:=(HB.out.cell (World.block_lt_of_cell? w _ qC)).trans qC;replace p170:=eq_true p170;replace q170:=eq_true q170;have p177:0≤(2:Int):=(by omega);have q177:2 < (l0.length:Int):=of_decide_eq_true (by first | (with_reducible assumption) | assumption);obtain ⟨qV,e177,qI⟩:=Kd.at_string HR0.out 2 p177 q177;obtain rfl:qG=qV:=(by injection e177);(try simp only [show (2:Int).toNat=2 from rfl,Nat.reduceMul,Nat.reduceEqDiff,Go.Addr.add,↓reduceIte] at qI);have qi177:(2 < l0.length)=True:=eq_true (by omega);(try rw [show ((2:Int)).toNat=2 from rfl] at qI);replace qI:=(HB.out.cell (World.block_lt_of_cell? w _ qI)).trans qI;replace p177:=eq_true p177;replace q177:=eq_true q177) | (go_at_call 61;(with_reducible refine (words_Number.calls (rdOf ByteArray.empty l0 2) qO false _ ?side1 A24.out).mono ?_);(case side1=>exact HLD.below bBX23);rintro e w36 ⟨rfl,hb⟩;have n0_:=Aside0.mk (Kd.R_below (by (with_reducible repeat (first | apply Kd.R_alloc | apply Kd.R_drewN | apply Kd.R_drew));exact qA.out) hb);have n1_:=Aside0.mk (below_step bBX23 hb);clear qA;clear HB;have qA:=n0_;have HB:=n1_;clear n0_ n1_;(try clear hb);(try clear hb2);(try clear hk);(try clear hi)) | (go_at_call 47;(with_reducible refine (parse_bad.calls (⟨#[67,76,73,69,78,84,95,69,82,82,79,82,32,105,110,118,97,108,105,100,32,110,117,109,101,114,105,99,32,100,101,108,116,97,32,97,114,103,117,109,101,110,116]⟩:ByteArray) qW qX _ A31.out).mono ?_);rintro e w' ⟨rfl,⟨nd,rfl⟩⟩;(try first | exact ⟨rfl,_,World.drewN_drewN _ _ _⟩ | exact ⟨rfl,_,Eq.trans (World.drewN_drewN _ _ _) (congrArg (World.drewN _) (Nat.add_assoc _ _ _))⟩)))
        repeat (go_quiet (first | (go_at_call 61;(with_reducible refine (words_Number.calls (rdOf ByteArray.empty l0 2) qO false _ ?side1 A24.out).mono ?_);(case side1=>exact HLD.below bBX23);rintro e w36 ⟨rfl,hb⟩;have n0_:=Aside0.mk (Kd.R_below (by (with_reducible repeat (first | apply Kd.R_alloc | apply Kd.R_drewN | apply Kd.R_drew));exact qA.out) hb);have n1_:=Aside0.mk (below_step bBX23 hb);clear qA;clear HB;have qA:=n0_;have HB:=n1_;clear n0_ n1_;(try clear hb);(try clear hb2);(try clear hk);(try clear hi)) | (go_at_call 47;(with_reducible refine (parse_bad.calls (⟨#[67,76,73,69,78,84,95,69,82,82,79,82,32,105,110,118,97,108,105,100,32,110,117,109,101,114,105,99,32,100,101,108,116,97,32,97,114,103,117,109,101,110,116]⟩:ByteArray) qW qX _ A31.out).mono ?_);rintro e w' ⟨rfl,⟨nd,rfl⟩⟩;(try first | exact ⟨rfl,_,World.drewN_drewN _ _ _⟩ | exact ⟨rfl,_,Eq.trans (World.drewN_drewN _ _ _) (congrArg (World.drewN _) (Nat.add_assoc _ _ _))⟩)));try go_wp2_with (first | (go_at_call 61;(with_reducible refine (words_Number.calls (rdOf ByteArray.empty l0 2) qO false _ ?side1 A24.out).mono ?_);(case side1=>exact HLD.below bBX23);rintro e w36 ⟨rfl,hb⟩;have n0_:=Aside0.mk (Kd.R_below (by (with_reducible repeat (first | apply Kd.R_alloc | apply Kd.R_drewN | apply Kd.R_drew));exact qA.out) hb);have n1_:=Aside0.mk (below_step bBX23 hb);clear qA;clear HB;have qA:=n0_;have HB:=n1_;clear n0_ n1_;(try clear hb);(try clear hb2);(try clear hk);(try clear hi)) | (go_at_call 47;(with_reducible refine (parse_bad.calls (⟨#[67,76,73,69,78,84,95,69,82,82,79,82,32,105,110,118,97,108,105,100,32,110,117,109,101,114,105,99,32,100,101,108,116,97,32,97,114,103,117,109,101,110,116]⟩:ByteArray) qW qX _ A31.out).mono ?_);rintro e w' ⟨rfl,⟨nd,rfl⟩⟩;(try first | exact ⟨rfl,_,World.drewN_drewN _ _ _⟩ | exact ⟨rfl,_,Eq.trans (World.drewN_drewN _ _ _) (congrArg (World.drewN _) (Nat.add_assoc _ _ _))⟩))))
        go_ret2
        exact ⟨by first | rfl | (simp [errW_none,errW_some]<;>rfl) | (simp [*,errW_none,errW_some]<;>rfl),bBX23⟩
      ·rw [if_neg c23] at H
       exact absurd H (by simp)
    ·rw [if_neg c7] at H
     exact absurd H (by simp)
   ·replace c6:=Bool.eq_false_iff.mpr c6
    subst c6
    have H1:((parse_bad.f (⟨#[67,76,73,69,78,84,95,69,82,82,79,82,32,98,97,100,32,99,111,109,109,97,110,100,32,108,105,110,101,32,102,111,114,109,97,116]⟩:ByteArray)).bind fun bt166=>(some (bt166.1,bt166.2)))=some (r1,r2):=by rw [if_neg (show ¬ (false=true) by decide)] at H;exact H
    clear H
    have H:=H1
    clear H1
    replace H:=Option.bind_eq_some_iff.mp H
    obtain ⟨⟨qY,qZ⟩,A370,H⟩:=H
    replace H:(some (qY,qZ))=some (r1,r2):=H
    have A37:=Aside0.mk A370
    clear A370
    simp only [Option.some.injEq,Prod.mk.injEq] at H
    obtain ⟨rfl,rfl⟩:=H
    go_enter Tryz.func50,Tryz.ntmps50
    go_wp2_with (first | ((with_reducible refine gate_dst (N:=11) rfl ?_);refine Kd.R_lit Kd.string _ 9 ?hg (N:=11) ?hd (xs:=([(⟨#[110,111,114,101,112,108,121]⟩:ByteArray)]:List ByteArray)) (inner:=[.string (⟨#[110,111,114,101,112,108,121]⟩:ByteArray)]) (ok:=fun _=>True) (okp:=fun _=>True) ?hr ?hp (fun _ hk=>hk) trivial (Below.refl _ _) (Nat.le_refl _) (by simp) ?_;(case hd=>rfl);(case hg=>rfl);(case hr=>first | (go_simp;done) | (go_simp;rfl));(case hp=>exact (Reps.one (show Kd.M Kd.string _ _ _ (⟨#[110,111,114,101,112,108,121]⟩:ByteArray) [.string (⟨#[110,111,114,101,112,108,121]⟩:ByteArray)] from rfl) (Reps.none _ _)));intro v160 w38 ho39 hb hg_ hnew_;clear hg_ hnew_;(first | rw [← qK.out] at ho39 | (simp only [Int.reduceToNat] at ho39;rw [← qK.out] at ho39));have n0_:=Aside0.mk (Kd.R_lower ho39 (below_size bBX23));have n1_:=Aside0.mk (below_step bBX23 hb);clear HB;have qA:=n0_;have HB:=n1_;clear n0_ n1_;clear hb ho39;obtain ⟨qt,qu,qj⟩:=Kd.R_slice qA.out;subst qj) | (go_at_call 51;(with_reducible refine (parse_ends.calls k _ _ l0 3 _ _ y159 qJ true _ ?side1 ?side2 ?side3 ?side4 A2.out).mono ?_);(case side1=>repeat (first | exact (Kd.C_below HR0.out HB.out) | (with_reducible refine Kd.C_alloc ?_ _) | (with_reducible refine Kd.C_drewN ?_ _) | (with_reducible refine Kd.C_drew ?_)));(case side2=>exact HC0.out);(case side3=>repeat (first | exact (Kd.R_reads' qA.out).2.2 | (with_reducible refine Kd.C_alloc ?_ _) | (with_reducible refine Kd.C_drewN ?_ _) | (with_reducible refine Kd.C_drew ?_)));(case side4=>exact (Kd.R_reads' qA.out).2.1);rintro e w' ⟨rfl,⟨nd,rfl⟩⟩;(try first | exact ⟨rfl,_,World.drewN_drewN _ _ _⟩ | exact ⟨rfl,_,Eq.trans (World.drewN_drewN _ _ _) (congrArg (World.drewN _) (Nat.add_assoc _ _ _))⟩);have p164:0≤(1:Int):=(by omega);have q164:1 < (l0.length:Int):=of_decide_eq_true (by first | (with_reducible assumption) | assumption);obtain ⟨qG,e164,qB⟩:=Kd.at_string HR0.out 1 p164 q164;cases e164;(try simp only [show (1:Int).toNat=1 from rfl,Nat.reduceMul,Nat.reduceEqDiff,Go.Addr.add,↓reduceIte] at qB);have qi164:(1 < l0.length)=True:=eq_true (by omega);(try rw [show ((1:Int)).toNat=1 from rfl] at qB);replace qB:=(HB.out.cell (World.block_lt_of_cell? w _ qB)).trans qB;replace p164:=eq_true p164;replace q164:=eq_true q164) | (go_at_call 52;(with_reducible refine (words_Key.calls (rdOf ByteArray.empty l0 1) false _ ?side1 A5.out).mono ?_);(case side1=>exact HLD.below bBX23);rintro e w41 ⟨rfl,hb⟩;have n0_:=Aside0.mk (Kd.R_below (by (with_reducible repeat (first | apply Kd.R_alloc | apply Kd.R_drewN | apply Kd.R_drew));exact qA.out) hb);have n1_:=Aside0.mk (below_step bBX23 hb);clear qA;clear HB;have qA:=n0_;have HB:=n1_;clear n0_ n1_;(try clear hb);(try clear hb2);(try clear hk);(try clear hi)) | (go_at_call 47;(with_reducible refine (parse_bad.calls (⟨#[67,76,73,69,78,84,95,69,82,82,79,82,32,98,97,100,32,99,111,109,109,97,110,100,32,108,105,110,101,32,102,111,114,109,97,116]⟩:ByteArray) qY qZ _ A37.out).mono ?_);rintro e w' ⟨rfl,⟨nd,rfl⟩⟩;(try first | exact ⟨rfl,_,World.drewN_drewN _ _ _⟩ | exact ⟨rfl,_,Eq.trans (World.drewN_drewN _ _ _) (congrArg (World.drewN _) (Nat.add_assoc _ _ _))⟩)))
    repeat (go_quiet (first | (go_at_call 47;(with_reducible refine (parse_bad.calls (⟨#[67,76,73,69,78,84,95,69,82,82,79,82,32,98,97,100,32,99,111,109,109,97,110,100,32,108,105,110,101,32,102,111,114,109,97,116]⟩:ByteArray) qY qZ _ A37.out).mono ?_);rintro e w' ⟨rfl,⟨nd,rfl⟩⟩;(try first | exact ⟨rfl,_,World.drewN_drewN _ _ _⟩ | exact ⟨rfl,_,Eq.trans (World.drewN_drewN _ _ _) (congrArg (World.drewN _) (Nat.add_assoc _ _ _))⟩)));try go_wp2_with (first | (go_at_call 47;(with_reducible refine (parse_bad.calls (⟨#[67,76,73,69,78,84,95,69,82,82,79,82,32,98,97,100,32,99,111,109,109,97,110,100,32,108,105,110,101,32,102,111,114,109,97,116]⟩:ByteArray) qY qZ _ A37.out).mono ?_);rintro e w' ⟨rfl,⟨nd,rfl⟩⟩;(try first | exact ⟨rfl,_,World.drewN_drewN _ _ _⟩ | exact ⟨rfl,_,Eq.trans (World.drewN_drewN _ _ _) (congrArg (World.drewN _) (Nat.add_assoc _ _ _))⟩))))
    go_ret2
    exact ⟨by first | rfl | (simp [errW_none,errW_some]<;>rfl) | (simp [*,errW_none,errW_some]<;>rfl),bBX23⟩
  ·rw [if_neg c4] at H
   exact absurd H (by simp)
 ·replace c3:=Bool.eq_false_iff.mpr c3
  subst c3
  have H1:((parse_bad.f (⟨#[69,82,82,79,82]⟩:ByteArray)).bind fun bt168=>(some (bt168.1,bt168.2)))=some (r1,r2):=by rw [if_neg (show ¬ (false=true) by decide)] at H;exact H
  clear H
  have H:=H1
  clear H1
  replace H:=Option.bind_eq_some_iff.mp H
  obtain ⟨⟨qa,qb⟩,A420,H⟩:=H
  replace H:(some (qa,qb))=some (r1,r2):=H
  have A42:=Aside0.mk A420
  clear A420
  simp only [Option.some.injEq,Prod.mk.injEq] at H
  obtain ⟨rfl,rfl⟩:=H
  go_enter Tryz.func50,Tryz.ntmps50
  go_wp2_with (first | ((with_reducible refine gate_dst (N:=11) rfl ?_);refine Kd.R_lit Kd.string _ 9 ?hg (N:=11) ?hd (xs:=([(⟨#[110,111,114,101,112,108,121]⟩:ByteArray)]:List ByteArray)) (inner:=[.string (⟨#[110,111,114,101,112,108,121]⟩:ByteArray)]) (ok:=fun _=>True) (okp:=fun _=>True) ?hr ?hp (fun _ hk=>hk) trivial (Below.refl _ _) (Nat.le_refl _) (by simp) ?_;(case hd=>rfl);(case hg=>rfl);(case hr=>first | (go_simp;done) | (go_simp;rfl));(case hp=>exact (Reps.one (show Kd.M Kd.string _ _ _ (⟨#[110,111,114,101,112,108,121]⟩:ByteArray) [.string (⟨#[110,111,114,101,112,108,121]⟩:ByteArray)] from rfl) (Reps.none _ _)));intro v160 w43 ho44 hb hg_ hnew_;clear hg_ hnew_;(first | rw [← qK.out] at ho44 | (simp only [Int.reduceToNat] at ho44;rw [← qK.out] at ho44));have n0_:=Aside0.mk (Kd.R_lower ho44 (below_size bBX23));have n1_:=Aside0.mk (below_step bBX23 hb);clear HB;have qA:=n0_;have HB:=n1_;clear n0_ n1_;clear hb ho44;obtain ⟨qv,qw,qk⟩:=Kd.R_slice qA.out;subst qk) | (go_at_call 51;(with_reducible refine (parse_ends.calls k _ _ l0 3 _ _ y159 qJ false _ ?side1 ?side2 ?side3 ?side4 A2.out).mono ?_);(case side1=>repeat (first | exact (Kd.C_below HR0.out HB.out) | (with_reducible refine Kd.C_alloc ?_ _) | (with_reducible refine Kd.C_drewN ?_ _) | (with_reducible refine Kd.C_drew ?_)));(case side2=>exact HC0.out);(case side3=>repeat (first | exact (Kd.R_reads' qA.out).2.2 | (with_reducible refine Kd.C_alloc ?_ _) | (with_reducible refine Kd.C_drewN ?_ _) | (with_reducible refine Kd.C_drew ?_)));(case side4=>exact (Kd.R_reads' qA.out).2.1);rintro e w' ⟨rfl,⟨nd,rfl⟩⟩;(try first | exact ⟨rfl,_,World.drewN_drewN _ _ _⟩ | exact ⟨rfl,_,Eq.trans (World.drewN_drewN _ _ _) (congrArg (World.drewN _) (Nat.add_assoc _ _ _))⟩)) | (go_at_call 47;(with_reducible refine (parse_bad.calls (⟨#[69,82,82,79,82]⟩:ByteArray) qa qb _ A42.out).mono ?_);rintro e w' ⟨rfl,⟨nd,rfl⟩⟩;(try first | exact ⟨rfl,_,World.drewN_drewN _ _ _⟩ | exact ⟨rfl,_,Eq.trans (World.drewN_drewN _ _ _) (congrArg (World.drewN _) (Nat.add_assoc _ _ _))⟩)))
  repeat (go_quiet (first | (go_at_call 47;(with_reducible refine (parse_bad.calls (⟨#[69,82,82,79,82]⟩:ByteArray) qa qb _ A42.out).mono ?_);rintro e w' ⟨rfl,⟨nd,rfl⟩⟩;(try first | exact ⟨rfl,_,World.drewN_drewN _ _ _⟩ | exact ⟨rfl,_,Eq.trans (World.drewN_drewN _ _ _) (congrArg (World.drewN _) (Nat.add_assoc _ _ _))⟩)));try go_wp2_with (first | (go_at_call 47;(with_reducible refine (parse_bad.calls (⟨#[69,82,82,79,82]⟩:ByteArray) qa qb _ A42.out).mono ?_);rintro e w' ⟨rfl,⟨nd,rfl⟩⟩;(try first | exact ⟨rfl,_,World.drewN_drewN _ _ _⟩ | exact ⟨rfl,_,Eq.trans (World.drewN_drewN _ _ _) (congrArg (World.drewN _) (Nat.add_assoc _ _ _))⟩))))
  go_ret2
  exact ⟨by first | rfl | (simp [errW_none,errW_some]<;>rfl) | (simp [*,errW_none,errW_some]<;>rfl),bBX23⟩

end Go.Proofs.YtfbhlbchmenloaaGreatDoor.H
-- thinned
end
section
namespace Go.Proofs.YtfbhlbchmenloaaGreatDoor.H
open Go.RowKit Go.Proofs.YtfbhlbchmenloaaGreatDoorW.PrintWords Go.Proofs.YtfbhlbchmenloaaGreatDoorW.PrintLast Go.Proofs.YtfbhlbchmenloaaGreatDoorW.PrintMore
attribute [local go_sem] max2_int min2_int max_two min_two max_three min_three max_four min_four   -- for this text's walks alone
set_option linter.unusedVariables false
set_option linter.unusedSimpArgs false

/-! ### parse_one: function 37 -/
mutual
def parse_one.j0:Nat→List ByteArray→ByteArray→Bool→Option (Cm×Int)
  | 0,_,_,_=>none
  | k + 1,x4,x19,x20=>if x20=true then ((parse_get.f x4).bind fun bt190=>(some (bt190.1,bt190.2))) else (if x19.toList=([115,101,116]:List UInt8) then (parse_one.j1 k x4 x19 (x19.toList==([115,101,116]:List UInt8))) else (if x19.toList=([97,100,100]:List UInt8) then (parse_one.j1 k x4 x19 (x19.toList==([97,100,100]:List UInt8))) else (if x19.toList=([114,101,112,108,97,99,101]:List UInt8) then (parse_one.j1 k x4 x19 (x19.toList==([114,101,112,108,97,99,101]:List UInt8))) else (if x19.toList=([97,112,112,101,110,100]:List UInt8) then (parse_one.j1 k x4 x19 (x19.toList==([97,112,112,101,110,100]:List UInt8))) else (if x19.toList=([112,114,101,112,101,110,100]:List UInt8) then (parse_one.j1 k x4 x19 (x19.toList==([112,114,101,112,101,110,100]:List UInt8))) else (parse_one.j1 k x4 x19 (x19.toList==([99,97,115]:List UInt8))))))))
def parse_one.j1:Nat→List ByteArray→ByteArray→Bool→Option (Cm×Int)
  | 0,_,_,_=>none
  | k + 1,x4,x19,x29=>if x29=true then ((parse_store.f k x4).bind fun bt192=>(some (bt192.1,bt192.2))) else (if x19.toList=([105,110,99,114]:List UInt8) then (parse_one.j2 k x4 x19 (x19.toList==([105,110,99,114]:List UInt8))) else (if x19.toList=([100,101,99,114]:List UInt8) then (parse_one.j2 k x4 x19 (x19.toList==([100,101,99,114]:List UInt8))) else (parse_one.j2 k x4 x19 (x19.toList==([116,111,117,99,104]:List UInt8)))))
def parse_one.j2:Nat→List ByteArray→ByteArray→Bool→Option (Cm×Int)
  | 0,_,_,_=>none
  | k + 1,x4,x19,x40=>if x40=true then ((parse_keyed.f k x4).bind fun bt194=>(some (bt194.1,bt194.2))) else (if x19.toList=([100,101,108,101,116,101]:List UInt8) then ((parse_ends.f k x4 2 (([(⟨#[110,111,114,101,112,108,121]⟩:ByteArray),(⟨#[48]⟩:ByteArray)]:List ByteArray))).bind fun bt199=>(if bt199.2=true then (if 1 < (x4.length:Int) then ((words_Key.f (rdOf ByteArray.empty x4 1)).bind fun t202=>(if t202=true then (some ((Cm.delete (rdOf ByteArray.empty x4 1) bt199.1),(-1))) else ((parse_bad.f (⟨#[67,76,73,69,78,84,95,69,82,82,79,82,32,98,97,100,32,99,111,109,109,97,110,100,32,108,105,110,101,32,102,111,114,109,97,116]⟩:ByteArray)).bind fun bt204=>(some (bt204.1,bt204.2))))) else (none)) else ((parse_bad.f (⟨#[69,82,82,79,82]⟩:ByteArray)).bind fun bt206=>(some (bt206.1,bt206.2))))) else (if x19.toList=([102,108,117,115,104,95,97,108,108]:List UInt8) then ((parse_ends.f k x4 1 (([(⟨#[110,111,114,101,112,108,121]⟩:ByteArray),(⟨#[48]⟩:ByteArray)]:List ByteArray))).bind fun bt211=>(if bt211.2=true then (some ((Cm.flush bt211.1),(-1))) else ((parse_bad.f (⟨#[69,82,82,79,82]⟩:ByteArray)).bind fun bt213=>(some (bt213.1,bt213.2))))) else (if x19.toList=([118,101,114,115,105,111,110]:List UInt8) then (parse_one.j3 k x4 (x19.toList==([118,101,114,115,105,111,110]:List UInt8))) else (parse_one.j3 k x4 (x19.toList==([113,117,105,116]:List UInt8))))))
def parse_one.j3:Nat→List ByteArray→Bool→Option (Cm×Int)
  | 0,_,_=>none
  | k + 1,x4,x83=>if x83=true then (if (x4.length:Int)=1 then (if 0 < (x4.length:Int) then (some ((Cm.word (rdOf ByteArray.empty x4 0)),(-1))) else (none)) else ((parse_bad.f (⟨#[69,82,82,79,82]⟩:ByteArray)).bind fun bt216=>(some (bt216.1,bt216.2)))) else ((parse_bad.f (⟨#[69,82,82,79,82]⟩:ByteArray)).bind fun bt218=>(some (bt218.1,bt218.2)))
end
def parse_one.f (k:Nat) (a0:ByteArray):Option (Cm×Int):=(words_Split.f k a0).bind fun t184=>(if (t184.length:Int)=0 then ((parse_bad.f (⟨#[69,82,82,79,82]⟩:ByteArray)).bind fun bt187=>(some (bt187.1,bt187.2))) else (if 0 < (t184.length:Int) then (if (rdOf ByteArray.empty t184 0).toList=([103,101,116]:List UInt8) then (parse_one.j0 k t184 (rdOf ByteArray.empty t184 0) ((rdOf ByteArray.empty t184 0).toList==([103,101,116]:List UInt8))) else (if (rdOf ByteArray.empty t184 0).toList=([103,101,116,115]:List UInt8) then (parse_one.j0 k t184 (rdOf ByteArray.empty t184 0) ((rdOf ByteArray.empty t184 0).toList==([103,101,116,115]:List UInt8))) else (if (rdOf ByteArray.empty t184 0).toList=([103,97,116]:List UInt8) then (parse_one.j0 k t184 (rdOf ByteArray.empty t184 0) ((rdOf ByteArray.empty t184 0).toList==([103,97,116]:List UInt8))) else (parse_one.j0 k t184 (rdOf ByteArray.empty t184 0) ((rdOf ByteArray.empty t184 0).toList==([103,97,116,115]:List UInt8)))))) else (none)))
theorem parse_one.mono_l:∀ k,(∀ y0 y1 y2,LeO (parse_one.j0 k y0 y1 y2) (parse_one.j0 (k + 1) y0 y1 y2))∧(∀ y0 y1 y2,LeO (parse_one.j1 k y0 y1 y2) (parse_one.j1 (k + 1) y0 y1 y2))∧(∀ y0 y1 y2,LeO (parse_one.j2 k y0 y1 y2) (parse_one.j2 (k + 1) y0 y1 y2))∧(∀ y0 y1,LeO (parse_one.j3 k y0 y1) (parse_one.j3 (k + 1) y0 y1))
  | 0=>⟨fun _ _ _ r h=>by simp [parse_one.j0] at h,fun _ _ _ r h=>by simp [parse_one.j1] at h,fun _ _ _ r h=>by simp [parse_one.j2] at h,fun _ _ r h=>by simp [parse_one.j3] at h⟩
  | k + 1=>by
    obtain ⟨ih0,ih1,ih2,ih3⟩:=parse_one.mono_l k
    refine ⟨?_,?_,?_,?_⟩
    · intro y0 y1 y2
      unfold parse_one.j0
      repeat' first
      | (with_reducible exact ih0 _ _ _)
      | (with_reducible exact ih1 _ _ _)
      | (with_reducible exact ih2 _ _ _)
      | (with_reducible exact ih3 _ _)
      | (with_reducible exact parse_ends.mono _ _ _ _)
      | (with_reducible exact parse_keyed.mono _ _)
      | (with_reducible exact parse_store.mono _ _)
      | (with_reducible exact words_Split.mono _ _)
      | (with_reducible exact LeO.refl _)
      | (with_reducible exact LeO.none _)
      | (with_reducible refine LeO.ite ?_ ?_)
      | (with_reducible refine LeO.bind ?_ (fun _=>?_))
      | exact ih0 _ _ _
      | exact ih1 _ _ _
      | exact ih2 _ _ _
      | exact ih3 _ _
      | exact parse_ends.mono _ _ _ _
      | exact parse_keyed.mono _ _
      | exact parse_store.mono _ _
      | exact words_Split.mono _ _
      | exact LeO.none _
      | refine LeO.ite ?_ ?_
      | refine LeO.bind ?_ (fun _=>?_)
    · intro y0 y1 y2
      unfold parse_one.j1
      repeat' first
      | (with_reducible exact ih0 _ _ _)
      | (with_reducible exact ih1 _ _ _)
      | (with_reducible exact ih2 _ _ _)
      | (with_reducible exact ih3 _ _)
      | (with_reducible exact parse_ends.mono _ _ _ _)
      | (with_reducible exact parse_keyed.mono _ _)
      | (with_reducible exact parse_store.mono _ _)
      | (with_reducible exact words_Split.mono _ _)
      | (with_reducible exact LeO.refl _)
      | (with_reducible exact LeO.none _)
      | (with_reducible refine LeO.ite ?_ ?_)
      | (with_reducible refine LeO.bind ?_ (fun _=>?_))
      | exact ih0 _ _ _
      | exact ih1 _ _ _
      | exact ih2 _ _ _
      | exact ih3 _ _
      | exact parse_ends.mono _ _ _ _
      | exact parse_keyed.mono _ _
      | exact parse_store.mono _ _
      | exact words_Split.mono _ _
      | exact LeO.none _
      | refine LeO.ite ?_ ?_
      | refine LeO.bind ?_ (fun _=>?_)
    · intro y0 y1 y2
      unfold parse_one.j2
      repeat' first
      | (with_reducible exact ih0 _ _ _)
      | (with_reducible exact ih1 _ _ _)
      | (with_reducible exact ih2 _ _ _)
      | (with_reducible exact ih3 _ _)
      | (with_reducible exact parse_ends.mono _ _ _ _)
      | (with_reducible exact parse_keyed.mono _ _)
      | (with_reducible exact parse_store.mono _ _)
      | (with_reducible exact words_Split.mono _ _)
      | (with_reducible exact LeO.refl _)
      | (with_reducible exact LeO.none _)
      | (with_reducible refine LeO.ite ?_ ?_)
      | (with_reducible refine LeO.bind ?_ (fun _=>?_))
      | exact ih0 _ _ _
      | exact ih1 _ _ _
      | exact ih2 _ _ _
      | exact ih3 _ _
      | exact parse_ends.mono _ _ _ _
      | exact parse_keyed.mono _ _
      | exact parse_store.mono _ _
      | exact words_Split.mono _ _
      | exact LeO.none _
      | refine LeO.ite ?_ ?_
      | refine LeO.bind ?_ (fun _=>?_)
    · intro y0 y1
      unfold parse_one.j3
      repeat' first
      | (with_reducible exact ih0 _ _ _)
      | (with_reducible exact ih1 _ _ _)
      | (with_reducible exact ih2 _ _ _)
      | (with_reducible exact ih3 _ _)
      | (with_reducible exact parse_ends.mono _ _ _ _)
      | (with_reducible exact parse_keyed.mono _ _)
      | (with_reducible exact parse_store.mono _ _)
      | (with_reducible exact words_Split.mono _ _)
      | (with_reducible exact LeO.refl _)
      | (with_reducible exact LeO.none _)
      | (with_reducible refine LeO.ite ?_ ?_)
      | (with_reducible refine LeO.bind ?_ (fun _=>?_))
      | exact ih0 _ _ _
      | exact ih1 _ _ _
      | exact ih2 _ _ _
      | exact ih3 _ _
      | exact parse_ends.mono _ _ _ _
      | exact parse_keyed.mono _ _
      | exact parse_store.mono _ _
      | exact words_Split.mono _ _
      | exact LeO.none _
      | refine LeO.ite ?_ ?_
      | refine LeO.bind ?_ (fun _=>?_)
theorem parse_one.mono:∀ a0 k,LeO (parse_one.f k a0) (parse_one.f (k + 1) a0):=by
  intro a0 k
  obtain ⟨ih0,ih1,ih2,ih3⟩:=parse_one.mono_l k
  unfold parse_one.f
  repeat' first
      | (with_reducible exact ih0 _ _ _)
      | (with_reducible exact ih1 _ _ _)
      | (with_reducible exact ih2 _ _ _)
      | (with_reducible exact ih3 _ _)
      | (with_reducible exact parse_ends.mono _ _ _ _)
      | (with_reducible exact parse_keyed.mono _ _)
      | (with_reducible exact parse_store.mono _ _)
      | (with_reducible exact words_Split.mono _ _)
      | (with_reducible exact LeO.refl _)
      | (with_reducible exact LeO.none _)
      | (with_reducible refine LeO.ite ?_ ?_)
      | (with_reducible refine LeO.bind ?_ (fun _=>?_))
      | exact ih0 _ _ _
      | exact ih1 _ _ _
      | exact ih2 _ _ _
      | exact ih3 _ _
      | exact parse_ends.mono _ _ _ _
      | exact parse_keyed.mono _ _
      | exact parse_store.mono _ _
      | exact words_Split.mono _ _
      | exact LeO.none _
      | refine LeO.ite ?_ ?_
      | refine LeO.bind ?_ (fun _=>?_)
theorem bBX24 {B:Nat} {w W:World} (h:Below B w W:=by repeat (first | (with_reducible first | exact HB.out | apply below_alloc | apply pw_below_drewN | apply below_drew1) | exact HB.out)):Below B w W:=h
set_option maxHeartbeats 8000000 in
set_option maxRecDepth 100000 in
theorem parse_one.calls (k:Nat) (a0:ByteArray) (r1:Cm) (r2:Int) (w:World) (HLD:LaidA w) (h:parse_one.f k a0=some (r1,r2)) :
  Calls Tryz.prog 37 #[.string a0] w fun e w'=>e=.returned (.tuple #[anyW r1,.int .i64 r2])∧Below w.heap.size w w':=by
 have hu82:=Tryz.underlying82
 have hu85:=Tryz.underlying85
 have hu91:=Tryz.underlying91
 have HB:=Aside0.mk (Below.refl w.heap.size w)
 have H:((words_Split.f k a0).bind fun qA=>(if (qA.length:Int)=0 then ((parse_bad.f (⟨#[69,82,82,79,82]⟩:ByteArray)).bind fun bt187=>(some (bt187.1,bt187.2))) else (if 0 < (qA.length:Int) then (if (rdOf ByteArray.empty qA 0).toList=([103,101,116]:List UInt8) then (parse_one.j0 k qA (rdOf ByteArray.empty qA 0) ((rdOf ByteArray.empty qA 0).toList==([103,101,116]:List UInt8))) else (if (rdOf ByteArray.empty qA 0).toList=([103,101,116,115]:List UInt8) then (parse_one.j0 k qA (rdOf ByteArray.empty qA 0) ((rdOf ByteArray.empty qA 0).toList==([103,101,116,115]:List UInt8))) else (if (rdOf ByteArray.empty qA 0).toList=([103,97,116]:List UInt8) then (parse_one.j0 k qA (rdOf ByteArray.empty qA 0) ((rdOf ByteArray.empty qA 0).toList==([103,97,116]:List UInt8))) else (parse_one.j0 k qA (rdOf ByteArray.empty qA 0) ((rdOf ByteArray.empty qA 0).toList==([103,97,116,115]:List UInt8)))))) else (none))))=some (r1,r2):=h
 clear h
 replace H:=Option.bind_eq_some_iff.mp H
 obtain ⟨qA,A20,H⟩:=H
 replace H:(if (qA.length:Int)=0 then ((parse_bad.f (⟨#[69,82,82,79,82]⟩:ByteArray)).bind fun bt187=>(some (bt187.1,bt187.2))) else (if 0 < (qA.length:Int) then (if (rdOf ByteArray.empty qA 0).toList=([103,101,116]:List UInt8) then (parse_one.j0 k qA (rdOf ByteArray.empty qA 0) ((rdOf ByteArray.empty qA 0).toList==([103,101,116]:List UInt8))) else (if (rdOf ByteArray.empty qA 0).toList=([103,101,116,115]:List UInt8) then (parse_one.j0 k qA (rdOf ByteArray.empty qA 0) ((rdOf ByteArray.empty qA 0).toList==([103,101,116,115]:List UInt8))) else (if (rdOf ByteArray.empty qA 0).toList=([103,97,116]:List UInt8) then (parse_one.j0 k qA (rdOf ByteArray.empty qA 0) ((rdOf ByteArray.empty qA 0).toList==([103,97,116]:List UInt8))) else (parse_one.j0 k qA (rdOf ByteArray.empty qA 0) ((rdOf ByteArray.empty qA 0).toList==([103,97,116,115]:List UInt8)))))) else (none)))=some (r1,r2):=H
 have A2:=Aside0.mk A20
 clear A20
 by_cases c3:(qA.length:Int)=0
 ·rw [if_pos c3] at H
  have c3b0:((qA.length:Int)==0)=true:=beq_iff_eq.mpr c3
  have c3b1:((qA.length:Int) != 0)=false:=bne_eq_false_iff_eq.mpr c3
  clear c3
  replace H:=Option.bind_eq_some_iff.mp H
  obtain ⟨⟨qQ,qR⟩,A40,H⟩:=H
  replace H:(some (qQ,qR))=some (r1,r2):=H
  have A4:=Aside0.mk A40
  clear A40
  simp only [Option.some.injEq,Prod.mk.injEq] at H
  obtain ⟨rfl,rfl⟩:=H
  go_enter Tryz.func37,Tryz.ntmps37
  go_wp2_with (first | ((with_reducible refine gate_callee (f:=46) rfl ?_);refine goesL_ (some 10) rfl rfl Tryz.func46 (by kernel_rfl) rfl #[.string a0] rfl (by (try simp only [List.map_toArray,List.map_cons,List.map_nil]);first | done | rfl | (simp only [List.length_drop,List.length_take];rfl)) ?_;(with_reducible refine (words_Split.calls k a0 qA _ ?side1 A2.out).mono ?_);(case side1=>exact HLD.below bBX24);rintro e w5 ⟨v185,rfl,ho0,hb⟩;refine ⟨_,rfl,?_⟩;have n0_:=Aside0.mk (Kd.R_lower ho0 (below_size bBX24));have n1_:=Aside0.mk (below_step bBX24 hb);clear HB;have qG:=n0_;have HB:=n1_;clear n0_ n1_;(try clear hb);(try clear hb2);(try clear hk);(try clear hi);(try clear ho0);obtain ⟨Ao6,co6,eo6⟩:=Kd.R_slice qG.out;subst eo6) | ((with_reducible refine gate_callee (f:=47) rfl ?_);refine goesL_ (some 14) rfl rfl Tryz.func47 (by kernel_rfl) rfl #[.string (⟨#[69,82,82,79,82]⟩:ByteArray)] rfl (by (try simp only [List.map_toArray,List.map_cons,List.map_nil]);first | done | rfl | (simp only [List.length_drop,List.length_take];rfl)) ?_;(with_reducible refine (parse_bad.calls (⟨#[69,82,82,79,82]⟩:ByteArray) qQ qR _ A4.out).mono ?_);rintro e w' ⟨rfl,⟨nd,rfl⟩⟩;refine ⟨_,rfl,?_⟩))
  go_ret2
  exact ⟨by first | rfl | (simp [errW_none,errW_some]<;>rfl) | (simp [*,errW_none,errW_some]<;>rfl),bBX24⟩
 ·rw [if_neg c3] at H
  have c3b0:((qA.length:Int)==0)=false:=beq_eq_false_iff_ne.mpr c3
  have c3b1:((qA.length:Int) != 0)=true:=bne_iff_ne.mpr c3
  have c3b2:¬ (qA=[]):=fun h_=>c3 (by rw [h_];rfl)
  by_cases c7:0 < (qA.length:Int)
  ·rw [if_pos c7] at H
   have c7b0:decide (0 < (qA.length:Int))=true:=decide_eq_true c7
   have c7b1:decide (0 < qA.length)=true:=decide_eq_true (by omega)
   clear c7
   have HC8:=Aside0.mk H
   clear H
   go_enter Tryz.func37,Tryz.ntmps37
   go_upto_if 20 with (first | ((with_reducible refine gate_callee (f:=46) rfl ?_);refine goesL_ (some 10) rfl rfl Tryz.func46 (by kernel_rfl) rfl #[.string a0] rfl (by (try simp only [List.map_toArray,List.map_cons,List.map_nil]);first | done | rfl | (simp only [List.length_drop,List.length_take];rfl)) ?_;(with_reducible refine (words_Split.calls k a0 qA _ ?side1 A2.out).mono ?_);(case side1=>exact HLD.below bBX24);rintro e w9 ⟨v185,rfl,ho0,hb⟩;refine ⟨_,rfl,?_⟩;have n0_:=Aside0.mk (Kd.R_lower ho0 (below_size bBX24));have n1_:=Aside0.mk (below_step bBX24 hb);clear HB;have qG:=n0_;have HB:=n1_;clear n0_ n1_;(try clear hb);(try clear hb2);(try clear hk);(try clear hi);(try clear ho0);obtain ⟨qAF,qD,qo⟩:=Kd.R_slice qG.out;subst qo;have p189:0≤(0:Int):=(by omega);have q189:0 < (qA.length:Int):=of_decide_eq_true (by first | (with_reducible assumption) | assumption);obtain ⟨qC,e189,qE⟩:=Kd.at_string (Kd.R_reads' qG.out).2.2 0 p189 q189;cases e189;have qi189:(0 < qA.length)=True:=eq_true (by omega);(try rw [show ((0:Int)).toNat=0 from rfl] at qE);(try rw [Addr.add_zero'] at qE);replace p189:=eq_true p189;replace q189:=eq_true q189))
   (try simp only [Act.put,List.setIfInBounds_toArray,List.set_cons_zero,List.set_cons_succ])
   go_cut [20] (fun v20 wc=>∃ (kq:Nat) (x20_7:Bool),v20=.bool x20_7∧Aside0 (parse_one.j0 kq qA (rdOf ByteArray.empty qA 0) x20_7=some (r1,r2))∧Aside0 (kq≤k)∧Aside0 (Kd.R Kd.string 9 wc w.heap.size (fun _=>True) (.slice (some qC) qA.length qD) qA)∧Aside0 (Below w.heap.size w wc))
   case first=>
    have H:=HC8.out
    clear HC8
    by_cases c11:(rdOf ByteArray.empty qA 0).toList=([103,101,116]:List UInt8)
    ·rw [if_pos c11] at H
     have c11b0:((rdOf ByteArray.empty qA 0).toList==([103,101,116]:List UInt8))=true:=beq_iff_eq.mpr c11
     have c11b1:((rdOf ByteArray.empty qA 0).toList != ([103,101,116]:List UInt8))=false:=bne_eq_false_iff_eq.mpr c11
     clear c11
     (first | rw [c11b0] | (simp only [i64_w,i32_w];rw [c11b0]) | skip)
     have H':=Aside0.mk H
     clear H
     go_wp2
     go_meet
     case rel=>exact ⟨_,(((rdOf ByteArray.empty qA 0).toList==([103,101,116]:List UInt8))),(by first | rfl | (simp;done) | (simp [*];done)),H',⟨by first | omega | exact Nat.le_refl _⟩,⟨by (with_reducible repeat (first | apply Kd.R_alloc | apply Kd.R_drewN | apply Kd.R_drew));exact qG.out⟩,⟨bBX24⟩⟩
    ·rw [if_neg c11] at H
     have c11b0:((rdOf ByteArray.empty qA 0).toList==([103,101,116]:List UInt8))=false:=beq_eq_false_iff_ne.mpr c11
     have c11b1:((rdOf ByteArray.empty qA 0).toList != ([103,101,116]:List UInt8))=true:=bne_iff_ne.mpr c11
     (first | rw [c11b0] | (simp only [i64_w,i32_w];rw [c11b0]) | skip)
     by_cases c12:(rdOf ByteArray.empty qA 0).toList=([103,101,116,115]:List UInt8)
     ·rw [if_pos c12] at H
      have c12b0:((rdOf ByteArray.empty qA 0).toList==([103,101,116,115]:List UInt8))=true:=beq_iff_eq.mpr c12
      have c12b1:((rdOf ByteArray.empty qA 0).toList != ([103,101,116,115]:List UInt8))=false:=bne_eq_false_iff_eq.mpr c12
      clear c12
      have H':=Aside0.mk H
      clear H
      go_wp2
      go_meet
      case rel=>exact ⟨_,(((rdOf ByteArray.empty qA 0).toList==([103,101,116,115]:List UInt8))),(by first | rfl | (simp;done) | (simp [*];done)),H',⟨by first | omega | exact Nat.le_refl _⟩,⟨by (with_reducible repeat (first | apply Kd.R_alloc | apply Kd.R_drewN | apply Kd.R_drew));exact qG.out⟩,⟨bBX24⟩⟩
     ·rw [if_neg c12] at H
      have c12b0:((rdOf ByteArray.empty qA 0).toList==([103,101,116,115]:List UInt8))=false:=beq_eq_false_iff_ne.mpr c12
      have c12b1:((rdOf ByteArray.empty qA 0).toList != ([103,101,116,115]:List UInt8))=true:=bne_iff_ne.mpr c12
      by_cases c13:(rdOf ByteArray.empty qA 0).toList=([103,97,116]:List UInt8)
      ·rw [if_pos c13] at H
       have c13b0:((rdOf ByteArray.empty qA 0).toList==([103,97,116]:List UInt8))=true:=beq_iff_eq.mpr c13
       have c13b1:((rdOf ByteArray.empty qA 0).toList != ([103,97,116]:List UInt8))=false:=bne_eq_false_iff_eq.mpr c13
       clear c13
       have H':=Aside0.mk H
       clear H
       go_wp2
       go_meet
       case rel=>exact ⟨_,(((rdOf ByteArray.empty qA 0).toList==([103,97,116]:List UInt8))),(by first | rfl | (simp;done) | (simp [*];done)),H',⟨by first | omega | exact Nat.le_refl _⟩,⟨by (with_reducible repeat (first | apply Kd.R_alloc | apply Kd.R_drewN | apply Kd.R_drew));exact qG.out⟩,⟨bBX24⟩⟩
      ·rw [if_neg c13] at H
       have c13b0:((rdOf ByteArray.empty qA 0).toList==([103,97,116]:List UInt8))=false:=beq_eq_false_iff_ne.mpr c13
       have c13b1:((rdOf ByteArray.empty qA 0).toList != ([103,97,116]:List UInt8))=true:=bne_iff_ne.mpr c13
       have H':=Aside0.mk H
       clear H
       go_wp2
       go_meet
       case rel=>exact ⟨_,(((rdOf ByteArray.empty qA 0).toList==([103,97,116,115]:List UInt8))),(by first | rfl | (simp;done) | (simp [*];done)),H',⟨by first | omega | exact Nat.le_refl _⟩,⟨by (with_reducible repeat (first | apply Kd.R_alloc | apply Kd.R_drewN | apply Kd.R_drew));exact qG.out⟩,⟨bBX24⟩⟩
   case rest=>
    clear HC8
    clear c3 c3b0 c3b1 c3b2 c7b0 c7b1 qE p189 q189
    obtain ⟨kq,x20_7,rfl,HA,HJ7,HO_4,HB⟩:=hcut
    cases kq with
    | zero=>exact absurd HA.out (by simp [parse_one.j0])
    | succ kj7=>
     have H:=HA.out
     clear HA
     simp only [parse_one.j0] at H
     by_cases c14:x20_7=true
     ·subst c14
      have H1:((parse_get.f qA).bind fun bt190=>(some (bt190.1,bt190.2)))=some (r1,r2):=by rw [if_pos rfl] at H;exact H
      clear H
      have H:=H1
      clear H1
      replace H:=Option.bind_eq_some_iff.mp H
      obtain ⟨⟨qT,qU⟩,A150,H⟩:=H
      replace H:(some (qT,qU))=some (r1,r2):=H
      have A15:=Aside0.mk A150
      clear A150
      simp only [Option.some.injEq,Prod.mk.injEq] at H
      obtain ⟨rfl,rfl⟩:=H
      go_wp2_with (first | ((with_reducible refine gate_callee (f:=48) rfl ?_);refine goesL_ (some 26) rfl rfl Tryz.func48 (by kernel_rfl) rfl #[.slice (some qC) qA.length qD] rfl (by (try simp only [List.map_toArray,List.map_cons,List.map_nil]);first | done | rfl | (simp only [List.length_drop,List.length_take];rfl)) ?_;(with_reducible refine (parse_get.calls _ _ qA qT qU _ ?side3 ?side1 ?side2 A15.out).mono ?_);(case side1=>repeat (first | exact (Kd.R_reads' HO_4.out).2.2 | (with_reducible refine Kd.C_alloc ?_ _) | (with_reducible refine Kd.C_drewN ?_ _) | (with_reducible refine Kd.C_drew ?_)));(case side2=>exact (Kd.R_reads' HO_4.out).2.1);(case side3=>exact HLD.below bBX24);rintro e w16 ⟨rfl,hb⟩;refine ⟨_,rfl,?_⟩;have n0_:=Aside0.mk (Kd.R_below (by (with_reducible repeat (first | apply Kd.R_alloc | apply Kd.R_drewN | apply Kd.R_drew));exact HO_4.out) hb);have n1_:=Aside0.mk (below_step bBX24 hb);clear HO_4;clear HB;have HO_4:=n0_;have HB:=n1_;clear n0_ n1_;(try clear hb);(try clear hb2);(try clear hk);(try clear hi)))
      go_ret2
      exact ⟨by first | rfl | (simp [errW_none,errW_some]<;>rfl) | (simp [*,errW_none,errW_some]<;>rfl),bBX24⟩
     ·replace c14:=Bool.eq_false_iff.mpr c14
      subst c14
      have H1:(if (rdOf ByteArray.empty qA 0).toList=([115,101,116]:List UInt8) then (parse_one.j1 kj7 qA (rdOf ByteArray.empty qA 0) ((rdOf ByteArray.empty qA 0).toList==([115,101,116]:List UInt8))) else (if (rdOf ByteArray.empty qA 0).toList=([97,100,100]:List UInt8) then (parse_one.j1 kj7 qA (rdOf ByteArray.empty qA 0) ((rdOf ByteArray.empty qA 0).toList==([97,100,100]:List UInt8))) else (if (rdOf ByteArray.empty qA 0).toList=([114,101,112,108,97,99,101]:List UInt8) then (parse_one.j1 kj7 qA (rdOf ByteArray.empty qA 0) ((rdOf ByteArray.empty qA 0).toList==([114,101,112,108,97,99,101]:List UInt8))) else (if (rdOf ByteArray.empty qA 0).toList=([97,112,112,101,110,100]:List UInt8) then (parse_one.j1 kj7 qA (rdOf ByteArray.empty qA 0) ((rdOf ByteArray.empty qA 0).toList==([97,112,112,101,110,100]:List UInt8))) else (if (rdOf ByteArray.empty qA 0).toList=([112,114,101,112,101,110,100]:List UInt8) then (parse_one.j1 kj7 qA (rdOf ByteArray.empty qA 0) ((rdOf ByteArray.empty qA 0).toList==([112,114,101,112,101,110,100]:List UInt8))) else (parse_one.j1 kj7 qA (rdOf ByteArray.empty qA 0) ((rdOf ByteArray.empty qA 0).toList==([99,97,115]:List UInt8))))))))=some (r1,r2):=by rw [if_neg (show ¬ (false=true) by decide)] at H;exact H
      clear H
      have H:=H1
      clear H1
      have HC17:=Aside0.mk H
      clear H
      go_upto_if 29 with (fail)
      go_cut [29] (fun v29 wc=>∃ (kq:Nat) (x29_16:Bool),v29=.bool x29_16∧Aside0 (parse_one.j1 kq qA (rdOf ByteArray.empty qA 0) x29_16=some (r1,r2))∧Aside0 (kq≤kj7)∧Aside0 (Kd.R Kd.string 9 wc w.heap.size (fun _=>True) (.slice (some qC) qA.length qD) qA)∧Aside0 (Below w.heap.size w wc))
      case first=>
       have H:=HC17.out
       clear HC17
       by_cases c18:(rdOf ByteArray.empty qA 0).toList=([115,101,116]:List UInt8)
       ·rw [if_pos c18] at H
        have c18b0:((rdOf ByteArray.empty qA 0).toList==([115,101,116]:List UInt8))=true:=beq_iff_eq.mpr c18
        have c18b1:((rdOf ByteArray.empty qA 0).toList != ([115,101,116]:List UInt8))=false:=bne_eq_false_iff_eq.mpr c18
        clear c18
        (first | rw [c18b0] | (simp only [i64_w,i32_w];rw [c18b0]) | skip)
        have H':=Aside0.mk H
        clear H
        go_wp2
        go_meet
        case rel=>exact ⟨_,(((rdOf ByteArray.empty qA 0).toList==([115,101,116]:List UInt8))),(by first | rfl | (simp;done) | (simp [*];done)),H',⟨by have:=HJ7.out;first | omega | exact Nat.le_refl _⟩,⟨by (with_reducible repeat (first | apply Kd.R_alloc | apply Kd.R_drewN | apply Kd.R_drew));exact HO_4.out⟩,⟨bBX24⟩⟩
       ·rw [if_neg c18] at H
        have c18b0:((rdOf ByteArray.empty qA 0).toList==([115,101,116]:List UInt8))=false:=beq_eq_false_iff_ne.mpr c18
        have c18b1:((rdOf ByteArray.empty qA 0).toList != ([115,101,116]:List UInt8))=true:=bne_iff_ne.mpr c18
        (first | rw [c18b0] | (simp only [i64_w,i32_w];rw [c18b0]) | skip)
        by_cases c19:(rdOf ByteArray.empty qA 0).toList=([97,100,100]:List UInt8)
        ·rw [if_pos c19] at H
         have c19b0:((rdOf ByteArray.empty qA 0).toList==([97,100,100]:List UInt8))=true:=beq_iff_eq.mpr c19
         have c19b1:((rdOf ByteArray.empty qA 0).toList != ([97,100,100]:List UInt8))=false:=bne_eq_false_iff_eq.mpr c19
         clear c19
         have H':=Aside0.mk H
         clear H
         go_wp2
         go_meet
         case rel=>exact ⟨_,(((rdOf ByteArray.empty qA 0).toList==([97,100,100]:List UInt8))),(by first | rfl | (simp;done) | (simp [*];done)),H',⟨by have:=HJ7.out;first | omega | exact Nat.le_refl _⟩,⟨by (with_reducible repeat (first | apply Kd.R_alloc | apply Kd.R_drewN | apply Kd.R_drew));exact HO_4.out⟩,⟨bBX24⟩⟩
        ·rw [if_neg c19] at H
         have c19b0:((rdOf ByteArray.empty qA 0).toList==([97,100,100]:List UInt8))=false:=beq_eq_false_iff_ne.mpr c19
         have c19b1:((rdOf ByteArray.empty qA 0).toList != ([97,100,100]:List UInt8))=true:=bne_iff_ne.mpr c19
         by_cases c20:(rdOf ByteArray.empty qA 0).toList=([114,101,112,108,97,99,101]:List UInt8)
         ·rw [if_pos c20] at H
          have c20b0:((rdOf ByteArray.empty qA 0).toList==([114,101,112,108,97,99,101]:List UInt8))=true:=beq_iff_eq.mpr c20
          have c20b1:((rdOf ByteArray.empty qA 0).toList != ([114,101,112,108,97,99,101]:List UInt8))=false:=bne_eq_false_iff_eq.mpr c20
          clear c20
          have H':=Aside0.mk H
          clear H
          go_wp2
          go_meet
          case rel=>exact ⟨_,(((rdOf ByteArray.empty qA 0).toList==([114,101,112,108,97,99,101]:List UInt8))),(by first | rfl | (simp;done) | (simp [*];done)),H',⟨by have:=HJ7.out;first | omega | exact Nat.le_refl _⟩,⟨by (with_reducible repeat (first | apply Kd.R_alloc | apply Kd.R_drewN | apply Kd.R_drew));exact HO_4.out⟩,⟨bBX24⟩⟩
         ·rw [if_neg c20] at H
          have c20b0:((rdOf ByteArray.empty qA 0).toList==([114,101,112,108,97,99,101]:List UInt8))=false:=beq_eq_false_iff_ne.mpr c20
          have c20b1:((rdOf ByteArray.empty qA 0).toList != ([114,101,112,108,97,99,101]:List UInt8))=true:=bne_iff_ne.mpr c20
          by_cases c21:(rdOf ByteArray.empty qA 0).toList=([97,112,112,101,110,100]:List UInt8)
          ·rw [if_pos c21] at H
           have c21b0:((rdOf ByteArray.empty qA 0).toList==([97,112,112,101,110,100]:List UInt8))=true:=beq_iff_eq.mpr c21
           have c21b1:((rdOf ByteArray.empty qA 0).toList != ([97,112,112,101,110,100]:List UInt8))=false:=bne_eq_false_iff_eq.mpr c21
           clear c21
           have H':=Aside0.mk H
           clear H
           go_wp2
           go_meet
           case rel=>exact ⟨_,(((rdOf ByteArray.empty qA 0).toList==([97,112,112,101,110,100]:List UInt8))),(by first | rfl | (simp;done) | (simp [*];done)),H',⟨by have:=HJ7.out;first | omega | exact Nat.le_refl _⟩,⟨by (with_reducible repeat (first | apply Kd.R_alloc | apply Kd.R_drewN | apply Kd.R_drew));exact HO_4.out⟩,⟨bBX24⟩⟩
          ·rw [if_neg c21] at H
           have c21b0:((rdOf ByteArray.empty qA 0).toList==([97,112,112,101,110,100]:List UInt8))=false:=beq_eq_false_iff_ne.mpr c21
           have c21b1:((rdOf ByteArray.empty qA 0).toList != ([97,112,112,101,110,100]:List UInt8))=true:=bne_iff_ne.mpr c21
           by_cases c22:(rdOf ByteArray.empty qA 0).toList=([112,114,101,112,101,110,100]:List UInt8)
           ·rw [if_pos c22] at H
            have c22b0:((rdOf ByteArray.empty qA 0).toList==([112,114,101,112,101,110,100]:List UInt8))=true:=beq_iff_eq.mpr c22
            have c22b1:((rdOf ByteArray.empty qA 0).toList != ([112,114,101,112,101,110,100]:List UInt8))=false:=bne_eq_false_iff_eq.mpr c22
            clear c22
            have H':=Aside0.mk H
            clear H
            go_wp2
            go_meet
            case rel=>exact ⟨_,(((rdOf ByteArray.empty qA 0).toList==([112,114,101,112,101,110,100]:List UInt8))),(by first | rfl | (simp;done) | (simp [*];done)),H',⟨by have:=HJ7.out;first | omega | exact Nat.le_refl _⟩,⟨by (with_reducible repeat (first | apply Kd.R_alloc | apply Kd.R_drewN | apply Kd.R_drew));exact HO_4.out⟩,⟨bBX24⟩⟩
           ·rw [if_neg c22] at H
            have c22b0:((rdOf ByteArray.empty qA 0).toList==([112,114,101,112,101,110,100]:List UInt8))=false:=beq_eq_false_iff_ne.mpr c22
            have c22b1:((rdOf ByteArray.empty qA 0).toList != ([112,114,101,112,101,110,100]:List UInt8))=true:=bne_iff_ne.mpr c22
            have H':=Aside0.mk H
            clear H
            go_wp2
            go_meet
            case rel=>exact ⟨_,(((rdOf ByteArray.empty qA 0).toList==([99,97,115]:List UInt8))),(by first | rfl | (simp;done) | (simp [*];done)),H',⟨by have:=HJ7.out;first | omega | exact Nat.le_refl _⟩,⟨by (with_reducible repeat (first | apply Kd.R_alloc | apply Kd.R_drewN | apply Kd.R_drew));exact HO_4.out⟩,⟨bBX24⟩⟩
      case rest=>
       clear HC17
       obtain ⟨kq,x29_16,rfl,HA,HJ16,HO_4,HB⟩:=hcut
       cases kq with
       | zero=>exact absurd HA.out (by simp [parse_one.j1])
       | succ kj16=>
        have H:=HA.out
        clear HA
        simp only [parse_one.j1] at H
        by_cases c23:x29_16=true
        ·subst c23
         have H1:((parse_store.f kj16 qA).bind fun bt192=>(some (bt192.1,bt192.2)))=some (r1,r2):=by rw [if_pos rfl] at H;exact H
         clear H
         have H:=H1
         clear H1
         replace H:=Option.bind_eq_some_iff.mp H
         obtain ⟨⟨qW,qX⟩,A240,H⟩:=H
         replace H:(some (qW,qX))=some (r1,r2):=H
         have A24:=Aside0.mk A240
         clear A240
         simp only [Option.some.injEq,Prod.mk.injEq] at H
         obtain ⟨rfl,rfl⟩:=H
         go_wp2_with (first | ((with_reducible refine gate_callee (f:=49) rfl ?_);refine goesL_ (some 37) rfl rfl Tryz.func49 (by kernel_rfl) rfl #[.slice (some qC) qA.length qD] rfl (by (try simp only [List.map_toArray,List.map_cons,List.map_nil]);first | done | rfl | (simp only [List.length_drop,List.length_take];rfl)) ?_;(with_reducible refine (parse_store.calls kj16 _ _ qA qW qX _ ?side3 ?side1 ?side2 A24.out).mono ?_);(case side1=>repeat (first | exact (Kd.R_reads' HO_4.out).2.2 | (with_reducible refine Kd.C_alloc ?_ _) | (with_reducible refine Kd.C_drewN ?_ _) | (with_reducible refine Kd.C_drew ?_)));(case side2=>exact (Kd.R_reads' HO_4.out).2.1);(case side3=>exact HLD.below bBX24);rintro e w25 ⟨rfl,hb⟩;refine ⟨_,rfl,?_⟩;have n0_:=Aside0.mk (Kd.R_below (by (with_reducible repeat (first | apply Kd.R_alloc | apply Kd.R_drewN | apply Kd.R_drew));exact HO_4.out) hb);have n1_:=Aside0.mk (below_step bBX24 hb);clear HO_4;clear HB;have HO_4:=n0_;have HB:=n1_;clear n0_ n1_;(try clear hb);(try clear hb2);(try clear hk);(try clear hi)))
         go_ret2
         exact ⟨by first | rfl | (simp [errW_none,errW_some]<;>rfl) | (simp [*,errW_none,errW_some]<;>rfl),bBX24⟩
        ·replace c23:=Bool.eq_false_iff.mpr c23
         subst c23
         have H1:(if (rdOf ByteArray.empty qA 0).toList=([105,110,99,114]:List UInt8) then (parse_one.j2 kj16 qA (rdOf ByteArray.empty qA 0) ((rdOf ByteArray.empty qA 0).toList==([105,110,99,114]:List UInt8))) else (if (rdOf ByteArray.empty qA 0).toList=([100,101,99,114]:List UInt8) then (parse_one.j2 kj16 qA (rdOf ByteArray.empty qA 0) ((rdOf ByteArray.empty qA 0).toList==([100,101,99,114]:List UInt8))) else (parse_one.j2 kj16 qA (rdOf ByteArray.empty qA 0) ((rdOf ByteArray.empty qA 0).toList==([116,111,117,99,104]:List UInt8)))))=some (r1,r2):=by rw [if_neg (show ¬ (false=true) by decide)] at H;exact H
         clear H
         have H:=H1
         clear H1
         have HC26:=Aside0.mk H
         clear H
         go_upto_if 40 with (fail)
         go_cut [40] (fun v40 wc=>∃ (kq:Nat) (x40_25:Bool),v40=.bool x40_25∧Aside0 (parse_one.j2 kq qA (rdOf ByteArray.empty qA 0) x40_25=some (r1,r2))∧Aside0 (kq≤kj16)∧Aside0 (Kd.R Kd.string 9 wc w.heap.size (fun _=>True) (.slice (some qC) qA.length qD) qA)∧Aside0 (Below w.heap.size w wc))
         case first=>
          have H:=HC26.out
          clear HC26
          by_cases c27:(rdOf ByteArray.empty qA 0).toList=([105,110,99,114]:List UInt8)
          ·rw [if_pos c27] at H
           have c27b0:((rdOf ByteArray.empty qA 0).toList==([105,110,99,114]:List UInt8))=true:=beq_iff_eq.mpr c27
           have c27b1:((rdOf ByteArray.empty qA 0).toList != ([105,110,99,114]:List UInt8))=false:=bne_eq_false_iff_eq.mpr c27
           clear c27
           (first | rw [c27b0] | (simp only [i64_w,i32_w];rw [c27b0]) | skip)
           have H':=Aside0.mk H
           clear H
           go_wp2
           go_meet
           case rel=>exact ⟨_,(((rdOf ByteArray.empty qA 0).toList==([105,110,99,114]:List UInt8))),(by first | rfl | (simp;done) | (simp [*];done)),H',⟨by have:=HJ7.out;have:=HJ16.out;first | omega | exact Nat.le_refl _⟩,⟨by (with_reducible repeat (first | apply Kd.R_alloc | apply Kd.R_drewN | apply Kd.R_drew));exact HO_4.out⟩,⟨bBX24⟩⟩
          ·rw [if_neg c27] at H
           have c27b0:((rdOf ByteArray.empty qA 0).toList==([105,110,99,114]:List UInt8))=false:=beq_eq_false_iff_ne.mpr c27
           have c27b1:((rdOf ByteArray.empty qA 0).toList != ([105,110,99,114]:List UInt8))=true:=bne_iff_ne.mpr c27
           (first | rw [c27b0] | (simp only [i64_w,i32_w];rw [c27b0]) | skip)
           by_cases c28:(rdOf ByteArray.empty qA 0).toList=([100,101,99,114]:List UInt8)
           ·rw [if_pos c28] at H
            have c28b0:((rdOf ByteArray.empty qA 0).toList==([100,101,99,114]:List UInt8))=true:=beq_iff_eq.mpr c28
            have c28b1:((rdOf ByteArray.empty qA 0).toList != ([100,101,99,114]:List UInt8))=false:=bne_eq_false_iff_eq.mpr c28
            clear c28
            have H':=Aside0.mk H
            clear H
            go_wp2
            go_meet
            case rel=>exact ⟨_,(((rdOf ByteArray.empty qA 0).toList==([100,101,99,114]:List UInt8))),(by first | rfl | (simp;done) | (simp [*];done)),H',⟨by have:=HJ7.out;have:=HJ16.out;first | omega | exact Nat.le_refl _⟩,⟨by (with_reducible repeat (first | apply Kd.R_alloc | apply Kd.R_drewN | apply Kd.R_drew));exact HO_4.out⟩,⟨bBX24⟩⟩
           ·rw [if_neg c28] at H
            have c28b0:((rdOf ByteArray.empty qA 0).toList==([100,101,99,114]:List UInt8))=false:=beq_eq_false_iff_ne.mpr c28
            have c28b1:((rdOf ByteArray.empty qA 0).toList != ([100,101,99,114]:List UInt8))=true:=bne_iff_ne.mpr c28
            have H':=Aside0.mk H
            clear H
            go_wp2
            go_meet
            case rel=>exact ⟨_,(((rdOf ByteArray.empty qA 0).toList==([116,111,117,99,104]:List UInt8))),(by first | rfl | (simp;done) | (simp [*];done)),H',⟨by have:=HJ7.out;have:=HJ16.out;first | omega | exact Nat.le_refl _⟩,⟨by (with_reducible repeat (first | apply Kd.R_alloc | apply Kd.R_drewN | apply Kd.R_drew));exact HO_4.out⟩,⟨bBX24⟩⟩
         case rest=>
          clear HC26
          obtain ⟨kq,x40_25,rfl,HA,HJ25,HO_4,HB⟩:=hcut
          cases kq with
          | zero=>exact absurd HA.out (by simp [parse_one.j2])
          | succ kj25=>
           have H:=HA.out
           clear HA
           simp only [parse_one.j2] at H
           by_cases c29:x40_25=true
           ·subst c29
            have H1:((parse_keyed.f kj25 qA).bind fun bt194=>(some (bt194.1,bt194.2)))=some (r1,r2):=by rw [if_pos rfl] at H;exact H
            clear H
            have H:=H1
            clear H1
            replace H:=Option.bind_eq_some_iff.mp H
            obtain ⟨⟨qY,qZ⟩,A300,H⟩:=H
            replace H:(some (qY,qZ))=some (r1,r2):=H
            have A30:=Aside0.mk A300
            clear A300
            simp only [Option.some.injEq,Prod.mk.injEq] at H
            obtain ⟨rfl,rfl⟩:=H
            go_wp2_with (first | ((with_reducible refine gate_callee (f:=50) rfl ?_);refine goesL_ (some 45) rfl rfl Tryz.func50 (by kernel_rfl) rfl #[.slice (some qC) qA.length qD] rfl (by (try simp only [List.map_toArray,List.map_cons,List.map_nil]);first | done | rfl | (simp only [List.length_drop,List.length_take];rfl)) ?_;(with_reducible refine (parse_keyed.calls kj25 _ _ qA qY qZ _ ?side3 ?side1 ?side2 A30.out).mono ?_);(case side1=>repeat (first | exact (Kd.R_reads' HO_4.out).2.2 | (with_reducible refine Kd.C_alloc ?_ _) | (with_reducible refine Kd.C_drewN ?_ _) | (with_reducible refine Kd.C_drew ?_)));(case side2=>exact (Kd.R_reads' HO_4.out).2.1);(case side3=>exact HLD.below bBX24);rintro e w31 ⟨rfl,hb⟩;refine ⟨_,rfl,?_⟩;have n0_:=Aside0.mk (Kd.R_below (by (with_reducible repeat (first | apply Kd.R_alloc | apply Kd.R_drewN | apply Kd.R_drew));exact HO_4.out) hb);have n1_:=Aside0.mk (below_step bBX24 hb);clear HO_4;clear HB;have HO_4:=n0_;have HB:=n1_;clear n0_ n1_;(try clear hb);(try clear hb2);(try clear hk);(try clear hi)))
            go_ret2
            exact ⟨by first | rfl | (simp [errW_none,errW_some]<;>rfl) | (simp [*,errW_none,errW_some]<;>rfl),bBX24⟩
           ·replace c29:=Bool.eq_false_iff.mpr c29
            subst c29
            have H1:(if (rdOf ByteArray.empty qA 0).toList=([100,101,108,101,116,101]:List UInt8) then ((parse_ends.f kj25 qA 2 (([(⟨#[110,111,114,101,112,108,121]⟩:ByteArray),(⟨#[48]⟩:ByteArray)]:List ByteArray))).bind fun bt199=>(if bt199.2=true then (if 1 < (qA.length:Int) then ((words_Key.f (rdOf ByteArray.empty qA 1)).bind fun qH=>(if qH=true then (some ((Cm.delete (rdOf ByteArray.empty qA 1) bt199.1),(-1))) else ((parse_bad.f (⟨#[67,76,73,69,78,84,95,69,82,82,79,82,32,98,97,100,32,99,111,109,109,97,110,100,32,108,105,110,101,32,102,111,114,109,97,116]⟩:ByteArray)).bind fun bt204=>(some (bt204.1,bt204.2))))) else (none)) else ((parse_bad.f (⟨#[69,82,82,79,82]⟩:ByteArray)).bind fun bt206=>(some (bt206.1,bt206.2))))) else (if (rdOf ByteArray.empty qA 0).toList=([102,108,117,115,104,95,97,108,108]:List UInt8) then ((parse_ends.f kj25 qA 1 (([(⟨#[110,111,114,101,112,108,121]⟩:ByteArray),(⟨#[48]⟩:ByteArray)]:List ByteArray))).bind fun bt211=>(if bt211.2=true then (some ((Cm.flush bt211.1),(-1))) else ((parse_bad.f (⟨#[69,82,82,79,82]⟩:ByteArray)).bind fun bt213=>(some (bt213.1,bt213.2))))) else (if (rdOf ByteArray.empty qA 0).toList=([118,101,114,115,105,111,110]:List UInt8) then (parse_one.j3 kj25 qA ((rdOf ByteArray.empty qA 0).toList==([118,101,114,115,105,111,110]:List UInt8))) else (parse_one.j3 kj25 qA ((rdOf ByteArray.empty qA 0).toList==([113,117,105,116]:List UInt8))))))=some (r1,r2):=by rw [if_neg (show ¬ (false=true) by decide)] at H;exact H
            clear H
            have H:=H1
            clear H1
            by_cases c32:(rdOf ByteArray.empty qA 0).toList=([100,101,108,101,116,101]:List UInt8)
            ·rw [if_pos c32] at H
             have c32b0:((rdOf ByteArray.empty qA 0).toList==([100,101,108,101,116,101]:List UInt8))=true:=beq_iff_eq.mpr c32
             have c32b1:((rdOf ByteArray.empty qA 0).toList != ([100,101,108,101,116,101]:List UInt8))=false:=bne_eq_false_iff_eq.mpr c32
             clear c32
             obtain ⟨y196,hy196⟩:∃ y_:List ByteArray,y_=(([(⟨#[110,111,114,101,112,108,121]⟩:ByteArray),(⟨#[48]⟩:ByteArray)]:List ByteArray)):=⟨_,rfl⟩
             replace H:((parse_ends.f kj25 qA 2 y196).bind fun bt199=>(if bt199.2=true then (if 1 < (qA.length:Int) then ((words_Key.f (rdOf ByteArray.empty qA 1)).bind fun qH=>(if qH=true then (some ((Cm.delete (rdOf ByteArray.empty qA 1) bt199.1),(-1))) else ((parse_bad.f (⟨#[67,76,73,69,78,84,95,69,82,82,79,82,32,98,97,100,32,99,111,109,109,97,110,100,32,108,105,110,101,32,102,111,114,109,97,116]⟩:ByteArray)).bind fun bt204=>(some (bt204.1,bt204.2))))) else (none)) else ((parse_bad.f (⟨#[69,82,82,79,82]⟩:ByteArray)).bind fun bt206=>(some (bt206.1,bt206.2)))))=some (r1,r2):=by first | (rw [hy196];with_reducible exact H) | (have H2_:=(Option.bind_some _ _).symm.trans H;rw [hy196];with_reducible exact H2_) | (have H2_:=(Option.bind_some _ _).symm.trans H;with_reducible exact H2_) | with_reducible exact H | (rw [hy196];exact H) | exact H
             have qJ:=Aside0.mk hy196
             clear hy196
             replace H:=Option.bind_eq_some_iff.mp H
             obtain ⟨⟨qK,qa⟩,A330,H⟩:=H
             replace H:(if qa=true then (if 1 < (qA.length:Int) then ((words_Key.f (rdOf ByteArray.empty qA 1)).bind fun qH=>(if qH=true then (some ((Cm.delete (rdOf ByteArray.empty qA 1) qK),(-1))) else ((parse_bad.f (⟨#[67,76,73,69,78,84,95,69,82,82,79,82,32,98,97,100,32,99,111,109,109,97,110,100,32,108,105,110,101,32,102,111,114,109,97,116]⟩:ByteArray)).bind fun bt204=>(some (bt204.1,bt204.2))))) else (none)) else ((parse_bad.f (⟨#[69,82,82,79,82]⟩:ByteArray)).bind fun bt206=>(some (bt206.1,bt206.2))))=some (r1,r2):=H
             have A33:=Aside0.mk A330
             clear A330
             by_cases c34:qa=true
             ·subst c34
              have H1:(if 1 < (qA.length:Int) then ((words_Key.f (rdOf ByteArray.empty qA 1)).bind fun qH=>(if qH=true then (some ((Cm.delete (rdOf ByteArray.empty qA 1) qK),(-1))) else ((parse_bad.f (⟨#[67,76,73,69,78,84,95,69,82,82,79,82,32,98,97,100,32,99,111,109,109,97,110,100,32,108,105,110,101,32,102,111,114,109,97,116]⟩:ByteArray)).bind fun bt204=>(some (bt204.1,bt204.2))))) else (none))=some (r1,r2):=by rw [if_pos rfl] at H;exact H
              clear H
              have H:=H1
              clear H1
              by_cases c35:1 < (qA.length:Int)
              ·rw [if_pos c35] at H
               have c35b0:decide (1 < (qA.length:Int))=true:=decide_eq_true c35
               have c35b1:decide (1 < qA.length)=true:=decide_eq_true (by omega)
               clear c35
               replace H:=Option.bind_eq_some_iff.mp H
               obtain ⟨qH,A360,H⟩:=H
               replace H:(if qH=true then (some ((Cm.delete (rdOf ByteArray.empty qA 1) qK),(-1))) else ((parse_bad.f (⟨#[67,76,73,69,78,84,95,69,82,82,79,82,32,98,97,100,32,99,111,109,109,97,110,100,32,108,105,110,101,32,102,111,114,109,97,116]⟩:ByteArray)).bind fun bt204=>(some (bt204.1,bt204.2))))=some (r1,r2):=H
               have A36:=Aside0.mk A360
               clear A360
               by_cases c37:qH=true
               ·subst c37
                have H1:(some ((Cm.delete (rdOf ByteArray.empty qA 1) qK),(-1)))=some (r1,r2):=by rw [if_pos rfl] at H;exact H
                clear H
                have H:=H1
                clear H1
                simp only [Option.some.injEq,Prod.mk.injEq] at H
                obtain ⟨rfl,rfl⟩:=H
                go_wp2_with (first | ((with_reducible refine gate_dst (N:=52) rfl ?_);refine Kd.R_lit Kd.string _ 9 ?hg (N:=52) ?hd (xs:=([(⟨#[110,111,114,101,112,108,121]⟩:ByteArray),(⟨#[48]⟩:ByteArray)]:List ByteArray)) (inner:=[.string (⟨#[110,111,114,101,112,108,121]⟩:ByteArray),.string (⟨#[48]⟩:ByteArray)]) (ok:=fun _=>True) (okp:=fun _=>True) ?hr ?hp (fun _ hk=>hk) trivial (Below.refl _ _) (Nat.le_refl _) (by simp) ?_;(case hd=>rfl);(case hg=>rfl);(case hr=>first | (go_simp;done) | (go_simp;rfl));(case hp=>exact (Reps.one (show Kd.M Kd.string _ _ _ (⟨#[110,111,114,101,112,108,121]⟩:ByteArray) [.string (⟨#[110,111,114,101,112,108,121]⟩:ByteArray)] from rfl) (Reps.one (show Kd.M Kd.string _ _ _ (⟨#[48]⟩:ByteArray) [.string (⟨#[48]⟩:ByteArray)] from rfl) (Reps.none _ _))));intro v197 w38 ho39 hb hg_ hnew_;clear hg_ hnew_;(first | rw [← qJ.out] at ho39 | (simp only [Int.reduceToNat] at ho39;rw [← qJ.out] at ho39));have n0_:=Aside0.mk (Kd.R_elder' (by (with_reducible repeat (first | apply Kd.R_alloc | apply Kd.R_drewN | apply Kd.R_drew));exact HO_4.out) (Kd.R_base ho39) hb);have n1_:=Aside0.mk (Kd.R_lower (Kd.R_new' ho39 (Kd.R_lt (by (with_reducible repeat (first | apply Kd.R_alloc | apply Kd.R_drewN | apply Kd.R_drew));exact HO_4.out))) (below_size bBX24));have n2_:=Aside0.mk (below_step bBX24 hb);clear HO_4;clear HB;have HO_4:=n0_;have qB:=n1_;have HB:=n2_;clear n0_ n1_ n2_;clear hb ho39;obtain ⟨qp,qq,qr⟩:=Kd.R_slice qB.out;subst qr) | ((with_reducible refine gate_callee (f:=51) rfl ?_);refine goesL_ (some 53) rfl rfl Tryz.func51 (by kernel_rfl) rfl #[.slice (some qC) qA.length qD,.int .i64 2,.slice qp y196.length qq] rfl (by (try simp only [List.map_toArray,List.map_cons,List.map_nil]);first | done | rfl | (simp only [List.length_drop,List.length_take];rfl)) ?_;(with_reducible refine (parse_ends.calls kj25 _ _ qA 2 _ _ y196 qK true _ ?side1 ?side2 ?side3 ?side4 A33.out).mono ?_);(case side1=>repeat (first | exact (Kd.R_reads' HO_4.out).2.2 | (with_reducible refine Kd.C_alloc ?_ _) | (with_reducible refine Kd.C_drewN ?_ _) | (with_reducible refine Kd.C_drew ?_)));(case side2=>exact (Kd.R_reads' HO_4.out).2.1);(case side3=>repeat (first | exact (Kd.R_reads' qB.out).2.2 | (with_reducible refine Kd.C_alloc ?_ _) | (with_reducible refine Kd.C_drewN ?_ _) | (with_reducible refine Kd.C_drew ?_)));(case side4=>exact (Kd.R_reads' qB.out).2.1);rintro e w' ⟨rfl,⟨nd,rfl⟩⟩;refine ⟨_,rfl,?_⟩;have p201:0≤(1:Int):=(by omega);have q201:1 < (qA.length:Int):=of_decide_eq_true (by first | (with_reducible assumption) | assumption);obtain ⟨qO,e201,qF⟩:=Kd.at_string (Kd.R_reads' HO_4.out).2.2 1 p201 q201;obtain rfl:qC=qO:=(by injection e201);(try simp only [show (1:Int).toNat=1 from rfl,Nat.reduceMul,Nat.reduceEqDiff,Go.Addr.add,↓reduceIte] at qF);have qi201:(1 < qA.length)=True:=eq_true (by omega);(try rw [show ((1:Int)).toNat=1 from rfl] at qF);replace p201:=eq_true p201;replace q201:=eq_true q201) | ((with_reducible refine gate_callee (f:=52) rfl ?_);refine goesL_ (some 60) rfl rfl Tryz.func52 (by kernel_rfl) rfl #[.string (rdOf ByteArray.empty qA 1)] rfl (by (try simp only [List.map_toArray,List.map_cons,List.map_nil]);first | done | rfl | (simp only [List.length_drop,List.length_take];rfl)) ?_;(with_reducible refine (words_Key.calls (rdOf ByteArray.empty qA 1) true _ ?side1 A36.out).mono ?_);(case side1=>exact HLD.below bBX24);rintro e w41 ⟨rfl,hb⟩;refine ⟨_,rfl,?_⟩;have n0_:=Aside0.mk (Kd.R_below (by (with_reducible repeat (first | apply Kd.R_alloc | apply Kd.R_drewN | apply Kd.R_drew));exact HO_4.out) hb);have n1_:=Aside0.mk (Kd.R_below (by (with_reducible repeat (first | apply Kd.R_alloc | apply Kd.R_drewN | apply Kd.R_drew));exact qB.out) hb);have n2_:=Aside0.mk (below_step bBX24 hb);clear HO_4;clear qB;clear HB;have HO_4:=n0_;have qB:=n1_;have HB:=n2_;clear n0_ n1_ n2_;(try clear hb);(try clear hb2);(try clear hk);(try clear hi);have p203:0≤(1:Int):=(by omega);have q203:1 < (qA.length:Int):=of_decide_eq_true (by first | (with_reducible assumption) | assumption);obtain ⟨qm,e203,qL⟩:=Kd.at_string (Kd.R_reads' HO_4.out).2.2 1 p203 q203;obtain rfl:qC=qm:=(by injection e203);(try simp only [show (1:Int).toNat=1 from rfl,Nat.reduceMul,Nat.reduceEqDiff,Go.Addr.add,↓reduceIte] at qL);have qi203:(1 < qA.length)=True:=eq_true (by omega);(try rw [show ((1:Int)).toNat=1 from rfl] at qL);replace p203:=eq_true p203;replace q203:=eq_true q203))
                go_ret2
                exact ⟨by first | rfl | (simp [errW_none,errW_some]<;>rfl) | (simp [*,errW_none,errW_some]<;>rfl),bBX24⟩
               ·replace c37:=Bool.eq_false_iff.mpr c37
                subst c37
                have H1:((parse_bad.f (⟨#[67,76,73,69,78,84,95,69,82,82,79,82,32,98,97,100,32,99,111,109,109,97,110,100,32,108,105,110,101,32,102,111,114,109,97,116]⟩:ByteArray)).bind fun bt204=>(some (bt204.1,bt204.2)))=some (r1,r2):=by rw [if_neg (show ¬ (false=true) by decide)] at H;exact H
                clear H
                have H:=H1
                clear H1
                replace H:=Option.bind_eq_some_iff.mp H
                obtain ⟨⟨qb,qc⟩,A420,H⟩:=H
                replace H:(some (qb,qc))=some (r1,r2):=H
                have A42:=Aside0.mk A420
                clear A420
                simp only [Option.some.injEq,Prod.mk.injEq] at H
                obtain ⟨rfl,rfl⟩:=H
                go_wp2_with (first | ((with_reducible refine gate_dst (N:=52) rfl ?_);refine Kd.R_lit Kd.string _ 9 ?hg (N:=52) ?hd (xs:=([(⟨#[110,111,114,101,112,108,121]⟩:ByteArray),(⟨#[48]⟩:ByteArray)]:List ByteArray)) (inner:=[.string (⟨#[110,111,114,101,112,108,121]⟩:ByteArray),.string (⟨#[48]⟩:ByteArray)]) (ok:=fun _=>True) (okp:=fun _=>True) ?hr ?hp (fun _ hk=>hk) trivial (Below.refl _ _) (Nat.le_refl _) (by simp) ?_;(case hd=>rfl);(case hg=>rfl);(case hr=>first | (go_simp;done) | (go_simp;rfl));(case hp=>exact (Reps.one (show Kd.M Kd.string _ _ _ (⟨#[110,111,114,101,112,108,121]⟩:ByteArray) [.string (⟨#[110,111,114,101,112,108,121]⟩:ByteArray)] from rfl) (Reps.one (show Kd.M Kd.string _ _ _ (⟨#[48]⟩:ByteArray) [.string (⟨#[48]⟩:ByteArray)] from rfl) (Reps.none _ _))));intro v197 w43 ho44 hb hg_ hnew_;clear hg_ hnew_;(first | rw [← qJ.out] at ho44 | (simp only [Int.reduceToNat] at ho44;rw [← qJ.out] at ho44));have n0_:=Aside0.mk (Kd.R_elder' (by (with_reducible repeat (first | apply Kd.R_alloc | apply Kd.R_drewN | apply Kd.R_drew));exact HO_4.out) (Kd.R_base ho44) hb);have n1_:=Aside0.mk (Kd.R_lower (Kd.R_new' ho44 (Kd.R_lt (by (with_reducible repeat (first | apply Kd.R_alloc | apply Kd.R_drewN | apply Kd.R_drew));exact HO_4.out))) (below_size bBX24));have n2_:=Aside0.mk (below_step bBX24 hb);clear HO_4;clear HB;have HO_4:=n0_;have qB:=n1_;have HB:=n2_;clear n0_ n1_ n2_;clear hb ho44;obtain ⟨qs,qt,qu⟩:=Kd.R_slice qB.out;subst qu) | ((with_reducible refine gate_callee (f:=51) rfl ?_);refine goesL_ (some 53) rfl rfl Tryz.func51 (by kernel_rfl) rfl #[.slice (some qC) qA.length qD,.int .i64 2,.slice qs y196.length qt] rfl (by (try simp only [List.map_toArray,List.map_cons,List.map_nil]);first | done | rfl | (simp only [List.length_drop,List.length_take];rfl)) ?_;(with_reducible refine (parse_ends.calls kj25 _ _ qA 2 _ _ y196 qK true _ ?side1 ?side2 ?side3 ?side4 A33.out).mono ?_);(case side1=>repeat (first | exact (Kd.R_reads' HO_4.out).2.2 | (with_reducible refine Kd.C_alloc ?_ _) | (with_reducible refine Kd.C_drewN ?_ _) | (with_reducible refine Kd.C_drew ?_)));(case side2=>exact (Kd.R_reads' HO_4.out).2.1);(case side3=>repeat (first | exact (Kd.R_reads' qB.out).2.2 | (with_reducible refine Kd.C_alloc ?_ _) | (with_reducible refine Kd.C_drewN ?_ _) | (with_reducible refine Kd.C_drew ?_)));(case side4=>exact (Kd.R_reads' qB.out).2.1);rintro e w' ⟨rfl,⟨nd,rfl⟩⟩;refine ⟨_,rfl,?_⟩;have p201:0≤(1:Int):=(by omega);have q201:1 < (qA.length:Int):=of_decide_eq_true (by first | (with_reducible assumption) | assumption);obtain ⟨qO,e201,qF⟩:=Kd.at_string (Kd.R_reads' HO_4.out).2.2 1 p201 q201;obtain rfl:qC=qO:=(by injection e201);(try simp only [show (1:Int).toNat=1 from rfl,Nat.reduceMul,Nat.reduceEqDiff,Go.Addr.add,↓reduceIte] at qF);have qi201:(1 < qA.length)=True:=eq_true (by omega);(try rw [show ((1:Int)).toNat=1 from rfl] at qF);replace p201:=eq_true p201;replace q201:=eq_true q201) | ((with_reducible refine gate_callee (f:=52) rfl ?_);refine goesL_ (some 60) rfl rfl Tryz.func52 (by kernel_rfl) rfl #[.string (rdOf ByteArray.empty qA 1)] rfl (by (try simp only [List.map_toArray,List.map_cons,List.map_nil]);first | done | rfl | (simp only [List.length_drop,List.length_take];rfl)) ?_;(with_reducible refine (words_Key.calls (rdOf ByteArray.empty qA 1) false _ ?side1 A36.out).mono ?_);(case side1=>exact HLD.below bBX24);rintro e w46 ⟨rfl,hb⟩;refine ⟨_,rfl,?_⟩;have n0_:=Aside0.mk (Kd.R_below (by (with_reducible repeat (first | apply Kd.R_alloc | apply Kd.R_drewN | apply Kd.R_drew));exact HO_4.out) hb);have n1_:=Aside0.mk (Kd.R_below (by (with_reducible repeat (first | apply Kd.R_alloc | apply Kd.R_drewN | apply Kd.R_drew));exact qB.out) hb);have n2_:=Aside0.mk (below_step bBX24 hb);clear HO_4;clear qB;clear HB;have HO_4:=n0_;have qB:=n1_;have HB:=n2_;clear n0_ n1_ n2_;(try clear hb);(try clear hb2);(try clear hk);(try clear hi)) | ((with_reducible refine gate_callee (f:=47) rfl ?_);refine goesL_ (some 62) rfl rfl Tryz.func47 (by kernel_rfl) rfl #[.string (⟨#[67,76,73,69,78,84,95,69,82,82,79,82,32,98,97,100,32,99,111,109,109,97,110,100,32,108,105,110,101,32,102,111,114,109,97,116]⟩:ByteArray)] rfl (by (try simp only [List.map_toArray,List.map_cons,List.map_nil]);first | done | rfl | (simp only [List.length_drop,List.length_take];rfl)) ?_;(with_reducible refine (parse_bad.calls (⟨#[67,76,73,69,78,84,95,69,82,82,79,82,32,98,97,100,32,99,111,109,109,97,110,100,32,108,105,110,101,32,102,111,114,109,97,116]⟩:ByteArray) qb qc _ A42.out).mono ?_);rintro e w' ⟨rfl,⟨nd,rfl⟩⟩;refine ⟨_,rfl,?_⟩))
                go_ret2
                exact ⟨by first | rfl | (simp [errW_none,errW_some]<;>rfl) | (simp [*,errW_none,errW_some]<;>rfl),bBX24⟩
              ·rw [if_neg c35] at H
               exact absurd H (by simp)
             ·replace c34:=Bool.eq_false_iff.mpr c34
              subst c34
              have H1:((parse_bad.f (⟨#[69,82,82,79,82]⟩:ByteArray)).bind fun bt206=>(some (bt206.1,bt206.2)))=some (r1,r2):=by rw [if_neg (show ¬ (false=true) by decide)] at H;exact H
              clear H
              have H:=H1
              clear H1
              replace H:=Option.bind_eq_some_iff.mp H
              obtain ⟨⟨qd,qe⟩,A470,H⟩:=H
              replace H:(some (qd,qe))=some (r1,r2):=H
              have A47:=Aside0.mk A470
              clear A470
              simp only [Option.some.injEq,Prod.mk.injEq] at H
              obtain ⟨rfl,rfl⟩:=H
              go_wp2_with (first | ((with_reducible refine gate_dst (N:=52) rfl ?_);refine Kd.R_lit Kd.string _ 9 ?hg (N:=52) ?hd (xs:=([(⟨#[110,111,114,101,112,108,121]⟩:ByteArray),(⟨#[48]⟩:ByteArray)]:List ByteArray)) (inner:=[.string (⟨#[110,111,114,101,112,108,121]⟩:ByteArray),.string (⟨#[48]⟩:ByteArray)]) (ok:=fun _=>True) (okp:=fun _=>True) ?hr ?hp (fun _ hk=>hk) trivial (Below.refl _ _) (Nat.le_refl _) (by simp) ?_;(case hd=>rfl);(case hg=>rfl);(case hr=>first | (go_simp;done) | (go_simp;rfl));(case hp=>exact (Reps.one (show Kd.M Kd.string _ _ _ (⟨#[110,111,114,101,112,108,121]⟩:ByteArray) [.string (⟨#[110,111,114,101,112,108,121]⟩:ByteArray)] from rfl) (Reps.one (show Kd.M Kd.string _ _ _ (⟨#[48]⟩:ByteArray) [.string (⟨#[48]⟩:ByteArray)] from rfl) (Reps.none _ _))));intro v197 w48 ho49 hb hg_ hnew_;clear hg_ hnew_;(first | rw [← qJ.out] at ho49 | (simp only [Int.reduceToNat] at ho49;rw [← qJ.out] at ho49));have n0_:=Aside0.mk (Kd.R_elder' (by (with_reducible repeat (first | apply Kd.R_alloc | apply Kd.R_drewN | apply Kd.R_drew));exact HO_4.out) (Kd.R_base ho49) hb);have n1_:=Aside0.mk (Kd.R_lower (Kd.R_new' ho49 (Kd.R_lt (by (with_reducible repeat (first | apply Kd.R_alloc | apply Kd.R_drewN | apply Kd.R_drew));exact HO_4.out))) (below_size bBX24));have n2_:=Aside0.mk (below_step bBX24 hb);clear HO_4;clear HB;have HO_4:=n0_;have qB:=n1_;have HB:=n2_;clear n0_ n1_ n2_;clear hb ho49;obtain ⟨qv,qw,qx⟩:=Kd.R_slice qB.out;subst qx) | ((with_reducible refine gate_callee (f:=51) rfl ?_);refine goesL_ (some 53) rfl rfl Tryz.func51 (by kernel_rfl) rfl #[.slice (some qC) qA.length qD,.int .i64 2,.slice qv y196.length qw] rfl (by (try simp only [List.map_toArray,List.map_cons,List.map_nil]);first | done | rfl | (simp only [List.length_drop,List.length_take];rfl)) ?_;(with_reducible refine (parse_ends.calls kj25 _ _ qA 2 _ _ y196 qK false _ ?side1 ?side2 ?side3 ?side4 A33.out).mono ?_);(case side1=>repeat (first | exact (Kd.R_reads' HO_4.out).2.2 | (with_reducible refine Kd.C_alloc ?_ _) | (with_reducible refine Kd.C_drewN ?_ _) | (with_reducible refine Kd.C_drew ?_)));(case side2=>exact (Kd.R_reads' HO_4.out).2.1);(case side3=>repeat (first | exact (Kd.R_reads' qB.out).2.2 | (with_reducible refine Kd.C_alloc ?_ _) | (with_reducible refine Kd.C_drewN ?_ _) | (with_reducible refine Kd.C_drew ?_)));(case side4=>exact (Kd.R_reads' qB.out).2.1);rintro e w' ⟨rfl,⟨nd,rfl⟩⟩;refine ⟨_,rfl,?_⟩) | ((with_reducible refine gate_callee (f:=47) rfl ?_);refine goesL_ (some 94) rfl rfl Tryz.func47 (by kernel_rfl) rfl #[.string (⟨#[69,82,82,79,82]⟩:ByteArray)] rfl (by (try simp only [List.map_toArray,List.map_cons,List.map_nil]);first | done | rfl | (simp only [List.length_drop,List.length_take];rfl)) ?_;(with_reducible refine (parse_bad.calls (⟨#[69,82,82,79,82]⟩:ByteArray) qd qe _ A47.out).mono ?_);rintro e w' ⟨rfl,⟨nd,rfl⟩⟩;refine ⟨_,rfl,?_⟩))
              go_ret2
              exact ⟨by first | rfl | (simp [errW_none,errW_some]<;>rfl) | (simp [*,errW_none,errW_some]<;>rfl),bBX24⟩
            ·rw [if_neg c32] at H
             have c32b0:((rdOf ByteArray.empty qA 0).toList==([100,101,108,101,116,101]:List UInt8))=false:=beq_eq_false_iff_ne.mpr c32
             have c32b1:((rdOf ByteArray.empty qA 0).toList != ([100,101,108,101,116,101]:List UInt8))=true:=bne_iff_ne.mpr c32
             by_cases c51:(rdOf ByteArray.empty qA 0).toList=([102,108,117,115,104,95,97,108,108]:List UInt8)
             ·rw [if_pos c51] at H
              have c51b0:((rdOf ByteArray.empty qA 0).toList==([102,108,117,115,104,95,97,108,108]:List UInt8))=true:=beq_iff_eq.mpr c51
              have c51b1:((rdOf ByteArray.empty qA 0).toList != ([102,108,117,115,104,95,97,108,108]:List UInt8))=false:=bne_eq_false_iff_eq.mpr c51
              clear c51
              obtain ⟨y208,hy208⟩:∃ y_:List ByteArray,y_=(([(⟨#[110,111,114,101,112,108,121]⟩:ByteArray),(⟨#[48]⟩:ByteArray)]:List ByteArray)):=⟨_,rfl⟩
              replace H:((parse_ends.f kj25 qA 1 y208).bind fun bt211=>(if bt211.2=true then (some ((Cm.flush bt211.1),(-1))) else ((parse_bad.f (⟨#[69,82,82,79,82]⟩:ByteArray)).bind fun bt213=>(some (bt213.1,bt213.2)))))=some (r1,r2):=by first | (rw [hy208];with_reducible exact H) | (have H2_:=(Option.bind_some _ _).symm.trans H;rw [hy208];with_reducible exact H2_) | (have H2_:=(Option.bind_some _ _).symm.trans H;with_reducible exact H2_) | with_reducible exact H | (rw [hy208];exact H) | exact H
              have qM:=Aside0.mk hy208
              clear hy208
              replace H:=Option.bind_eq_some_iff.mp H
              obtain ⟨⟨qP,qf⟩,A520,H⟩:=H
              replace H:(if qf=true then (some ((Cm.flush qP),(-1))) else ((parse_bad.f (⟨#[69,82,82,79,82]⟩:ByteArray)).bind fun bt213=>(some (bt213.1,bt213.2))))=some (r1,r2):=H
              have A52:=Aside0.mk A520
              clear A520
              by_cases c53:qf=true
              ·subst c53
               have H1:(some ((Cm.flush qP),(-1)))=some (r1,r2):=by rw [if_pos rfl] at H;exact H
               clear H
               have H:=H1
               clear H1
               simp only [Option.some.injEq,Prod.mk.injEq] at H
               obtain ⟨rfl,rfl⟩:=H
               go_wp2_with (first | ((with_reducible refine gate_dst (N:=75) rfl ?_);refine Kd.R_lit Kd.string _ 9 ?hg (N:=75) ?hd (xs:=([(⟨#[110,111,114,101,112,108,121]⟩:ByteArray),(⟨#[48]⟩:ByteArray)]:List ByteArray)) (inner:=[.string (⟨#[110,111,114,101,112,108,121]⟩:ByteArray),.string (⟨#[48]⟩:ByteArray)]) (ok:=fun _=>True) (okp:=fun _=>True) ?hr ?hp (fun _ hk=>hk) trivial (Below.refl _ _) (Nat.le_refl _) (by simp) ?_;(case hd=>rfl);(case hg=>rfl);(case hr=>first | (go_simp;done) | (go_simp;rfl));(case hp=>exact (Reps.one (show Kd.M Kd.string _ _ _ (⟨#[110,111,114,101,112,108,121]⟩:ByteArray) [.string (⟨#[110,111,114,101,112,108,121]⟩:ByteArray)] from rfl) (Reps.one (show Kd.M Kd.string _ _ _ (⟨#[48]⟩:ByteArray) [.string (⟨#[48]⟩:ByteArray)] from rfl) (Reps.none _ _))));intro v209 w54 ho55 hb hg_ hnew_;clear hg_ hnew_;(first | rw [← qM.out] at ho55 | (simp only [Int.reduceToNat] at ho55;rw [← qM.out] at ho55));have n0_:=Aside0.mk (Kd.R_elder' (by (with_reducible repeat (first | apply Kd.R_alloc | apply Kd.R_drewN | apply Kd.R_drew));exact HO_4.out) (Kd.R_base ho55) hb);have n1_:=Aside0.mk (Kd.R_lower (Kd.R_new' ho55 (Kd.R_lt (by (with_reducible repeat (first | apply Kd.R_alloc | apply Kd.R_drewN | apply Kd.R_drew));exact HO_4.out))) (below_size bBX24));have n2_:=Aside0.mk (below_step bBX24 hb);clear HO_4;clear HB;have HO_4:=n0_;have qI:=n1_;have HB:=n2_;clear n0_ n1_ n2_;clear hb ho55;obtain ⟨qy,qz,qAA⟩:=Kd.R_slice qI.out;subst qAA) | ((with_reducible refine gate_callee (f:=51) rfl ?_);refine goesL_ (some 76) rfl rfl Tryz.func51 (by kernel_rfl) rfl #[.slice (some qC) qA.length qD,.int .i64 1,.slice qy y208.length qz] rfl (by (try simp only [List.map_toArray,List.map_cons,List.map_nil]);first | done | rfl | (simp only [List.length_drop,List.length_take];rfl)) ?_;(with_reducible refine (parse_ends.calls kj25 _ _ qA 1 _ _ y208 qP true _ ?side1 ?side2 ?side3 ?side4 A52.out).mono ?_);(case side1=>repeat (first | exact (Kd.R_reads' HO_4.out).2.2 | (with_reducible refine Kd.C_alloc ?_ _) | (with_reducible refine Kd.C_drewN ?_ _) | (with_reducible refine Kd.C_drew ?_)));(case side2=>exact (Kd.R_reads' HO_4.out).2.1);(case side3=>repeat (first | exact (Kd.R_reads' qI.out).2.2 | (with_reducible refine Kd.C_alloc ?_ _) | (with_reducible refine Kd.C_drewN ?_ _) | (with_reducible refine Kd.C_drew ?_)));(case side4=>exact (Kd.R_reads' qI.out).2.1);rintro e w' ⟨rfl,⟨nd,rfl⟩⟩;refine ⟨_,rfl,?_⟩))
               go_ret2
               exact ⟨by first | rfl | (simp [errW_none,errW_some]<;>rfl) | (simp [*,errW_none,errW_some]<;>rfl),bBX24⟩
              ·replace c53:=Bool.eq_false_iff.mpr c53
               subst c53
               have H1:((parse_bad.f (⟨#[69,82,82,79,82]⟩:ByteArray)).bind fun bt213=>(some (bt213.1,bt213.2)))=some (r1,r2):=by rw [if_neg (show ¬ (false=true) by decide)] at H;exact H
               clear H
               have H:=H1
               clear H1
               replace H:=Option.bind_eq_some_iff.mp H
               obtain ⟨⟨qg,qh⟩,A570,H⟩:=H
               replace H:(some (qg,qh))=some (r1,r2):=H
               have A57:=Aside0.mk A570
               clear A570
               simp only [Option.some.injEq,Prod.mk.injEq] at H
               obtain ⟨rfl,rfl⟩:=H
               go_wp2_with (first | ((with_reducible refine gate_dst (N:=75) rfl ?_);refine Kd.R_lit Kd.string _ 9 ?hg (N:=75) ?hd (xs:=([(⟨#[110,111,114,101,112,108,121]⟩:ByteArray),(⟨#[48]⟩:ByteArray)]:List ByteArray)) (inner:=[.string (⟨#[110,111,114,101,112,108,121]⟩:ByteArray),.string (⟨#[48]⟩:ByteArray)]) (ok:=fun _=>True) (okp:=fun _=>True) ?hr ?hp (fun _ hk=>hk) trivial (Below.refl _ _) (Nat.le_refl _) (by simp) ?_;(case hd=>rfl);(case hg=>rfl);(case hr=>first | (go_simp;done) | (go_simp;rfl));(case hp=>exact (Reps.one (show Kd.M Kd.string _ _ _ (⟨#[110,111,114,101,112,108,121]⟩:ByteArray) [.string (⟨#[110,111,114,101,112,108,121]⟩:ByteArray)] from rfl) (Reps.one (show Kd.M Kd.string _ _ _ (⟨#[48]⟩:ByteArray) [.string (⟨#[48]⟩:ByteArray)] from rfl) (Reps.none _ _))));intro v209 w58 ho59 hb hg_ hnew_;clear hg_ hnew_;(first | rw [← qM.out] at ho59 | (simp only [Int.reduceToNat] at ho59;rw [← qM.out] at ho59));have n0_:=Aside0.mk (Kd.R_elder' (by (with_reducible repeat (first | apply Kd.R_alloc | apply Kd.R_drewN | apply Kd.R_drew));exact HO_4.out) (Kd.R_base ho59) hb);have n1_:=Aside0.mk (Kd.R_lower (Kd.R_new' ho59 (Kd.R_lt (by (with_reducible repeat (first | apply Kd.R_alloc | apply Kd.R_drewN | apply Kd.R_drew));exact HO_4.out))) (below_size bBX24));have n2_:=Aside0.mk (below_step bBX24 hb);clear HO_4;clear HB;have HO_4:=n0_;have qI:=n1_;have HB:=n2_;clear n0_ n1_ n2_;clear hb ho59;obtain ⟨qAB,qAC,qAD⟩:=Kd.R_slice qI.out;subst qAD) | ((with_reducible refine gate_callee (f:=51) rfl ?_);refine goesL_ (some 76) rfl rfl Tryz.func51 (by kernel_rfl) rfl #[.slice (some qC) qA.length qD,.int .i64 1,.slice qAB y208.length qAC] rfl (by (try simp only [List.map_toArray,List.map_cons,List.map_nil]);first | done | rfl | (simp only [List.length_drop,List.length_take];rfl)) ?_;(with_reducible refine (parse_ends.calls kj25 _ _ qA 1 _ _ y208 qP false _ ?side1 ?side2 ?side3 ?side4 A52.out).mono ?_);(case side1=>repeat (first | exact (Kd.R_reads' HO_4.out).2.2 | (with_reducible refine Kd.C_alloc ?_ _) | (with_reducible refine Kd.C_drewN ?_ _) | (with_reducible refine Kd.C_drew ?_)));(case side2=>exact (Kd.R_reads' HO_4.out).2.1);(case side3=>repeat (first | exact (Kd.R_reads' qI.out).2.2 | (with_reducible refine Kd.C_alloc ?_ _) | (with_reducible refine Kd.C_drewN ?_ _) | (with_reducible refine Kd.C_drew ?_)));(case side4=>exact (Kd.R_reads' qI.out).2.1);rintro e w' ⟨rfl,⟨nd,rfl⟩⟩;refine ⟨_,rfl,?_⟩) | ((with_reducible refine gate_callee (f:=47) rfl ?_);refine goesL_ (some 94) rfl rfl Tryz.func47 (by kernel_rfl) rfl #[.string (⟨#[69,82,82,79,82]⟩:ByteArray)] rfl (by (try simp only [List.map_toArray,List.map_cons,List.map_nil]);first | done | rfl | (simp only [List.length_drop,List.length_take];rfl)) ?_;(with_reducible refine (parse_bad.calls (⟨#[69,82,82,79,82]⟩:ByteArray) qg qh _ A57.out).mono ?_);rintro e w' ⟨rfl,⟨nd,rfl⟩⟩;refine ⟨_,rfl,?_⟩))
               go_ret2
               exact ⟨by first | rfl | (simp [errW_none,errW_some]<;>rfl) | (simp [*,errW_none,errW_some]<;>rfl),bBX24⟩
             ·rw [if_neg c51] at H
              have c51b0:((rdOf ByteArray.empty qA 0).toList==([102,108,117,115,104,95,97,108,108]:List UInt8))=false:=beq_eq_false_iff_ne.mpr c51
              have c51b1:((rdOf ByteArray.empty qA 0).toList != ([102,108,117,115,104,95,97,108,108]:List UInt8))=true:=bne_iff_ne.mpr c51
              have HC61:=Aside0.mk H
              clear H
              go_upto_if 83 with (fail)
              go_cut [83] (fun v83 wc=>∃ (kq:Nat) (x83_60:Bool),v83=.bool x83_60∧Aside0 (parse_one.j3 kq qA x83_60=some (r1,r2))∧Aside0 (kq≤kj25)∧Aside0 (Kd.R Kd.string 9 wc w.heap.size (fun _=>True) (.slice (some qC) qA.length qD) qA)∧Aside0 (Below w.heap.size w wc))
              case first=>
               have H:=HC61.out
               clear HC61
               by_cases c62:(rdOf ByteArray.empty qA 0).toList=([118,101,114,115,105,111,110]:List UInt8)
               ·rw [if_pos c62] at H
                have c62b0:((rdOf ByteArray.empty qA 0).toList==([118,101,114,115,105,111,110]:List UInt8))=true:=beq_iff_eq.mpr c62
                have c62b1:((rdOf ByteArray.empty qA 0).toList != ([118,101,114,115,105,111,110]:List UInt8))=false:=bne_eq_false_iff_eq.mpr c62
                clear c62
                (first | rw [c62b0] | (simp only [i64_w,i32_w];rw [c62b0]) | skip)
                have H':=Aside0.mk H
                clear H
                go_wp2
                go_meet
                case rel=>exact ⟨_,(((rdOf ByteArray.empty qA 0).toList==([118,101,114,115,105,111,110]:List UInt8))),(by first | rfl | (simp;done) | (simp [*];done)),H',⟨by have:=HJ7.out;have:=HJ16.out;have:=HJ25.out;first | omega | exact Nat.le_refl _⟩,⟨by (with_reducible repeat (first | apply Kd.R_alloc | apply Kd.R_drewN | apply Kd.R_drew));exact HO_4.out⟩,⟨bBX24⟩⟩
               ·rw [if_neg c62] at H
                have c62b0:((rdOf ByteArray.empty qA 0).toList==([118,101,114,115,105,111,110]:List UInt8))=false:=beq_eq_false_iff_ne.mpr c62
                have c62b1:((rdOf ByteArray.empty qA 0).toList != ([118,101,114,115,105,111,110]:List UInt8))=true:=bne_iff_ne.mpr c62
                (first | rw [c62b0] | (simp only [i64_w,i32_w];rw [c62b0]) | skip)
                have H':=Aside0.mk H
                clear H
                go_wp2
                go_meet
                case rel=>exact ⟨_,(((rdOf ByteArray.empty qA 0).toList==([113,117,105,116]:List UInt8))),(by first | rfl | (simp;done) | (simp [*];done)),H',⟨by have:=HJ7.out;have:=HJ16.out;have:=HJ25.out;first | omega | exact Nat.le_refl _⟩,⟨by (with_reducible repeat (first | apply Kd.R_alloc | apply Kd.R_drewN | apply Kd.R_drew));exact HO_4.out⟩,⟨bBX24⟩⟩
              case rest=>
               clear HC61
               clear c32 c32b0 c32b1 c51 c51b0 c51b1
               obtain ⟨kq,x83_60,rfl,HA,HJ60,HO_4,HB⟩:=hcut
               cases kq with
               | zero=>exact absurd HA.out (by simp [parse_one.j3])
               | succ kj60=>
                have H:=HA.out
                clear HA
                simp only [parse_one.j3] at H
                by_cases c63:x83_60=true
                ·subst c63
                 have H1:(if (qA.length:Int)=1 then (if 0 < (qA.length:Int) then (some ((Cm.word (rdOf ByteArray.empty qA 0)),(-1))) else (none)) else ((parse_bad.f (⟨#[69,82,82,79,82]⟩:ByteArray)).bind fun bt216=>(some (bt216.1,bt216.2))))=some (r1,r2):=by rw [if_pos rfl] at H;exact H
                 clear H
                 have H:=H1
                 clear H1
                 by_cases c64:(qA.length:Int)=1
                 ·rw [if_pos c64] at H
                  have c64b0:((qA.length:Int)==1)=true:=beq_iff_eq.mpr c64
                  have c64b1:((qA.length:Int) != 1)=false:=bne_eq_false_iff_eq.mpr c64
                  clear c64
                  by_cases c65:0 < (qA.length:Int)
                  ·rw [if_pos c65] at H
                   have c65b0:decide (0 < (qA.length:Int))=true:=decide_eq_true c65
                   have c65b1:decide (0 < qA.length)=true:=decide_eq_true (by omega)
                   clear c65
                   simp only [Option.some.injEq,Prod.mk.injEq] at H
                   obtain ⟨rfl,rfl⟩:=H
                   have p215:0≤(0:Int):=(by omega)
                   have q215:0 < (qA.length:Int):=of_decide_eq_true (by first | (with_reducible assumption) | assumption)
                   obtain ⟨qn,e215,qN⟩:=Kd.at_string (Kd.R_reads' HO_4.out).2.2 0 p215 q215
                   obtain rfl:qC=qn:=(by injection e215)
                   have qi215:(0 < qA.length)=True:=eq_true (by omega)
                   (try rw [show ((0:Int)).toNat=0 from rfl] at qN)
                   (try rw [Addr.add_zero'] at qN)
                   replace p215:=eq_true p215
                   replace q215:=eq_true q215
                   go_wp2
                   go_ret2
                   exact ⟨by first | rfl | (simp [errW_none,errW_some]<;>rfl) | (simp [*,errW_none,errW_some]<;>rfl),bBX24⟩
                  ·rw [if_neg c65] at H
                   exact absurd H (by simp)
                 ·rw [if_neg c64] at H
                  have c64b0:((qA.length:Int)==1)=false:=beq_eq_false_iff_ne.mpr c64
                  have c64b1:((qA.length:Int) != 1)=true:=bne_iff_ne.mpr c64
                  replace H:=Option.bind_eq_some_iff.mp H
                  obtain ⟨⟨qi,qj⟩,A660,H⟩:=H
                  replace H:(some (qi,qj))=some (r1,r2):=H
                  have A66:=Aside0.mk A660
                  clear A660
                  simp only [Option.some.injEq,Prod.mk.injEq] at H
                  obtain ⟨rfl,rfl⟩:=H
                  go_wp2_with (first | ((with_reducible refine gate_callee (f:=47) rfl ?_);refine goesL_ (some 94) rfl rfl Tryz.func47 (by kernel_rfl) rfl #[.string (⟨#[69,82,82,79,82]⟩:ByteArray)] rfl (by (try simp only [List.map_toArray,List.map_cons,List.map_nil]);first | done | rfl | (simp only [List.length_drop,List.length_take];rfl)) ?_;(with_reducible refine (parse_bad.calls (⟨#[69,82,82,79,82]⟩:ByteArray) qi qj _ A66.out).mono ?_);rintro e w' ⟨rfl,⟨nd,rfl⟩⟩;refine ⟨_,rfl,?_⟩))
                  go_ret2
                  exact ⟨by first | rfl | (simp [errW_none,errW_some]<;>rfl) | (simp [*,errW_none,errW_some]<;>rfl),bBX24⟩
                ·replace c63:=Bool.eq_false_iff.mpr c63
                 subst c63
                 have H1:((parse_bad.f (⟨#[69,82,82,79,82]⟩:ByteArray)).bind fun bt218=>(some (bt218.1,bt218.2)))=some (r1,r2):=by rw [if_neg (show ¬ (false=true) by decide)] at H;exact H
                 clear H
                 have H:=H1
                 clear H1
                 replace H:=Option.bind_eq_some_iff.mp H
                 obtain ⟨⟨qk,ql⟩,A670,H⟩:=H
                 replace H:(some (qk,ql))=some (r1,r2):=H
                 have A67:=Aside0.mk A670
                 clear A670
                 simp only [Option.some.injEq,Prod.mk.injEq] at H
                 obtain ⟨rfl,rfl⟩:=H
                 go_wp2_with (first | ((with_reducible refine gate_callee (f:=47) rfl ?_);refine goesL_ (some 94) rfl rfl Tryz.func47 (by kernel_rfl) rfl #[.string (⟨#[69,82,82,79,82]⟩:ByteArray)] rfl (by (try simp only [List.map_toArray,List.map_cons,List.map_nil]);first | done | rfl | (simp only [List.length_drop,List.length_take];rfl)) ?_;(with_reducible refine (parse_bad.calls (⟨#[69,82,82,79,82]⟩:ByteArray) qk ql _ A67.out).mono ?_);rintro e w' ⟨rfl,⟨nd,rfl⟩⟩;refine ⟨_,rfl,?_⟩))
                 go_ret2
                 exact ⟨by first | rfl | (simp [errW_none,errW_some]<;>rfl) | (simp [*,errW_none,errW_some]<;>rfl),bBX24⟩
  ·rw [if_neg c7] at H
   exact absurd H (by simp)

end Go.Proofs.YtfbhlbchmenloaaGreatDoor.H
-- thinned
end
