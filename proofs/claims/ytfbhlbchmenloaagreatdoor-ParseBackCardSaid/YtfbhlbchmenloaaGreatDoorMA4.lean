/-
  The law's own walk, its plain statement and its row: the law holds. Its condition: none beside the given row's own.
-/
import Derived.Test.YtfbhlbchmenloaaGreatDoorMA2
import Derived.Test.YtfbhlbchmenloaaGreatDoorMA0
import Derived.Lib.MapLaws
import Derived.Lib.TrimUEq
import Derived.Lib.Small
import Derived.Laws.BitsLemmas
import Derived.Lib.ItoaNum
section
namespace Go.Proofs.YtfbhlbchmenloaaGreatDoor.H
open Go.RowKit Go.Proofs.YtfbhlbchmenloaaGreatDoorW.PrintWords Go.Proofs.YtfbhlbchmenloaaGreatDoorW.PrintLast Go.Proofs.YtfbhlbchmenloaaGreatDoorW.PrintMore
attribute [local go_sem] max2_int min2_int max_two min_two max_three min_three max_four min_four   -- for this text's walks alone
set_option linter.unusedVariables false
set_option linter.unusedSimpArgs false

/-! ### cellaretref1_rune1: function 38 -/
mutual
def cellaretref1_rune1.j2:Nat→ByteArray→Int→Int→Int→Option (Int×Int)
  | 0,_,_,_,_=>none
  | k + 1,x0,x5,x6,x7=>if (x0.size:Int) < x5 then (some ((-1),1)) else (cellaretref1_rune1.l0 k x0 x5 x6 x7 1)
def cellaretref1_rune1.l0:Nat→ByteArray→Int→Int→Int→Int→Option (Int×Int)
  | 0,_,_,_,_,_=>none
  | k + 1,x0,x5,x6,x7,x8=>if x8 < x5 then (if 0≤x8 then (if x8 < (x0.size:Int) then (if (Go.bits .and .u8 (bt x0 x8) 192)=128 then (cellaretref1_rune1.l0 k x0 x5 x6 (Go.bits .or .i64 (wrap64 (x7 * 64)) (wrap64 (Go.bits .and .u8 (bt x0 x8) 63))) (wrap64 (x8 + 1))) else (some ((-1),1))) else (none)) else (none)) else (if x7 < x6 then (some ((-1),1)) else (if x7 > 1114111 then (some ((-1),1)) else (if x7≥55296 then (if x7 < 57344 then (some ((-1),1)) else (some (x7,x5))) else (some (x7,x5)))))
def cellaretref1_rune1.j0:Nat→ByteArray→Int→Bool→Option (Int×Int)
  | 0,_,_,_=>none
  | k + 1,x0,x4,x16=>if x16=true then (cellaretref1_rune1.j2 k x0 2 128 (Go.bits .and .i64 x4 31)) else (if x4≥224 then (cellaretref1_rune1.j1 k x0 x4 (decide (x4 < 240))) else (cellaretref1_rune1.j1 k x0 x4 false))
def cellaretref1_rune1.j1:Nat→ByteArray→Int→Bool→Option (Int×Int)
  | 0,_,_,_=>none
  | k + 1,x0,x4,x25=>if x25=true then (cellaretref1_rune1.j2 k x0 3 2048 (Go.bits .and .i64 x4 15)) else (if x4≥240 then (if x4 < 245 then (cellaretref1_rune1.j2 k x0 4 65536 (Go.bits .and .i64 x4 7)) else (some ((-1),1))) else (some ((-1),1)))
end
def cellaretref1_rune1.f (k:Nat) (a0:ByteArray):Option (Int×Int):=if 0 < (a0.size:Int) then (if (wrap64 (bt a0 0)) < 128 then (some (wrap64 (bt a0 0),1)) else (if (wrap64 (bt a0 0))≥194 then (cellaretref1_rune1.j0 k a0 (wrap64 (bt a0 0)) (decide ((wrap64 (bt a0 0)) < 224))) else (cellaretref1_rune1.j0 k a0 (wrap64 (bt a0 0)) false))) else (none)
theorem cellaretref1_rune1.mono_l:∀ k,(∀ y0 y1 y2 y3,LeO (cellaretref1_rune1.j2 k y0 y1 y2 y3) (cellaretref1_rune1.j2 (k + 1) y0 y1 y2 y3))∧(∀ y0 y1 y2 y3 y4,LeO (cellaretref1_rune1.l0 k y0 y1 y2 y3 y4) (cellaretref1_rune1.l0 (k + 1) y0 y1 y2 y3 y4))∧(∀ y0 y1 y2,LeO (cellaretref1_rune1.j0 k y0 y1 y2) (cellaretref1_rune1.j0 (k + 1) y0 y1 y2))∧(∀ y0 y1 y2,LeO (cellaretref1_rune1.j1 k y0 y1 y2) (cellaretref1_rune1.j1 (k + 1) y0 y1 y2))
  | 0=>⟨fun _ _ _ _ r h=>by simp [cellaretref1_rune1.j2] at h,fun _ _ _ _ _ r h=>by simp [cellaretref1_rune1.l0] at h,fun _ _ _ r h=>by simp [cellaretref1_rune1.j0] at h,fun _ _ _ r h=>by simp [cellaretref1_rune1.j1] at h⟩
  | k + 1=>by
    obtain ⟨ih0,ih1,ih2,ih3⟩:=cellaretref1_rune1.mono_l k
    refine ⟨?_,?_,?_,?_⟩
    · intro y0 y1 y2 y3
      unfold cellaretref1_rune1.j2
      repeat' first
      | (with_reducible exact ih0 _ _ _ _)
      | (with_reducible exact ih1 _ _ _ _ _)
      | (with_reducible exact ih2 _ _ _)
      | (with_reducible exact ih3 _ _ _)
      | (with_reducible exact LeO.refl _)
      | (with_reducible exact LeO.none _)
      | (with_reducible refine LeO.ite ?_ ?_)
      | (with_reducible refine LeO.bind ?_ (fun _=>?_))
      | exact ih0 _ _ _ _
      | exact ih1 _ _ _ _ _
      | exact ih2 _ _ _
      | exact ih3 _ _ _
      | exact LeO.none _
      | refine LeO.ite ?_ ?_
      | refine LeO.bind ?_ (fun _=>?_)
    · intro y0 y1 y2 y3 y4
      unfold cellaretref1_rune1.l0
      repeat' first
      | (with_reducible exact ih0 _ _ _ _)
      | (with_reducible exact ih1 _ _ _ _ _)
      | (with_reducible exact ih2 _ _ _)
      | (with_reducible exact ih3 _ _ _)
      | (with_reducible exact LeO.refl _)
      | (with_reducible exact LeO.none _)
      | (with_reducible refine LeO.ite ?_ ?_)
      | (with_reducible refine LeO.bind ?_ (fun _=>?_))
      | exact ih0 _ _ _ _
      | exact ih1 _ _ _ _ _
      | exact ih2 _ _ _
      | exact ih3 _ _ _
      | exact LeO.none _
      | refine LeO.ite ?_ ?_
      | refine LeO.bind ?_ (fun _=>?_)
    · intro y0 y1 y2
      unfold cellaretref1_rune1.j0
      repeat' first
      | (with_reducible exact ih0 _ _ _ _)
      | (with_reducible exact ih1 _ _ _ _ _)
      | (with_reducible exact ih2 _ _ _)
      | (with_reducible exact ih3 _ _ _)
      | (with_reducible exact LeO.refl _)
      | (with_reducible exact LeO.none _)
      | (with_reducible refine LeO.ite ?_ ?_)
      | (with_reducible refine LeO.bind ?_ (fun _=>?_))
      | exact ih0 _ _ _ _
      | exact ih1 _ _ _ _ _
      | exact ih2 _ _ _
      | exact ih3 _ _ _
      | exact LeO.none _
      | refine LeO.ite ?_ ?_
      | refine LeO.bind ?_ (fun _=>?_)
    · intro y0 y1 y2
      unfold cellaretref1_rune1.j1
      repeat' first
      | (with_reducible exact ih0 _ _ _ _)
      | (with_reducible exact ih1 _ _ _ _ _)
      | (with_reducible exact ih2 _ _ _)
      | (with_reducible exact ih3 _ _ _)
      | (with_reducible exact LeO.refl _)
      | (with_reducible exact LeO.none _)
      | (with_reducible refine LeO.ite ?_ ?_)
      | (with_reducible refine LeO.bind ?_ (fun _=>?_))
      | exact ih0 _ _ _ _
      | exact ih1 _ _ _ _ _
      | exact ih2 _ _ _
      | exact ih3 _ _ _
      | exact LeO.none _
      | refine LeO.ite ?_ ?_
      | refine LeO.bind ?_ (fun _=>?_)
theorem cellaretref1_rune1.mono:∀ a0 k,LeO (cellaretref1_rune1.f k a0) (cellaretref1_rune1.f (k + 1) a0):=by
  intro a0 k
  obtain ⟨ih0,ih1,ih2,ih3⟩:=cellaretref1_rune1.mono_l k
  unfold cellaretref1_rune1.f
  repeat' first
      | (with_reducible exact ih0 _ _ _ _)
      | (with_reducible exact ih1 _ _ _ _ _)
      | (with_reducible exact ih2 _ _ _)
      | (with_reducible exact ih3 _ _ _)
      | (with_reducible exact LeO.refl _)
      | (with_reducible exact LeO.none _)
      | (with_reducible refine LeO.ite ?_ ?_)
      | (with_reducible refine LeO.bind ?_ (fun _=>?_))
      | exact ih0 _ _ _ _
      | exact ih1 _ _ _ _ _
      | exact ih2 _ _ _
      | exact ih3 _ _ _
      | exact LeO.none _
      | refine LeO.ite ?_ ?_
      | refine LeO.bind ?_ (fun _=>?_)
set_option maxHeartbeats 8000000 in
set_option maxRecDepth 100000 in
theorem cellaretref1_rune1.calls (k:Nat) (a0:ByteArray) (r1:Int) (r2:Int) (w:World) (h:cellaretref1_rune1.f k a0=some (r1,r2)) :
  Calls Tryz.prog 38 #[.string a0] w fun e w'=>e=.returned (.tuple #[.int .i64 r1,.int .i64 r2])∧Drawn0 w w':=by
 have H:(if 0 < (a0.size:Int) then (if (wrap64 (bt a0 0)) < 128 then (some (wrap64 (bt a0 0),1)) else (if (wrap64 (bt a0 0))≥194 then (cellaretref1_rune1.j0 k a0 (wrap64 (bt a0 0)) (decide ((wrap64 (bt a0 0)) < 224))) else (cellaretref1_rune1.j0 k a0 (wrap64 (bt a0 0)) false))) else (none))=some (r1,r2):=h
 clear h
 by_cases c2:0 < (a0.size:Int)
 ·rw [if_pos c2] at H
  have c2b0:decide (0 < (a0.size:Int))=true:=decide_eq_true c2
  have c2b1:decide (0 < a0.size)=true:=decide_eq_true (by omega)
  clear c2
  have HC4:=M0 H
  clear H
  have p3:0≤(0:Int):=(by omega)
  have q3:0 < a0.size:=(by have:(0:Int) < (a0.size:Int):=of_decide_eq_true (by first | (with_reducible assumption) | assumption);omega)
  have qA:∀ h:0 < a0.size,((a0[0]'h).toNat:Int)=bt a0 0:=bt_at a0 0
  clear p3
  have qi3:(0 < (a0.size:Int))=True:=eq_true (of_decide_eq_true (by first | (with_reducible assumption) | assumption))
  replace q3:=eq_true q3
  go_enter Tryz.func38,Tryz.ntmps38
  go_upto_block 0 with (fail)
  go_cut [5,6,7] (fun v5 v6 v7 wc=>∃ (kq:Nat) (x5_3:Int) (x6_3:Int) (x7_3:Int),v5=.int .i64 x5_3∧v6=.int .i64 x6_3∧v7=.int .i64 x7_3∧Aside0 (cellaretref1_rune1.j2 kq a0 x5_3 x6_3 x7_3=some (r1,r2))∧Aside0 (kq≤k)∧Drawn0 w wc)
  case first=>
   have H:=HC4.out
   clear HC4
   by_cases c5:(wrap64 (bt a0 0)) < 128
   ·rw [if_pos c5] at H
    have c5b0:decide ((wrap64 (bt a0 0)) < 128)=true:=decide_eq_true c5
    clear c5
    (first | rw [c5b0] | (simp only [i64_w,i32_w];rw [c5b0]) | skip)
    simp only [Option.some.injEq,Prod.mk.injEq] at H
    obtain ⟨rfl,rfl⟩:=H
    go_wp2
    go_ret2
    exact ⟨by first | rfl | (simp;done) | (simp [*];done),by repeat (first | exact Drawn0.refl _ | apply Drawn0.step)⟩
   ·rw [if_neg c5] at H
    have c5b0:decide ((wrap64 (bt a0 0)) < 128)=false:=decide_eq_false c5
    clear c5
    (first | rw [c5b0] | (simp only [i64_w,i32_w];rw [c5b0]) | skip)
    have HC6:=M0 H
    clear H
    go_upto_region 6 with (fail)
    go_cut [16] (fun v16 wc=>∃ (kq:Nat) (x16_5:Bool),v16=.bool x16_5∧Aside0 (cellaretref1_rune1.j0 kq a0 (wrap64 (bt a0 0)) x16_5=some (r1,r2))∧Aside0 (kq≤k)∧Drawn0 w wc)
    case first=>
     have H:=HC6.out
     clear HC6
     by_cases c7:(wrap64 (bt a0 0))≥194
     ·rw [if_pos c7] at H
      have c7b0:decide (194≤(wrap64 (bt a0 0)))=true:=decide_eq_true c7
      clear c7
      (first | rw [c7b0] | (simp only [i64_w,i32_w];rw [c7b0]) | skip)
      have H':=M0 H
      clear H
      go_wp2
      go_meet
      case rel=>exact ⟨_,(decide ((wrap64 (bt a0 0)) < 224)),(by first | rfl | (simp;done) | (simp [*];done)),H',⟨by first | omega | exact Nat.le_refl _⟩,by repeat (first | exact Drawn0.refl _ | apply Drawn0.step)⟩
     ·rw [if_neg c7] at H
      have c7b0:decide (194≤(wrap64 (bt a0 0)))=false:=decide_eq_false c7
      clear c7
      (first | rw [c7b0] | (simp only [i64_w,i32_w];rw [c7b0]) | skip)
      have H':=M0 H
      clear H
      go_wp2
      go_meet
      case rel=>exact ⟨_,(false),(by first | rfl | (simp;done) | (simp [*];done)),H',⟨by first | omega | exact Nat.le_refl _⟩,by repeat (first | exact Drawn0.refl _ | apply Drawn0.step)⟩
    case rest=>
     clear HC6
     clear c2b0 c2b1 q3 qA qi3 c5b0
     obtain ⟨kq,x16_5,rfl,HA,HJ5,⟨mc5,rfl⟩⟩:=hcut
     cases kq with
     | zero=>exact absurd HA.out (by simp [cellaretref1_rune1.j0])
     | succ kj5=>
      have H:=HA.out
      clear HA
      simp only [cellaretref1_rune1.j0] at H
      by_cases c8:x16_5=true
      ·subst c8
       have H1:(cellaretref1_rune1.j2 kj5 a0 2 128 (Go.bits .and .i64 (wrap64 (bt a0 0)) 31))=some (r1,r2):=by rw [if_pos rfl] at H;exact H
       clear H
       have H:=H1
       clear H1
       have H':=M0 H
       clear H
       go_wp2
       go_meet
       case rel=>exact ⟨_,(2),(128),(Go.bits .and .i64 (wrap64 (bt a0 0)) 31),(by first | rfl | (simp;done) | (simp [*];done)),(by first | rfl | (simp;done) | (simp [*];done)),(by first | rfl | (simp;done) | (simp [*];done)),H',⟨by have:=HJ5.out;first | omega | exact Nat.le_refl _⟩,by repeat (first | exact Drawn0.refl _ | apply Drawn0.step)⟩
      ·replace c8:=Bool.eq_false_iff.mpr c8
       subst c8
       have H1:(if (wrap64 (bt a0 0))≥224 then (cellaretref1_rune1.j1 kj5 a0 (wrap64 (bt a0 0)) (decide ((wrap64 (bt a0 0)) < 240))) else (cellaretref1_rune1.j1 kj5 a0 (wrap64 (bt a0 0)) false))=some (r1,r2):=by rw [if_neg (show ¬ (false=true) by decide)] at H;exact H
       clear H
       have H:=H1
       clear H1
       have HC9:=M0 H
       clear H
       go_upto_region 8 with (fail)
       go_cut [25] (fun v25 wc=>∃ (kq:Nat) (x25_8:Bool),v25=.bool x25_8∧Aside0 (cellaretref1_rune1.j1 kq a0 (wrap64 (bt a0 0)) x25_8=some (r1,r2))∧Aside0 (kq≤kj5)∧Drawn0 w wc)
       case first=>
        have H:=HC9.out
        clear HC9
        by_cases c10:(wrap64 (bt a0 0))≥224
        ·rw [if_pos c10] at H
         have c10b0:decide (224≤(wrap64 (bt a0 0)))=true:=decide_eq_true c10
         clear c10
         (first | rw [c10b0] | (simp only [i64_w,i32_w];rw [c10b0]) | skip)
         have H':=M0 H
         clear H
         go_wp2
         go_meet
         case rel=>exact ⟨_,(decide ((wrap64 (bt a0 0)) < 240)),(by first | rfl | (simp;done) | (simp [*];done)),H',⟨by have:=HJ5.out;first | omega | exact Nat.le_refl _⟩,by repeat (first | exact Drawn0.refl _ | apply Drawn0.step)⟩
        ·rw [if_neg c10] at H
         have c10b0:decide (224≤(wrap64 (bt a0 0)))=false:=decide_eq_false c10
         clear c10
         (first | rw [c10b0] | (simp only [i64_w,i32_w];rw [c10b0]) | skip)
         have H':=M0 H
         clear H
         go_wp2
         go_meet
         case rel=>exact ⟨_,(false),(by first | rfl | (simp;done) | (simp [*];done)),H',⟨by have:=HJ5.out;first | omega | exact Nat.le_refl _⟩,by repeat (first | exact Drawn0.refl _ | apply Drawn0.step)⟩
       case rest=>
        clear HC9
        obtain ⟨kq,x25_8,rfl,HA,HJ8,⟨mc8,rfl⟩⟩:=hcut
        cases kq with
        | zero=>exact absurd HA.out (by simp [cellaretref1_rune1.j1])
        | succ kj8=>
         have H:=HA.out
         clear HA
         simp only [cellaretref1_rune1.j1] at H
         by_cases c11:x25_8=true
         ·subst c11
          have H1:(cellaretref1_rune1.j2 kj8 a0 3 2048 (Go.bits .and .i64 (wrap64 (bt a0 0)) 15))=some (r1,r2):=by rw [if_pos rfl] at H;exact H
          clear H
          have H:=H1
          clear H1
          have H':=M0 H
          clear H
          go_wp2
          go_meet
          case rel=>exact ⟨_,(3),(2048),(Go.bits .and .i64 (wrap64 (bt a0 0)) 15),(by first | rfl | (simp;done) | (simp [*];done)),(by first | rfl | (simp;done) | (simp [*];done)),(by first | rfl | (simp;done) | (simp [*];done)),H',⟨by have:=HJ5.out;have:=HJ8.out;first | omega | exact Nat.le_refl _⟩,by repeat (first | exact Drawn0.refl _ | apply Drawn0.step)⟩
         ·replace c11:=Bool.eq_false_iff.mpr c11
          subst c11
          have H1:(if (wrap64 (bt a0 0))≥240 then (if (wrap64 (bt a0 0)) < 245 then (cellaretref1_rune1.j2 kj8 a0 4 65536 (Go.bits .and .i64 (wrap64 (bt a0 0)) 7)) else (some ((-1),1))) else (some ((-1),1)))=some (r1,r2):=by rw [if_neg (show ¬ (false=true) by decide)] at H;exact H
          clear H
          have H:=H1
          clear H1
          by_cases c12:(wrap64 (bt a0 0))≥240
          ·rw [if_pos c12] at H
           have c12b0:decide (240≤(wrap64 (bt a0 0)))=true:=decide_eq_true c12
           clear c12
           by_cases c13:(wrap64 (bt a0 0)) < 245
           ·rw [if_pos c13] at H
            have c13b0:decide ((wrap64 (bt a0 0)) < 245)=true:=decide_eq_true c13
            clear c13
            have H':=M0 H
            clear H
            go_wp2
            go_meet
            case rel=>exact ⟨_,(4),(65536),(Go.bits .and .i64 (wrap64 (bt a0 0)) 7),(by first | rfl | (simp;done) | (simp [*];done)),(by first | rfl | (simp;done) | (simp [*];done)),(by first | rfl | (simp;done) | (simp [*];done)),H',⟨by have:=HJ5.out;have:=HJ8.out;first | omega | exact Nat.le_refl _⟩,by repeat (first | exact Drawn0.refl _ | apply Drawn0.step)⟩
           ·rw [if_neg c13] at H
            have c13b0:decide ((wrap64 (bt a0 0)) < 245)=false:=decide_eq_false c13
            clear c13
            simp only [Option.some.injEq,Prod.mk.injEq] at H
            obtain ⟨rfl,rfl⟩:=H
            go_wp2
            go_ret2
            exact ⟨by first | rfl | (simp;done) | (simp [*];done),by repeat (first | exact Drawn0.refl _ | apply Drawn0.step)⟩
          ·rw [if_neg c12] at H
           have c12b0:decide (240≤(wrap64 (bt a0 0)))=false:=decide_eq_false c12
           clear c12
           simp only [Option.some.injEq,Prod.mk.injEq] at H
           obtain ⟨rfl,rfl⟩:=H
           go_wp2
           go_ret2
           exact ⟨by first | rfl | (simp;done) | (simp [*];done),by repeat (first | exact Drawn0.refl _ | apply Drawn0.step)⟩
  case rest=>
   clear HC4
   clear c2b0 c2b1 q3 qA qi3
   obtain ⟨kq,x5_3,x6_3,x7_3,rfl,rfl,rfl,HA,HJ3,⟨mc3,rfl⟩⟩:=hcut
   cases kq with
   | zero=>exact absurd HA.out (by simp [cellaretref1_rune1.j2])
   | succ kj3=>
    have H:=HA.out
    clear HA
    simp only [cellaretref1_rune1.j2] at H
    by_cases c14:(a0.size:Int) < x5_3
    ·rw [if_pos c14] at H
     have c14b0:decide ((a0.size:Int) < x5_3)=true:=decide_eq_true c14
     clear c14
     simp only [Option.some.injEq,Prod.mk.injEq] at H
     obtain ⟨rfl,rfl⟩:=H
     go_wp2
     go_ret2
     exact ⟨by first | rfl | (simp;done) | (simp [*];done),by repeat (first | exact Drawn0.refl _ | apply Drawn0.step)⟩
    ·rw [if_neg c14] at H
     have c14b0:decide ((a0.size:Int) < x5_3)=false:=decide_eq_false c14
     clear c14
     have H':=M0 H
     clear H
     go_wp2
     go_loopg [7,8] kj3 (fun kq v7 v8 w'=>∃ (x7_2:Int) (x8_2:Int),v7=.int .i64 x7_2∧v8=.int .i64 x8_2∧Aside0 (cellaretref1_rune1.l0 kq a0 x5_3 x6_3 x7_2 x8_2=some (r1,r2))∧Aside0 (kq≤kj3)∧Drawn0 w w')
     case atStart=>exact ⟨(x7_3),(1),(by first | rfl | (simp;done) | (simp [*];done)),(by first | rfl | (simp;done) | (simp [*];done)),H',⟨Nat.le_refl _⟩,by repeat (first | exact Drawn0.refl _ | apply Drawn0.step)⟩
     case round=>
      clear H'
      clear c14b0
      obtain ⟨x7_2,x8_2,rfl,rfl,HA,HK2,⟨m2,rfl⟩⟩:=hrel
      cases gk with
      | zero=>exact absurd HA.out (by simp [cellaretref1_rune1.l0])
      | succ k2=>
       have H:=HA.out
       clear HA
       simp only [cellaretref1_rune1.l0] at H
       by_cases c15:x8_2 < x5_3
       ·rw [if_pos c15] at H
        have c15b0:decide (x8_2 < x5_3)=true:=decide_eq_true c15
        clear c15
        by_cases c16:0≤x8_2
        ·rw [if_pos c16] at H
         have c16b0:decide (0≤x8_2)=true:=decide_eq_true c16
         clear c16
         by_cases c17:x8_2 < (a0.size:Int)
         ·rw [if_pos c17] at H
          have c17b0:decide (x8_2 < (a0.size:Int))=true:=decide_eq_true c17
          clear c17
          by_cases c19:(Go.bits .and .u8 (bt a0 x8_2) 192)=128
          ·rw [if_pos c19] at H
           have c19b0:((Go.bits .and .u8 (bt a0 x8_2) 192)==128)=true:=beq_iff_eq.mpr c19
           have c19b1:((Go.bits .and .u8 (bt a0 x8_2) 192) != 128)=false:=bne_eq_false_iff_eq.mpr c19
           clear c19
           have H':=M0 H
           clear H
           have p18:0≤(x8_2:Int):=of_decide_eq_true (by first | (with_reducible assumption) | assumption)
           have q18:x8_2 < (a0.size:Int):=of_decide_eq_true (by first | (with_reducible assumption) | assumption)
           have qB:=bt_at a0 x8_2
           replace p18:=eq_true p18
           replace q18:=eq_true q18
           have p20:0≤(x8_2:Int):=of_decide_eq_true (by first | (with_reducible assumption) | assumption)
           have q20:x8_2 < (a0.size:Int):=of_decide_eq_true (by first | (with_reducible assumption) | assumption)
           have qC:=bt_at a0 x8_2
           replace p20:=eq_true p20
           replace q20:=eq_true q20
           go_wp2
           go_roundg k2
           case measure=>have:=HJ3.out;have:=HK2.out;omega
           case rel=>exact ⟨(Go.bits .or .i64 (wrap64 (x7_2 * 64)) (wrap64 (Go.bits .and .u8 (bt a0 x8_2) 63))),(wrap64 (x8_2 + 1)),(by first | rfl | (simp;done) | (simp [*];done)),(by first | rfl | (simp;done) | (simp [*];done)),H',⟨by have:=HJ3.out;have:=HK2.out;omega⟩,by repeat (first | exact Drawn0.refl _ | apply Drawn0.step)⟩
          ·rw [if_neg c19] at H
           have c19b0:((Go.bits .and .u8 (bt a0 x8_2) 192)==128)=false:=beq_eq_false_iff_ne.mpr c19
           have c19b1:((Go.bits .and .u8 (bt a0 x8_2) 192) != 128)=true:=bne_iff_ne.mpr c19
           simp only [Option.some.injEq,Prod.mk.injEq] at H
           obtain ⟨rfl,rfl⟩:=H
           have p18:0≤(x8_2:Int):=of_decide_eq_true (by first | (with_reducible assumption) | assumption)
           have q18:x8_2 < (a0.size:Int):=of_decide_eq_true (by first | (with_reducible assumption) | assumption)
           have qB:=bt_at a0 x8_2
           replace p18:=eq_true p18
           replace q18:=eq_true q18
           go_wp2
           go_ret2
           exact ⟨by first | rfl | (simp;done) | (simp [*];done),by repeat (first | exact Drawn0.refl _ | apply Drawn0.step)⟩
         ·rw [if_neg c17] at H
          exact absurd H (by simp)
        ·rw [if_neg c16] at H
         exact absurd H (by simp)
       ·rw [if_neg c15] at H
        have c15b0:decide (x8_2 < x5_3)=false:=decide_eq_false c15
        clear c15
        by_cases c21:x7_2 < x6_3
        ·rw [if_pos c21] at H
         have c21b0:decide (x7_2 < x6_3)=true:=decide_eq_true c21
         clear c21
         simp only [Option.some.injEq,Prod.mk.injEq] at H
         obtain ⟨rfl,rfl⟩:=H
         go_wp2
         go_ret2
         exact ⟨by first | rfl | (simp;done) | (simp [*];done),by repeat (first | exact Drawn0.refl _ | apply Drawn0.step)⟩
        ·rw [if_neg c21] at H
         have c21b0:decide (x7_2 < x6_3)=false:=decide_eq_false c21
         clear c21
         by_cases c22:x7_2 > 1114111
         ·rw [if_pos c22] at H
          have c22b0:decide (1114111 < x7_2)=true:=decide_eq_true c22
          clear c22
          simp only [Option.some.injEq,Prod.mk.injEq] at H
          obtain ⟨rfl,rfl⟩:=H
          go_wp2
          go_ret2
          exact ⟨by first | rfl | (simp;done) | (simp [*];done),by repeat (first | exact Drawn0.refl _ | apply Drawn0.step)⟩
         ·rw [if_neg c22] at H
          have c22b0:decide (1114111 < x7_2)=false:=decide_eq_false c22
          clear c22
          by_cases c23:x7_2≥55296
          ·rw [if_pos c23] at H
           have c23b0:decide (55296≤x7_2)=true:=decide_eq_true c23
           clear c23
           by_cases c24:x7_2 < 57344
           ·rw [if_pos c24] at H
            have c24b0:decide (x7_2 < 57344)=true:=decide_eq_true c24
            clear c24
            simp only [Option.some.injEq,Prod.mk.injEq] at H
            obtain ⟨rfl,rfl⟩:=H
            go_wp2
            go_ret2
            exact ⟨by first | rfl | (simp;done) | (simp [*];done),by repeat (first | exact Drawn0.refl _ | apply Drawn0.step)⟩
           ·rw [if_neg c24] at H
            have c24b0:decide (x7_2 < 57344)=false:=decide_eq_false c24
            clear c24
            simp only [Option.some.injEq,Prod.mk.injEq] at H
            obtain ⟨rfl,rfl⟩:=H
            go_wp2
            go_ret2
            exact ⟨by first | rfl | (simp;done) | (simp [*];done),by repeat (first | exact Drawn0.refl _ | apply Drawn0.step)⟩
          ·rw [if_neg c23] at H
           have c23b0:decide (55296≤x7_2)=false:=decide_eq_false c23
           clear c23
           simp only [Option.some.injEq,Prod.mk.injEq] at H
           obtain ⟨rfl,rfl⟩:=H
           go_wp2
           go_ret2
           exact ⟨by first | rfl | (simp;done) | (simp [*];done),by repeat (first | exact Drawn0.refl _ | apply Drawn0.step)⟩
 ·rw [if_neg c2] at H
  exact absurd H (by simp)

end Go.Proofs.YtfbhlbchmenloaaGreatDoor.H
-- thinned
end
section
namespace Go.Proofs.YtfbhlbchmenloaaGreatDoor.H
open Go.RowKit Go.Proofs.YtfbhlbchmenloaaGreatDoorW.PrintWords Go.Proofs.YtfbhlbchmenloaaGreatDoorW.PrintLast Go.Proofs.YtfbhlbchmenloaaGreatDoorW.PrintMore
attribute [local go_sem] max2_int min2_int max_two min_two max_three min_three max_four min_four   -- for this text's walks alone
set_option linter.unusedVariables false
set_option linter.unusedSimpArgs false

/-! ### cellaretref1_Key: function 26 -/
mutual
def cellaretref1_Key.j0:Nat→ByteArray→Bool→Option (Bool)
  | 0,_,_=>none
  | k + 1,x0,x12=>if x12=true then (some false) else (cellaretref1_Key.l0 k x0)
def cellaretref1_Key.l0:Nat→ByteArray→Option (Bool)
  | 0,_=>none
  | k + 1,x0=>if (x0.size:Int) > 0 then ((cellaretref1_rune1.f k x0).bind fun bt155=>(if bt155.1≤32 then (some false) else (if bt155.1≥127 then (if bt155.1≤160 then (some false) else (if bt155.1=8232 then (some false) else (if bt155.1=8233 then (some false) else (if 0≤bt155.2 then (if bt155.2≤(x0.size:Int) then (cellaretref1_Key.l0 k (x0.extract (bt155.2:Int).toNat x0.size)) else (none)) else (none))))) else (if bt155.1=8232 then (some false) else (if bt155.1=8233 then (some false) else (if 0≤bt155.2 then (if bt155.2≤(x0.size:Int) then (cellaretref1_Key.l0 k (x0.extract (bt155.2:Int).toNat x0.size)) else (none)) else (none))))))) else (some true)
end
def cellaretref1_Key.f (k:Nat) (a0:ByteArray):Option (Bool):=if (a0.size:Int) < 1 then (cellaretref1_Key.j0 k a0 true) else (cellaretref1_Key.j0 k a0 (decide ((a0.size:Int) > 250)))
theorem cellaretref1_Key.mono_l:∀ k,(∀ y0 y1,LeO (cellaretref1_Key.j0 k y0 y1) (cellaretref1_Key.j0 (k + 1) y0 y1))∧(∀ y0,LeO (cellaretref1_Key.l0 k y0) (cellaretref1_Key.l0 (k + 1) y0))
  | 0=>⟨fun _ _ r h=>by simp [cellaretref1_Key.j0] at h,fun _ r h=>by simp [cellaretref1_Key.l0] at h⟩
  | k + 1=>by
    obtain ⟨ih0,ih1⟩:=cellaretref1_Key.mono_l k
    refine ⟨?_,?_⟩
    · intro y0 y1
      unfold cellaretref1_Key.j0
      repeat' first
      | (with_reducible exact ih0 _ _)
      | (with_reducible exact ih1 _)
      | (with_reducible exact cellaretref1_rune1.mono _ _)
      | (with_reducible exact LeO.refl _)
      | (with_reducible exact LeO.none _)
      | (with_reducible refine LeO.ite ?_ ?_)
      | (with_reducible refine LeO.bind ?_ (fun _=>?_))
      | exact ih0 _ _
      | exact ih1 _
      | exact cellaretref1_rune1.mono _ _
      | exact LeO.none _
      | refine LeO.ite ?_ ?_
      | refine LeO.bind ?_ (fun _=>?_)
    · intro y0
      unfold cellaretref1_Key.l0
      repeat' first
      | (with_reducible exact ih0 _ _)
      | (with_reducible exact ih1 _)
      | (with_reducible exact cellaretref1_rune1.mono _ _)
      | (with_reducible exact LeO.refl _)
      | (with_reducible exact LeO.none _)
      | (with_reducible refine LeO.ite ?_ ?_)
      | (with_reducible refine LeO.bind ?_ (fun _=>?_))
      | exact ih0 _ _
      | exact ih1 _
      | exact cellaretref1_rune1.mono _ _
      | exact LeO.none _
      | refine LeO.ite ?_ ?_
      | refine LeO.bind ?_ (fun _=>?_)
theorem cellaretref1_Key.mono:∀ a0 k,LeO (cellaretref1_Key.f k a0) (cellaretref1_Key.f (k + 1) a0):=by
  intro a0 k
  obtain ⟨ih0,ih1⟩:=cellaretref1_Key.mono_l k
  unfold cellaretref1_Key.f
  repeat' first
      | (with_reducible exact ih0 _ _)
      | (with_reducible exact ih1 _)
      | (with_reducible exact cellaretref1_rune1.mono _ _)
      | (with_reducible exact LeO.refl _)
      | (with_reducible exact LeO.none _)
      | (with_reducible refine LeO.ite ?_ ?_)
      | (with_reducible refine LeO.bind ?_ (fun _=>?_))
      | exact ih0 _ _
      | exact ih1 _
      | exact cellaretref1_rune1.mono _ _
      | exact LeO.none _
      | refine LeO.ite ?_ ?_
      | refine LeO.bind ?_ (fun _=>?_)
set_option maxHeartbeats 8000000 in
set_option maxRecDepth 100000 in
theorem cellaretref1_Key.calls (k:Nat) (a0:ByteArray) (r:Bool) (w:World) (h:cellaretref1_Key.f k a0=some r) :
  Calls Tryz.prog 26 #[.string a0] w fun e w'=>e=.returned (.bool r)∧Drawn0 w w':=by
 have H:(if (a0.size:Int) < 1 then (cellaretref1_Key.j0 k a0 true) else (cellaretref1_Key.j0 k a0 (decide ((a0.size:Int) > 250))))=some r:=h
 clear h
 have HC2:=M0 H
 clear H
 go_enter Tryz.func26,Tryz.ntmps26
 go_upto_region 1 with (fail)
 go_cut [12] (fun v12 wc=>∃ (kq:Nat) (x12_1:Bool),v12=.bool x12_1∧Aside0 (cellaretref1_Key.j0 kq a0 x12_1=some r)∧Aside0 (kq≤k)∧Drawn0 w wc)
 case first=>
  have H:=HC2.out
  clear HC2
  by_cases c3:(a0.size:Int) < 1
  ·rw [if_pos c3] at H
   have c3b0:decide ((a0.size:Int) < 1)=true:=decide_eq_true c3
   have c3b1:decide (a0.size < 1)=true:=decide_eq_true (by omega)
   clear c3
   (first | rw [c3b0] | (simp only [i64_w,i32_w];rw [c3b0]) | skip)
   have H':=M0 H
   clear H
   go_wp2
   go_meet
   case rel=>exact ⟨_,(true),(by first | rfl | (simp;done) | (simp [*];done)),H',⟨by first | omega | exact Nat.le_refl _⟩,by repeat (first | exact Drawn0.refl _ | apply Drawn0.step)⟩
  ·rw [if_neg c3] at H
   have c3b0:decide ((a0.size:Int) < 1)=false:=decide_eq_false c3
   have c3b1:decide (a0.size < 1)=false:=decide_eq_false (by omega)
   clear c3
   (first | rw [c3b0] | (simp only [i64_w,i32_w];rw [c3b0]) | skip)
   have H':=M0 H
   clear H
   go_wp2
   go_meet
   case rel=>exact ⟨_,(decide ((a0.size:Int) > 250)),(by first | rfl | (simp;done) | (simp [*];done)),H',⟨by first | omega | exact Nat.le_refl _⟩,by repeat (first | exact Drawn0.refl _ | apply Drawn0.step)⟩
 case rest=>
  clear HC2
  try clear c2
  try clear p2
  try clear c3
  try clear c3b0
  try clear c3b1
  obtain ⟨kq,x12_1,rfl,HA,HJ1,⟨mc1,rfl⟩⟩:=hcut
  cases kq with
  | zero=>exact absurd HA.out (by simp [cellaretref1_Key.j0])
  | succ kj1=>
   have H:=HA.out
   clear HA
   simp only [cellaretref1_Key.j0] at H
   by_cases c4:x12_1=true
   ·subst c4
    have H1:(some false)=some r:=by rw [if_pos rfl] at H;exact H
    clear H
    have H:=H1
    clear H1
    obtain rfl:=Option.some.inj H
    go_wp2
    go_ret
    exact ⟨by first | rfl | (simp;done) | (simp [*];done),by repeat (first | exact Drawn0.refl _ | apply Drawn0.step)⟩
   ·replace c4:=Bool.eq_false_iff.mpr c4
    subst c4
    have H1:(cellaretref1_Key.l0 kj1 a0)=some r:=by rw [if_neg (show ¬ (false=true) by decide)] at H;exact H
    clear H
    have H:=H1
    clear H1
    have H':=M0 H
    clear H
    go_wp2
    go_loopg [0] kj1 (fun kq v0 w'=>∃ (x0_2:ByteArray),v0=.string x0_2∧Aside0 (cellaretref1_Key.l0 kq x0_2=some r)∧Aside0 (kq≤kj1)∧Drawn0 w w')
    case atStart=>exact ⟨(a0),(by first | rfl | (simp;done) | (simp [*];done)),H',⟨Nat.le_refl _⟩,by repeat (first | exact Drawn0.refl _ | apply Drawn0.step)⟩
    case round=>
     clear H'
     try clear c1
     try clear c2
     try clear p2
     try clear c3
     try clear c3b0
     try clear c3b1
     try clear c4
     try clear p2
     obtain ⟨x0_2,rfl,HA,HK2,⟨m2,rfl⟩⟩:=hrel
     cases gk with
     | zero=>exact absurd HA.out (by simp [cellaretref1_Key.l0])
     | succ k2=>
      have H:=HA.out
      clear HA
      simp only [cellaretref1_Key.l0] at H
      by_cases c5:(x0_2.size:Int) > 0
      ·rw [if_pos c5] at H
       have c5b0:decide (0 < (x0_2.size:Int))=true:=decide_eq_true c5
       have c5b1:decide (0 < x0_2.size)=true:=decide_eq_true (by omega)
       clear c5
       replace H:=Option.bind_eq_some_iff.mp H
       obtain ⟨⟨qA,qB⟩,A60,H⟩:=H
       replace H:(if qA≤32 then (some false) else (if qA≥127 then (if qA≤160 then (some false) else (if qA=8232 then (some false) else (if qA=8233 then (some false) else (if 0≤qB then (if qB≤(x0_2.size:Int) then (cellaretref1_Key.l0 k2 (x0_2.extract (qB:Int).toNat x0_2.size)) else (none)) else (none))))) else (if qA=8232 then (some false) else (if qA=8233 then (some false) else (if 0≤qB then (if qB≤(x0_2.size:Int) then (cellaretref1_Key.l0 k2 (x0_2.extract (qB:Int).toNat x0_2.size)) else (none)) else (none))))))=some r:=H
       have A6:=M0 A60
       clear A60
       by_cases c7:qA≤32
       ·rw [if_pos c7] at H
        have c7b0:decide (qA≤32)=true:=decide_eq_true c7
        clear c7
        obtain rfl:=Option.some.inj H
        go_wp2_with (first | ((with_reducible refine gate_callee (f:=38) rfl ?_);refine goesL_ (some 18) rfl rfl Tryz.func38 (by kernel_rfl) rfl #[.string x0_2] rfl (by (try simp only [List.map_toArray,List.map_cons,List.map_nil]);first | done | rfl | (simp only [List.length_drop,List.length_take];rfl)) ?_;(with_reducible refine (cellaretref1_rune1.calls k2 x0_2 qA qB _ A6.out).mono ?_);rintro e w' ⟨rfl,⟨nd,rfl⟩⟩;refine ⟨_,rfl,?_⟩))
        go_ret
        exact ⟨by first | rfl | (simp;done) | (simp [*];done),by repeat (first | exact Drawn0.refl _ | apply Drawn0.step)⟩
       ·rw [if_neg c7] at H
        have c7b0:decide (qA≤32)=false:=decide_eq_false c7
        clear c7
        by_cases c8:qA≥127
        ·rw [if_pos c8] at H
         have c8b0:decide (127≤qA)=true:=decide_eq_true c8
         clear c8
         by_cases c9:qA≤160
         ·rw [if_pos c9] at H
          have c9b0:decide (qA≤160)=true:=decide_eq_true c9
          clear c9
          obtain rfl:=Option.some.inj H
          go_wp2_with (first | ((with_reducible refine gate_callee (f:=38) rfl ?_);refine goesL_ (some 18) rfl rfl Tryz.func38 (by kernel_rfl) rfl #[.string x0_2] rfl (by (try simp only [List.map_toArray,List.map_cons,List.map_nil]);first | done | rfl | (simp only [List.length_drop,List.length_take];rfl)) ?_;(with_reducible refine (cellaretref1_rune1.calls k2 x0_2 qA qB _ A6.out).mono ?_);rintro e w' ⟨rfl,⟨nd,rfl⟩⟩;refine ⟨_,rfl,?_⟩))
          go_ret
          exact ⟨by first | rfl | (simp;done) | (simp [*];done),by repeat (first | exact Drawn0.refl _ | apply Drawn0.step)⟩
         ·rw [if_neg c9] at H
          have c9b0:decide (qA≤160)=false:=decide_eq_false c9
          clear c9
          by_cases c10:qA=8232
          ·rw [if_pos c10] at H
           have c10b0:(qA==8232)=true:=beq_iff_eq.mpr c10
           have c10b1:(qA != 8232)=false:=bne_eq_false_iff_eq.mpr c10
           clear c10
           obtain rfl:=Option.some.inj H
           go_wp2_with (first | ((with_reducible refine gate_callee (f:=38) rfl ?_);refine goesL_ (some 18) rfl rfl Tryz.func38 (by kernel_rfl) rfl #[.string x0_2] rfl (by (try simp only [List.map_toArray,List.map_cons,List.map_nil]);first | done | rfl | (simp only [List.length_drop,List.length_take];rfl)) ?_;(with_reducible refine (cellaretref1_rune1.calls k2 x0_2 qA qB _ A6.out).mono ?_);rintro e w' ⟨rfl,⟨nd,rfl⟩⟩;refine ⟨_,rfl,?_⟩))
           go_ret
           exact ⟨by first | rfl | (simp;done) | (simp [*];done),by repeat (first | exact Drawn0.refl _ | apply Drawn0.step)⟩
          ·rw [if_neg c10] at H
           have c10b0:(qA==8232)=false:=beq_eq_false_iff_ne.mpr c10
           have c10b1:(qA != 8232)=true:=bne_iff_ne.mpr c10
           by_cases c11:qA=8233
           ·rw [if_pos c11] at H
            have c11b0:(qA==8233)=true:=beq_iff_eq.mpr c11
            have c11b1:(qA != 8233)=false:=bne_eq_false_iff_eq.mpr c11
            clear c11
            obtain rfl:=Option.some.inj H
            go_wp2_with (first | ((with_reducible refine gate_callee (f:=38) rfl ?_);refine goesL_ (some 18) rfl rfl Tryz.func38 (by kernel_rfl) rfl #[.string x0_2] rfl (by (try simp only [List.map_toArray,List.map_cons,List.map_nil]);first | done | rfl | (simp only [List.length_drop,List.length_take];rfl)) ?_;(with_reducible refine (cellaretref1_rune1.calls k2 x0_2 qA qB _ A6.out).mono ?_);rintro e w' ⟨rfl,⟨nd,rfl⟩⟩;refine ⟨_,rfl,?_⟩))
            go_ret
            exact ⟨by first | rfl | (simp;done) | (simp [*];done),by repeat (first | exact Drawn0.refl _ | apply Drawn0.step)⟩
           ·rw [if_neg c11] at H
            have c11b0:(qA==8233)=false:=beq_eq_false_iff_ne.mpr c11
            have c11b1:(qA != 8233)=true:=bne_iff_ne.mpr c11
            by_cases c12:0≤qB
            ·rw [if_pos c12] at H
             have c12b0:=eq_true c12
             have c12b1:decide (0≤qB)=true:=decide_eq_true c12
             clear c12
             by_cases c13:qB≤(x0_2.size:Int)
             ·rw [if_pos c13] at H
              have c13b0:=eq_true c13
              have c13b1:decide (qB≤(x0_2.size:Int))=true:=decide_eq_true c13
              clear c13
              have H':=M0 H
              clear H
              go_wp2_with (first | ((with_reducible refine gate_callee (f:=38) rfl ?_);refine goesL_ (some 18) rfl rfl Tryz.func38 (by kernel_rfl) rfl #[.string x0_2] rfl (by (try simp only [List.map_toArray,List.map_cons,List.map_nil]);first | done | rfl | (simp only [List.length_drop,List.length_take];rfl)) ?_;(with_reducible refine (cellaretref1_rune1.calls k2 x0_2 qA qB _ A6.out).mono ?_);rintro e w' ⟨rfl,⟨nd,rfl⟩⟩;refine ⟨_,rfl,?_⟩))
              go_roundg k2
              case measure=>have:=HJ1.out;have:=HK2.out;omega
              case rel=>exact ⟨(x0_2.extract (qB:Int).toNat x0_2.size),(by first | rfl | (simp;done) | (simp [*];done)),H',⟨by have:=HJ1.out;have:=HK2.out;omega⟩,by repeat (first | exact Drawn0.refl _ | apply Drawn0.step)⟩
             ·rw [if_neg c13] at H
              exact absurd H (by simp)
            ·rw [if_neg c12] at H
             exact absurd H (by simp)
        ·rw [if_neg c8] at H
         have c8b0:decide (127≤qA)=false:=decide_eq_false c8
         clear c8
         by_cases c14:qA=8232
         ·rw [if_pos c14] at H
          have c14b0:(qA==8232)=true:=beq_iff_eq.mpr c14
          have c14b1:(qA != 8232)=false:=bne_eq_false_iff_eq.mpr c14
          clear c14
          obtain rfl:=Option.some.inj H
          go_wp2_with (first | ((with_reducible refine gate_callee (f:=38) rfl ?_);refine goesL_ (some 18) rfl rfl Tryz.func38 (by kernel_rfl) rfl #[.string x0_2] rfl (by (try simp only [List.map_toArray,List.map_cons,List.map_nil]);first | done | rfl | (simp only [List.length_drop,List.length_take];rfl)) ?_;(with_reducible refine (cellaretref1_rune1.calls k2 x0_2 qA qB _ A6.out).mono ?_);rintro e w' ⟨rfl,⟨nd,rfl⟩⟩;refine ⟨_,rfl,?_⟩))
          go_ret
          exact ⟨by first | rfl | (simp;done) | (simp [*];done),by repeat (first | exact Drawn0.refl _ | apply Drawn0.step)⟩
         ·rw [if_neg c14] at H
          have c14b0:(qA==8232)=false:=beq_eq_false_iff_ne.mpr c14
          have c14b1:(qA != 8232)=true:=bne_iff_ne.mpr c14
          by_cases c15:qA=8233
          ·rw [if_pos c15] at H
           have c15b0:(qA==8233)=true:=beq_iff_eq.mpr c15
           have c15b1:(qA != 8233)=false:=bne_eq_false_iff_eq.mpr c15
           clear c15
           obtain rfl:=Option.some.inj H
           go_wp2_with (first | ((with_reducible refine gate_callee (f:=38) rfl ?_);refine goesL_ (some 18) rfl rfl Tryz.func38 (by kernel_rfl) rfl #[.string x0_2] rfl (by (try simp only [List.map_toArray,List.map_cons,List.map_nil]);first | done | rfl | (simp only [List.length_drop,List.length_take];rfl)) ?_;(with_reducible refine (cellaretref1_rune1.calls k2 x0_2 qA qB _ A6.out).mono ?_);rintro e w' ⟨rfl,⟨nd,rfl⟩⟩;refine ⟨_,rfl,?_⟩))
           go_ret
           exact ⟨by first | rfl | (simp;done) | (simp [*];done),by repeat (first | exact Drawn0.refl _ | apply Drawn0.step)⟩
          ·rw [if_neg c15] at H
           have c15b0:(qA==8233)=false:=beq_eq_false_iff_ne.mpr c15
           have c15b1:(qA != 8233)=true:=bne_iff_ne.mpr c15
           by_cases c16:0≤qB
           ·rw [if_pos c16] at H
            have c16b0:=eq_true c16
            have c16b1:decide (0≤qB)=true:=decide_eq_true c16
            clear c16
            by_cases c17:qB≤(x0_2.size:Int)
            ·rw [if_pos c17] at H
             have c17b0:=eq_true c17
             have c17b1:decide (qB≤(x0_2.size:Int))=true:=decide_eq_true c17
             clear c17
             have H':=M0 H
             clear H
             go_wp2_with (first | ((with_reducible refine gate_callee (f:=38) rfl ?_);refine goesL_ (some 18) rfl rfl Tryz.func38 (by kernel_rfl) rfl #[.string x0_2] rfl (by (try simp only [List.map_toArray,List.map_cons,List.map_nil]);first | done | rfl | (simp only [List.length_drop,List.length_take];rfl)) ?_;(with_reducible refine (cellaretref1_rune1.calls k2 x0_2 qA qB _ A6.out).mono ?_);rintro e w' ⟨rfl,⟨nd,rfl⟩⟩;refine ⟨_,rfl,?_⟩))
             go_roundg k2
             case measure=>have:=HJ1.out;have:=HK2.out;omega
             case rel=>exact ⟨(x0_2.extract (qB:Int).toNat x0_2.size),(by first | rfl | (simp;done) | (simp [*];done)),H',⟨by have:=HJ1.out;have:=HK2.out;omega⟩,by repeat (first | exact Drawn0.refl _ | apply Drawn0.step)⟩
            ·rw [if_neg c17] at H
             exact absurd H (by simp)
           ·rw [if_neg c16] at H
            exact absurd H (by simp)
      ·rw [if_neg c5] at H
       have c5b0:decide (0 < (x0_2.size:Int))=false:=decide_eq_false c5
       have c5b1:decide (0 < x0_2.size)=false:=decide_eq_false (by omega)
       clear c5
       obtain rfl:=Option.some.inj H
       go_wp2
       go_ret
       exact ⟨by first | rfl | (simp;done) | (simp [*];done),by repeat (first | exact Drawn0.refl _ | apply Drawn0.step)⟩

end Go.Proofs.YtfbhlbchmenloaaGreatDoor.H
-- thinned
end
section
namespace Go.Proofs.YtfbhlbchmenloaaGreatDoor.H
open Go.RowKit Go.Proofs.YtfbhlbchmenloaaGreatDoorW.PrintWords Go.Proofs.YtfbhlbchmenloaaGreatDoorW.PrintLast Go.Proofs.YtfbhlbchmenloaaGreatDoorW.PrintMore
attribute [local go_sem] max2_int min2_int max_two min_two max_three min_three max_four min_four   -- for this text's walks alone
set_option linter.unusedVariables false
set_option linter.unusedSimpArgs false

/-! ### cellaretref1_Text: function 25 -/
def cellaretref1_Text.f:Nat→Int→Option (ByteArray)
  | 0,_=>none
  | k + 1,a0=>if a0 < 10 then (if 0≤a0 then (if a0≤(IntKind.u64.wrap (a0 + 1)) then (if (IntKind.u64.wrap (a0 + 1))≤10 then (some ((⟨#[48,49,50,51,52,53,54,55,56,57]⟩:ByteArray).extract (a0:Int).toNat ((IntKind.u64.wrap (a0 + 1)):Int).toNat)) else (none)) else (none)) else (none)) else ((cellaretref1_Text.f k (IntKind.u64.wrap (Int.tdiv a0 10))).bind fun t141=>(if 0≤(Int.tmod a0 10) then (if (Int.tmod a0 10)≤(IntKind.u64.wrap ((Int.tmod a0 10) + 1)) then (if (IntKind.u64.wrap ((Int.tmod a0 10) + 1))≤10 then (if t141.size + ((⟨#[48,49,50,51,52,53,54,55,56,57]⟩:ByteArray).extract ((Int.tmod a0 10):Int).toNat ((IntKind.u64.wrap ((Int.tmod a0 10) + 1)):Int).toNat).size≤9223372036854775807 then (some (t141++((⟨#[48,49,50,51,52,53,54,55,56,57]⟩:ByteArray).extract ((Int.tmod a0 10):Int).toNat ((IntKind.u64.wrap ((Int.tmod a0 10) + 1)):Int).toNat))) else (none)) else (none)) else (none)) else (none)))
theorem cellaretref1_Text.mono_l:∀ k,(∀ y0,LeO (cellaretref1_Text.f k y0) (cellaretref1_Text.f (k + 1) y0))
  | 0=>fun _ r h=>by simp [cellaretref1_Text.f] at h
  | k + 1=>by
    have ih0:=cellaretref1_Text.mono_l k
    · intro y0
      unfold cellaretref1_Text.f
      repeat' first
      | (with_reducible exact ih0 _)
      | (with_reducible exact LeO.refl _)
      | (with_reducible exact LeO.none _)
      | (with_reducible refine LeO.ite ?_ ?_)
      | (with_reducible refine LeO.bind ?_ (fun _=>?_))
      | exact ih0 _
      | exact LeO.none _
      | refine LeO.ite ?_ ?_
      | refine LeO.bind ?_ (fun _=>?_)
theorem cellaretref1_Text.mono:∀ a0 k,LeO (cellaretref1_Text.f k a0) (cellaretref1_Text.f (k + 1) a0):=by
  intro a0 k
  have ih0:=cellaretref1_Text.mono_l k
  exact ih0 a0
def cellaretref1_Text.T3:Bool×List (List Nat×List Nat):=(true,[([],[]),([0],[0]),([1],[1]),([],[]),([3],[3]),([],[]),([5],[5]),([6],[6]),([4,7],[4,7]),([2,8],[2,8]),([9,2,0,1,2,3,4,5,6,7,8,9],[9])])
def cellaretref1_Text.B3:List Nat:=[0,1,3,0,8,0,32,96,248,511,1023]
theorem cellaretref1_Text.tab3:rtab .any (opsOf Tryz.f25 3)=cellaretref1_Text.T3:=by kernel_rfl
theorem cellaretref1_Text.bits3:waitsOk cellaretref1_Text.T3.2 cellaretref1_Text.B3=true:=by kernel_rfl
set_option maxHeartbeats 8000000 in
set_option maxRecDepth 100000 in
theorem cellaretref1_Text.calls (k:Nat):∀ (a0:Int) (r:ByteArray) (w:World) (h:cellaretref1_Text.f k a0=some r),
  Calls Tryz.prog 25 #[.int .u64 a0] w fun e w'=>e=.returned (.string r)∧Below w.heap.size w w':=by
 induction k using Nat.strongRecOn with
 | _ k ih=>
 intro a0 r w h
 cases k with
 | zero=>exact absurd h (by simp [cellaretref1_Text.f])
 | succ k=>
 simp only [cellaretref1_Text.f] at h
 have HB:=M0 (Below.refl w.heap.size w)
 have H:(if a0 < 10 then (if 0≤a0 then (if a0≤(IntKind.u64.wrap (a0 + 1)) then (if (IntKind.u64.wrap (a0 + 1))≤10 then (some ((⟨#[48,49,50,51,52,53,54,55,56,57]⟩:ByteArray).extract (a0:Int).toNat ((IntKind.u64.wrap (a0 + 1)):Int).toNat)) else (none)) else (none)) else (none)) else ((cellaretref1_Text.f k (IntKind.u64.wrap (Int.tdiv a0 10))).bind fun qA=>(if 0≤(Int.tmod a0 10) then (if (Int.tmod a0 10)≤(IntKind.u64.wrap ((Int.tmod a0 10) + 1)) then (if (IntKind.u64.wrap ((Int.tmod a0 10) + 1))≤10 then (if qA.size + ((⟨#[48,49,50,51,52,53,54,55,56,57]⟩:ByteArray).extract ((Int.tmod a0 10):Int).toNat ((IntKind.u64.wrap ((Int.tmod a0 10) + 1)):Int).toNat).size≤9223372036854775807 then (some (qA++((⟨#[48,49,50,51,52,53,54,55,56,57]⟩:ByteArray).extract ((Int.tmod a0 10):Int).toNat ((IntKind.u64.wrap ((Int.tmod a0 10) + 1)):Int).toNat))) else (none)) else (none)) else (none)) else (none))))=some r:=h
 clear h
 by_cases c2:a0 < 10
 ·rw [if_pos c2] at H
  have c2b0:decide (a0 < 10)=true:=decide_eq_true c2
  clear c2
  by_cases c3:0≤a0
  ·rw [if_pos c3] at H
   have c3b0:=eq_true c3
   have c3b1:decide (0≤a0)=true:=decide_eq_true c3
   clear c3
   by_cases c4:a0≤(IntKind.u64.wrap (a0 + 1))
   ·rw [if_pos c4] at H
    have c4b0:=eq_true c4
    have c4b1:decide (a0≤(IntKind.u64.wrap (a0 + 1)))=true:=decide_eq_true c4
    by_cases c5:(IntKind.u64.wrap (a0 + 1))≤10
    ·rw [if_pos c5] at H
     have c5b0:=eq_true c5
     have c5b1:decide ((IntKind.u64.wrap (a0 + 1))≤10)=true:=decide_eq_true c5
     obtain rfl:=Option.some.inj H
     go_enter Tryz.func25,Tryz.ntmps25
     go_wp2
     go_ret
     exact ⟨by first | rfl | (simp [errW_none,errW_some]<;>rfl) | (simp [*,errW_none,errW_some]<;>rfl),by repeat (first | (with_reducible first | exact HB.out | apply wA | apply wN | apply wD) | exact HB.out)⟩
    ·rw [if_neg c5] at H
     exact absurd H (by simp)
   ·rw [if_neg c4] at H
    exact absurd H (by simp)
  ·rw [if_neg c3] at H
   exact absurd H (by simp)
 ·rw [if_neg c2] at H
  have c2b0:decide (a0 < 10)=false:=decide_eq_false c2
  clear c2
  replace H:=Option.bind_eq_some_iff.mp H
  obtain ⟨qA,A60,H⟩:=H
  replace H:(if 0≤(Int.tmod a0 10) then (if (Int.tmod a0 10)≤(IntKind.u64.wrap ((Int.tmod a0 10) + 1)) then (if (IntKind.u64.wrap ((Int.tmod a0 10) + 1))≤10 then (if qA.size + ((⟨#[48,49,50,51,52,53,54,55,56,57]⟩:ByteArray).extract ((Int.tmod a0 10):Int).toNat ((IntKind.u64.wrap ((Int.tmod a0 10) + 1)):Int).toNat).size≤9223372036854775807 then (some (qA++((⟨#[48,49,50,51,52,53,54,55,56,57]⟩:ByteArray).extract ((Int.tmod a0 10):Int).toNat ((IntKind.u64.wrap ((Int.tmod a0 10) + 1)):Int).toNat))) else (none)) else (none)) else (none)) else (none))=some r:=H
  have A6:=M0 A60
  clear A60
  obtain ⟨ji7,hji7⟩:∃ j_:Int,(Int.tmod a0 10)=j_:=⟨_,rfl⟩
  replace H:(if 0≤(ji7) then (if (ji7)≤(IntKind.u64.wrap ((ji7) + 1)) then (if (IntKind.u64.wrap ((ji7) + 1))≤10 then (if qA.size + ((⟨#[48,49,50,51,52,53,54,55,56,57]⟩:ByteArray).extract ((ji7):Int).toNat ((IntKind.u64.wrap ((ji7) + 1)):Int).toNat).size≤9223372036854775807 then (some (qA++((⟨#[48,49,50,51,52,53,54,55,56,57]⟩:ByteArray).extract ((ji7):Int).toNat ((IntKind.u64.wrap ((ji7) + 1)):Int).toNat))) else (none)) else (none)) else (none)) else (none))=some r:=by first | (rw [hji7] at H;exact H) | (simp only [hji7] at H ⊢;exact H)
  (try rw [hji7] at A6)
  by_cases c8:0≤(ji7)
  ·rw [if_pos c8] at H
   have c8b0:=eq_true c8
   have c8b1:decide (0≤(ji7))=true:=decide_eq_true c8
   clear c8
   by_cases c9:(ji7)≤(IntKind.u64.wrap ((ji7) + 1))
   ·rw [if_pos c9] at H
    have c9b0:=eq_true c9
    have c9b1:decide ((ji7)≤(IntKind.u64.wrap ((ji7) + 1)))=true:=decide_eq_true c9
    by_cases c10:(IntKind.u64.wrap ((ji7) + 1))≤10
    ·rw [if_pos c10] at H
     have c10b0:=eq_true c10
     have c10b1:decide ((IntKind.u64.wrap ((ji7) + 1))≤10)=true:=decide_eq_true c10
     by_cases c11:qA.size + ((⟨#[48,49,50,51,52,53,54,55,56,57]⟩:ByteArray).extract ((ji7):Int).toNat ((IntKind.u64.wrap ((ji7) + 1)):Int).toNat).size≤9223372036854775807
     ·rw [if_pos c11] at H
      have c11b0:=eq_true c11
      have c11b1:decide (qA.size + ((⟨#[48,49,50,51,52,53,54,55,56,57]⟩:ByteArray).extract ((ji7):Int).toNat ((IntKind.u64.wrap ((ji7) + 1)):Int).toNat).size≤9223372036854775807)=true:=decide_eq_true c11
      try have c11b2:(9223372036854775807 < qA.size + ((⟨#[48,49,50,51,52,53,54,55,56,57]⟩:ByteArray).extract ((ji7):Int).toNat ((IntKind.u64.wrap ((ji7) + 1)):Int).toNat).size)=False:=eq_false (Nat.not_lt.2 c11)
      have c11z:(9223372036854775807 < qA.size + (((IntKind.u64.wrap ((ji7) + 1)):Int).toNat - (ji7:Int).toNat))=False:=by
       have h:=c11
       rw [ByteArray.size_extract,show (⟨#[48,49,50,51,52,53,54,55,56,57]⟩:ByteArray).size=10 from rfl] at h
       exact eq_false (by omega)
      obtain rfl:=Option.some.inj H
      go_enter Tryz.func25,Tryz.ntmps25
      try go_wp2
      have n0_:=M0 (below_drew1 HB.out)
      clear HB
      have HB:=n0_
      clear n0_
      refine start_ (n:=11) (S:=fun w'=>True) (ds:=[]) #[false,false,false,false,false,false,false,false,false,false,false] (by kernel_rfl) rfl rfl trivial (fun hHeld=>?_);refine with_tabW cellaretref1_Text.tab3 cellaretref1_Text.bits3 (fun HT_ HW_=>?_)
      generalize w.drew=w12 at HB hHeld ⊢
      refine pure_ (i:=0) (N:=some 9) (v:=?_) (a':=?_) #[true,false,false,false,false,false,false,false,false,false,false] rfl rfl (any_of HT_.out (by kernel_rfl)) (fun _ _ _ h=>h) (Or.inl ⟨by rfl,?_⟩) ?_ ?_
      rotate_left
      ·intro w'
       go_simp
       with_reducible rfl
      rotate_left
      ·simp only [pS]
       rfl
      refine pure_ (i:=1) (N:=some 10) (v:=?_) (a':=?_) #[true,true,false,false,false,false,false,false,false,false,false] rfl rfl (any_of HT_.out (by kernel_rfl)) (fun _ _ _ h=>h) (Or.inl ⟨by rfl,?_⟩) ?_ ?_
      rotate_left
      ·intro w'
       go_simp
       with_reducible rfl
      rotate_left
      ·simp only [pS]
       rfl
      refine pure_ (i:=3) (N:=some 12) (v:=?_) (a':=?_) #[true,true,false,true,false,false,false,false,false,false,false] rfl rfl (any_of HT_.out (by kernel_rfl)) (fun _ _ _ h=>h) (Or.inl ⟨by rfl,?_⟩) ?_ ?_
      rotate_left
      ·intro w'
       go_simp
       with_reducible rfl
      rotate_left
      ·simp only [pS]
       rfl
      refine pure_ (i:=4) (N:=some 13) (v:=?_) (a':=?_) #[true,true,false,true,true,false,false,false,false,false,false] rfl rfl (any_of HT_.out (by kernel_rfl)) (fun _ _ _ h=>h) (Or.inl ⟨by rfl,?_⟩) ?_ ?_
      rotate_left
      ·intro w'
       go_simp
       with_reducible rfl
      rotate_left
      ·simp only [pS]
       rfl
      refine pure_ (i:=5) (N:=some 14) (v:=?_) (a':=?_) #[true,true,false,true,true,true,false,false,false,false,false] rfl rfl (any_of HT_.out (by kernel_rfl)) (fun _ _ _ h=>h) (Or.inl ⟨by rfl,?_⟩) ?_ ?_
      rotate_left
      ·intro w'
       go_simp
       with_reducible rfl
      rotate_left
      ·simp only [pS]
       rfl
      refine pure_ (i:=6) (N:=some 15) (v:=?_) (a':=?_) #[true,true,false,true,true,true,true,false,false,false,false] rfl rfl (any_of HT_.out (by kernel_rfl)) (fun _ _ _ h=>h) (Or.inl ⟨by rfl,?_⟩) ?_ ?_
      rotate_left
      ·intro w'
       go_simp
       with_reducible rfl
      rotate_left
      ·simp only [pS]
       rfl
      refine pure_ (i:=7) (N:=some 16) (v:=?_) (a':=?_) #[true,true,false,true,true,true,true,true,false,false,false] rfl rfl (any_of HT_.out (by kernel_rfl)) (fun _ _ _ h=>h) (Or.inl ⟨by rfl,?_⟩) ?_ ?_
      rotate_left
      ·intro w'
       go_simp
       with_reducible rfl
      rotate_left
      ·simp only [pS]
       rfl
      refine pure_ (i:=8) (N:=some 17) (v:=?_) (a':=?_) #[true,true,false,true,true,true,true,true,true,false,false] rfl rfl (any_of HT_.out (by kernel_rfl)) (fun _ _ _ h=>h) (Or.inl ⟨by rfl,?_⟩) ?_ ?_
      rotate_left
      ·intro w'
       go_simp
       with_reducible rfl
      rotate_left
      ·simp only [pS]
       rfl
      refine one_ (i:=2) (N:=some 11) #[true,true,true,true,true,true,true,true,true,false,false] rfl rfl (one_of HT_.out (by kernel_rfl)) (by decide) (fun K hK=>?_)
      refine goes_ Tryz.func25 (by kernel_rfl) rfl #[.int .u64 (IntKind.u64.wrap (Int.tdiv a0 10))] (by rfl) rfl rfl (by (try simp only [List.map_toArray,List.map_cons,List.map_nil]);first | done | rfl | (simp only [List.length_drop,List.length_take];rfl)) ?_
      with_reducible refine (ih k (by omega) (IntKind.u64.wrap (Int.tdiv a0 10)) qA _ A6.out).mono ?_
      rintro e w13 ⟨rfl,hb⟩
      refine ⟨_,rfl,?_⟩
      have n0_:=M0 (below_step (by repeat (first | (with_reducible first | exact HB.out | apply wA | apply wN | apply wD) | exact HB.out)) hb)
      clear HB
      have HB:=n0_
      clear n0_
      (try clear hb)
      (try clear hb2)
      (try clear hk)
      (try clear hi)
      refine hK.out _ _ trivial (fun hHeld=>?_)
      clear hK K
      refine norm_ (a':=?_) ?_ ?_
      rotate_left
      ·show Act.put _ (some 11) _=_
       simp only [pS]
       rfl
      refine pure_ (i:=9) (N:=some 18) (v:=?_) (a':=?_) #[true,true,true,true,true,true,true,true,true,true,false] rfl rfl (any_of HT_.out (by kernel_rfl)) (fun _ _ _ h=>h) (Or.inl ⟨by rfl,?_⟩) ?_ ?_
      rotate_left
      ·intro w'
       go_simp
       with_reducible rfl
      rotate_left
      ·simp only [pS]
       rfl
      refine pure_ (i:=10) (N:=some 2) (v:=?_) (a':=?_) #[true,true,true,true,true,true,true,true,true,true,true] rfl rfl (any_of HT_.out (by kernel_rfl)) (fun _ _ _ h=>h) (Or.inl ⟨by rfl,?_⟩) ?_ ?_
      rotate_left
      ·intro w'
       go_simp
       with_reducible rfl
      rotate_left
      ·simp only [pS]
       rfl
      refine done_ (done_of HT_.out (by kernel_rfl)) ?_
      try go_wp2
      go_ret
      exact ⟨by first | rfl | (simp [errW_none,errW_some]<;>rfl) | (simp only [← hji7];first | rfl | (simp [errW_none,errW_some]<;>rfl)) | (simp [*,errW_none,errW_some]<;>rfl),by repeat (first | (with_reducible first | exact HB.out | apply wA | apply wN | apply wD) | exact HB.out)⟩
     ·rw [if_neg c11] at H
      exact absurd H (by simp)
    ·rw [if_neg c10] at H
     exact absurd H (by simp)
   ·rw [if_neg c9] at H
    exact absurd H (by simp)
  ·rw [if_neg c8] at H
   exact absurd H (by simp)

end Go.Proofs.YtfbhlbchmenloaaGreatDoor.H
-- thinned
end
section
namespace Go.Proofs.YtfbhlbchmenloaaGreatDoor.U8
open Go

theorem drop_len (s:ByteArray) (pos:Nat):(s.data.toList.drop pos).length=s.size - pos:=by
  rw [List.length_drop];show s.data.toList.length - pos=s.data.size - pos;rw [Array.length_toList]
end Go.Proofs.YtfbhlbchmenloaaGreatDoor.U8
end
section
namespace Go.Proofs.YtfbhlbchmenloaaGreatDoor.L
open Go Go.Proofs.YtfbhlbchmenloaaGreatDoor.H
set_option linter.unusedSimpArgs false
set_option linter.unusedVariables false

/-- Is the rune that l begins with well formed? -/
def okL (l:List UInt8):Bool:=(Lib.decodeL l).1 != 65533 || decide (1 < (Lib.decodeL l).2)
/-- A text's runes: well formed or not, the number, the bytes. -/
def rsF:Nat→List UInt8→List (Bool×Nat×List UInt8)
  | 0,_=>[]
  | f + 1,l=>if l=[] then [] else (okL l,(Lib.decodeL l).1,l.take (Lib.decodeL l).2)::rsF f (l.drop (Lib.decodeL l).2)
def rs (l:List UInt8):List (Bool×Nat×List UInt8):=rsF l.length l

theorem wide_pos (l:List UInt8):1≤(Lib.decodeL l).2:=by
  rw [Lib.decodeL_N]
  rcases Lib.decodeN_shape l.length (l.getD 0 0).toNat (l.getD 1 0).toNat (l.getD 2 0).toNat (l.getD 3 0).toNat with ⟨c,e⟩ | ⟨c1,c2,c3,cv,e⟩ | ⟨c1,c2,c3,c4,cv,cs,e⟩ | ⟨c1,c2,c3,c4,c5,cv,cw,e⟩ | e
  all_goals rw [e];simp
theorem rsF_fuel:∀ (f:Nat) (l:List UInt8),l.length≤f→rsF f l=rs l
  | f,l,h=>by
    unfold rs
    induction f using Nat.strongRecOn generalizing l with
    | _ f ih=>
      by_cases e:l=[]
      · subst e;cases f<;>simp [rsF]
      · have hp:=List.length_pos_iff.2 e
        have hw:=wide_pos l
        obtain ⟨g,rfl⟩:∃ g,f=g + 1:=⟨f - 1,by omega⟩
        obtain ⟨m,hm⟩:∃ m,l.length=m + 1:=⟨l.length - 1,by omega⟩
        have hd:(l.drop (Lib.decodeL l).2).length≤m:=by rw [List.length_drop];omega
        rw [hm]
        simp only [rsF,if_neg e]
        rw [ih g (by omega) _ (by omega)]
        by_cases hmg:m < g + 1
        · rw [ih m hmg _ hd]
        · omega
theorem rs_nil:rs []=[]:=rfl
theorem rs_cons (l:List UInt8) (e:l≠[]):rs l=(okL l,(Lib.decodeL l).1,l.take (Lib.decodeL l).2)::rs (l.drop (Lib.decodeL l).2):=by
  have hp:=List.length_pos_iff.2 e
  have hw:=wide_pos l
  obtain ⟨m,hm⟩:∃ m,l.length=m + 1:=⟨l.length - 1,by omega⟩
  have h:rs l=rsF (m + 1) l:=by rw [rsF_fuel _ _ (by omega)]
  rw [h]
  simp only [rsF,if_neg e]
  rw [rsF_fuel _ _ (by rw [List.length_drop];omega)]

/-! The walks' functions, told by the runes. -/
theorem drop_ne (s:ByteArray) (pos:Nat):pos < s.size↔s.data.toList.drop pos≠[]:=by
  have:=U8.drop_len s pos
  constructor
  · intro h e;rw [e] at this;simp at this;omega
  · intro h
    have:=List.length_pos_iff.2 h
    omega
theorem okAt_eq (s:ByteArray) (pos:Nat):okAt s pos=okL (s.data.toList.drop pos):=by unfold okAt okL;rw [Lib.decodeL_drop]
def keyOk (r:Bool×Nat×List UInt8):Bool:=r.1&&decide (32 < r.2.1)&&!(decide (127≤r.2.1)&&decide (r.2.1≤160))&&r.2.1 != 8232&&r.2.1 != 8233
theorem key_rs (s:ByteArray):∀ f pos,keyFrom s f pos=(rsF f (s.data.toList.drop pos)).all keyOk
  | 0,_=>rfl
  | f + 1,pos=>by
    unfold keyFrom
    by_cases h:pos < s.size
    · rw [if_pos h,key_rs s f,rsF,if_neg ((drop_ne s pos).1 h),Lib.decodeL_drop,List.drop_drop,List.all_cons]
      congr 1
      unfold keyAt keyOk
      rw [okAt_eq]
    · rw [if_neg h,rsF,if_pos (Classical.not_not.1 (fun e=>h ((drop_ne s pos).2 e)))]
      rfl
theorem keyF_eq (s:ByteArray):keyF s=(!(decide (s.size < 1))&&!(decide (250 < s.size))&&(rs s.data.toList).all keyOk):=by
  unfold keyF rs
  rw [key_rs,List.drop_zero,len_eq]
/-! Texts put together. -/
theorem decN_1 {n b0 b1 b2 b3:Nat} (h:b0 < 128):Lib.decodeN n b0 b1 b2 b3=(b0,1):=by unfold Lib.decodeN;rw [if_pos h]
theorem decN_2 {n b0 b1 b2 b3:Nat} (h0:b0 / 32=6) (h1:1 < n) (h2:b1 / 64=2) (h3:128≤b0 % 32 * 64 + b1 % 64):Lib.decodeN n b0 b1 b2 b3=(b0 % 32 * 64 + b1 % 64,2):=by
  unfold Lib.decodeN;rw [if_neg (by omega),if_pos (by omega),if_pos (by omega)]
theorem decN_3 {n b0 b1 b2 b3 : Nat} (h0 : b0 / 16 = 14) (h1 : 2 < n) (h2 : b1 / 64 = 2) (h3 : b2 / 64 = 2) (h4 : 2048 ≤ b0 % 16 * 4096 + b1 % 64 * 64 + b2 % 64) (h5 : b0 % 16 * 4096 + b1 % 64 * 64 + b2 % 64 < 55296 ∨ 57344 ≤ b0 % 16 * 4096 + b1 % 64 * 64 + b2 % 64) :
    Lib.decodeN n b0 b1 b2 b3=(b0 % 16 * 4096 + b1 % 64 * 64 + b2 % 64,3):=by
  unfold Lib.decodeN;rw [if_neg (by omega),if_neg (by omega),if_pos (by omega),if_pos (by omega)]
theorem decN_4 {n b0 b1 b2 b3 : Nat} (h0 : b0 / 8 = 30) (h1 : 3 < n) (h2 : b1 / 64 = 2) (h3 : b2 / 64 = 2) (h4 : b3 / 64 = 2) (h5 : 65536 ≤ b0 % 8 * 262144 + b1 % 64 * 4096 + b2 % 64 * 64 + b3 % 64) (h6 : b0 % 8 * 262144 + b1 % 64 * 4096 + b2 % 64 * 64 + b3 % 64 ≤ 1114111) :
    Lib.decodeN n b0 b1 b2 b3=(b0 % 8 * 262144 + b1 % 64 * 4096 + b2 % 64 * 64 + b3 % 64,4):=by
  unfold Lib.decodeN;rw [if_neg (by omega),if_neg (by omega),if_neg (by omega),if_pos (by omega),if_pos (by omega)]
end Go.Proofs.YtfbhlbchmenloaaGreatDoor.L

namespace Go.Proofs.YtfbhlbchmenloaaGreatDoor.Pure
open Go Go.RowKit Go.Proofs.YtfbhlbchmenloaaGreatDoorW.PrintWords Go.Proofs.YtfbhlbchmenloaaGreatDoor.H Go.Proofs.YtfbhlbchmenloaaGreatDoor.L
set_option linter.unusedSimpArgs false
set_option linter.unusedVariables false

/-- A byte of a text, 0 behind its end. -/
def by_ (s:ByteArray) (i:Nat):Nat:=(s.data.toList.getD i 0).toNat
theorem by_lt (s:ByteArray) (i:Nat):by_ s i < 256:=(s.data.toList.getD i 0).toNat_lt
theorem bt_by (s:ByteArray) (i:Nat) (h:i < s.size):bt s (i:Int)=(by_ s i:Int):=by
  unfold bt by_
  rw [dif_pos (by simpa using h),List.getD_eq_getElem?_getD,List.getElem?_eq_getElem (by rw [len_eq];exact h)]
  rfl
theorem and192:∀ x:Fin 256,(Go.bits .and .u8 ((x.val:Nat):Int) 192=128)↔x.val / 64=2:=by
  intro x
  have h:Go.bits .and .u8 ((x.val:Nat):Int) 192=((x.val / 64 * 64:Nat):Int):=by
    revert x;decide +kernel
  rw [h];omega
theorem and63 (x:Nat) (h:x < 256):Go.bits .and .u8 (x:Int) 63=((x % 64:Nat):Int):=by rw [u8_and63 (x:=(x:Int)) (by omega) (by omega)];omega
theorem wraps_i64 (n:Int) (h₀:0≤n) (h₁:n < 2 ^ 62):IntKind.i64.wrap n=n:=by rw [IntKind.wrap_i64];omega
theorem and31 (x:Nat) (h:x < 256):Go.bits .and .i64 (x:Int) 31=((x % 32:Nat):Int):=by
  have:=bits_mask .i64 62 (by decide) wraps_i64 5 (by decide) (x:Int) (by omega) (by omega)
  rw [show ((2:Int) ^ 5 - 1)=31 from rfl] at this
  rw [this];omega
theorem and15 (x:Nat) (h:x < 256):Go.bits .and .i64 (x:Int) 15=((x % 16:Nat):Int):=by
  have:=bits_mask .i64 62 (by decide) wraps_i64 4 (by decide) (x:Int) (by omega) (by omega)
  rw [show ((2:Int) ^ 4 - 1)=15 from rfl] at this
  rw [this];omega
theorem and7 (x:Nat) (h:x < 256):Go.bits .and .i64 (x:Int) 7=((x % 8:Nat):Int):=by
  have:=bits_mask .i64 62 (by decide) wraps_i64 3 (by decide) (x:Int) (by omega) (by omega)
  rw [show ((2:Int) ^ 3 - 1)=7 from rfl] at this
  rw [this];omega
theorem or64 (v b:Nat) (hv:v < 1048576) (hb:b < 64):Go.bits .or .i64 (wrap64 ((v:Int) * 64)) (wrap64 (b:Int))=((v * 64 + b:Nat):Int):=by
  rw [show wrap64 ((v:Int) * 64)=(v:Int) * 64 by unfold wrap64;omega,show wrap64 (b:Int)=(b:Int) by unfold wrap64;omega]
  have:=bits_join .i64 62 (by decide) wraps_i64 6 ((v:Int) * 64) (b:Int) (by omega) (by omega) (by omega) (by omega) (by omega) (by omega)
  rw [this];omega

def finR (v n lo:Nat):Int×Int:=if v < lo∨1114111 < v∨(55296≤v∧v < 57344) then (-1,1) else ((v:Int),(n:Int))
theorem l0_end (s:ByteArray) (n lo v i:Nat) (h:¬ i < n):Ev (fun k=>cellaretref1_rune1.l0 k s (n:Int) (lo:Int) (v:Int) (i:Int)) (finR v n lo):=by
  refine Ev.step (fun k=>cellaretref1_rune1.l0.eq_2 _ _ _ _ _ _) ?_
  simp only [if_neg (show ¬ (i:Int) < (n:Int) by omega)]
  unfold finR
  by_cases h1:v < lo
  · simp only [if_pos (show (v:Int) < (lo:Int) by omega),if_pos (show v < lo∨1114111 < v∨(55296≤v∧v < 57344) from .inl h1)];exact Ev.now _
  · simp only [if_neg (show ¬ (v:Int) < (lo:Int) by omega)]
    by_cases h2:1114111 < v
    · simp only [if_pos (show (v:Int) > 1114111 by omega),if_pos (show v < lo∨1114111 < v∨(55296≤v∧v < 57344) from .inr (.inl h2))];exact Ev.now _
    · simp only [if_neg (show ¬ (v:Int) > 1114111 by omega)]
      by_cases h3:55296≤v
      · simp only [if_pos (show (v:Int)≥55296 by omega)]
        by_cases h4:v < 57344
        · simp only [if_pos (show (v:Int) < 57344 by omega),if_pos (show v < lo∨1114111 < v∨(55296≤v∧v < 57344) from .inr (.inr ⟨h3,h4⟩))];exact Ev.now _
        · simp only [if_neg (show ¬ (v:Int) < 57344 by omega),if_neg (show ¬ (v < lo∨1114111 < v∨(55296≤v∧v < 57344)) by omega)];exact Ev.now _
      · simp only [if_neg (show ¬ (v:Int)≥55296 by omega),if_neg (show ¬ (v < lo∨1114111 < v∨(55296≤v∧v < 57344)) by omega)];exact Ev.now _
theorem l0_bad (s:ByteArray) (n lo v i:Nat) (h:i < n) (hs:i < s.size) (hc:by_ s i / 64≠2):Ev (fun k=>cellaretref1_rune1.l0 k s (n:Int) (lo:Int) (v:Int) (i:Int)) (-1,1):=by
  refine Ev.step (fun k=>cellaretref1_rune1.l0.eq_2 _ _ _ _ _ _) ?_
  simp only [if_pos (show (i:Int) < (n:Int) by omega),if_pos (show (0:Int)≤(i:Int) by omega),if_pos (show (i:Int) < (s.size:Int) by omega),bt_by s i hs,if_neg (fun e=>hc ((and192 ⟨by_ s i,by_lt s i⟩).1 e))]
  exact Ev.now _
theorem l0_step (s : ByteArray) (n lo v i : Nat) (h : i < n) (hs : i < s.size) (hz : s.size < 140737488355328) (hv : v < 1048576) (hc : by_ s i / 64 = 2) {r : Int × Int}
    (hr:Ev (fun k=>cellaretref1_rune1.l0 k s (n:Int) (lo:Int) ((v * 64 + by_ s i % 64:Nat):Int) ((i + 1:Nat):Int)) r):Ev (fun k=>cellaretref1_rune1.l0 k s (n:Int) (lo:Int) (v:Int) (i:Int)) r:=by
  refine Ev.step (fun k=>cellaretref1_rune1.l0.eq_2 _ _ _ _ _ _) ?_
  simp only [if_pos (show (i:Int) < (n:Int) by omega),if_pos (show (0:Int)≤(i:Int) by omega),if_pos (show (i:Int) < (s.size:Int) by omega),bt_by s i hs,if_pos ((and192 ⟨by_ s i,by_lt s i⟩).2 hc),and63 _ (by_lt s i),or64 v (by_ s i % 64) hv (by omega),wrap_next (show (0:Int)≤(i:Int) by omega) (by omega)]
  exact hr
/-- From the second byte on. -/
def tailR (s:ByteArray) (n lo v:Nat):Int×Int:=
  if s.size < n then (-1,1)
  else if by_ s 1 / 64≠2 then (-1,1)
  else if n=2 then finR (v * 64 + by_ s 1 % 64) 2 lo
  else if by_ s 2 / 64≠2 then (-1,1)
  else if n=3 then finR ((v * 64 + by_ s 1 % 64) * 64 + by_ s 2 % 64) 3 lo
  else if by_ s 3 / 64≠2 then (-1,1)
  else finR (((v * 64 + by_ s 1 % 64) * 64 + by_ s 2 % 64) * 64 + by_ s 3 % 64) 4 lo
theorem evTail (s:ByteArray) (n lo v:Nat) (hn:n=2∨n=3∨n=4) (hv:v < 32) (hz:s.size < 140737488355328):Ev (fun k=>cellaretref1_rune1.j2 k s (n:Int) (lo:Int) (v:Int)) (tailR s n lo v):=by
  refine Ev.step (fun k=>cellaretref1_rune1.j2.eq_2 _ _ _ _ _) ?_
  unfold tailR
  by_cases h0:s.size < n
  · simp only [if_pos (show (s.size:Int) < (n:Int) by omega),if_pos h0];exact Ev.now _
  · simp only [if_neg (show ¬ (s.size:Int) < (n:Int) by omega),if_neg h0]
    by_cases h1:by_ s 1 / 64≠2
    · rw [if_pos h1];exact l0_bad s n lo v 1 (by omega) (by omega) h1
    · rw [if_neg h1]
      refine l0_step s n lo v 1 (by omega) (by omega) hz (by omega) (by omega) ?_
      by_cases h2:n=2
      · rw [if_pos h2];subst h2;exact l0_end s 2 lo _ 2 (by omega)
      · rw [if_neg h2]
        by_cases h3:by_ s 2 / 64≠2
        · rw [if_pos h3];exact l0_bad s n lo _ 2 (by omega) (by omega) h3
        · rw [if_neg h3]
          refine l0_step s n lo _ 2 (by omega) (by omega) hz (by omega) (by omega) ?_
          by_cases h4:n=3
          · rw [if_pos h4];subst h4;exact l0_end s 3 lo _ 3 (by omega)
          · rw [if_neg h4]
            obtain rfl:n=4:=by omega
            by_cases h5:by_ s 3 / 64≠2
            · rw [if_pos h5];exact l0_bad s 4 lo _ 3 (by omega) (by omega) h5
            · rw [if_neg h5]
              refine l0_step s 4 lo _ 3 (by omega) (by omega) hz (by omega) (by omega) ?_
              exact l0_end s 4 lo _ 4 (by omega)
def runeR (l:List UInt8):Int×Int:=if okL l=true then (((Lib.decodeL l).1:Int),((Lib.decodeL l).2:Int)) else (-1,1)
def headR (s:ByteArray):Int×Int:=
  let b:=by_ s 0
  if b < 128 then ((b:Int),1) else if b < 194 then (-1,1) else if b < 224 then tailR s 2 128 (b % 32) else if b < 240 then tailR s 3 2048 (b % 16) else if b < 245 then tailR s 4 65536 (b % 8) else (-1,1)
theorem bad_of {l:List UInt8} {n:Nat} {b0 b1 b2 b3:Nat} (hd:Lib.decodeL l=Lib.decodeN n b0 b1 b2 b3) (h:Lib.decodeN n b0 b1 b2 b3=(65533,1)):runeR l=(-1,1):=by
  unfold runeR okL;rw [hd,h];simp
theorem good_of {l:List UInt8} {n:Nat} {b0 b1 b2 b3 c w:Nat} (hd:Lib.decodeL l=Lib.decodeN n b0 b1 b2 b3) (h:Lib.decodeN n b0 b1 b2 b3=(c,w)) (hw:c≠65533∨1 < w):runeR l=((c:Int),(w:Int)):=by
  unfold runeR okL
  rw [hd,h,if_pos]
  rcases hw with hw | hw
  · simp [hw]
  · simp [hw]
theorem headR_eq (s:ByteArray) (h:0 < s.size):headR s=runeR s.data.toList:=by
  have hd:Lib.decodeL s.data.toList=Lib.decodeN s.size (by_ s 0) (by_ s 1) (by_ s 2) (by_ s 3):=by rw [Lib.decodeL_N,len_eq];rfl
  have k0:=by_lt s 0;have k1:=by_lt s 1;have k2:=by_lt s 2;have k3:=by_lt s 3
  have bad:Lib.decodeN s.size (by_ s 0) (by_ s 1) (by_ s 2) (by_ s 3)=(65533,1)→runeR s.data.toList=(-1,1):=bad_of hd
  unfold headR
  generalize hb0:by_ s 0=b0 at *
  generalize hb1:by_ s 1=b1 at *
  generalize hb2:by_ s 2=b2 at *
  generalize hb3:by_ s 3=b3 at *
  dsimp only
  by_cases h1:b0 < 128
  · rw [if_pos h1,good_of hd (decN_1 h1) (.inl (by omega))];rfl
  · rw [if_neg h1]
    by_cases h2:b0 < 194
    · rw [if_pos h2, bad (by unfold Lib.decodeN; repeat' split
                             all_goals first | rfl | (exfalso;omega))]
    · rw [if_neg h2]
      by_cases h3:b0 < 224
      · rw [if_pos h3]
        unfold tailR
        rw [hb1,hb2,hb3]
        by_cases c1:s.size < 2
        · rw [if_pos c1, bad (by unfold Lib.decodeN; repeat' split
                                 all_goals first | rfl | (exfalso;omega))]
        · rw [if_neg c1]
          by_cases c2:b1 / 64≠2
          · rw [if_pos c2, bad (by unfold Lib.decodeN; repeat' split
                                   all_goals first | rfl | (exfalso;omega))]
          · rw [if_neg c2,if_pos rfl,good_of hd (decN_2 (by omega) (by omega) (by omega) (by omega)) (.inr (by omega))]
            unfold finR
            rw [if_neg (by omega)]
      · rw [if_neg h3]
        by_cases h4:b0 < 240
        · rw [if_pos h4]
          unfold tailR
          rw [hb1,hb2,hb3]
          by_cases c1:s.size < 3
          · rw [if_pos c1, bad (by unfold Lib.decodeN; repeat' split
                                   all_goals first | rfl | (exfalso;omega))]
          · rw [if_neg c1]
            by_cases c2:b1 / 64≠2
            · rw [if_pos c2, bad (by unfold Lib.decodeN; repeat' split
                                     all_goals first | rfl | (exfalso;omega))]
            · rw [if_neg c2,if_neg (by omega)]
              by_cases c3:b2 / 64≠2
              · rw [if_pos c3, bad (by unfold Lib.decodeN; repeat' split
                                       all_goals first | rfl | (exfalso;omega))]
              · rw [if_neg c3,if_pos rfl]
                unfold finR
                by_cases c4:(b0 % 16 * 64 + b1 % 64) * 64 + b2 % 64 < 2048∨1114111 < (b0 % 16 * 64 + b1 % 64) * 64 + b2 % 64∨(55296≤(b0 % 16 * 64 + b1 % 64) * 64 + b2 % 64∧(b0 % 16 * 64 + b1 % 64) * 64 + b2 % 64 < 57344)
                · rw [if_pos c4, bad (by unfold Lib.decodeN; repeat' split
                                         all_goals first | rfl | (exfalso;omega))]
                · rw [if_neg c4,good_of hd (decN_3 (by omega) (by omega) (by omega) (by omega) (by omega) (by omega)) (.inr (by omega))]
                  rw [show (b0 % 16 * 64 + b1 % 64) * 64 + b2 % 64=b0 % 16 * 4096 + b1 % 64 * 64 + b2 % 64 by omega]
        · rw [if_neg h4]
          by_cases h5:b0 < 245
          · rw [if_pos h5]
            unfold tailR
            rw [hb1,hb2,hb3]
            by_cases c1:s.size < 4
            · rw [if_pos c1, bad (by unfold Lib.decodeN; repeat' split
                                     all_goals first | rfl | (exfalso;omega))]
            · rw [if_neg c1]
              by_cases c2:b1 / 64≠2
              · rw [if_pos c2, bad (by unfold Lib.decodeN; repeat' split
                                       all_goals first | rfl | (exfalso;omega))]
              · rw [if_neg c2,if_neg (by omega)]
                by_cases c3:b2 / 64≠2
                · rw [if_pos c3, bad (by unfold Lib.decodeN; repeat' split
                                         all_goals first | rfl | (exfalso;omega))]
                · rw [if_neg c3,if_neg (by omega)]
                  by_cases c4:b3 / 64≠2
                  · rw [if_pos c4, bad (by unfold Lib.decodeN; repeat' split
                                           all_goals first | rfl | (exfalso;omega))]
                  · rw [if_neg c4]
                    unfold finR
                    by_cases c5:((b0 % 8 * 64 + b1 % 64) * 64 + b2 % 64) * 64 + b3 % 64 < 65536∨1114111 < ((b0 % 8 * 64 + b1 % 64) * 64 + b2 % 64) * 64 + b3 % 64∨(55296≤((b0 % 8 * 64 + b1 % 64) * 64 + b2 % 64) * 64 + b3 % 64∧((b0 % 8 * 64 + b1 % 64) * 64 + b2 % 64) * 64 + b3 % 64 < 57344)
                    · rw [if_pos c5, bad (by unfold Lib.decodeN; repeat' split
                                             all_goals first | rfl | (exfalso;omega))]
                    · rw [if_neg c5,good_of hd (decN_4 (by omega) (by omega) (by omega) (by omega) (by omega) (by omega) (by omega)) (.inr (by omega))]
                      rw [show ((b0 % 8 * 64 + b1 % 64) * 64 + b2 % 64) * 64 + b3 % 64=b0 % 8 * 262144 + b1 % 64 * 4096 + b2 % 64 * 64 + b3 % 64 by omega]
          · rw [if_neg h5, bad (by unfold Lib.decodeN; repeat' split
                                   all_goals first | rfl | (exfalso;omega))]
theorem evRune1 (s:ByteArray) (h:0 < s.size) (hz:s.size < 140737488355328):Ev (fun k=>cellaretref1_rune1.f k s) (runeR s.data.toList):=by
  rw [← headR_eq s h]
  unfold cellaretref1_rune1.f headR
  have hb:=by_lt s 0
  have e0:bt s 0=(by_ s 0:Int):=bt_by s 0 h
  simp only [if_pos (show (0:Int) < (s.size:Int) by omega),e0,show wrap64 (by_ s 0:Int)=(by_ s 0:Int) by unfold wrap64;omega]
  by_cases h1:by_ s 0 < 128
  · simp only [if_pos (show (by_ s 0:Int) < 128 by omega),if_pos h1];exact Ev.now _
  · simp only [if_neg (show ¬ (by_ s 0:Int) < 128 by omega),if_neg h1]
    by_cases h2:by_ s 0 < 194
    · simp only [if_neg (show ¬ (by_ s 0:Int)≥194 by omega),if_pos h2]
      refine Ev.step (fun k=>cellaretref1_rune1.j0.eq_2 _ _ _ _) ?_
      simp only [Bool.false_eq_true,if_false,if_neg (show ¬ (by_ s 0:Int)≥224 by omega)]
      refine Ev.step (fun k=>cellaretref1_rune1.j1.eq_2 _ _ _ _) ?_
      simp only [Bool.false_eq_true,if_false,if_neg (show ¬ (by_ s 0:Int)≥240 by omega)]
      exact Ev.now _
    · simp only [if_pos (show (by_ s 0:Int)≥194 by omega),if_neg h2]
      by_cases h3:by_ s 0 < 224
      · simp only [decide_eq_true (show (by_ s 0:Int) < 224 by omega),if_pos h3]
        refine Ev.step (fun k=>cellaretref1_rune1.j0.eq_2 _ _ _ _) ?_
        simp only [if_true,and31 _ hb]
        exact evTail s 2 128 _ (by omega) (by omega) hz
      · simp only [decide_eq_false (show ¬ (by_ s 0:Int) < 224 by omega),if_neg h3]
        refine Ev.step (fun k=>cellaretref1_rune1.j0.eq_2 _ _ _ _) ?_
        simp only [Bool.false_eq_true,if_false,if_pos (show (by_ s 0:Int)≥224 by omega)]
        by_cases h4:by_ s 0 < 240
        · simp only [decide_eq_true (show (by_ s 0:Int) < 240 by omega),if_pos h4]
          refine Ev.step (fun k=>cellaretref1_rune1.j1.eq_2 _ _ _ _) ?_
          simp only [if_true,and15 _ hb]
          exact evTail s 3 2048 _ (by omega) (by omega) hz
        · simp only [decide_eq_false (show ¬ (by_ s 0:Int) < 240 by omega),if_neg h4]
          refine Ev.step (fun k=>cellaretref1_rune1.j1.eq_2 _ _ _ _) ?_
          simp only [Bool.false_eq_true,if_false,if_pos (show (by_ s 0:Int)≥240 by omega)]
          by_cases h5:by_ s 0 < 245
          · simp only [if_pos (show (by_ s 0:Int) < 245 by omega),if_pos h5,and7 _ hb]
            exact evTail s 4 65536 _ (by omega) (by omega) hz
          · simp only [if_neg (show ¬ (by_ s 0:Int) < 245 by omega),if_neg h5]
            exact Ev.now _
end Go.Proofs.YtfbhlbchmenloaaGreatDoor.Pure

namespace Go.Proofs.YtfbhlbchmenloaaGreatDoor.Pure
open Go Go.RowKit Go.Proofs.YtfbhlbchmenloaaGreatDoorW.PrintWords Go.Proofs.YtfbhlbchmenloaaGreatDoor.H Go.Proofs.YtfbhlbchmenloaaGreatDoor.L
set_option linter.unusedSimpArgs false
set_option linter.unusedVariables false

theorem runeR_2 (l:List UInt8):(runeR l).2=((Lib.decodeL l).2:Int):=by
  unfold runeR
  by_cases h:okL l=true
  · rw [if_pos h]
  · rw [if_neg h]
    have:=wide_pos l
    simp [okL] at h
    show (1:Int)=_
    omega
theorem cut_size (s:ByteArray) (h:0 < s.size):(s.extract (Lib.decodeL s.data.toList).2 s.size).size=s.size - (Lib.decodeL s.data.toList).2:=by
  rw [ByteArray.size_extract];omega
theorem ne_of (s:ByteArray) (h:0 < s.size):s.data.toList≠[]:=by
  intro e;have:=len_eq s;rw [e] at this;simp at this;omega
theorem fits (s:ByteArray) (h:0 < s.size):(Lib.decodeL s.data.toList).2≤s.size:=by
  have:=Lib.decodeL_le s.data.toList (ne_of s h)
  rw [len_eq] at this;exact this

theorem keyOk_bad (l:List UInt8) (h:(runeR l).1≤32):keyOk (okL l,(Lib.decodeL l).1,l.take (Lib.decodeL l).2)=false:=by
  unfold runeR at h
  by_cases hk:okL l=true
  · rw [if_pos hk] at h
    simp only [keyOk,hk,Bool.true_and,decide_eq_false (show ¬ 32 < (Lib.decodeL l).1 by simp at h;omega),Bool.false_and]
  · have:okL l=false:=by simpa using hk
    simp [keyOk,this]
theorem runeR_1 (l:List UInt8) (h:¬ (runeR l).1≤32):okL l=true∧(runeR l).1=((Lib.decodeL l).1:Int):=by
  unfold runeR at h ⊢
  by_cases hk:okL l=true
  · rw [if_pos hk];exact ⟨hk,rfl⟩
  · rw [if_neg hk] at h
    exact absurd (by decide) h
theorem key_loop : ∀ (n : Nat) (s : ByteArray), s.size ≤ n → s.size < 140737488355328 →
    Ev (fun k=>cellaretref1_Key.l0 k s) ((rs s.data.toList).all keyOk)
  | n,s,hn,hc=>by
    refine Ev.step (fun k=>cellaretref1_Key.l0.eq_2 _ _) ?_
    by_cases h:0 < s.size
    · simp only [if_pos (show (s.size:Int) > 0 by omega)]
      refine Ev.bind (evRune1 s h (by omega)) ?_
      have hw:=wide_pos s.data.toList
      have hf:=fits s h
      obtain ⟨m,rfl⟩:∃ m,n=m + 1:=⟨n - 1,by omega⟩
      have hs:=cut_size s h
      have ih:=key_loop m (s.extract (Lib.decodeL s.data.toList).2 s.size) (by omega) (by omega)
      rw [Lib.extract_to_end] at ih
      rw [rs_cons _ (ne_of s h),List.all_cons]
      by_cases h1:(runeR s.data.toList).1≤32
      · simp only [if_pos h1]
        rw [keyOk_bad _ h1,Bool.false_and]
        exact Ev.now _
      · obtain ⟨hk,e1⟩:=runeR_1 _ h1
        simp only [runeR_2,e1,if_pos (show (0:Int)≤((Lib.decodeL s.data.toList).2:Int) by omega),if_pos (show ((Lib.decodeL s.data.toList).2:Int)≤(s.size:Int) by omega),Int.toNat_natCast]
        rw [e1] at h1
        generalize hr:(Lib.decodeL s.data.toList).1=r at *
        have hK:∀ x,keyOk (true,r,x)=(decide (32 < r)&&!(decide (127≤r)&&decide (r≤160))&&r != 8232&&r != 8233):=fun _=>by simp [keyOk]
        rw [hk,hK]
        simp only [if_neg (show ¬ (r:Int)≤32 by omega)]
        by_cases h2:127≤r
        · simp only [if_pos (show (r:Int)≥127 by omega)]
          by_cases h3:r≤160
          · simp only [if_pos (show (r:Int)≤160 by omega)]
            simpa [h2,h3] using Ev.now _
          · simp only [if_neg (show ¬ (r:Int)≤160 by omega)]
            by_cases h4:r=8232
            · simp only [if_pos (show (r:Int)=8232 by omega)]
              simpa [h4] using Ev.now _
            · simp only [if_neg (show ¬ (r:Int)=8232 by omega)]
              by_cases h5:r=8233
              · simp only [if_pos (show (r:Int)=8233 by omega)]
                simpa [h5] using Ev.now _
              · simp only [if_neg (show ¬ (r:Int)=8233 by omega)]
                simpa [h2,h3,bne_iff_ne.2 h4,bne_iff_ne.2 h5,show 32 < r by omega] using ih
        · simp only [if_neg (show ¬ (r:Int)≥127 by omega),if_neg (show ¬ (r:Int)=8232 by omega),if_neg (show ¬ (r:Int)=8233 by omega)]
          simpa [h2,show 32 < r by omega,bne_iff_ne.2 (show r≠8232 by omega),bne_iff_ne.2 (show r≠8233 by omega)] using ih
    · simp only [if_neg (show ¬ (s.size:Int) > 0 by omega)]
      have e:s.data.toList=[]:=List.eq_nil_of_length_eq_zero (by rw [len_eq];omega)
      rw [e,rs_nil]
      exact Ev.now _
theorem evRefKey (s:ByteArray) (hs:s.size < 140737488355328):Ev (fun k=>cellaretref1_Key.f k s) (keyF s):=by
  rw [keyF_eq]
  unfold cellaretref1_Key.f
  by_cases h1:s.size < 1
  · simp only [if_pos (show (s.size:Int) < 1 by omega)]
    refine Ev.step (fun k=>cellaretref1_Key.j0.eq_2 _ _ _) ?_
    simpa [h1] using Ev.now _
  · simp only [if_neg (show ¬ (s.size:Int) < 1 by omega)]
    refine Ev.step (fun k=>cellaretref1_Key.j0.eq_2 _ _ _) ?_
    by_cases h2:250 < s.size
    · simp only [decide_eq_true (show (s.size:Int) > 250 by omega),if_true]
      simpa [h1,h2] using Ev.now _
    · simp only [decide_eq_false (show ¬ (s.size:Int) > 250 by omega),Bool.false_eq_true,if_false]
      have h:=key_loop s.size s (Nat.le_refl _) hs
      simpa [h1,h2] using h
end Go.Proofs.YtfbhlbchmenloaaGreatDoor.Pure

namespace Go.Proofs.YtfbhlbchmenloaaGreatDoor.Pure
open Go Go.RowKit Go.Proofs.YtfbhlbchmenloaaGreatDoorW.PrintWords Go.Proofs.YtfbhlbchmenloaaGreatDoor.H Go.Proofs.YtfbhlbchmenloaaGreatDoor.L
set_option linter.unusedSimpArgs false
set_option linter.unusedVariables false
theorem u64w (n:Int) (h0:0≤n) (h1:n < 18446744073709551616):IntKind.u64.wrap n=n:=by rw [IntKind.wrap_u64];omega
/-! Text. -/
theorem digit_at:∀ n:Fin 10,(⟨#[48,49,50,51,52,53,54,55,56,57]⟩:ByteArray).extract n.val (n.val + 1)=ba [UInt8.ofNat (48 + n.val)]:=by
  intro n
  match n with
  | 0=>rfl | 1=>rfl | 2=>rfl | 3=>rfl | 4=>rfl | 5=>rfl | 6=>rfl | 7=>rfl | 8=>rfl | 9=>rfl
theorem ba_app (a:ByteArray) (x:List UInt8):(a++ba x).data.toList=a.data.toList++x:=by rw [ByteArray.data_append,Array.toList_append,ba_toList]
theorem evRefText (n:Nat) (h:n < 18446744073709551616):Ev (fun k=>cellaretref1_Text.f k (n:Int)) (ba (Lib.decDigits n)):=by
  induction n using Nat.strongRecOn with
  | _ n ih=>
    refine Ev.step (fun k=>cellaretref1_Text.f.eq_2 _ _) ?_
    rw [Lib.decDigits]
    by_cases h1:n < 10
    · have e1:(((n:Int) + 1).toNat)=n + 1:=by omega
      simp only [if_pos (show (n:Int) < 10 by omega),if_pos (show (0:Int)≤(n:Int) by omega),u64w ((n:Int) + 1) (by omega) (by omega),if_pos (show (n:Int)≤(n:Int) + 1 by omega),if_pos (show (n:Int) + 1≤10 by omega),e1,Int.toNat_natCast,dif_pos h1]
      rw [digit_at ⟨n,h1⟩]
      exact Ev.now _
    · have e0:Int.tdiv (n:Int) 10=((n / 10:Nat):Int):=by rw [Int.tdiv_eq_ediv_of_nonneg (by omega)];omega
      have e2:Int.tmod (n:Int) 10=((n % 10:Nat):Int):=by rw [Int.tmod_eq_emod_of_nonneg (by omega)];omega
      have e1:((((n % 10:Nat):Int) + 1).toNat)=n % 10 + 1:=by omega
      simp only [if_neg (show ¬ (n:Int) < 10 by omega),e0,e2,u64w ((n / 10:Nat):Int) (by omega) (by omega),dif_neg h1]
      refine Ev.bind (ih (n / 10) (by omega) (by omega)) ?_
      have hd:=digit_at ⟨n % 10,by omega⟩
      have hlen:(ba (Lib.decDigits (n / 10))).size≤20:=by
        have:(ba (Lib.decDigits (n / 10))).size=(Lib.decDigits (n / 10)).length:=by simp [ba,ByteArray.size]
        rw [this,Lib.decDigits_length]
        by_cases hz:n / 10=0
        · rw [hz];decide +kernel
        · have:=Lib.numDigits_eq (n / 10) (by omega) (by omega)
          split at this<;>omega
      have hs1:(ba [UInt8.ofNat (48 + n % 10)]).size=1:=rfl
      simp only [u64w (((n % 10:Nat):Int) + 1) (by omega) (by omega),if_pos (show (0:Int)≤((n % 10:Nat):Int) by omega),if_pos (show ((n % 10:Nat):Int)≤((n % 10:Nat):Int) + 1 by omega),if_pos (show ((n % 10:Nat):Int) + 1≤10 by omega),e1,Int.toNat_natCast]
      rw [hd,hs1]
      simp only [if_pos (show (ba (Lib.decDigits (n / 10))).size + 1≤9223372036854775807 by omega)]
      have hx:ba (Lib.decDigits (n / 10))++ba [UInt8.ofNat (48 + n % 10)]=ba (Lib.decDigits (n / 10)++[UInt8.ofNat (48 + n % 10)]):=ba_ext (by rw [ba_app,ba_toList,ba_toList])
      rw [hx]
      exact Ev.now _
/-! A key's bytes. -/
theorem wide_bytes (l:List UInt8) (hw:1 < (Lib.decodeL l).2):∀ j,j < (Lib.decodeL l).2→128≤(l.getD j 0).toNat:=by
  intro j hj
  rw [Lib.decodeL_N] at hw hj
  rcases Lib.decodeN_shape l.length (l.getD 0 0).toNat (l.getD 1 0).toNat (l.getD 2 0).toNat (l.getD 3 0).toNat with ⟨c,e⟩ | ⟨c1,c2,c3,cv,e⟩ | ⟨c1,c2,c3,c4,cv,cs,e⟩ | ⟨c1,c2,c3,c4,c5,cv,cw,e⟩ | e
  · rw [e] at hw;simp at hw
  · rw [e] at hj
    match j,hj with
    | 0,_=>omega
    | 1,_=>omega
  · rw [e] at hj
    match j,hj with
    | 0,_=>omega
    | 1,_=>omega
    | 2,_=>omega
  · rw [e] at hj
    match j,hj with
    | 0,_=>omega
    | 1,_=>omega
    | 2,_=>omega
    | 3,_=>omega
  · rw [e] at hw;simp at hw
theorem key_bytes:∀ (n:Nat) (l:List UInt8),l.length≤n→(rs l).all keyOk=true→∀ c∈l,33≤c.toNat
  | n,l,hn,h=>by
    intro c hc
    by_cases e:l=[]
    · subst e;cases hc
    · have hp:=List.length_pos_iff.2 e
      have hw:=wide_pos l
      obtain ⟨m,rfl⟩:∃ m,n=m + 1:=⟨n - 1,by omega⟩
      rw [rs_cons l e,List.all_cons,Bool.and_eq_true] at h
      rw [← List.take_append_drop (Lib.decodeL l).2 l] at hc
      rcases List.mem_append.1 hc with hc | hc
      · obtain ⟨j,hj,rfl⟩:=List.getElem_of_mem hc
        rw [List.length_take] at hj
        rw [List.getElem_take]
        have hg:l.getD j 0=l[j]'(by omega):=by rw [List.getD_eq_getElem?_getD,List.getElem?_eq_getElem (by omega)];rfl
        by_cases hw1:1 < (Lib.decodeL l).2
        · have:=wide_bytes l hw1 j (by omega)
          rw [hg] at this
          omega
        · have hj0:j=0:=by omega
          subst hj0
          by_cases ha:(l[0]'(by omega)).toNat < 128
          · have hk:=h.1
            unfold keyOk at hk
            simp only [Bool.and_eq_true,decide_eq_true_iff] at hk
            have h32:=hk.1.1.1.2
            have hd:Lib.decodeL l=((l[0]'(by omega)).toNat,1):=by
              rw [Lib.decodeL_N,← hg]
              exact decN_1 (by rw [hg];exact ha)
            rw [hd] at h32
            simp only at h32
            omega
          · omega
      · exact key_bytes m _ (by rw [List.length_drop];omega) h.2 c hc
theorem key_is (s:ByteArray) (h:keyF s=true):1≤s.size∧s.size≤250∧∀ c∈s.data.toList,33≤c.toNat:=by
  rw [keyF_eq] at h
  simp only [Bool.and_eq_true,Bool.not_eq_true',decide_eq_false_iff_not] at h
  exact ⟨by omega,by omega,key_bytes _ _ (Nat.le_refl _) h.2⟩
end Go.Proofs.YtfbhlbchmenloaaGreatDoor.Pure
end
section
namespace Go.Proofs.YtfbhlbchmenloaaGreatDoor.H
open Go.RowKit Go.Proofs.YtfbhlbchmenloaaGreatDoorW.PrintWords Go.Proofs.YtfbhlbchmenloaaGreatDoorW.PrintLast Go.Proofs.YtfbhlbchmenloaaGreatDoorW.PrintMore
attribute [local go_sem] max2_int min2_int max_two min_two max_three min_three max_four min_four   -- for this text's walks alone
set_option linter.unusedVariables false
set_option linter.unusedSimpArgs false

/-! ### cellaretref18_Name: function 24 -/
def cellaretref18_Name.j0:Nat→ByteArray→Bool→ByteArray→ByteArray→List ByteArray→ByteArray→Int→Int→Int→Int→Bool→Bool→Bool→Bool→Option (ByteArray)
  | 0,_,_,_,_,_,_,_,_,_,_,_,_,_,_=>none
  | k + 1,x5,x15,x145000,x145001,x145002,x145003,x145004,x145005,x145006,x145007,x145008,x145009,x145010,x145011=>if x15=true then (some x145001) else (if x5.toList=([97,114,105,116,104]:List UInt8) then (if x145010=true then (some (⟨#[100,101,99,114]⟩:ByteArray)) else (some (⟨#[105,110,99,114]⟩:ByteArray))) else (if x5.toList=([102,108,117,115,104]:List UInt8) then (some (⟨#[102,108,117,115,104,95,97,108,108]⟩:ByteArray)) else (some x145000)))
def cellaretref18_Name.f (k:Nat) (a0_0:ByteArray) (a0_1:ByteArray) (l0_2:List ByteArray) (a0_3:ByteArray) (a0_4:Int) (a0_5:Int) (a0_6:Int) (a0_7:Int) (a0_8:Bool) (a0_9:Bool) (a0_10:Bool) (a0_11:Bool):Option (ByteArray):=if a0_0.toList=([103,101,116]:List UInt8) then (if a0_9=true then (if a0_8=true then (if 3 + 1≤9223372036854775807 then (some ((⟨#[103,97,116]⟩:ByteArray)++(⟨#[115]⟩:ByteArray))) else (none)) else (some (⟨#[103,97,116]⟩:ByteArray))) else (if a0_8=true then (if 3 + 1≤9223372036854775807 then (some ((⟨#[103,101,116]⟩:ByteArray)++(⟨#[115]⟩:ByteArray))) else (none)) else (some (⟨#[103,101,116]⟩:ByteArray)))) else (if a0_0.toList=([115,116,111,114,101]:List UInt8) then (cellaretref18_Name.j0 k a0_0 (a0_0.toList==([115,116,111,114,101]:List UInt8)) a0_0 a0_1 l0_2 a0_3 a0_4 a0_5 a0_6 a0_7 a0_8 a0_9 a0_10 a0_11) else (cellaretref18_Name.j0 k a0_0 (a0_0.toList==([119,111,114,100]:List UInt8)) a0_0 a0_1 l0_2 a0_3 a0_4 a0_5 a0_6 a0_7 a0_8 a0_9 a0_10 a0_11))
theorem cellaretref18_Name.mono_l:∀ k,(∀ y0 y1 y2 y3 y4 y5 y6 y7 y8 y9 y10 y11 y12 y13,LeO (cellaretref18_Name.j0 k y0 y1 y2 y3 y4 y5 y6 y7 y8 y9 y10 y11 y12 y13) (cellaretref18_Name.j0 (k + 1) y0 y1 y2 y3 y4 y5 y6 y7 y8 y9 y10 y11 y12 y13))
  | 0=>fun _ _ _ _ _ _ _ _ _ _ _ _ _ _ r h=>by simp [cellaretref18_Name.j0] at h
  | k + 1=>by
    have ih0:=cellaretref18_Name.mono_l k
    · intro y0 y1 y2 y3 y4 y5 y6 y7 y8 y9 y10 y11 y12 y13
      unfold cellaretref18_Name.j0
      repeat' first
      | (with_reducible exact ih0 _ _ _ _ _ _ _ _ _ _ _ _ _ _)
      | (with_reducible exact LeO.refl _)
      | (with_reducible exact LeO.none _)
      | (with_reducible refine LeO.ite ?_ ?_)
      | (with_reducible refine LeO.bind ?_ (fun _=>?_))
      | exact ih0 _ _ _ _ _ _ _ _ _ _ _ _ _ _
      | exact LeO.none _
      | refine LeO.ite ?_ ?_
      | refine LeO.bind ?_ (fun _=>?_)
theorem cellaretref18_Name.mono:∀ a0 a1 a2 a3 a4 a5 a6 a7 a8 a9 a10 a11 k,LeO (cellaretref18_Name.f k a0 a1 a2 a3 a4 a5 a6 a7 a8 a9 a10 a11) (cellaretref18_Name.f (k + 1) a0 a1 a2 a3 a4 a5 a6 a7 a8 a9 a10 a11):=by
  intro a0 a1 a2 a3 a4 a5 a6 a7 a8 a9 a10 a11 k
  have ih0:=cellaretref18_Name.mono_l k
  unfold cellaretref18_Name.f
  repeat' first
      | (with_reducible exact ih0 _ _ _ _ _ _ _ _ _ _ _ _ _ _)
      | (with_reducible exact LeO.refl _)
      | (with_reducible exact LeO.none _)
      | (with_reducible refine LeO.ite ?_ ?_)
      | (with_reducible refine LeO.bind ?_ (fun _=>?_))
      | exact ih0 _ _ _ _ _ _ _ _ _ _ _ _ _ _
      | exact LeO.none _
      | refine LeO.ite ?_ ?_
      | refine LeO.bind ?_ (fun _=>?_)
theorem bBn13 {B:Nat} {w W:World} (h:Below B w W:=by repeat (first | (with_reducible first | exact HB.out | apply wA | apply wN | apply wD | refine below_set ?_ qC.out) | exact HB.out)):Below B w W:=h
set_option maxHeartbeats 8000000 in
set_option maxRecDepth 100000 in
theorem cellaretref18_Name.calls (k:Nat) (a0_0:ByteArray) (a0_1:ByteArray) (A0_2:Option Addr) (c0_2:Nat) (l0_2:List ByteArray) (a0_3:ByteArray) (a0_4:Int) (a0_5:Int) (a0_6:Int) (a0_7:Int) (a0_8:Bool) (a0_9:Bool) (a0_10:Bool) (a0_11:Bool) (r:ByteArray) (w:World) (hr0_2:Kd.C Kd.string w A0_2 l0_2.length l0_2) (hc0_2:l0_2.length≤c0_2) (h:cellaretref18_Name.f k a0_0 a0_1 l0_2 a0_3 a0_4 a0_5 a0_6 a0_7 a0_8 a0_9 a0_10 a0_11=some r) :
  Calls Tryz.prog 24 #[.agg #[.string a0_0,.string a0_1,.slice A0_2 l0_2.length c0_2,.string a0_3,.int .u32 a0_4,.int .i64 a0_5,.int .u64 a0_6,.int .u64 a0_7,.bool a0_8,.bool a0_9,.bool a0_10,.bool a0_11]] w fun e w'=>e=.returned (.string r)∧Below w.heap.size w w':=by
 have hu26:=Tryz.underlying26
 have HR0_2:=M0 hr0_2
 have HC0_2:=M0 hc0_2
 clear hr0_2 hc0_2
 have HB:=M0 (Below.refl w.heap.size w)
 have H:(if a0_0.toList=([103,101,116]:List UInt8) then (if a0_9=true then (if a0_8=true then (if 3 + 1≤9223372036854775807 then (some ((⟨#[103,97,116]⟩:ByteArray)++(⟨#[115]⟩:ByteArray))) else (none)) else (some (⟨#[103,97,116]⟩:ByteArray))) else (if a0_8=true then (if 3 + 1≤9223372036854775807 then (some ((⟨#[103,101,116]⟩:ByteArray)++(⟨#[115]⟩:ByteArray))) else (none)) else (some (⟨#[103,101,116]⟩:ByteArray)))) else (if a0_0.toList=([115,116,111,114,101]:List UInt8) then (cellaretref18_Name.j0 k a0_0 (a0_0.toList==([115,116,111,114,101]:List UInt8)) a0_0 a0_1 l0_2 a0_3 a0_4 a0_5 a0_6 a0_7 a0_8 a0_9 a0_10 a0_11) else (cellaretref18_Name.j0 k a0_0 (a0_0.toList==([119,111,114,100]:List UInt8)) a0_0 a0_1 l0_2 a0_3 a0_4 a0_5 a0_6 a0_7 a0_8 a0_9 a0_10 a0_11)))=some r:=h
 clear h
 by_cases c2:a0_0.toList=([103,101,116]:List UInt8)
 ·rw [if_pos c2] at H
  have c2b0:(a0_0.toList==([103,101,116]:List UInt8))=true:=beq_iff_eq.mpr c2
  have c2b1:(a0_0.toList != ([103,101,116]:List UInt8))=false:=bne_eq_false_iff_eq.mpr c2
  clear c2
  by_cases c3:a0_9=true
  ·subst c3
   have H1:(if a0_8=true then (if 3 + 1≤9223372036854775807 then (some ((⟨#[103,97,116]⟩:ByteArray)++(⟨#[115]⟩:ByteArray))) else (none)) else (some (⟨#[103,97,116]⟩:ByteArray)))=some r:=by rw [if_pos rfl] at H;exact H
   clear H
   have H:=H1
   clear H1
   by_cases c4:a0_8=true
   ·subst c4
    have H1:(if 3 + 1≤9223372036854775807 then (some ((⟨#[103,97,116]⟩:ByteArray)++(⟨#[115]⟩:ByteArray))) else (none))=some r:=by rw [if_pos rfl] at H;exact H
    clear H
    have H:=H1
    clear H1
    by_cases c5:3 + 1≤9223372036854775807
    ·rw [if_pos c5] at H
     have c5b0:=eq_true c5
     have c5b1:decide (3 + 1≤9223372036854775807)=true:=decide_eq_true c5
     try have c5b2:(9223372036854775807 < 3 + 1)=False:=eq_false (Nat.not_lt.2 c5)
     obtain rfl:=Option.some.inj H
     go_enter Tryz.func24,Tryz.ntmps24
     go_wp2_with (first | ((with_reducible refine gate_dst (N:=1) rfl ?_);refine box_event ?hg (N:=1) ?hd (cs:=#[.string a0_0,.string a0_1,.slice A0_2 l0_2.length c0_2,.string a0_3,.int .u32 a0_4,.int .i64 a0_5,.int .u64 a0_6,.int .u64 a0_7,.bool true,.bool true,.bool a0_10,.bool a0_11]) (t:=26) ?hr ?_;(case hd=>rfl);(case hg=>rfl);(case hr=>first | (go_simp;done) | (go_simp;rfl));intro qB hg w6 hbox hb;have n0_:=M0 (below_step bBn13 hb);have n1_:=M0 (hbox);have n2_:=M0 ((by rw [hg];exact (below_size bBn13):w.heap.size≤qB));have n3_:=M0 ((by rw [hg];exact (below_size bBn13):w.heap.size≤qB));clear HB;have HB:=n0_;have qA:=n1_;have GW144:=n2_;have qC:=n3_;clear n0_ n1_ n2_ n3_;clear hb hbox hg;obtain ⟨qAf,qAg,qAh,qAi,qAj,qAk,qAl,qAm,qAn,qAo,qP,qQ⟩:=celL qA.out;obtain ⟨qAp,qAq,qAr,qAs,qAt,qAu,qAv,qAw,qAx,qAy,qR,qS⟩:=froZ qA.out))
     go_ret
     exact ⟨by first | rfl | (simp [errW_none,errW_some]<;>rfl) | (simp [*,errW_none,errW_some]<;>rfl),bBn13⟩
    ·rw [if_neg c5] at H
     exact absurd H (by simp)
   ·replace c4:=Bool.eq_false_iff.mpr c4
    subst c4
    have H1:(some (⟨#[103,97,116]⟩:ByteArray))=some r:=by rw [if_neg (show ¬ (false=true) by decide)] at H;exact H
    clear H
    have H:=H1
    clear H1
    obtain rfl:=Option.some.inj H
    go_enter Tryz.func24,Tryz.ntmps24
    go_wp2_with (first | ((with_reducible refine gate_dst (N:=1) rfl ?_);refine box_event ?hg (N:=1) ?hd (cs:=#[.string a0_0,.string a0_1,.slice A0_2 l0_2.length c0_2,.string a0_3,.int .u32 a0_4,.int .i64 a0_5,.int .u64 a0_6,.int .u64 a0_7,.bool false,.bool true,.bool a0_10,.bool a0_11]) (t:=26) ?hr ?_;(case hd=>rfl);(case hg=>rfl);(case hr=>first | (go_simp;done) | (go_simp;rfl));intro qB hg w8 hbox hb;have n0_:=M0 (below_step bBn13 hb);have n1_:=M0 (hbox);have n2_:=M0 ((by rw [hg];exact (below_size bBn13):w.heap.size≤qB));have n3_:=M0 ((by rw [hg];exact (below_size bBn13):w.heap.size≤qB));clear HB;have HB:=n0_;have qA:=n1_;have GW144:=n2_;have qC:=n3_;clear n0_ n1_ n2_ n3_;clear hb hbox hg;obtain ⟨qAz,qBA,qBB,qBC,qBD,qBE,qBF,qBG,qBH,qBI,qT,qU⟩:=celL qA.out;obtain ⟨qBJ,qBK,qBL,qBM,qBN,qBO,qBP,qBQ,qBR,qBS,qV,qW⟩:=froZ qA.out))
    go_ret
    exact ⟨by first | rfl | (simp [errW_none,errW_some]<;>rfl) | (simp [*,errW_none,errW_some]<;>rfl),bBn13⟩
  ·replace c3:=Bool.eq_false_iff.mpr c3
   subst c3
   have H1:(if a0_8=true then (if 3 + 1≤9223372036854775807 then (some ((⟨#[103,101,116]⟩:ByteArray)++(⟨#[115]⟩:ByteArray))) else (none)) else (some (⟨#[103,101,116]⟩:ByteArray)))=some r:=by rw [if_neg (show ¬ (false=true) by decide)] at H;exact H
   clear H
   have H:=H1
   clear H1
   by_cases c10:a0_8=true
   ·subst c10
    have H1:(if 3 + 1≤9223372036854775807 then (some ((⟨#[103,101,116]⟩:ByteArray)++(⟨#[115]⟩:ByteArray))) else (none))=some r:=by rw [if_pos rfl] at H;exact H
    clear H
    have H:=H1
    clear H1
    by_cases c11:3 + 1≤9223372036854775807
    ·rw [if_pos c11] at H
     have c11b0:=eq_true c11
     have c11b1:decide (3 + 1≤9223372036854775807)=true:=decide_eq_true c11
     try have c11b2:(9223372036854775807 < 3 + 1)=False:=eq_false (Nat.not_lt.2 c11)
     obtain rfl:=Option.some.inj H
     go_enter Tryz.func24,Tryz.ntmps24
     go_wp2_with (first | ((with_reducible refine gate_dst (N:=1) rfl ?_);refine box_event ?hg (N:=1) ?hd (cs:=#[.string a0_0,.string a0_1,.slice A0_2 l0_2.length c0_2,.string a0_3,.int .u32 a0_4,.int .i64 a0_5,.int .u64 a0_6,.int .u64 a0_7,.bool true,.bool false,.bool a0_10,.bool a0_11]) (t:=26) ?hr ?_;(case hd=>rfl);(case hg=>rfl);(case hr=>first | (go_simp;done) | (go_simp;rfl));intro qB hg w12 hbox hb;have n0_:=M0 (below_step bBn13 hb);have n1_:=M0 (hbox);have n2_:=M0 ((by rw [hg];exact (below_size bBn13):w.heap.size≤qB));have n3_:=M0 ((by rw [hg];exact (below_size bBn13):w.heap.size≤qB));clear HB;have HB:=n0_;have qA:=n1_;have GW144:=n2_;have qC:=n3_;clear n0_ n1_ n2_ n3_;clear hb hbox hg;obtain ⟨qX,qY,qZ,qa,qb,qc,qd,qe,qf,qg,qD,qE⟩:=celL qA.out;obtain ⟨qh,qi,qj,qk,ql,qm,qn,qo,qp,qq,qF,qG⟩:=froZ qA.out))
     go_ret
     exact ⟨by first | rfl | (simp [errW_none,errW_some]<;>rfl) | (simp [*,errW_none,errW_some]<;>rfl),bBn13⟩
    ·rw [if_neg c11] at H
     exact absurd H (by simp)
   ·replace c10:=Bool.eq_false_iff.mpr c10
    subst c10
    have H1:(some (⟨#[103,101,116]⟩:ByteArray))=some r:=by rw [if_neg (show ¬ (false=true) by decide)] at H;exact H
    clear H
    have H:=H1
    clear H1
    obtain rfl:=Option.some.inj H
    go_enter Tryz.func24,Tryz.ntmps24
    go_wp2_with (first | ((with_reducible refine gate_dst (N:=1) rfl ?_);refine box_event ?hg (N:=1) ?hd (cs:=#[.string a0_0,.string a0_1,.slice A0_2 l0_2.length c0_2,.string a0_3,.int .u32 a0_4,.int .i64 a0_5,.int .u64 a0_6,.int .u64 a0_7,.bool false,.bool false,.bool a0_10,.bool a0_11]) (t:=26) ?hr ?_;(case hd=>rfl);(case hg=>rfl);(case hr=>first | (go_simp;done) | (go_simp;rfl));intro qB hg w14 hbox hb;have n0_:=M0 (below_step bBn13 hb);have n1_:=M0 (hbox);have n2_:=M0 ((by rw [hg];exact (below_size bBn13):w.heap.size≤qB));have n3_:=M0 ((by rw [hg];exact (below_size bBn13):w.heap.size≤qB));clear HB;have HB:=n0_;have qA:=n1_;have GW144:=n2_;have qC:=n3_;clear n0_ n1_ n2_ n3_;clear hb hbox hg;obtain ⟨qr,qs,qt,qu,qv,qw,qx,qy,qz,qAA,qH,qI⟩:=celL qA.out;obtain ⟨qAB,qAC,qAD,qAE,qAF,qAG,qAH,qAI,qAJ,qAK,qJ,qK⟩:=froZ qA.out))
    go_ret
    exact ⟨by first | rfl | (simp [errW_none,errW_some]<;>rfl) | (simp [*,errW_none,errW_some]<;>rfl),bBn13⟩
 ·rw [if_neg c2] at H
  have c2b0:(a0_0.toList==([103,101,116]:List UInt8))=false:=beq_eq_false_iff_ne.mpr c2
  have c2b1:(a0_0.toList != ([103,101,116]:List UInt8))=true:=bne_iff_ne.mpr c2
  have HC16:=M0 H
  clear H
  go_enter Tryz.func24,Tryz.ntmps24
  go_upto_if 15 with (first | ((with_reducible refine gate_dst (N:=1) rfl ?_);refine box_event ?hg (N:=1) ?hd (cs:=#[.string a0_0,.string a0_1,.slice A0_2 l0_2.length c0_2,.string a0_3,.int .u32 a0_4,.int .i64 a0_5,.int .u64 a0_6,.int .u64 a0_7,.bool a0_8,.bool a0_9,.bool a0_10,.bool a0_11]) (t:=26) ?hr ?_;(case hd=>rfl);(case hg=>rfl);(case hr=>first | (go_simp;done) | (go_simp;rfl));intro qB hg w17 hbox hb;have n0_:=M0 (below_step bBn13 hb);have n1_:=M0 (hbox);have n2_:=M0 ((by rw [hg];exact (below_size bBn13):w.heap.size≤qB));have n3_:=M0 ((by rw [hg];exact (below_size bBn13):w.heap.size≤qB));clear HB;have HB:=n0_;have qA:=n1_;have GW144:=n2_;have qC:=n3_;clear n0_ n1_ n2_ n3_;clear hb hbox hg;obtain ⟨qAL,qAM,qAN,qAO,qAP,qAQ,qAR,qAS,qAT,qAU,qL,qM⟩:=celL qA.out;obtain ⟨qAV,qAW,qAX,qAY,qAZ,qAa,qAb,qAc,qAd,qAe,qN,qO⟩:=froZ qA.out))
  (try simp only [Act.put,List.setIfInBounds_toArray,List.set_cons_zero,List.set_cons_succ])
  go_cut [15] (fun v15 wc=>∃ (kq:Nat) (x15_15:Bool),v15=.bool x15_15∧Aside0 (cellaretref18_Name.j0 kq a0_0 x15_15 a0_0 a0_1 l0_2 a0_3 a0_4 a0_5 a0_6 a0_7 a0_8 a0_9 a0_10 a0_11=some r)∧Aside0 (kq≤k)∧Aside0 (wc.heap[qB]? = some (.cells #[.string a0_0,.string a0_1,(.slice A0_2 l0_2.length c0_2),.string a0_3,.int .u32 a0_4,.int .i64 a0_5,.int .u64 a0_6,.int .u64 a0_7,.bool a0_8,.bool a0_9,.bool a0_10,.bool a0_11] 26 (0,0)))∧Aside0 (Below w.heap.size w wc))
  case first=>
   have H:=HC16.out
   clear HC16
   by_cases c19:a0_0.toList=([115,116,111,114,101]:List UInt8)
   ·rw [if_pos c19] at H
    have c19b0:(a0_0.toList==([115,116,111,114,101]:List UInt8))=true:=beq_iff_eq.mpr c19
    have c19b1:(a0_0.toList != ([115,116,111,114,101]:List UInt8))=false:=bne_eq_false_iff_eq.mpr c19
    clear c19
    (first | rw [c19b0] | (simp only [i64_w,i32_w];rw [c19b0]) | skip)
    have H':=M0 H
    clear H
    go_wp2
    go_meet
    case rel=>exact ⟨_,((a0_0.toList==([115,116,111,114,101]:List UInt8))),(by first | rfl | (simp;done) | (simp [*];done)),H',⟨by first | omega | exact Nat.le_refl _⟩,⟨by (with_reducible repeat (first | refine bN ?_ _ | refine bD ?_ | refine bA ?_ _));exact qA.out⟩,⟨bBn13⟩⟩
   ·rw [if_neg c19] at H
    have c19b0:(a0_0.toList==([115,116,111,114,101]:List UInt8))=false:=beq_eq_false_iff_ne.mpr c19
    have c19b1:(a0_0.toList != ([115,116,111,114,101]:List UInt8))=true:=bne_iff_ne.mpr c19
    (first | rw [c19b0] | (simp only [i64_w,i32_w];rw [c19b0]) | skip)
    have H':=M0 H
    clear H
    go_wp2
    go_meet
    case rel=>exact ⟨_,((a0_0.toList==([119,111,114,100]:List UInt8))),(by first | rfl | (simp;done) | (simp [*];done)),H',⟨by first | omega | exact Nat.le_refl _⟩,⟨by (with_reducible repeat (first | refine bN ?_ _ | refine bD ?_ | refine bA ?_ _));exact qA.out⟩,⟨bBn13⟩⟩
  case rest=>
   clear HC16
   clear c2 c2b0 c2b1 qAL qAM qL qM qAN qAO qAP qAQ qAR qAS qAT qAU qAV qAW qN qO qAX qAY qAZ qAa qAb qAc qAd qAe
   obtain ⟨kq,x15_15,rfl,HA,HJ15,qA,HB⟩:=hcut
   cases kq with
   | zero=>exact absurd HA.out (by simp [cellaretref18_Name.j0])
   | succ kj15=>
    have H:=HA.out
    clear HA
    simp only [cellaretref18_Name.j0] at H
    by_cases c20:x15_15=true
    ·subst c20
     have H1:(some a0_1)=some r:=by rw [if_pos rfl] at H;exact H
     clear H
     have H:=H1
     clear H1
     obtain rfl:=Option.some.inj H
     obtain ⟨qBj,qBk,qBl,qBm,qBn,qBo,qBp,qBq,qBr,qBs,qBT,qBU⟩:=celL qA.out
     obtain ⟨qBt,qBu,qBv,qBw,qBx,qBy,qBz,qCA,qCB,qCC,qBV,qBW⟩:=froZ qA.out
     go_wp2
     go_ret
     exact ⟨by first | rfl | (simp [errW_none,errW_some]<;>rfl) | (simp [*,errW_none,errW_some]<;>rfl),bBn13⟩
    ·replace c20:=Bool.eq_false_iff.mpr c20
     subst c20
     have H1:(if a0_0.toList=([97,114,105,116,104]:List UInt8) then (if a0_10=true then (some (⟨#[100,101,99,114]⟩:ByteArray)) else (some (⟨#[105,110,99,114]⟩:ByteArray))) else (if a0_0.toList=([102,108,117,115,104]:List UInt8) then (some (⟨#[102,108,117,115,104,95,97,108,108]⟩:ByteArray)) else (some a0_0)))=some r:=by rw [if_neg (show ¬ (false=true) by decide)] at H;exact H
     clear H
     have H:=H1
     clear H1
     by_cases c22:a0_0.toList=([97,114,105,116,104]:List UInt8)
     ·rw [if_pos c22] at H
      have c22b0:(a0_0.toList==([97,114,105,116,104]:List UInt8))=true:=beq_iff_eq.mpr c22
      have c22b1:(a0_0.toList != ([97,114,105,116,104]:List UInt8))=false:=bne_eq_false_iff_eq.mpr c22
      clear c22
      by_cases c23:a0_10=true
      ·subst c23
       have H1:(some (⟨#[100,101,99,114]⟩:ByteArray))=some r:=by rw [if_pos rfl] at H;exact H
       clear H
       have H:=H1
       clear H1
       obtain rfl:=Option.some.inj H
       obtain ⟨qCD,qCE,qCF,qCG,qCH,qCI,qCJ,qCK,qCL,qCM,qBX,qBY⟩:=celL qA.out
       obtain ⟨qCN,qCO,qCP,qCQ,qCR,qCS,qCT,qCU,qCV,qCW,qBZ,qBa⟩:=froZ qA.out
       go_wp2
       go_ret
       exact ⟨by first | rfl | (simp [errW_none,errW_some]<;>rfl) | (simp [*,errW_none,errW_some]<;>rfl),bBn13⟩
      ·replace c23:=Bool.eq_false_iff.mpr c23
       subst c23
       have H1:(some (⟨#[105,110,99,114]⟩:ByteArray))=some r:=by rw [if_neg (show ¬ (false=true) by decide)] at H;exact H
       clear H
       have H:=H1
       clear H1
       obtain rfl:=Option.some.inj H
       obtain ⟨qCX,qCY,qCZ,qCa,qCb,qCc,qCd,qCe,qCf,qCg,qBb,qBc⟩:=celL qA.out
       obtain ⟨qCh,qCi,qCj,qCk,qCl,qCm,qCn,qCo,qCp,qCq,qBd,qBe⟩:=froZ qA.out
       go_wp2
       go_ret
       exact ⟨by first | rfl | (simp [errW_none,errW_some]<;>rfl) | (simp [*,errW_none,errW_some]<;>rfl),bBn13⟩
     ·rw [if_neg c22] at H
      have c22b0:(a0_0.toList==([97,114,105,116,104]:List UInt8))=false:=beq_eq_false_iff_ne.mpr c22
      have c22b1:(a0_0.toList != ([97,114,105,116,104]:List UInt8))=true:=bne_iff_ne.mpr c22
      by_cases c26:a0_0.toList=([102,108,117,115,104]:List UInt8)
      ·rw [if_pos c26] at H
       have c26b0:(a0_0.toList==([102,108,117,115,104]:List UInt8))=true:=beq_iff_eq.mpr c26
       have c26b1:(a0_0.toList != ([102,108,117,115,104]:List UInt8))=false:=bne_eq_false_iff_eq.mpr c26
       clear c26
       obtain rfl:=Option.some.inj H
       go_wp2
       go_ret
       exact ⟨by first | rfl | (simp [errW_none,errW_some]<;>rfl) | (simp [*,errW_none,errW_some]<;>rfl),bBn13⟩
      ·rw [if_neg c26] at H
       have c26b0:(a0_0.toList==([102,108,117,115,104]:List UInt8))=false:=beq_eq_false_iff_ne.mpr c26
       have c26b1:(a0_0.toList != ([102,108,117,115,104]:List UInt8))=true:=bne_iff_ne.mpr c26
       obtain rfl:=Option.some.inj H
       obtain ⟨qCr,qCs,qCt,qCu,qCv,qCw,qCx,qCy,qCz,qDA,qBf,qBg⟩:=celL qA.out
       obtain ⟨qDB,qDC,qDD,qDE,qDF,qDG,qDH,qDI,qDJ,qDK,qBh,qBi⟩:=froZ qA.out
       go_wp2
       go_ret
       exact ⟨by first | rfl | (simp [errW_none,errW_some]<;>rfl) | (simp [*,errW_none,errW_some]<;>rfl),bBn13⟩

end Go.Proofs.YtfbhlbchmenloaaGreatDoor.H
-- thinned
end
section
namespace Go.Proofs.YtfbhlbchmenloaaGreatDoor.H
open Go.RowKit Go.Proofs.YtfbhlbchmenloaaGreatDoorW.PrintWords Go.Proofs.YtfbhlbchmenloaaGreatDoorW.PrintLast Go.Proofs.YtfbhlbchmenloaaGreatDoorW.PrintMore
attribute [local go_sem] max2_int min2_int max_two min_two max_three min_three max_four min_four   -- for this text's walks alone
set_option linter.unusedVariables false
set_option linter.unusedSimpArgs false

/-! ### cellaretlaw18_signed: function 21 -/
def cellaretlaw18_signed.f (k:Nat) (a0:Int):Option (ByteArray):=if a0 < 0 then ((cellaretref1_Text.f k (IntKind.u64.wrap (wrap64 (-a0)))).bind fun t142=>(if 1 + t142.size≤9223372036854775807 then (some ((⟨#[45]⟩:ByteArray)++t142)) else (none))) else ((cellaretref1_Text.f k (IntKind.u64.wrap (a0))).bind fun t143=>(some t143))
theorem cellaretlaw18_signed.mono:∀ a0 k,LeO (cellaretlaw18_signed.f k a0) (cellaretlaw18_signed.f (k + 1) a0):=by
  intro a0 k
  unfold cellaretlaw18_signed.f
  repeat' first
      | (with_reducible exact cellaretref1_Text.mono _ _)
      | (with_reducible exact LeO.refl _)
      | (with_reducible exact LeO.none _)
      | (with_reducible refine LeO.ite ?_ ?_)
      | (with_reducible refine LeO.bind ?_ (fun _=>?_))
      | exact cellaretref1_Text.mono _ _
      | exact LeO.none _
      | refine LeO.ite ?_ ?_
      | refine LeO.bind ?_ (fun _=>?_)
theorem bBY12 {B:Nat} {w W:World} (h:Below B w W:=by repeat (first | (with_reducible first | exact HB.out | apply wA | apply wN | apply wD) | exact HB.out)):Below B w W:=h
set_option maxHeartbeats 8000000 in
set_option maxRecDepth 100000 in
theorem cellaretlaw18_signed.calls (k:Nat) (a0:Int) (r:ByteArray) (w:World) (h:cellaretlaw18_signed.f k a0=some r) :
  Calls Tryz.prog 21 #[.int .i64 a0] w fun e w'=>e=.returned (.string r)∧Below w.heap.size w w':=by
 have HB:=M0 (Below.refl w.heap.size w)
 have H:(if a0 < 0 then ((cellaretref1_Text.f k (IntKind.u64.wrap (wrap64 (-a0)))).bind fun qA=>(if 1 + qA.size≤9223372036854775807 then (some ((⟨#[45]⟩:ByteArray)++qA)) else (none))) else ((cellaretref1_Text.f k (IntKind.u64.wrap (a0))).bind fun qB=>(some qB)))=some r:=h
 clear h
 by_cases c2:a0 < 0
 ·rw [if_pos c2] at H
  have c2b0:decide (a0 < 0)=true:=decide_eq_true c2
  clear c2
  replace H:=Option.bind_eq_some_iff.mp H
  obtain ⟨qA,A30,H⟩:=H
  replace H:(if 1 + qA.size≤9223372036854775807 then (some ((⟨#[45]⟩:ByteArray)++qA)) else (none))=some r:=H
  have A3:=M0 A30
  clear A30
  by_cases c4:1 + qA.size≤9223372036854775807
  ·rw [if_pos c4] at H
   have c4b0:=eq_true c4
   have c4b1:decide (1 + qA.size≤9223372036854775807)=true:=decide_eq_true c4
   try have c4b2:(9223372036854775807 < 1 + qA.size)=False:=eq_false (Nat.not_lt.2 c4)
   obtain rfl:=Option.some.inj H
   go_enter Tryz.func21,Tryz.ntmps21
   go_wp2_with (first | ((with_reducible refine gate_callee (f:=25) rfl ?_);refine goesL_ (some 8) rfl rfl Tryz.func25 (by kernel_rfl) rfl #[.int .u64 (IntKind.u64.wrap (wrap64 (-a0)))] rfl (by (try simp only [List.map_toArray,List.map_cons,List.map_nil]);first | done | rfl | (simp only [List.length_drop,List.length_take];rfl)) ?_;(with_reducible refine (cellaretref1_Text.calls k (IntKind.u64.wrap (wrap64 (-a0))) qA _ A3.out).mono ?_);rintro e w5 ⟨rfl,hb⟩;refine ⟨_,rfl,?_⟩;have n0_:=M0 (below_step bBY12 hb);clear HB;have HB:=n0_;clear n0_;(try clear hb);(try clear hb2);(try clear hk);(try clear hi)))
   go_ret
   exact ⟨by first | rfl | (simp [errW_none,errW_some]<;>rfl) | (simp [*,errW_none,errW_some]<;>rfl),bBY12⟩
  ·rw [if_neg c4] at H
   exact absurd H (by simp)
 ·rw [if_neg c2] at H
  have c2b0:decide (a0 < 0)=false:=decide_eq_false c2
  clear c2
  replace H:=Option.bind_eq_some_iff.mp H
  obtain ⟨qB,A60,H⟩:=H
  replace H:(some qB)=some r:=H
  have A6:=M0 A60
  clear A60
  obtain rfl:=Option.some.inj H
  go_enter Tryz.func21,Tryz.ntmps21
  go_wp2_with (first | ((with_reducible refine gate_callee (f:=25) rfl ?_);refine goesL_ (some 12) rfl rfl Tryz.func25 (by kernel_rfl) rfl #[.int .u64 (IntKind.u64.wrap (a0))] rfl (by (try simp only [List.map_toArray,List.map_cons,List.map_nil]);first | done | rfl | (simp only [List.length_drop,List.length_take];rfl)) ?_;(with_reducible refine (cellaretref1_Text.calls k (IntKind.u64.wrap (a0)) qB _ A6.out).mono ?_);rintro e w7 ⟨rfl,hb⟩;refine ⟨_,rfl,?_⟩;have n0_:=M0 (below_step bBY12 hb);clear HB;have HB:=n0_;clear n0_;(try clear hb);(try clear hb2);(try clear hk);(try clear hi)))
  go_ret
  exact ⟨by first | rfl | (simp [errW_none,errW_some]<;>rfl) | (simp [*,errW_none,errW_some]<;>rfl),bBY12⟩

end Go.Proofs.YtfbhlbchmenloaaGreatDoor.H
-- thinned
end
section
namespace Go.Proofs.YtfbhlbchmenloaaGreatDoor.H
open Go.RowKit Go.Proofs.YtfbhlbchmenloaaGreatDoorW.PrintWords Go.Proofs.YtfbhlbchmenloaaGreatDoorW.PrintLast Go.Proofs.YtfbhlbchmenloaaGreatDoorW.PrintMore
attribute [local go_sem] max2_int min2_int max_two min_two max_three min_three max_four min_four   -- for this text's walks alone
set_option linter.unusedVariables false
set_option linter.unusedSimpArgs false

/-! ### cellaretlaw18_written: function 10 -/
mutual
def cellaretlaw18_written.j0:Nat→ByteArray→Bool→ByteArray→ByteArray→List ByteArray→ByteArray→Int→Int→Int→Int→Bool→Bool→Bool→Bool→Option (ByteArray)
  | 0,_,_,_,_,_,_,_,_,_,_,_,_,_,_=>none
  | k + 1,x3,x13,x146000,x146001,x146002,x146003,x146004,x146005,x146006,x146007,x146008,x146009,x146010,x146011=>if x13=true then (if x3.size + 1≤9223372036854775807 then ((cellaretlaw18_signed.f k x146005).bind fun t147=>(if (x3++(⟨#[32]⟩:ByteArray)).size + t147.size≤9223372036854775807 then (cellaretlaw18_written.j1 k ((x3++(⟨#[32]⟩:ByteArray))++t147) x146000 x146001 x146002 x146003 x146004 x146005 x146006 x146007 x146008 x146009 x146010 x146011) else (none))) else (none)) else (cellaretlaw18_written.j1 k x3 x146000 x146001 x146002 x146003 x146004 x146005 x146006 x146007 x146008 x146009 x146010 x146011)
def cellaretlaw18_written.j1:Nat→ByteArray→ByteArray→ByteArray→List ByteArray→ByteArray→Int→Int→Int→Int→Bool→Bool→Bool→Bool→Option (ByteArray)
  | 0,_,_,_,_,_,_,_,_,_,_,_,_,_=>none
  | k + 1,x3,x146000,x146001,x146002,x146003,x146004,x146005,x146006,x146007,x146008,x146009,x146010,x146011=>if x146000.toList=([102,108,117,115,104]:List UInt8) then (cellaretlaw18_written.j2 k x3 false x146000 x146001 x146002 x146003 x146004 x146005 x146006 x146007 x146008 x146009 x146010 x146011) else (cellaretlaw18_written.j2 k x3 (x146000.toList != ([119,111,114,100]:List UInt8)) x146000 x146001 x146002 x146003 x146004 x146005 x146006 x146007 x146008 x146009 x146010 x146011)
def cellaretlaw18_written.j2:Nat→ByteArray→Bool→ByteArray→ByteArray→List ByteArray→ByteArray→Int→Int→Int→Int→Bool→Bool→Bool→Bool→Option (ByteArray)
  | 0,_,_,_,_,_,_,_,_,_,_,_,_,_,_=>none
  | k + 1,x3,x27,x146000,x146001,x146002,x146003,x146004,x146005,x146006,x146007,x146008,x146009,x146010,x146011=>if x27=true then (cellaretlaw18_written.l0 k x3 0 x146000 x146001 x146002 x146003 x146004 x146005 x146006 x146007 x146008 x146009 x146010 x146011) else (cellaretlaw18_written.j4 k x3 x146000 x146001 x146002 x146003 x146004 x146005 x146006 x146007 x146008 x146009 x146010 x146011)
def cellaretlaw18_written.j4:Nat→ByteArray→ByteArray→ByteArray→List ByteArray→ByteArray→Int→Int→Int→Int→Bool→Bool→Bool→Bool→Option (ByteArray)
  | 0,_,_,_,_,_,_,_,_,_,_,_,_,_=>none
  | k + 1,x3,x146000,x146001,x146002,x146003,x146004,x146005,x146006,x146007,x146008,x146009,x146010,x146011=>if x146000.toList=([115,116,111,114,101]:List UInt8) then (if x3.size + 1≤9223372036854775807 then ((cellaretref1_Text.f k (IntKind.u64.wrap (x146004))).bind fun t149=>(if (x3++(⟨#[32]⟩:ByteArray)).size + t149.size≤9223372036854775807 then (if ((x3++(⟨#[32]⟩:ByteArray))++t149).size + 1≤9223372036854775807 then ((cellaretlaw18_signed.f k x146005).bind fun t150=>(if (((x3++(⟨#[32]⟩:ByteArray))++t149)++(⟨#[32]⟩:ByteArray)).size + t150.size≤9223372036854775807 then (if ((((x3++(⟨#[32]⟩:ByteArray))++t149)++(⟨#[32]⟩:ByteArray))++t150).size + 1≤9223372036854775807 then ((cellaretref1_Text.f k (IntKind.u64.wrap ((x146003.size:Int)))).bind fun t151=>(if (((((x3++(⟨#[32]⟩:ByteArray))++t149)++(⟨#[32]⟩:ByteArray))++t150)++(⟨#[32]⟩:ByteArray)).size + t151.size≤9223372036854775807 then (if x146001.toList=([99,97,115]:List UInt8) then (if ((((((x3++(⟨#[32]⟩:ByteArray))++t149)++(⟨#[32]⟩:ByteArray))++t150)++(⟨#[32]⟩:ByteArray))++t151).size + 1≤9223372036854775807 then ((cellaretref1_Text.f k x146006).bind fun t152=>(if (((((((x3++(⟨#[32]⟩:ByteArray))++t149)++(⟨#[32]⟩:ByteArray))++t150)++(⟨#[32]⟩:ByteArray))++t151)++(⟨#[32]⟩:ByteArray)).size + t152.size≤9223372036854775807 then (cellaretlaw18_written.j5 k ((((((((x3++(⟨#[32]⟩:ByteArray))++t149)++(⟨#[32]⟩:ByteArray))++t150)++(⟨#[32]⟩:ByteArray))++t151)++(⟨#[32]⟩:ByteArray))++t152) x146000 x146001 x146002 x146003 x146004 x146005 x146006 x146007 x146008 x146009 x146010 x146011) else (none))) else (none)) else (cellaretlaw18_written.j5 k ((((((x3++(⟨#[32]⟩:ByteArray))++t149)++(⟨#[32]⟩:ByteArray))++t150)++(⟨#[32]⟩:ByteArray))++t151) x146000 x146001 x146002 x146003 x146004 x146005 x146006 x146007 x146008 x146009 x146010 x146011)) else (none))) else (none)) else (none))) else (none)) else (none))) else (none)) else (if x146000.toList=([97,114,105,116,104]:List UInt8) then (if x3.size + 1≤9223372036854775807 then ((cellaretref1_Text.f k x146007).bind fun t153=>(if (x3++(⟨#[32]⟩:ByteArray)).size + t153.size≤9223372036854775807 then (cellaretlaw18_written.j5 k ((x3++(⟨#[32]⟩:ByteArray))++t153) x146000 x146001 x146002 x146003 x146004 x146005 x146006 x146007 x146008 x146009 x146010 x146011) else (none))) else (none)) else (if x146000.toList=([116,111,117,99,104]:List UInt8) then (if x3.size + 1≤9223372036854775807 then ((cellaretlaw18_signed.f k x146005).bind fun t154=>(if (x3++(⟨#[32]⟩:ByteArray)).size + t154.size≤9223372036854775807 then (cellaretlaw18_written.j5 k ((x3++(⟨#[32]⟩:ByteArray))++t154) x146000 x146001 x146002 x146003 x146004 x146005 x146006 x146007 x146008 x146009 x146010 x146011) else (none))) else (none)) else (if x146000.toList=([98,97,100]:List UInt8) then (some (⟨#[]⟩:ByteArray)) else (if x146000.toList=([]:List UInt8) then (some (⟨#[]⟩:ByteArray)) else (cellaretlaw18_written.j5 k x3 x146000 x146001 x146002 x146003 x146004 x146005 x146006 x146007 x146008 x146009 x146010 x146011)))))
def cellaretlaw18_written.j5:Nat→ByteArray→ByteArray→ByteArray→List ByteArray→ByteArray→Int→Int→Int→Int→Bool→Bool→Bool→Bool→Option (ByteArray)
  | 0,_,_,_,_,_,_,_,_,_,_,_,_,_=>none
  | k + 1,x3,x146000,x146001,x146002,x146003,x146004,x146005,x146006,x146007,x146008,x146009,x146010,x146011=>if x146011=true then (if x146000.toList=([103,101,116]:List UInt8) then (cellaretlaw18_written.j6 k x3 false x146000 x146001 x146002 x146003 x146004 x146005 x146006 x146007 x146008 x146009 x146010 x146011) else (cellaretlaw18_written.j6 k x3 (x146000.toList != ([119,111,114,100]:List UInt8)) x146000 x146001 x146002 x146003 x146004 x146005 x146006 x146007 x146008 x146009 x146010 x146011)) else (cellaretlaw18_written.j6 k x3 false x146000 x146001 x146002 x146003 x146004 x146005 x146006 x146007 x146008 x146009 x146010 x146011)
def cellaretlaw18_written.j6:Nat→ByteArray→Bool→ByteArray→ByteArray→List ByteArray→ByteArray→Int→Int→Int→Int→Bool→Bool→Bool→Bool→Option (ByteArray)
  | 0,_,_,_,_,_,_,_,_,_,_,_,_,_,_=>none
  | k + 1,x3,x105,x146000,x146001,x146002,x146003,x146004,x146005,x146006,x146007,x146008,x146009,x146010,x146011=>if x105=true then (if x3.size + 8≤9223372036854775807 then (if (x3++(⟨#[32,110,111,114,101,112,108,121]⟩:ByteArray)).size + 2≤9223372036854775807 then (if x146000.toList=([115,116,111,114,101]:List UInt8) then (if ((x3++(⟨#[32,110,111,114,101,112,108,121]⟩:ByteArray))++(⟨#[13,10]⟩:ByteArray)).size + x146003.size≤9223372036854775807 then (if (((x3++(⟨#[32,110,111,114,101,112,108,121]⟩:ByteArray))++(⟨#[13,10]⟩:ByteArray))++x146003).size + 2≤9223372036854775807 then (some ((((x3++(⟨#[32,110,111,114,101,112,108,121]⟩:ByteArray))++(⟨#[13,10]⟩:ByteArray))++x146003)++(⟨#[13,10]⟩:ByteArray))) else (none)) else (none)) else (some ((x3++(⟨#[32,110,111,114,101,112,108,121]⟩:ByteArray))++(⟨#[13,10]⟩:ByteArray)))) else (none)) else (none)) else (if x3.size + 2≤9223372036854775807 then (if x146000.toList=([115,116,111,114,101]:List UInt8) then (if (x3++(⟨#[13,10]⟩:ByteArray)).size + x146003.size≤9223372036854775807 then (if ((x3++(⟨#[13,10]⟩:ByteArray))++x146003).size + 2≤9223372036854775807 then (some (((x3++(⟨#[13,10]⟩:ByteArray))++x146003)++(⟨#[13,10]⟩:ByteArray))) else (none)) else (none)) else (some (x3++(⟨#[13,10]⟩:ByteArray)))) else (none))
def cellaretlaw18_written.l0:Nat→ByteArray→Int→ByteArray→ByteArray→List ByteArray→ByteArray→Int→Int→Int→Int→Bool→Bool→Bool→Bool→Option (ByteArray)
  | 0,_,_,_,_,_,_,_,_,_,_,_,_,_,_=>none
  | k + 1,x3,x4,x146000,x146001,x146002,x146003,x146004,x146005,x146006,x146007,x146008,x146009,x146010,x146011=>if x4 < (x146002.length:Int) then (if x3.size + 1≤9223372036854775807 then (if 0≤x4 then (if (x3++(⟨#[32]⟩:ByteArray)).size + (rdOf ByteArray.empty x146002 x4).size≤9223372036854775807 then (cellaretlaw18_written.l0 k ((x3++(⟨#[32]⟩:ByteArray))++(rdOf ByteArray.empty x146002 x4)) (wrap64 (x4 + 1)) x146000 x146001 x146002 x146003 x146004 x146005 x146006 x146007 x146008 x146009 x146010 x146011) else (none)) else (none)) else (none)) else (cellaretlaw18_written.j4 k x3 x146000 x146001 x146002 x146003 x146004 x146005 x146006 x146007 x146008 x146009 x146010 x146011)
end
def cellaretlaw18_written.f (k:Nat) (a0_0:ByteArray) (a0_1:ByteArray) (l0_2:List ByteArray) (a0_3:ByteArray) (a0_4:Int) (a0_5:Int) (a0_6:Int) (a0_7:Int) (a0_8:Bool) (a0_9:Bool) (a0_10:Bool) (a0_11:Bool):Option (ByteArray):=(cellaretref18_Name.f k a0_0 a0_1 l0_2 a0_3 a0_4 a0_5 a0_6 a0_7 a0_8 a0_9 a0_10 a0_11).bind fun t146=>(if a0_0.toList=([103,101,116]:List UInt8) then (cellaretlaw18_written.j0 k t146 a0_9 a0_0 a0_1 l0_2 a0_3 a0_4 a0_5 a0_6 a0_7 a0_8 a0_9 a0_10 a0_11) else (cellaretlaw18_written.j0 k t146 false a0_0 a0_1 l0_2 a0_3 a0_4 a0_5 a0_6 a0_7 a0_8 a0_9 a0_10 a0_11))
theorem cellaretlaw18_written.mono_l:∀ k,(∀ y0 y1 y2 y3 y4 y5 y6 y7 y8 y9 y10 y11 y12 y13,LeO (cellaretlaw18_written.j0 k y0 y1 y2 y3 y4 y5 y6 y7 y8 y9 y10 y11 y12 y13) (cellaretlaw18_written.j0 (k + 1) y0 y1 y2 y3 y4 y5 y6 y7 y8 y9 y10 y11 y12 y13))∧(∀ y0 y1 y2 y3 y4 y5 y6 y7 y8 y9 y10 y11 y12,LeO (cellaretlaw18_written.j1 k y0 y1 y2 y3 y4 y5 y6 y7 y8 y9 y10 y11 y12) (cellaretlaw18_written.j1 (k + 1) y0 y1 y2 y3 y4 y5 y6 y7 y8 y9 y10 y11 y12))∧(∀ y0 y1 y2 y3 y4 y5 y6 y7 y8 y9 y10 y11 y12 y13,LeO (cellaretlaw18_written.j2 k y0 y1 y2 y3 y4 y5 y6 y7 y8 y9 y10 y11 y12 y13) (cellaretlaw18_written.j2 (k + 1) y0 y1 y2 y3 y4 y5 y6 y7 y8 y9 y10 y11 y12 y13))∧(∀ y0 y1 y2 y3 y4 y5 y6 y7 y8 y9 y10 y11 y12,LeO (cellaretlaw18_written.j4 k y0 y1 y2 y3 y4 y5 y6 y7 y8 y9 y10 y11 y12) (cellaretlaw18_written.j4 (k + 1) y0 y1 y2 y3 y4 y5 y6 y7 y8 y9 y10 y11 y12))∧(∀ y0 y1 y2 y3 y4 y5 y6 y7 y8 y9 y10 y11 y12,LeO (cellaretlaw18_written.j5 k y0 y1 y2 y3 y4 y5 y6 y7 y8 y9 y10 y11 y12) (cellaretlaw18_written.j5 (k + 1) y0 y1 y2 y3 y4 y5 y6 y7 y8 y9 y10 y11 y12))∧(∀ y0 y1 y2 y3 y4 y5 y6 y7 y8 y9 y10 y11 y12 y13,LeO (cellaretlaw18_written.j6 k y0 y1 y2 y3 y4 y5 y6 y7 y8 y9 y10 y11 y12 y13) (cellaretlaw18_written.j6 (k + 1) y0 y1 y2 y3 y4 y5 y6 y7 y8 y9 y10 y11 y12 y13))∧(∀ y0 y1 y2 y3 y4 y5 y6 y7 y8 y9 y10 y11 y12 y13,LeO (cellaretlaw18_written.l0 k y0 y1 y2 y3 y4 y5 y6 y7 y8 y9 y10 y11 y12 y13) (cellaretlaw18_written.l0 (k + 1) y0 y1 y2 y3 y4 y5 y6 y7 y8 y9 y10 y11 y12 y13))
  | 0=>⟨fun _ _ _ _ _ _ _ _ _ _ _ _ _ _ r h=>by simp [cellaretlaw18_written.j0] at h,fun _ _ _ _ _ _ _ _ _ _ _ _ _ r h=>by simp [cellaretlaw18_written.j1] at h,fun _ _ _ _ _ _ _ _ _ _ _ _ _ _ r h=>by simp [cellaretlaw18_written.j2] at h,fun _ _ _ _ _ _ _ _ _ _ _ _ _ r h=>by simp [cellaretlaw18_written.j4] at h,fun _ _ _ _ _ _ _ _ _ _ _ _ _ r h=>by simp [cellaretlaw18_written.j5] at h,fun _ _ _ _ _ _ _ _ _ _ _ _ _ _ r h=>by simp [cellaretlaw18_written.j6] at h,fun _ _ _ _ _ _ _ _ _ _ _ _ _ _ r h=>by simp [cellaretlaw18_written.l0] at h⟩
  | k + 1=>by
    obtain ⟨ih0,ih1,ih2,ih3,ih4,ih5,ih6⟩:=cellaretlaw18_written.mono_l k
    refine ⟨?_,?_,?_,?_,?_,?_,?_⟩
    · intro y0 y1 y2 y3 y4 y5 y6 y7 y8 y9 y10 y11 y12 y13
      unfold cellaretlaw18_written.j0
      repeat' first
      | (with_reducible exact ih0 _ _ _ _ _ _ _ _ _ _ _ _ _ _)
      | (with_reducible exact ih1 _ _ _ _ _ _ _ _ _ _ _ _ _)
      | (with_reducible exact ih2 _ _ _ _ _ _ _ _ _ _ _ _ _ _)
      | (with_reducible exact ih3 _ _ _ _ _ _ _ _ _ _ _ _ _)
      | (with_reducible exact ih4 _ _ _ _ _ _ _ _ _ _ _ _ _)
      | (with_reducible exact ih5 _ _ _ _ _ _ _ _ _ _ _ _ _ _)
      | (with_reducible exact ih6 _ _ _ _ _ _ _ _ _ _ _ _ _ _)
      | (with_reducible exact cellaretlaw18_signed.mono _ _)
      | (with_reducible exact cellaretref18_Name.mono _ _ _ _ _ _ _ _ _ _ _ _ _)
      | (with_reducible exact cellaretref1_Text.mono _ _)
      | (with_reducible exact LeO.refl _)
      | (with_reducible exact LeO.none _)
      | (with_reducible refine LeO.ite ?_ ?_)
      | (with_reducible refine LeO.bind ?_ (fun _=>?_))
      | exact ih0 _ _ _ _ _ _ _ _ _ _ _ _ _ _
      | exact ih1 _ _ _ _ _ _ _ _ _ _ _ _ _
      | exact ih2 _ _ _ _ _ _ _ _ _ _ _ _ _ _
      | exact ih3 _ _ _ _ _ _ _ _ _ _ _ _ _
      | exact ih4 _ _ _ _ _ _ _ _ _ _ _ _ _
      | exact ih5 _ _ _ _ _ _ _ _ _ _ _ _ _ _
      | exact ih6 _ _ _ _ _ _ _ _ _ _ _ _ _ _
      | exact cellaretlaw18_signed.mono _ _
      | exact cellaretref18_Name.mono _ _ _ _ _ _ _ _ _ _ _ _ _
      | exact cellaretref1_Text.mono _ _
      | exact LeO.none _
      | refine LeO.ite ?_ ?_
      | refine LeO.bind ?_ (fun _=>?_)
    · intro y0 y1 y2 y3 y4 y5 y6 y7 y8 y9 y10 y11 y12
      unfold cellaretlaw18_written.j1
      repeat' first
      | (with_reducible exact ih0 _ _ _ _ _ _ _ _ _ _ _ _ _ _)
      | (with_reducible exact ih1 _ _ _ _ _ _ _ _ _ _ _ _ _)
      | (with_reducible exact ih2 _ _ _ _ _ _ _ _ _ _ _ _ _ _)
      | (with_reducible exact ih3 _ _ _ _ _ _ _ _ _ _ _ _ _)
      | (with_reducible exact ih4 _ _ _ _ _ _ _ _ _ _ _ _ _)
      | (with_reducible exact ih5 _ _ _ _ _ _ _ _ _ _ _ _ _ _)
      | (with_reducible exact ih6 _ _ _ _ _ _ _ _ _ _ _ _ _ _)
      | (with_reducible exact cellaretlaw18_signed.mono _ _)
      | (with_reducible exact cellaretref18_Name.mono _ _ _ _ _ _ _ _ _ _ _ _ _)
      | (with_reducible exact cellaretref1_Text.mono _ _)
      | (with_reducible exact LeO.refl _)
      | (with_reducible exact LeO.none _)
      | (with_reducible refine LeO.ite ?_ ?_)
      | (with_reducible refine LeO.bind ?_ (fun _=>?_))
      | exact ih0 _ _ _ _ _ _ _ _ _ _ _ _ _ _
      | exact ih1 _ _ _ _ _ _ _ _ _ _ _ _ _
      | exact ih2 _ _ _ _ _ _ _ _ _ _ _ _ _ _
      | exact ih3 _ _ _ _ _ _ _ _ _ _ _ _ _
      | exact ih4 _ _ _ _ _ _ _ _ _ _ _ _ _
      | exact ih5 _ _ _ _ _ _ _ _ _ _ _ _ _ _
      | exact ih6 _ _ _ _ _ _ _ _ _ _ _ _ _ _
      | exact cellaretlaw18_signed.mono _ _
      | exact cellaretref18_Name.mono _ _ _ _ _ _ _ _ _ _ _ _ _
      | exact cellaretref1_Text.mono _ _
      | exact LeO.none _
      | refine LeO.ite ?_ ?_
      | refine LeO.bind ?_ (fun _=>?_)
    · intro y0 y1 y2 y3 y4 y5 y6 y7 y8 y9 y10 y11 y12 y13
      unfold cellaretlaw18_written.j2
      repeat' first
      | (with_reducible exact ih0 _ _ _ _ _ _ _ _ _ _ _ _ _ _)
      | (with_reducible exact ih1 _ _ _ _ _ _ _ _ _ _ _ _ _)
      | (with_reducible exact ih2 _ _ _ _ _ _ _ _ _ _ _ _ _ _)
      | (with_reducible exact ih3 _ _ _ _ _ _ _ _ _ _ _ _ _)
      | (with_reducible exact ih4 _ _ _ _ _ _ _ _ _ _ _ _ _)
      | (with_reducible exact ih5 _ _ _ _ _ _ _ _ _ _ _ _ _ _)
      | (with_reducible exact ih6 _ _ _ _ _ _ _ _ _ _ _ _ _ _)
      | (with_reducible exact cellaretlaw18_signed.mono _ _)
      | (with_reducible exact cellaretref18_Name.mono _ _ _ _ _ _ _ _ _ _ _ _ _)
      | (with_reducible exact cellaretref1_Text.mono _ _)
      | (with_reducible exact LeO.refl _)
      | (with_reducible exact LeO.none _)
      | (with_reducible refine LeO.ite ?_ ?_)
      | (with_reducible refine LeO.bind ?_ (fun _=>?_))
      | exact ih0 _ _ _ _ _ _ _ _ _ _ _ _ _ _
      | exact ih1 _ _ _ _ _ _ _ _ _ _ _ _ _
      | exact ih2 _ _ _ _ _ _ _ _ _ _ _ _ _ _
      | exact ih3 _ _ _ _ _ _ _ _ _ _ _ _ _
      | exact ih4 _ _ _ _ _ _ _ _ _ _ _ _ _
      | exact ih5 _ _ _ _ _ _ _ _ _ _ _ _ _ _
      | exact ih6 _ _ _ _ _ _ _ _ _ _ _ _ _ _
      | exact cellaretlaw18_signed.mono _ _
      | exact cellaretref18_Name.mono _ _ _ _ _ _ _ _ _ _ _ _ _
      | exact cellaretref1_Text.mono _ _
      | exact LeO.none _
      | refine LeO.ite ?_ ?_
      | refine LeO.bind ?_ (fun _=>?_)
    · intro y0 y1 y2 y3 y4 y5 y6 y7 y8 y9 y10 y11 y12
      unfold cellaretlaw18_written.j4
      repeat' first
      | (with_reducible exact ih0 _ _ _ _ _ _ _ _ _ _ _ _ _ _)
      | (with_reducible exact ih1 _ _ _ _ _ _ _ _ _ _ _ _ _)
      | (with_reducible exact ih2 _ _ _ _ _ _ _ _ _ _ _ _ _ _)
      | (with_reducible exact ih3 _ _ _ _ _ _ _ _ _ _ _ _ _)
      | (with_reducible exact ih4 _ _ _ _ _ _ _ _ _ _ _ _ _)
      | (with_reducible exact ih5 _ _ _ _ _ _ _ _ _ _ _ _ _ _)
      | (with_reducible exact ih6 _ _ _ _ _ _ _ _ _ _ _ _ _ _)
      | (with_reducible exact cellaretlaw18_signed.mono _ _)
      | (with_reducible exact cellaretref18_Name.mono _ _ _ _ _ _ _ _ _ _ _ _ _)
      | (with_reducible exact cellaretref1_Text.mono _ _)
      | (with_reducible exact LeO.refl _)
      | (with_reducible exact LeO.none _)
      | (with_reducible refine LeO.ite ?_ ?_)
      | (with_reducible refine LeO.bind ?_ (fun _=>?_))
      | exact ih0 _ _ _ _ _ _ _ _ _ _ _ _ _ _
      | exact ih1 _ _ _ _ _ _ _ _ _ _ _ _ _
      | exact ih2 _ _ _ _ _ _ _ _ _ _ _ _ _ _
      | exact ih3 _ _ _ _ _ _ _ _ _ _ _ _ _
      | exact ih4 _ _ _ _ _ _ _ _ _ _ _ _ _
      | exact ih5 _ _ _ _ _ _ _ _ _ _ _ _ _ _
      | exact ih6 _ _ _ _ _ _ _ _ _ _ _ _ _ _
      | exact cellaretlaw18_signed.mono _ _
      | exact cellaretref18_Name.mono _ _ _ _ _ _ _ _ _ _ _ _ _
      | exact cellaretref1_Text.mono _ _
      | exact LeO.none _
      | refine LeO.ite ?_ ?_
      | refine LeO.bind ?_ (fun _=>?_)
    · intro y0 y1 y2 y3 y4 y5 y6 y7 y8 y9 y10 y11 y12
      unfold cellaretlaw18_written.j5
      repeat' first
      | (with_reducible exact ih0 _ _ _ _ _ _ _ _ _ _ _ _ _ _)
      | (with_reducible exact ih1 _ _ _ _ _ _ _ _ _ _ _ _ _)
      | (with_reducible exact ih2 _ _ _ _ _ _ _ _ _ _ _ _ _ _)
      | (with_reducible exact ih3 _ _ _ _ _ _ _ _ _ _ _ _ _)
      | (with_reducible exact ih4 _ _ _ _ _ _ _ _ _ _ _ _ _)
      | (with_reducible exact ih5 _ _ _ _ _ _ _ _ _ _ _ _ _ _)
      | (with_reducible exact ih6 _ _ _ _ _ _ _ _ _ _ _ _ _ _)
      | (with_reducible exact cellaretlaw18_signed.mono _ _)
      | (with_reducible exact cellaretref18_Name.mono _ _ _ _ _ _ _ _ _ _ _ _ _)
      | (with_reducible exact cellaretref1_Text.mono _ _)
      | (with_reducible exact LeO.refl _)
      | (with_reducible exact LeO.none _)
      | (with_reducible refine LeO.ite ?_ ?_)
      | (with_reducible refine LeO.bind ?_ (fun _=>?_))
      | exact ih0 _ _ _ _ _ _ _ _ _ _ _ _ _ _
      | exact ih1 _ _ _ _ _ _ _ _ _ _ _ _ _
      | exact ih2 _ _ _ _ _ _ _ _ _ _ _ _ _ _
      | exact ih3 _ _ _ _ _ _ _ _ _ _ _ _ _
      | exact ih4 _ _ _ _ _ _ _ _ _ _ _ _ _
      | exact ih5 _ _ _ _ _ _ _ _ _ _ _ _ _ _
      | exact ih6 _ _ _ _ _ _ _ _ _ _ _ _ _ _
      | exact cellaretlaw18_signed.mono _ _
      | exact cellaretref18_Name.mono _ _ _ _ _ _ _ _ _ _ _ _ _
      | exact cellaretref1_Text.mono _ _
      | exact LeO.none _
      | refine LeO.ite ?_ ?_
      | refine LeO.bind ?_ (fun _=>?_)
    · intro y0 y1 y2 y3 y4 y5 y6 y7 y8 y9 y10 y11 y12 y13
      unfold cellaretlaw18_written.j6
      repeat' first
      | (with_reducible exact ih0 _ _ _ _ _ _ _ _ _ _ _ _ _ _)
      | (with_reducible exact ih1 _ _ _ _ _ _ _ _ _ _ _ _ _)
      | (with_reducible exact ih2 _ _ _ _ _ _ _ _ _ _ _ _ _ _)
      | (with_reducible exact ih3 _ _ _ _ _ _ _ _ _ _ _ _ _)
      | (with_reducible exact ih4 _ _ _ _ _ _ _ _ _ _ _ _ _)
      | (with_reducible exact ih5 _ _ _ _ _ _ _ _ _ _ _ _ _ _)
      | (with_reducible exact ih6 _ _ _ _ _ _ _ _ _ _ _ _ _ _)
      | (with_reducible exact cellaretlaw18_signed.mono _ _)
      | (with_reducible exact cellaretref18_Name.mono _ _ _ _ _ _ _ _ _ _ _ _ _)
      | (with_reducible exact cellaretref1_Text.mono _ _)
      | (with_reducible exact LeO.refl _)
      | (with_reducible exact LeO.none _)
      | (with_reducible refine LeO.ite ?_ ?_)
      | (with_reducible refine LeO.bind ?_ (fun _=>?_))
      | exact ih0 _ _ _ _ _ _ _ _ _ _ _ _ _ _
      | exact ih1 _ _ _ _ _ _ _ _ _ _ _ _ _
      | exact ih2 _ _ _ _ _ _ _ _ _ _ _ _ _ _
      | exact ih3 _ _ _ _ _ _ _ _ _ _ _ _ _
      | exact ih4 _ _ _ _ _ _ _ _ _ _ _ _ _
      | exact ih5 _ _ _ _ _ _ _ _ _ _ _ _ _ _
      | exact ih6 _ _ _ _ _ _ _ _ _ _ _ _ _ _
      | exact cellaretlaw18_signed.mono _ _
      | exact cellaretref18_Name.mono _ _ _ _ _ _ _ _ _ _ _ _ _
      | exact cellaretref1_Text.mono _ _
      | exact LeO.none _
      | refine LeO.ite ?_ ?_
      | refine LeO.bind ?_ (fun _=>?_)
    · intro y0 y1 y2 y3 y4 y5 y6 y7 y8 y9 y10 y11 y12 y13
      unfold cellaretlaw18_written.l0
      repeat' first
      | (with_reducible exact ih0 _ _ _ _ _ _ _ _ _ _ _ _ _ _)
      | (with_reducible exact ih1 _ _ _ _ _ _ _ _ _ _ _ _ _)
      | (with_reducible exact ih2 _ _ _ _ _ _ _ _ _ _ _ _ _ _)
      | (with_reducible exact ih3 _ _ _ _ _ _ _ _ _ _ _ _ _)
      | (with_reducible exact ih4 _ _ _ _ _ _ _ _ _ _ _ _ _)
      | (with_reducible exact ih5 _ _ _ _ _ _ _ _ _ _ _ _ _ _)
      | (with_reducible exact ih6 _ _ _ _ _ _ _ _ _ _ _ _ _ _)
      | (with_reducible exact cellaretlaw18_signed.mono _ _)
      | (with_reducible exact cellaretref18_Name.mono _ _ _ _ _ _ _ _ _ _ _ _ _)
      | (with_reducible exact cellaretref1_Text.mono _ _)
      | (with_reducible exact LeO.refl _)
      | (with_reducible exact LeO.none _)
      | (with_reducible refine LeO.ite ?_ ?_)
      | (with_reducible refine LeO.bind ?_ (fun _=>?_))
      | exact ih0 _ _ _ _ _ _ _ _ _ _ _ _ _ _
      | exact ih1 _ _ _ _ _ _ _ _ _ _ _ _ _
      | exact ih2 _ _ _ _ _ _ _ _ _ _ _ _ _ _
      | exact ih3 _ _ _ _ _ _ _ _ _ _ _ _ _
      | exact ih4 _ _ _ _ _ _ _ _ _ _ _ _ _
      | exact ih5 _ _ _ _ _ _ _ _ _ _ _ _ _ _
      | exact ih6 _ _ _ _ _ _ _ _ _ _ _ _ _ _
      | exact cellaretlaw18_signed.mono _ _
      | exact cellaretref18_Name.mono _ _ _ _ _ _ _ _ _ _ _ _ _
      | exact cellaretref1_Text.mono _ _
      | exact LeO.none _
      | refine LeO.ite ?_ ?_
      | refine LeO.bind ?_ (fun _=>?_)
theorem cellaretlaw18_written.mono:∀ a0 a1 a2 a3 a4 a5 a6 a7 a8 a9 a10 a11 k,LeO (cellaretlaw18_written.f k a0 a1 a2 a3 a4 a5 a6 a7 a8 a9 a10 a11) (cellaretlaw18_written.f (k + 1) a0 a1 a2 a3 a4 a5 a6 a7 a8 a9 a10 a11):=by
  intro a0 a1 a2 a3 a4 a5 a6 a7 a8 a9 a10 a11 k
  obtain ⟨ih0,ih1,ih2,ih3,ih4,ih5,ih6⟩:=cellaretlaw18_written.mono_l k
  unfold cellaretlaw18_written.f
  repeat' first
      | (with_reducible exact ih0 _ _ _ _ _ _ _ _ _ _ _ _ _ _)
      | (with_reducible exact ih1 _ _ _ _ _ _ _ _ _ _ _ _ _)
      | (with_reducible exact ih2 _ _ _ _ _ _ _ _ _ _ _ _ _ _)
      | (with_reducible exact ih3 _ _ _ _ _ _ _ _ _ _ _ _ _)
      | (with_reducible exact ih4 _ _ _ _ _ _ _ _ _ _ _ _ _)
      | (with_reducible exact ih5 _ _ _ _ _ _ _ _ _ _ _ _ _ _)
      | (with_reducible exact ih6 _ _ _ _ _ _ _ _ _ _ _ _ _ _)
      | (with_reducible exact cellaretlaw18_signed.mono _ _)
      | (with_reducible exact cellaretref18_Name.mono _ _ _ _ _ _ _ _ _ _ _ _ _)
      | (with_reducible exact cellaretref1_Text.mono _ _)
      | (with_reducible exact LeO.refl _)
      | (with_reducible exact LeO.none _)
      | (with_reducible refine LeO.ite ?_ ?_)
      | (with_reducible refine LeO.bind ?_ (fun _=>?_))
      | exact ih0 _ _ _ _ _ _ _ _ _ _ _ _ _ _
      | exact ih1 _ _ _ _ _ _ _ _ _ _ _ _ _
      | exact ih2 _ _ _ _ _ _ _ _ _ _ _ _ _ _
      | exact ih3 _ _ _ _ _ _ _ _ _ _ _ _ _
      | exact ih4 _ _ _ _ _ _ _ _ _ _ _ _ _
      | exact ih5 _ _ _ _ _ _ _ _ _ _ _ _ _ _
      | exact ih6 _ _ _ _ _ _ _ _ _ _ _ _ _ _
      | exact cellaretlaw18_signed.mono _ _
      | exact cellaretref18_Name.mono _ _ _ _ _ _ _ _ _ _ _ _ _
      | exact cellaretref1_Text.mono _ _
      | exact LeO.none _
      | refine LeO.ite ?_ ?_
      | refine LeO.bind ?_ (fun _=>?_)
def cellaretlaw18_written.T11:Bool×List (List Nat×List Nat):=(true,[([],[]),([0],[0]),([],[]),([2],[2]),([3],[3]),([4],[4]),([1,5],[1,5]),([6],[6]),([],[]),([8],[8]),([9,5],[9]),([7,10],[7,10]),([11],[11]),([],[]),([13],[13]),([14],[14]),([15],[15]),([16,10],[16]),([12,17],[12,17]),([18,17,0,1,2,3,4,5,6,7,8,9,10,11,12,13,14,15,16,17,18],[0,18])])
def cellaretlaw18_written.B11:List Nat:=[0,1,0,4,12,28,63,127,0,256,828,2047,4095,0,8192,24576,57344,124732,262143,524287]
theorem cellaretlaw18_written.tab11:rtab .any (opsOf Tryz.f10 11)=cellaretlaw18_written.T11:=by kernel_rfl
theorem cellaretlaw18_written.bits11:waitsOk cellaretlaw18_written.T11.2 cellaretlaw18_written.B11=true:=by kernel_rfl
theorem bBn14 {B:Nat} {w W:World} (h:Below B w W:=by repeat (first | (with_reducible first | exact HB.out | apply wA | apply wN | apply wD | refine below_set ?_ qD.out) | exact HB.out)):Below B w W:=h
set_option maxHeartbeats 8000000 in
set_option maxRecDepth 100000 in
theorem cellaretlaw18_written.calls (k:Nat) (a0_0:ByteArray) (a0_1:ByteArray) (A0_2:Option Addr) (c0_2:Nat) (l0_2:List ByteArray) (a0_3:ByteArray) (a0_4:Int) (a0_5:Int) (a0_6:Int) (a0_7:Int) (a0_8:Bool) (a0_9:Bool) (a0_10:Bool) (a0_11:Bool) (r:ByteArray) (w:World) (hr0_2:Kd.C Kd.string w A0_2 l0_2.length l0_2) (hc0_2:l0_2.length≤c0_2) (h:cellaretlaw18_written.f k a0_0 a0_1 l0_2 a0_3 a0_4 a0_5 a0_6 a0_7 a0_8 a0_9 a0_10 a0_11=some r) :
  Calls Tryz.prog 10 #[.agg #[.string a0_0,.string a0_1,.slice A0_2 l0_2.length c0_2,.string a0_3,.int .u32 a0_4,.int .i64 a0_5,.int .u64 a0_6,.int .u64 a0_7,.bool a0_8,.bool a0_9,.bool a0_10,.bool a0_11]] w fun e w'=>e=.returned (.string r)∧Below w.heap.size w w':=by
 have hu26:=Tryz.underlying26
 have HR0_2:=M0 hr0_2
 have HC0_2:=M0 hc0_2
 clear hr0_2 hc0_2
 have HB:=M0 (Below.refl w.heap.size w)
 have H:((cellaretref18_Name.f k a0_0 a0_1 l0_2 a0_3 a0_4 a0_5 a0_6 a0_7 a0_8 a0_9 a0_10 a0_11).bind fun qG=>(if a0_0.toList=([103,101,116]:List UInt8) then (cellaretlaw18_written.j0 k qG a0_9 a0_0 a0_1 l0_2 a0_3 a0_4 a0_5 a0_6 a0_7 a0_8 a0_9 a0_10 a0_11) else (cellaretlaw18_written.j0 k qG false a0_0 a0_1 l0_2 a0_3 a0_4 a0_5 a0_6 a0_7 a0_8 a0_9 a0_10 a0_11)))=some r:=h
 clear h
 replace H:=Option.bind_eq_some_iff.mp H
 obtain ⟨qG,A20,H⟩:=H
 replace H:(if a0_0.toList=([103,101,116]:List UInt8) then (cellaretlaw18_written.j0 k qG a0_9 a0_0 a0_1 l0_2 a0_3 a0_4 a0_5 a0_6 a0_7 a0_8 a0_9 a0_10 a0_11) else (cellaretlaw18_written.j0 k qG false a0_0 a0_1 l0_2 a0_3 a0_4 a0_5 a0_6 a0_7 a0_8 a0_9 a0_10 a0_11))=some r:=H
 have A2:=M0 A20
 clear A20
 have HC3:=M0 H
 clear H
 go_enter Tryz.func10,Tryz.ntmps10
 go_upto_region 2 with (first | ((with_reducible refine gate_dst (N:=1) rfl ?_);refine box_event ?hg (N:=1) ?hd (cs:=#[.string a0_0,.string a0_1,.slice A0_2 l0_2.length c0_2,.string a0_3,.int .u32 a0_4,.int .i64 a0_5,.int .u64 a0_6,.int .u64 a0_7,.bool a0_8,.bool a0_9,.bool a0_10,.bool a0_11]) (t:=26) ?hr ?_;(case hd=>rfl);(case hg=>rfl);(case hr=>first | (go_simp;done) | (go_simp;rfl));intro qB hg w4 hbox hb;have n0_:=M0 (below_step bBn14 hb);have n1_:=M0 (hbox);have n2_:=M0 ((by rw [hg];exact (below_size bBn14):w.heap.size≤qB));have n3_:=M0 ((by rw [hg];exact (below_size bBn14):w.heap.size≤qB));clear HB;have HB:=n0_;have qA:=n1_;have GW145:=n2_;have qD:=n3_;clear n0_ n1_ n2_ n3_;clear hb hbox hg;obtain ⟨qZ,qa,qb,qc,qd,qe,qf,qg,qh,qi,qJ,qK⟩:=celL qA.out;obtain ⟨qj,qk,ql,qm,qn,qo,qp,qq,qr,qs,qL,qM⟩:=froZ qA.out) | ((with_reducible refine gate_callee (f:=24) rfl ?_);refine goesL_ (some 6) rfl rfl Tryz.func24 (by kernel_rfl) rfl #[.agg #[.string a0_0,.string a0_1,.slice A0_2 l0_2.length c0_2,.string a0_3,.int .u32 a0_4,.int .i64 a0_5,.int .u64 a0_6,.int .u64 a0_7,.bool a0_8,.bool a0_9,.bool a0_10,.bool a0_11]] rfl (by (try simp only [List.map_toArray,List.map_cons,List.map_nil]);first | done | rfl | (simp only [List.length_drop,List.length_take];rfl)) ?_;(with_reducible refine (cellaretref18_Name.calls k a0_0 a0_1 _ _ l0_2 a0_3 a0_4 a0_5 a0_6 a0_7 a0_8 a0_9 a0_10 a0_11 qG _ ?side1 ?side2 A2.out).mono ?_);(case side1=>repeat (first | exact (Kd.C_below HR0_2.out HB.out) | (with_reducible refine Kd.C_alloc ?_ _) | (with_reducible refine Kd.C_drewN ?_ _) | (with_reducible refine Kd.C_drew ?_)));(case side2=>exact HC0_2.out);rintro e w6 ⟨rfl,hb⟩;refine ⟨_,rfl,?_⟩;have n0_:=M0 (blk_below (g:=qB) (o:=.cells #[.string a0_0,.string a0_1,.slice A0_2 l0_2.length c0_2,.string a0_3,.int .u32 a0_4,.int .i64 a0_5,.int .u64 a0_6,.int .u64 a0_7,.bool a0_8,.bool a0_9,.bool a0_10,.bool a0_11] 26 (0,0)) (by (with_reducible repeat (first | refine bN ?_ _ | refine bD ?_ | refine bA ?_ _));exact qA.out) hb);have n1_:=M0 (below_step bBn14 hb);clear qA;clear HB;have qA:=n0_;have HB:=n1_;clear n0_ n1_;(try clear hb);(try clear hb2);(try clear hk);(try clear hi)))
 (try simp only [Act.put,List.setIfInBounds_toArray,List.set_cons_zero,List.set_cons_succ])
 go_cut [13] (fun v13 wc=>∃ (kq:Nat) (x13_2:Bool),v13=.bool x13_2∧Aside0 (cellaretlaw18_written.j0 kq qG x13_2 a0_0 a0_1 l0_2 a0_3 a0_4 a0_5 a0_6 a0_7 a0_8 a0_9 a0_10 a0_11=some r)∧Aside0 (kq≤k)∧Aside0 (wc.heap[qB]? = some (.cells #[.string a0_0,.string a0_1,(.slice A0_2 l0_2.length c0_2),.string a0_3,.int .u32 a0_4,.int .i64 a0_5,.int .u64 a0_6,.int .u64 a0_7,.bool a0_8,.bool a0_9,.bool a0_10,.bool a0_11] 26 (0,0)))∧Aside0 (Below w.heap.size w wc))
 case first=>
  have H:=HC3.out
  clear HC3
  by_cases c7:a0_0.toList=([103,101,116]:List UInt8)
  ·rw [if_pos c7] at H
   have c7b0:(a0_0.toList==([103,101,116]:List UInt8))=true:=beq_iff_eq.mpr c7
   have c7b1:(a0_0.toList != ([103,101,116]:List UInt8))=false:=bne_eq_false_iff_eq.mpr c7
   clear c7
   (first | rw [c7b0] | (simp only [i64_w,i32_w];rw [c7b0]) | skip)
   have H':=M0 H
   clear H
   obtain ⟨qt,qu,qv,qw,qx,qy,qz,qAA,qAB,qAC,qN,qO⟩:=celL qA.out
   obtain ⟨qAD,qAE,qAF,qAG,qAH,qAI,qAJ,qAK,qAL,qAM,qP,qQ⟩:=froZ qA.out
   go_wp2
   go_meet
   case rel=>exact ⟨_,(a0_9),(by first | rfl | (simp;done) | (simp [*];done)),H',⟨by first | omega | exact Nat.le_refl _⟩,⟨by (with_reducible repeat (first | refine bN ?_ _ | refine bD ?_ | refine bA ?_ _));exact qA.out⟩,⟨bBn14⟩⟩
  ·rw [if_neg c7] at H
   have c7b0:(a0_0.toList==([103,101,116]:List UInt8))=false:=beq_eq_false_iff_ne.mpr c7
   have c7b1:(a0_0.toList != ([103,101,116]:List UInt8))=true:=bne_iff_ne.mpr c7
   (first | rw [c7b0] | (simp only [i64_w,i32_w];rw [c7b0]) | skip)
   have H':=M0 H
   clear H
   obtain ⟨qAN,qAO,qAP,qAQ,qAR,qAS,qAT,qAU,qAV,qAW,qR,qS⟩:=celL qA.out
   obtain ⟨qAX,qAY,qAZ,qAa,qAb,qAc,qAd,qAe,qAf,qAg,qT,qU⟩:=froZ qA.out
   go_wp2
   go_meet
   case rel=>exact ⟨_,(false),(by first | rfl | (simp;done) | (simp [*];done)),H',⟨by first | omega | exact Nat.le_refl _⟩,⟨by (with_reducible repeat (first | refine bN ?_ _ | refine bD ?_ | refine bA ?_ _));exact qA.out⟩,⟨bBn14⟩⟩
 case rest=>
  clear HC3
  clear qZ qa qJ qK qb qc qd qe qf qg qh qi qj qk qL qM ql qm qn qo qp qq qr qs
  obtain ⟨kq,x13_2,rfl,HA,HJ2,qA,HB⟩:=hcut
  cases kq with
  | zero=>exact absurd HA.out (by simp [cellaretlaw18_written.j0])
  | succ kj2=>
   have H:=HA.out
   clear HA
   simp only [cellaretlaw18_written.j0] at H
   have HC10:=M0 H
   clear H
   go_upto_if 13 with (fail)
   go_cut [3] (fun v3 wc=>∃ (kq:Nat) (x3_9:ByteArray),v3=.string x3_9∧Aside0 (cellaretlaw18_written.j1 kq x3_9 a0_0 a0_1 l0_2 a0_3 a0_4 a0_5 a0_6 a0_7 a0_8 a0_9 a0_10 a0_11=some r)∧Aside0 (kq≤kj2)∧Aside0 (wc.heap[qB]? = some (.cells #[.string a0_0,.string a0_1,(.slice A0_2 l0_2.length c0_2),.string a0_3,.int .u32 a0_4,.int .i64 a0_5,.int .u64 a0_6,.int .u64 a0_7,.bool a0_8,.bool a0_9,.bool a0_10,.bool a0_11] 26 (0,0)))∧Aside0 (Below w.heap.size w wc))
   case first=>
    have H:=HC10.out
    clear HC10
    by_cases c11:x13_2=true
    ·subst c11
     have H1:(if qG.size + 1≤9223372036854775807 then ((cellaretlaw18_signed.f kj2 a0_5).bind fun qI=>(if (qG++(⟨#[32]⟩:ByteArray)).size + qI.size≤9223372036854775807 then (cellaretlaw18_written.j1 kj2 ((qG++(⟨#[32]⟩:ByteArray))++qI) a0_0 a0_1 l0_2 a0_3 a0_4 a0_5 a0_6 a0_7 a0_8 a0_9 a0_10 a0_11) else (none))) else (none))=some r:=by rw [if_pos rfl] at H;exact H
     clear H
     have H:=H1
     clear H1
     by_cases c12:qG.size + 1≤9223372036854775807
     ·rw [if_pos c12] at H
      have c12b0:=eq_true c12
      have c12b1:decide (qG.size + 1≤9223372036854775807)=true:=decide_eq_true c12
      try have c12b2:(9223372036854775807 < qG.size + 1)=False:=eq_false (Nat.not_lt.2 c12)
      replace H:=Option.bind_eq_some_iff.mp H
      obtain ⟨qI,A130,H⟩:=H
      replace H:(if (qG++(⟨#[32]⟩:ByteArray)).size + qI.size≤9223372036854775807 then (cellaretlaw18_written.j1 kj2 ((qG++(⟨#[32]⟩:ByteArray))++qI) a0_0 a0_1 l0_2 a0_3 a0_4 a0_5 a0_6 a0_7 a0_8 a0_9 a0_10 a0_11) else (none))=some r:=H
      have A13:=M0 A130
      clear A130
      by_cases c14:(qG++(⟨#[32]⟩:ByteArray)).size + qI.size≤9223372036854775807
      ·rw [if_pos c14] at H
       have c14b0:=eq_true c14
       have c14b1:decide ((qG++(⟨#[32]⟩:ByteArray)).size + qI.size≤9223372036854775807)=true:=decide_eq_true c14
       try have c14b2:(9223372036854775807 < (qG++(⟨#[32]⟩:ByteArray)).size + qI.size)=False:=eq_false (Nat.not_lt.2 c14)
       have c14z:=Nat.not_lt.2 c14
       simp only [ByteArray.size_append,show (⟨#[32]⟩:ByteArray).size=1 from rfl,show (⟨#[32,110,111,114,101,112,108,121]⟩:ByteArray).size=8 from rfl,show (⟨#[13,10]⟩:ByteArray).size=2 from rfl] at c14z
       replace c14z:=eq_false c14z
       have H':=M0 H
       clear H
       obtain ⟨qAh,qAi,qAj,qAk,qAl,qAm,qAn,qAo,qAp,qAq,qV,qW⟩:=celL qA.out
       obtain ⟨qAr,qAs,qAt,qAu,qAv,qAw,qAx,qAy,qAz,qBA,qX,qY⟩:=froZ qA.out
       go_wp2_with (first | ((with_reducible refine gate_callee (f:=21) rfl ?_);refine goesL_ (some 18) rfl rfl Tryz.func21 (by kernel_rfl) rfl #[.int .i64 a0_5] rfl (by (try simp only [List.map_toArray,List.map_cons,List.map_nil]);first | done | rfl | (simp only [List.length_drop,List.length_take];rfl)) ?_;(with_reducible refine (cellaretlaw18_signed.calls kj2 a0_5 qI _ A13.out).mono ?_);rintro e w16 ⟨rfl,hb⟩;refine ⟨_,rfl,?_⟩;have n0_:=M0 (blk_below (g:=qB) (o:=.cells #[.string a0_0,.string a0_1,.slice A0_2 l0_2.length c0_2,.string a0_3,.int .u32 a0_4,.int .i64 a0_5,.int .u64 a0_6,.int .u64 a0_7,.bool a0_8,.bool a0_9,.bool a0_10,.bool a0_11] 26 (0,0)) (by (with_reducible repeat (first | refine bN ?_ _ | refine bD ?_ | refine bA ?_ _));exact qA.out) hb);have n1_:=M0 (below_step bBn14 hb);clear qA;clear HB;have qA:=n0_;have HB:=n1_;clear n0_ n1_;(try clear hb);(try clear hb2);(try clear hk);(try clear hi)))
       go_meet
       case rel=>exact ⟨_,((qG++(⟨#[32]⟩:ByteArray))++qI),(by first | rfl | (simp;done) | (simp [*];done)),H',⟨by have:=HJ2.out;first | omega | exact Nat.le_refl _⟩,⟨by (with_reducible repeat (first | refine bN ?_ _ | refine bD ?_ | refine bA ?_ _));exact qA.out⟩,⟨bBn14⟩⟩
      ·rw [if_neg c14] at H
       exact absurd H (by simp)
     ·rw [if_neg c12] at H
      exact absurd H (by simp)
    ·replace c11:=Bool.eq_false_iff.mpr c11
     subst c11
     have H1:(cellaretlaw18_written.j1 kj2 qG a0_0 a0_1 l0_2 a0_3 a0_4 a0_5 a0_6 a0_7 a0_8 a0_9 a0_10 a0_11)=some r:=by rw [if_neg (show ¬ (false=true) by decide)] at H;exact H
     clear H
     have H:=H1
     clear H1
     have H':=M0 H
     clear H
     go_wp2
     go_meet
     case rel=>exact ⟨_,(qG),(by first | rfl | (simp;done) | (simp [*];done)),H',⟨by have:=HJ2.out;first | omega | exact Nat.le_refl _⟩,⟨by (with_reducible repeat (first | refine bN ?_ _ | refine bD ?_ | refine bA ?_ _));exact qA.out⟩,⟨bBn14⟩⟩
   case rest=>
    clear HC10
    obtain ⟨kq,x3_9,rfl,HA,HJ9,qA,HB⟩:=hcut
    cases kq with
    | zero=>exact absurd HA.out (by simp [cellaretlaw18_written.j1])
    | succ kj9=>
     have H:=HA.out
     clear HA
     simp only [cellaretlaw18_written.j1] at H
     have HC17:=M0 H
     clear H
     go_upto_region 4 with (fail)
     go_cut [27] (fun v27 wc=>∃ (kq:Nat) (x27_16:Bool),v27=.bool x27_16∧Aside0 (cellaretlaw18_written.j2 kq x3_9 x27_16 a0_0 a0_1 l0_2 a0_3 a0_4 a0_5 a0_6 a0_7 a0_8 a0_9 a0_10 a0_11=some r)∧Aside0 (kq≤kj9)∧Aside0 (wc.heap[qB]? = some (.cells #[.string a0_0,.string a0_1,(.slice A0_2 l0_2.length c0_2),.string a0_3,.int .u32 a0_4,.int .i64 a0_5,.int .u64 a0_6,.int .u64 a0_7,.bool a0_8,.bool a0_9,.bool a0_10,.bool a0_11] 26 (0,0)))∧Aside0 (Below w.heap.size w wc))
     case first=>
      have H:=HC17.out
      clear HC17
      by_cases c18:a0_0.toList=([102,108,117,115,104]:List UInt8)
      ·rw [if_pos c18] at H
       have c18b0:(a0_0.toList==([102,108,117,115,104]:List UInt8))=true:=beq_iff_eq.mpr c18
       have c18b1:(a0_0.toList != ([102,108,117,115,104]:List UInt8))=false:=bne_eq_false_iff_eq.mpr c18
       clear c18
       (first | rw [c18b0] | (simp only [i64_w,i32_w];rw [c18b0]) | skip)
       have H':=M0 H
       clear H
       obtain ⟨qBM,qBN,qBO,qBP,qBQ,qBR,qBS,qBT,qBU,qBV,qBC,qBD⟩:=celL qA.out
       obtain ⟨qBW,qBX,qBY,qBZ,qBa,qBb,qBc,qBd,qBe,qBf,qBE,qBF⟩:=froZ qA.out
       go_wp2
       go_meet
       case rel=>exact ⟨_,(false),(by first | rfl | (simp;done) | (simp [*];done)),H',⟨by have:=HJ2.out;have:=HJ9.out;first | omega | exact Nat.le_refl _⟩,⟨by (with_reducible repeat (first | refine bN ?_ _ | refine bD ?_ | refine bA ?_ _));exact qA.out⟩,⟨bBn14⟩⟩
      ·rw [if_neg c18] at H
       have c18b0:(a0_0.toList==([102,108,117,115,104]:List UInt8))=false:=beq_eq_false_iff_ne.mpr c18
       have c18b1:(a0_0.toList != ([102,108,117,115,104]:List UInt8))=true:=bne_iff_ne.mpr c18
       (first | rw [c18b0] | (simp only [i64_w,i32_w];rw [c18b0]) | skip)
       have H':=M0 H
       clear H
       obtain ⟨qBg,qBh,qBi,qBj,qBk,qBl,qBm,qBn,qBo,qBp,qBG,qBH⟩:=celL qA.out
       obtain ⟨qBq,qBr,qBs,qBt,qBu,qBv,qBw,qBx,qBy,qBz,qBI,qBJ⟩:=froZ qA.out
       go_wp2
       go_meet
       case rel=>exact ⟨_,((a0_0.toList != ([119,111,114,100]:List UInt8))),(by first | rfl | (simp;done) | (simp [*];done)),H',⟨by have:=HJ2.out;have:=HJ9.out;first | omega | exact Nat.le_refl _⟩,⟨by (with_reducible repeat (first | refine bN ?_ _ | refine bD ?_ | refine bA ?_ _));exact qA.out⟩,⟨bBn14⟩⟩
     case rest=>
      clear HC17
      obtain ⟨kq,x27_16,rfl,HA,HJ16,qA,HB⟩:=hcut
      cases kq with
      | zero=>exact absurd HA.out (by simp [cellaretlaw18_written.j2])
      | succ kj16=>
       have H:=HA.out
       clear HA
       simp only [cellaretlaw18_written.j2] at H
       have HC21:=M0 H
       clear H
       go_upto_if 27 with (fail)
       go_cut [3] (fun v3 wc=>∃ (kq:Nat) (x3_20:ByteArray),v3=.string x3_20∧Aside0 (cellaretlaw18_written.j4 kq x3_20 a0_0 a0_1 l0_2 a0_3 a0_4 a0_5 a0_6 a0_7 a0_8 a0_9 a0_10 a0_11=some r)∧Aside0 (kq≤kj16)∧Aside0 (wc.heap[qB]? = some (.cells #[.string a0_0,.string a0_1,(.slice A0_2 l0_2.length c0_2),.string a0_3,.int .u32 a0_4,.int .i64 a0_5,.int .u64 a0_6,.int .u64 a0_7,.bool a0_8,.bool a0_9,.bool a0_10,.bool a0_11] 26 (0,0)))∧Aside0 (Below w.heap.size w wc))
       case first=>
        have H:=HC21.out
        clear HC21
        by_cases c22:x27_16=true
        ·subst c22
         have H1:(cellaretlaw18_written.l0 kj16 x3_9 0 a0_0 a0_1 l0_2 a0_3 a0_4 a0_5 a0_6 a0_7 a0_8 a0_9 a0_10 a0_11)=some r:=by rw [if_pos rfl] at H;exact H
         clear H
         have H:=H1
         clear H1
         have H':=M0 H
         clear H
         go_wp2
         go_loopg [3,4] kj16 (fun kq v3 v4 w'=>∃ (x3_4:ByteArray) (x4_4:Int),v3=.string x3_4∧v4=.int .i64 x4_4∧Aside0 (cellaretlaw18_written.l0 kq x3_4 x4_4 a0_0 a0_1 l0_2 a0_3 a0_4 a0_5 a0_6 a0_7 a0_8 a0_9 a0_10 a0_11=some r)∧Aside0 (kq≤kj16)∧Aside0 (w'.heap[qB]? = some (.cells #[.string a0_0,.string a0_1,(.slice A0_2 l0_2.length c0_2),.string a0_3,.int .u32 a0_4,.int .i64 a0_5,.int .u64 a0_6,.int .u64 a0_7,.bool a0_8,.bool a0_9,.bool a0_10,.bool a0_11] 26 (0,0)))∧Aside0 (Below w.heap.size w w'))
         case atStart=>exact ⟨(x3_9),(0),(by first | rfl | (simp;done) | (simp [*];done)),(by first | rfl | (simp;done) | (simp [*];done)),H',⟨Nat.le_refl _⟩,⟨by (with_reducible repeat (first | refine bN ?_ _ | refine bD ?_ | refine bA ?_ _));exact qA.out⟩,⟨bBn14⟩⟩
         case round=>
          clear H'
          obtain ⟨x3_4,x4_4,rfl,rfl,HA,HK4,qA,HB⟩:=hrel
          cases gk with
          | zero=>exact absurd HA.out (by simp [cellaretlaw18_written.l0])
          | succ k4=>
           have H:=HA.out
           clear HA
           simp only [cellaretlaw18_written.l0] at H
           by_cases c23:x4_4 < (l0_2.length:Int)
           ·rw [if_pos c23] at H
            have c23b0:decide (x4_4 < (l0_2.length:Int))=true:=decide_eq_true c23
            clear c23
            (first | rw [c23b0] | (simp only [i64_w,i32_w];rw [c23b0]) | skip)
            by_cases c24:x3_4.size + 1≤9223372036854775807
            ·rw [if_pos c24] at H
             have c24b0:=eq_true c24
             have c24b1:decide (x3_4.size + 1≤9223372036854775807)=true:=decide_eq_true c24
             try have c24b2:(9223372036854775807 < x3_4.size + 1)=False:=eq_false (Nat.not_lt.2 c24)
             by_cases c25:0≤x4_4
             ·rw [if_pos c25] at H
              have c25b0:decide (0≤x4_4)=true:=decide_eq_true c25
              clear c25
              by_cases c26:(x3_4++(⟨#[32]⟩:ByteArray)).size + (rdOf ByteArray.empty l0_2 x4_4).size≤9223372036854775807
              ·rw [if_pos c26] at H
               have c26b0:=eq_true c26
               have c26b1:decide ((x3_4++(⟨#[32]⟩:ByteArray)).size + (rdOf ByteArray.empty l0_2 x4_4).size≤9223372036854775807)=true:=decide_eq_true c26
               try have c26b2:(9223372036854775807 < (x3_4++(⟨#[32]⟩:ByteArray)).size + (rdOf ByteArray.empty l0_2 x4_4).size)=False:=eq_false (Nat.not_lt.2 c26)
               have c26z:=Nat.not_lt.2 c26
               simp only [ByteArray.size_append,show (⟨#[32]⟩:ByteArray).size=1 from rfl,show (⟨#[32,110,111,114,101,112,108,121]⟩:ByteArray).size=8 from rfl,show (⟨#[13,10]⟩:ByteArray).size=2 from rfl] at c26z
               replace c26z:=eq_false c26z
               have H':=M0 H
               clear H
               obtain ⟨qEM,qEN,qEO,qEP,qEQ,qER,qES,qET,qEU,qEV,qDs,qDt⟩:=celL qA.out
               obtain ⟨qEW,qEX,qEY,qEZ,qEa,qEb,qEc,qEd,qEe,qEf,qDu,qDv⟩:=froZ qA.out
               have p148:0≤(x4_4:Int):=of_decide_eq_true (by first | (with_reducible assumption) | assumption)
               have q148:x4_4 < (l0_2.length:Int):=of_decide_eq_true (by first | (with_reducible assumption) | assumption)
               obtain ⟨qIY,e148,qBB⟩:=Kd.at_string HR0_2.out x4_4 p148 q148
               cases e148
               replace qBB:=(HB.out.cell (World.block_lt_of_cell? w _ qBB)).trans qBB
               replace p148:=eq_true p148
               replace q148:=eq_true q148
               go_wp2
               go_roundg k4
               case measure=>have:=HJ2.out;have:=HJ9.out;have:=HJ16.out;have:=HK4.out;omega
               case rel=>exact ⟨((x3_4++(⟨#[32]⟩:ByteArray))++(rdOf ByteArray.empty l0_2 x4_4)),(wrap64 (x4_4 + 1)),(by first | rfl | (simp;done) | (simp [*];done)),(by first | rfl | (simp;done) | (simp [*];done)),H',⟨by have:=HJ2.out;have:=HJ9.out;have:=HJ16.out;have:=HK4.out;omega⟩,⟨by (with_reducible repeat (first | refine bN ?_ _ | refine bD ?_ | refine bA ?_ _));exact qA.out⟩,⟨bBn14⟩⟩
              ·rw [if_neg c26] at H
               exact absurd H (by simp)
             ·rw [if_neg c25] at H
              exact absurd H (by simp)
            ·rw [if_neg c24] at H
             exact absurd H (by simp)
           ·rw [if_neg c23] at H
            have c23b0:decide (x4_4 < (l0_2.length:Int))=false:=decide_eq_false c23
            clear c23
            (first | rw [c23b0] | (simp only [i64_w,i32_w];rw [c23b0]) | skip)
            have H':=M0 H
            clear H
            obtain ⟨qEg,qEh,qEi,qEj,qEk,qEl,qEm,qEn,qEo,qEp,qDw,qDx⟩:=celL qA.out
            obtain ⟨qEq,qEr,qEs,qEt,qEu,qEv,qEw,qEx,qEy,qEz,qDy,qDz⟩:=froZ qA.out
            go_wp2
            go_meet
            case rel=>exact ⟨_,(x3_4),(by first | rfl | (simp;done) | (simp [*];done)),H',⟨by have:=HJ2.out;have:=HJ9.out;have:=HJ16.out;have:=HK4.out;first | omega | exact Nat.le_refl _⟩,⟨by (with_reducible repeat (first | refine bN ?_ _ | refine bD ?_ | refine bA ?_ _));exact qA.out⟩,⟨bBn14⟩⟩
        ·replace c22:=Bool.eq_false_iff.mpr c22
         subst c22
         have H1:(cellaretlaw18_written.j4 kj16 x3_9 a0_0 a0_1 l0_2 a0_3 a0_4 a0_5 a0_6 a0_7 a0_8 a0_9 a0_10 a0_11)=some r:=by rw [if_neg (show ¬ (false=true) by decide)] at H;exact H
         clear H
         have H:=H1
         clear H1
         have H':=M0 H
         clear H
         go_wp2
         go_meet
         case rel=>exact ⟨_,(x3_9),(by first | rfl | (simp;done) | (simp [*];done)),H',⟨by have:=HJ2.out;have:=HJ9.out;have:=HJ16.out;first | omega | exact Nat.le_refl _⟩,⟨by (with_reducible repeat (first | refine bN ?_ _ | refine bD ?_ | refine bA ?_ _));exact qA.out⟩,⟨bBn14⟩⟩
       case rest=>
        clear HC21
        obtain ⟨kq,x3_20,rfl,HA,HJ20,qA,HB⟩:=hcut
        cases kq with
        | zero=>exact absurd HA.out (by simp [cellaretlaw18_written.j4])
        | succ kj20=>
         have H:=HA.out
         clear HA
         simp only [cellaretlaw18_written.j4] at H
         have HC29:=M0 H
         clear H
         obtain ⟨qGc,qGd,qGe,qGf,qGg,qGh,qGi,qGj,qGk,qGl,qGI,qGJ⟩:=celL qA.out
         obtain ⟨qGm,qGn,qGo,qGp,qGq,qGr,qGs,qGt,qGu,qGv,qGK,qGL⟩:=froZ qA.out
         go_upto_block 2 with (fail)
         go_cut [3] (fun v3 wc=>∃ (kq:Nat) (x3_28:ByteArray),v3=.string x3_28∧Aside0 (cellaretlaw18_written.j5 kq x3_28 a0_0 a0_1 l0_2 a0_3 a0_4 a0_5 a0_6 a0_7 a0_8 a0_9 a0_10 a0_11=some r)∧Aside0 (kq≤kj20)∧Aside0 (wc.heap[qB]? = some (.cells #[.string a0_0,.string a0_1,(.slice A0_2 l0_2.length c0_2),.string a0_3,.int .u32 a0_4,.int .i64 a0_5,.int .u64 a0_6,.int .u64 a0_7,.bool a0_8,.bool a0_9,.bool a0_10,.bool a0_11] 26 (0,0)))∧Aside0 (Below w.heap.size w wc))
         case first=>
          have H:=HC29.out
          clear HC29
          by_cases c31:a0_0.toList=([115,116,111,114,101]:List UInt8)
          ·rw [if_pos c31] at H
           have c31b0:(a0_0.toList==([115,116,111,114,101]:List UInt8))=true:=beq_iff_eq.mpr c31
           have c31b1:(a0_0.toList != ([115,116,111,114,101]:List UInt8))=false:=bne_eq_false_iff_eq.mpr c31
           clear c31
           (first | rw [c31b0] | (simp only [i64_w,i32_w];rw [c31b0]) | skip)
           by_cases c32:x3_20.size + 1≤9223372036854775807
           ·rw [if_pos c32] at H
            have c32b0:=eq_true c32
            have c32b1:decide (x3_20.size + 1≤9223372036854775807)=true:=decide_eq_true c32
            try have c32b2:(9223372036854775807 < x3_20.size + 1)=False:=eq_false (Nat.not_lt.2 c32)
            replace H:=Option.bind_eq_some_iff.mp H
            obtain ⟨qC,A330,H⟩:=H
            replace H:(if (x3_20++(⟨#[32]⟩:ByteArray)).size + qC.size≤9223372036854775807 then (if ((x3_20++(⟨#[32]⟩:ByteArray))++qC).size + 1≤9223372036854775807 then ((cellaretlaw18_signed.f kj20 a0_5).bind fun qE=>(if (((x3_20++(⟨#[32]⟩:ByteArray))++qC)++(⟨#[32]⟩:ByteArray)).size + qE.size≤9223372036854775807 then (if ((((x3_20++(⟨#[32]⟩:ByteArray))++qC)++(⟨#[32]⟩:ByteArray))++qE).size + 1≤9223372036854775807 then ((cellaretref1_Text.f kj20 (IntKind.u64.wrap ((a0_3.size:Int)))).bind fun qF=>(if (((((x3_20++(⟨#[32]⟩:ByteArray))++qC)++(⟨#[32]⟩:ByteArray))++qE)++(⟨#[32]⟩:ByteArray)).size + qF.size≤9223372036854775807 then (if a0_1.toList=([99,97,115]:List UInt8) then (if ((((((x3_20++(⟨#[32]⟩:ByteArray))++qC)++(⟨#[32]⟩:ByteArray))++qE)++(⟨#[32]⟩:ByteArray))++qF).size + 1≤9223372036854775807 then ((cellaretref1_Text.f kj20 a0_6).bind fun qH=>(if (((((((x3_20++(⟨#[32]⟩:ByteArray))++qC)++(⟨#[32]⟩:ByteArray))++qE)++(⟨#[32]⟩:ByteArray))++qF)++(⟨#[32]⟩:ByteArray)).size + qH.size≤9223372036854775807 then (cellaretlaw18_written.j5 kj20 ((((((((x3_20++(⟨#[32]⟩:ByteArray))++qC)++(⟨#[32]⟩:ByteArray))++qE)++(⟨#[32]⟩:ByteArray))++qF)++(⟨#[32]⟩:ByteArray))++qH) a0_0 a0_1 l0_2 a0_3 a0_4 a0_5 a0_6 a0_7 a0_8 a0_9 a0_10 a0_11) else (none))) else (none)) else (cellaretlaw18_written.j5 kj20 ((((((x3_20++(⟨#[32]⟩:ByteArray))++qC)++(⟨#[32]⟩:ByteArray))++qE)++(⟨#[32]⟩:ByteArray))++qF) a0_0 a0_1 l0_2 a0_3 a0_4 a0_5 a0_6 a0_7 a0_8 a0_9 a0_10 a0_11)) else (none))) else (none)) else (none))) else (none)) else (none))=some r:=H
            have A33:=M0 A330
            clear A330
            by_cases c34:(x3_20++(⟨#[32]⟩:ByteArray)).size + qC.size≤9223372036854775807
            ·rw [if_pos c34] at H
             have c34b0:=eq_true c34
             have c34b1:decide ((x3_20++(⟨#[32]⟩:ByteArray)).size + qC.size≤9223372036854775807)=true:=decide_eq_true c34
             try have c34b2:(9223372036854775807 < (x3_20++(⟨#[32]⟩:ByteArray)).size + qC.size)=False:=eq_false (Nat.not_lt.2 c34)
             have c34z:=Nat.not_lt.2 c34
             simp only [ByteArray.size_append,show (⟨#[32]⟩:ByteArray).size=1 from rfl,show (⟨#[32,110,111,114,101,112,108,121]⟩:ByteArray).size=8 from rfl,show (⟨#[13,10]⟩:ByteArray).size=2 from rfl] at c34z
             replace c34z:=eq_false c34z
             by_cases c35:((x3_20++(⟨#[32]⟩:ByteArray))++qC).size + 1≤9223372036854775807
             ·rw [if_pos c35] at H
              have c35b0:=eq_true c35
              have c35b1:decide (((x3_20++(⟨#[32]⟩:ByteArray))++qC).size + 1≤9223372036854775807)=true:=decide_eq_true c35
              try have c35b2:(9223372036854775807 < ((x3_20++(⟨#[32]⟩:ByteArray))++qC).size + 1)=False:=eq_false (Nat.not_lt.2 c35)
              have c35z:=Nat.not_lt.2 c35
              simp only [ByteArray.size_append,show (⟨#[32]⟩:ByteArray).size=1 from rfl,show (⟨#[32,110,111,114,101,112,108,121]⟩:ByteArray).size=8 from rfl,show (⟨#[13,10]⟩:ByteArray).size=2 from rfl] at c35z
              replace c35z:=eq_false c35z
              replace H:=Option.bind_eq_some_iff.mp H
              obtain ⟨qE,A360,H⟩:=H
              replace H:(if (((x3_20++(⟨#[32]⟩:ByteArray))++qC)++(⟨#[32]⟩:ByteArray)).size + qE.size≤9223372036854775807 then (if ((((x3_20++(⟨#[32]⟩:ByteArray))++qC)++(⟨#[32]⟩:ByteArray))++qE).size + 1≤9223372036854775807 then ((cellaretref1_Text.f kj20 (IntKind.u64.wrap ((a0_3.size:Int)))).bind fun qF=>(if (((((x3_20++(⟨#[32]⟩:ByteArray))++qC)++(⟨#[32]⟩:ByteArray))++qE)++(⟨#[32]⟩:ByteArray)).size + qF.size≤9223372036854775807 then (if a0_1.toList=([99,97,115]:List UInt8) then (if ((((((x3_20++(⟨#[32]⟩:ByteArray))++qC)++(⟨#[32]⟩:ByteArray))++qE)++(⟨#[32]⟩:ByteArray))++qF).size + 1≤9223372036854775807 then ((cellaretref1_Text.f kj20 a0_6).bind fun qH=>(if (((((((x3_20++(⟨#[32]⟩:ByteArray))++qC)++(⟨#[32]⟩:ByteArray))++qE)++(⟨#[32]⟩:ByteArray))++qF)++(⟨#[32]⟩:ByteArray)).size + qH.size≤9223372036854775807 then (cellaretlaw18_written.j5 kj20 ((((((((x3_20++(⟨#[32]⟩:ByteArray))++qC)++(⟨#[32]⟩:ByteArray))++qE)++(⟨#[32]⟩:ByteArray))++qF)++(⟨#[32]⟩:ByteArray))++qH) a0_0 a0_1 l0_2 a0_3 a0_4 a0_5 a0_6 a0_7 a0_8 a0_9 a0_10 a0_11) else (none))) else (none)) else (cellaretlaw18_written.j5 kj20 ((((((x3_20++(⟨#[32]⟩:ByteArray))++qC)++(⟨#[32]⟩:ByteArray))++qE)++(⟨#[32]⟩:ByteArray))++qF) a0_0 a0_1 l0_2 a0_3 a0_4 a0_5 a0_6 a0_7 a0_8 a0_9 a0_10 a0_11)) else (none))) else (none)) else (none))=some r:=H
              have A36:=M0 A360
              clear A360
              by_cases c37:(((x3_20++(⟨#[32]⟩:ByteArray))++qC)++(⟨#[32]⟩:ByteArray)).size + qE.size≤9223372036854775807
              ·rw [if_pos c37] at H
               have c37b0:=eq_true c37
               have c37b1:decide ((((x3_20++(⟨#[32]⟩:ByteArray))++qC)++(⟨#[32]⟩:ByteArray)).size + qE.size≤9223372036854775807)=true:=decide_eq_true c37
               try have c37b2:(9223372036854775807 < (((x3_20++(⟨#[32]⟩:ByteArray))++qC)++(⟨#[32]⟩:ByteArray)).size + qE.size)=False:=eq_false (Nat.not_lt.2 c37)
               have c37z:=Nat.not_lt.2 c37
               simp only [ByteArray.size_append,show (⟨#[32]⟩:ByteArray).size=1 from rfl,show (⟨#[32,110,111,114,101,112,108,121]⟩:ByteArray).size=8 from rfl,show (⟨#[13,10]⟩:ByteArray).size=2 from rfl] at c37z
               replace c37z:=eq_false c37z
               by_cases c38:((((x3_20++(⟨#[32]⟩:ByteArray))++qC)++(⟨#[32]⟩:ByteArray))++qE).size + 1≤9223372036854775807
               ·rw [if_pos c38] at H
                have c38b0:=eq_true c38
                have c38b1:decide (((((x3_20++(⟨#[32]⟩:ByteArray))++qC)++(⟨#[32]⟩:ByteArray))++qE).size + 1≤9223372036854775807)=true:=decide_eq_true c38
                try have c38b2:(9223372036854775807 < ((((x3_20++(⟨#[32]⟩:ByteArray))++qC)++(⟨#[32]⟩:ByteArray))++qE).size + 1)=False:=eq_false (Nat.not_lt.2 c38)
                have c38z:=Nat.not_lt.2 c38
                simp only [ByteArray.size_append,show (⟨#[32]⟩:ByteArray).size=1 from rfl,show (⟨#[32,110,111,114,101,112,108,121]⟩:ByteArray).size=8 from rfl,show (⟨#[13,10]⟩:ByteArray).size=2 from rfl] at c38z
                replace c38z:=eq_false c38z
                replace H:=Option.bind_eq_some_iff.mp H
                obtain ⟨qF,A390,H⟩:=H
                replace H:(if (((((x3_20++(⟨#[32]⟩:ByteArray))++qC)++(⟨#[32]⟩:ByteArray))++qE)++(⟨#[32]⟩:ByteArray)).size + qF.size≤9223372036854775807 then (if a0_1.toList=([99,97,115]:List UInt8) then (if ((((((x3_20++(⟨#[32]⟩:ByteArray))++qC)++(⟨#[32]⟩:ByteArray))++qE)++(⟨#[32]⟩:ByteArray))++qF).size + 1≤9223372036854775807 then ((cellaretref1_Text.f kj20 a0_6).bind fun qH=>(if (((((((x3_20++(⟨#[32]⟩:ByteArray))++qC)++(⟨#[32]⟩:ByteArray))++qE)++(⟨#[32]⟩:ByteArray))++qF)++(⟨#[32]⟩:ByteArray)).size + qH.size≤9223372036854775807 then (cellaretlaw18_written.j5 kj20 ((((((((x3_20++(⟨#[32]⟩:ByteArray))++qC)++(⟨#[32]⟩:ByteArray))++qE)++(⟨#[32]⟩:ByteArray))++qF)++(⟨#[32]⟩:ByteArray))++qH) a0_0 a0_1 l0_2 a0_3 a0_4 a0_5 a0_6 a0_7 a0_8 a0_9 a0_10 a0_11) else (none))) else (none)) else (cellaretlaw18_written.j5 kj20 ((((((x3_20++(⟨#[32]⟩:ByteArray))++qC)++(⟨#[32]⟩:ByteArray))++qE)++(⟨#[32]⟩:ByteArray))++qF) a0_0 a0_1 l0_2 a0_3 a0_4 a0_5 a0_6 a0_7 a0_8 a0_9 a0_10 a0_11)) else (none))=some r:=H
                have A39:=M0 A390
                clear A390
                by_cases c40:(((((x3_20++(⟨#[32]⟩:ByteArray))++qC)++(⟨#[32]⟩:ByteArray))++qE)++(⟨#[32]⟩:ByteArray)).size + qF.size≤9223372036854775807
                ·rw [if_pos c40] at H
                 have c40b0:=eq_true c40
                 have c40b1:decide ((((((x3_20++(⟨#[32]⟩:ByteArray))++qC)++(⟨#[32]⟩:ByteArray))++qE)++(⟨#[32]⟩:ByteArray)).size + qF.size≤9223372036854775807)=true:=decide_eq_true c40
                 try have c40b2:(9223372036854775807 < (((((x3_20++(⟨#[32]⟩:ByteArray))++qC)++(⟨#[32]⟩:ByteArray))++qE)++(⟨#[32]⟩:ByteArray)).size + qF.size)=False:=eq_false (Nat.not_lt.2 c40)
                 have c40z:=Nat.not_lt.2 c40
                 simp only [ByteArray.size_append,show (⟨#[32]⟩:ByteArray).size=1 from rfl,show (⟨#[32,110,111,114,101,112,108,121]⟩:ByteArray).size=8 from rfl,show (⟨#[13,10]⟩:ByteArray).size=2 from rfl] at c40z
                 replace c40z:=eq_false c40z
                 by_cases c41:a0_1.toList=([99,97,115]:List UInt8)
                 ·rw [if_pos c41] at H
                  have c41b0:(a0_1.toList==([99,97,115]:List UInt8))=true:=beq_iff_eq.mpr c41
                  have c41b1:(a0_1.toList != ([99,97,115]:List UInt8))=false:=bne_eq_false_iff_eq.mpr c41
                  clear c41
                  by_cases c42:((((((x3_20++(⟨#[32]⟩:ByteArray))++qC)++(⟨#[32]⟩:ByteArray))++qE)++(⟨#[32]⟩:ByteArray))++qF).size + 1≤9223372036854775807
                  ·rw [if_pos c42] at H
                   have c42b0:=eq_true c42
                   have c42b1:decide (((((((x3_20++(⟨#[32]⟩:ByteArray))++qC)++(⟨#[32]⟩:ByteArray))++qE)++(⟨#[32]⟩:ByteArray))++qF).size + 1≤9223372036854775807)=true:=decide_eq_true c42
                   try have c42b2:(9223372036854775807 < ((((((x3_20++(⟨#[32]⟩:ByteArray))++qC)++(⟨#[32]⟩:ByteArray))++qE)++(⟨#[32]⟩:ByteArray))++qF).size + 1)=False:=eq_false (Nat.not_lt.2 c42)
                   have c42z:=Nat.not_lt.2 c42
                   simp only [ByteArray.size_append,show (⟨#[32]⟩:ByteArray).size=1 from rfl,show (⟨#[32,110,111,114,101,112,108,121]⟩:ByteArray).size=8 from rfl,show (⟨#[13,10]⟩:ByteArray).size=2 from rfl] at c42z
                   replace c42z:=eq_false c42z
                   replace H:=Option.bind_eq_some_iff.mp H
                   obtain ⟨qH,A430,H⟩:=H
                   replace H:(if (((((((x3_20++(⟨#[32]⟩:ByteArray))++qC)++(⟨#[32]⟩:ByteArray))++qE)++(⟨#[32]⟩:ByteArray))++qF)++(⟨#[32]⟩:ByteArray)).size + qH.size≤9223372036854775807 then (cellaretlaw18_written.j5 kj20 ((((((((x3_20++(⟨#[32]⟩:ByteArray))++qC)++(⟨#[32]⟩:ByteArray))++qE)++(⟨#[32]⟩:ByteArray))++qF)++(⟨#[32]⟩:ByteArray))++qH) a0_0 a0_1 l0_2 a0_3 a0_4 a0_5 a0_6 a0_7 a0_8 a0_9 a0_10 a0_11) else (none))=some r:=H
                   have A43:=M0 A430
                   clear A430
                   by_cases c44:(((((((x3_20++(⟨#[32]⟩:ByteArray))++qC)++(⟨#[32]⟩:ByteArray))++qE)++(⟨#[32]⟩:ByteArray))++qF)++(⟨#[32]⟩:ByteArray)).size + qH.size≤9223372036854775807
                   ·rw [if_pos c44] at H
                    have c44b0:=eq_true c44
                    have c44b1:decide ((((((((x3_20++(⟨#[32]⟩:ByteArray))++qC)++(⟨#[32]⟩:ByteArray))++qE)++(⟨#[32]⟩:ByteArray))++qF)++(⟨#[32]⟩:ByteArray)).size + qH.size≤9223372036854775807)=true:=decide_eq_true c44
                    try have c44b2:(9223372036854775807 < (((((((x3_20++(⟨#[32]⟩:ByteArray))++qC)++(⟨#[32]⟩:ByteArray))++qE)++(⟨#[32]⟩:ByteArray))++qF)++(⟨#[32]⟩:ByteArray)).size + qH.size)=False:=eq_false (Nat.not_lt.2 c44)
                    have c44z:=Nat.not_lt.2 c44
                    simp only [ByteArray.size_append,show (⟨#[32]⟩:ByteArray).size=1 from rfl,show (⟨#[32,110,111,114,101,112,108,121]⟩:ByteArray).size=8 from rfl,show (⟨#[13,10]⟩:ByteArray).size=2 from rfl] at c44z
                    replace c44z:=eq_false c44z
                    have H':=M0 H
                    clear H
                    try go_wp2
                    have n0_:=M0 (blk_drew qA.out)
                    have n1_:=M0 (below_drew1 HB.out)
                    clear qA
                    clear HB
                    have qA:=n0_
                    have HB:=n1_
                    clear n0_ n1_
                    refine start_ (n:=20) (S:=fun w'=>w'.cell? ⟨qB,0,none⟩=some (.string a0_0)∧w'.cell? ⟨qB,1,none⟩=some (.string a0_1)∧w'.cell? ⟨qB,2,none⟩=some (.slice A0_2 l0_2.length c0_2)∧w'.cell? ⟨qB,3,none⟩=some (.string a0_3)∧w'.cell? ⟨qB,4,none⟩=some (.int .u32 a0_4)∧w'.cell? ⟨qB,5,none⟩=some (.int .i64 a0_5)∧w'.cell? ⟨qB,6,none⟩=some (.int .u64 a0_6)∧w'.cell? ⟨qB,7,none⟩=some (.int .u64 a0_7)∧w'.cell? ⟨qB,8,none⟩=some (.bool a0_8)∧w'.cell? ⟨qB,9,none⟩=some (.bool a0_9)∧w'.cell? ⟨qB,10,none⟩=some (.bool a0_10)∧w'.cell? ⟨qB,11,none⟩=some (.bool a0_11)) (ds:=[]) #[false,false,false,false,false,false,false,false,false,false,false,false,false,false,false,false,false,false,false,false] (by kernel_rfl) rfl rfl ⟨(blk_cell qA.out 0).trans rfl,(blk_cell qA.out 1).trans rfl,(blk_cell qA.out 2).trans rfl,(blk_cell qA.out 3).trans rfl,(blk_cell qA.out 4).trans rfl,(blk_cell qA.out 5).trans rfl,(blk_cell qA.out 6).trans rfl,(blk_cell qA.out 7).trans rfl,(blk_cell qA.out 8).trans rfl,(blk_cell qA.out 9).trans rfl,(blk_cell qA.out 10).trans rfl,(blk_cell qA.out 11).trans rfl⟩ (fun hHeld=>?_);refine with_tabW cellaretlaw18_written.tab11 cellaretlaw18_written.bits11 (fun HT_ HW_=>?_)
                    generalize wc.drew=w45 at qA HB hHeld ⊢
                    refine pure_ (i:=0) (N:=some 47) (v:=?_) (a':=?_) #[true,false,false,false,false,false,false,false,false,false,false,false,false,false,false,false,false,false,false,false] rfl rfl (any_of HT_.out (by kernel_rfl)) (fun _ _ _ h=>h) (Or.inl ⟨by rfl,?_⟩) ?_ ?_
                    rotate_left
                    ·intro w'
                     go_simp
                     with_reducible rfl
                    rotate_left
                    ·simp only [pS]
                     rfl
                    refine pure_ (i:=1) (N:=some 48) (v:=?_) (a':=?_) #[true,true,false,false,false,false,false,false,false,false,false,false,false,false,false,false,false,false,false,false] rfl rfl (any_of HT_.out (by kernel_rfl)) (fun _ _ _ h=>h) (Or.inl ⟨by rfl,?_⟩) ?_ ?_
                    rotate_left
                    ·intro w'
                     go_simp
                     with_reducible rfl
                    rotate_left
                    ·simp only [pS]
                     rfl
                    refine pure_ (i:=2) (N:=some 49) (v:=?_) (a':=?_) #[true,true,true,false,false,false,false,false,false,false,false,false,false,false,false,false,false,false,false,false] rfl rfl (any_of HT_.out (by kernel_rfl)) (fun _ _ _ h=>h) (Or.inl ⟨by rfl,?_⟩) ?_ ?_
                    rotate_left
                    ·intro w'
                     go_simp
                     with_reducible rfl
                    rotate_left
                    ·simp only [pS]
                     rfl
                    refine pure_ (i:=8) (N:=some 55) (v:=?_) (a':=?_) #[true,true,true,false,false,false,false,false,true,false,false,false,false,false,false,false,false,false,false,false] rfl rfl (any_of HT_.out (by kernel_rfl)) (fun _ _ _ h=>h) (Or.inl ⟨by rfl,?_⟩) ?_ ?_
                    rotate_left
                    ·intro w'
                     go_simp
                     with_reducible rfl
                    rotate_left
                    ·simp only [pS]
                     rfl
                    refine pure_ (i:=13) (N:=some 60) (v:=?_) (a':=?_) #[true,true,true,false,false,false,false,false,true,false,false,false,false,true,false,false,false,false,false,false] rfl rfl (any_of HT_.out (by kernel_rfl)) (fun _ _ _ h=>h) (Or.inl ⟨by rfl,?_⟩) ?_ ?_
                    rotate_left
                    ·intro w'
                     go_simp
                     with_reducible rfl
                    rotate_left
                    ·simp only [pS]
                     rfl
                    refine take_ (i:=3) (N:=some 50) (v:=?_) (a':=?_) #[true,true,true,true,false,false,false,false,true,false,false,false,false,true,false,false,false,false,false,false] rfl rfl (take_ofW HT_.out HW_.out (by kernel_rfl)) (fun _ _ _ h=>h) (Or.inl ⟨by rfl,?_⟩) hHeld ?_ ?_
                    rotate_left
                    ·rintro w' ⟨s0,s1,s2,s3,s4,s5,s6,s7,s8,s9,s10,s11⟩
                     go_simp
                     with_reducible rfl
                    rotate_left
                    ·simp only [pS]
                     rfl
                    refine pure_ (i:=4) (N:=some 51) (v:=?_) (a':=?_) #[true,true,true,true,true,false,false,false,true,false,false,false,false,true,false,false,false,false,false,false] rfl rfl (any_of HT_.out (by kernel_rfl)) (fun _ _ _ h=>h) (Or.inl ⟨by rfl,?_⟩) ?_ ?_
                    rotate_left
                    ·intro w'
                     go_simp
                     with_reducible rfl
                    rotate_left
                    ·simp only [pS]
                     rfl
                    refine take_ (i:=9) (N:=some 56) (v:=?_) (a':=?_) #[true,true,true,true,true,false,false,false,true,true,false,false,false,true,false,false,false,false,false,false] rfl rfl (take_ofW HT_.out HW_.out (by kernel_rfl)) (fun _ _ _ h=>h) (Or.inl ⟨by rfl,?_⟩) hHeld ?_ ?_
                    rotate_left
                    ·rintro w' ⟨s0,s1,s2,s3,s4,s5,s6,s7,s8,s9,s10,s11⟩
                     go_simp
                     with_reducible rfl
                    rotate_left
                    ·simp only [pS]
                     rfl
                    refine take_ (i:=14) (N:=some 61) (v:=?_) (a':=?_) #[true,true,true,true,true,false,false,false,true,true,false,false,false,true,true,false,false,false,false,false] rfl rfl (take_ofW HT_.out HW_.out (by kernel_rfl)) (fun _ _ _ h=>h) (Or.inl ⟨by rfl,?_⟩) hHeld ?_ ?_
                    rotate_left
                    ·rintro w' ⟨s0,s1,s2,s3,s4,s5,s6,s7,s8,s9,s10,s11⟩
                     go_simp
                     with_reducible rfl
                    rotate_left
                    ·simp only [pS]
                     rfl
                    refine pure_ (i:=15) (N:=some 62) (v:=?_) (a':=?_) #[true,true,true,true,true,false,false,false,true,true,false,false,false,true,true,true,false,false,false,false] rfl rfl (any_of HT_.out (by kernel_rfl)) (fun _ _ _ h=>h) (Or.inl ⟨by rfl,?_⟩) ?_ ?_
                    rotate_left
                    ·intro w'
                     go_simp
                     with_reducible rfl
                    rotate_left
                    ·simp only [pS]
                     rfl
                    refine pure_ (i:=16) (N:=some 63) (v:=?_) (a':=?_) #[true,true,true,true,true,false,false,false,true,true,false,false,false,true,true,true,true,false,false,false] rfl rfl (any_of HT_.out (by kernel_rfl)) (fun _ _ _ h=>h) (Or.inl ⟨by rfl,?_⟩) ?_ ?_
                    rotate_left
                    ·intro w'
                     go_simp
                     with_reducible rfl
                    rotate_left
                    ·simp only [pS]
                     rfl
                    refine one_ (i:=5) (N:=some 52) #[true,true,true,true,true,true,false,false,true,true,false,false,false,true,true,true,true,false,false,false] rfl rfl (one_of HT_.out (by kernel_rfl)) (by decide) (fun K hK=>?_)
                    refine goes_ Tryz.func25 (by kernel_rfl) rfl #[.int .u64 (IntKind.u64.wrap (a0_4))] (by rfl) rfl rfl (by (try simp only [List.map_toArray,List.map_cons,List.map_nil]);first | done | rfl | (simp only [List.length_drop,List.length_take];rfl)) ?_
                    with_reducible refine (cellaretref1_Text.calls kj20 (IntKind.u64.wrap (a0_4)) qC _ A33.out).mono ?_
                    rintro e w46 ⟨rfl,hb⟩
                    refine ⟨_,rfl,?_⟩
                    have n0_:=M0 (blk_below (g:=qB) (o:=.cells #[.string a0_0,.string a0_1,.slice A0_2 l0_2.length c0_2,.string a0_3,.int .u32 a0_4,.int .i64 a0_5,.int .u64 a0_6,.int .u64 a0_7,.bool a0_8,.bool a0_9,.bool a0_10,.bool a0_11] 26 (0,0)) (by (with_reducible repeat (first | refine bN ?_ _ | refine bD ?_ | refine bA ?_ _));exact qA.out) hb)
                    have n1_:=M0 (below_step bBn14 hb)
                    clear qA
                    clear HB
                    have qA:=n0_
                    have HB:=n1_
                    clear n0_ n1_
                    clear hb
                    refine hK.out _ _ ⟨(blk_cell qA.out 0).trans rfl,(blk_cell qA.out 1).trans rfl,(blk_cell qA.out 2).trans rfl,(blk_cell qA.out 3).trans rfl,(blk_cell qA.out 4).trans rfl,(blk_cell qA.out 5).trans rfl,(blk_cell qA.out 6).trans rfl,(blk_cell qA.out 7).trans rfl,(blk_cell qA.out 8).trans rfl,(blk_cell qA.out 9).trans rfl,(blk_cell qA.out 10).trans rfl,(blk_cell qA.out 11).trans rfl⟩ (fun hHeld=>?_)
                    clear hK K
                    refine norm_ (a':=?_) ?_ ?_
                    rotate_left
                    ·show Act.put _ (some 52) _=_
                     simp only [pS]
                     rfl
                    refine pure_ (i:=6) (N:=some 53) (v:=?_) (a':=?_) #[true,true,true,true,true,true,true,false,true,true,false,false,false,true,true,true,true,false,false,false] rfl rfl (any_of HT_.out (by kernel_rfl)) (fun _ _ _ h=>h) (Or.inl ⟨by rfl,?_⟩) ?_ ?_
                    rotate_left
                    ·intro w'
                     go_simp
                     with_reducible rfl
                    rotate_left
                    ·simp only [pS]
                     rfl
                    refine pure_ (i:=7) (N:=some 54) (v:=?_) (a':=?_) #[true,true,true,true,true,true,true,true,true,true,false,false,false,true,true,true,true,false,false,false] rfl rfl (any_of HT_.out (by kernel_rfl)) (fun _ _ _ h=>h) (Or.inl ⟨by rfl,?_⟩) ?_ ?_
                    rotate_left
                    ·intro w'
                     go_simp
                     with_reducible rfl
                    rotate_left
                    ·simp only [pS]
                     rfl
                    refine one_ (i:=10) (N:=some 57) #[true,true,true,true,true,true,true,true,true,true,true,false,false,true,true,true,true,false,false,false] rfl rfl (one_of HT_.out (by kernel_rfl)) (by decide) (fun K hK=>?_)
                    refine goes_ Tryz.func21 (by kernel_rfl) rfl #[.int .i64 a0_5] (by rfl) rfl rfl (by (try simp only [List.map_toArray,List.map_cons,List.map_nil]);first | done | rfl | (simp only [List.length_drop,List.length_take];rfl)) ?_
                    with_reducible refine (cellaretlaw18_signed.calls kj20 a0_5 qE _ A36.out).mono ?_
                    rintro e w47 ⟨rfl,hb⟩
                    refine ⟨_,rfl,?_⟩
                    have n0_:=M0 (blk_below (g:=qB) (o:=.cells #[.string a0_0,.string a0_1,.slice A0_2 l0_2.length c0_2,.string a0_3,.int .u32 a0_4,.int .i64 a0_5,.int .u64 a0_6,.int .u64 a0_7,.bool a0_8,.bool a0_9,.bool a0_10,.bool a0_11] 26 (0,0)) (by (with_reducible repeat (first | refine bN ?_ _ | refine bD ?_ | refine bA ?_ _));exact qA.out) hb)
                    have n1_:=M0 (below_step bBn14 hb)
                    clear qA
                    clear HB
                    have qA:=n0_
                    have HB:=n1_
                    clear n0_ n1_
                    clear hb
                    refine hK.out _ _ ⟨(blk_cell qA.out 0).trans rfl,(blk_cell qA.out 1).trans rfl,(blk_cell qA.out 2).trans rfl,(blk_cell qA.out 3).trans rfl,(blk_cell qA.out 4).trans rfl,(blk_cell qA.out 5).trans rfl,(blk_cell qA.out 6).trans rfl,(blk_cell qA.out 7).trans rfl,(blk_cell qA.out 8).trans rfl,(blk_cell qA.out 9).trans rfl,(blk_cell qA.out 10).trans rfl,(blk_cell qA.out 11).trans rfl⟩ (fun hHeld=>?_)
                    clear hK K
                    refine norm_ (a':=?_) ?_ ?_
                    rotate_left
                    ·show Act.put _ (some 57) _=_
                     simp only [pS]
                     rfl
                    refine pure_ (i:=11) (N:=some 58) (v:=?_) (a':=?_) #[true,true,true,true,true,true,true,true,true,true,true,true,false,true,true,true,true,false,false,false] rfl rfl (any_of HT_.out (by kernel_rfl)) (fun _ _ _ h=>h) (Or.inl ⟨by rfl,?_⟩) ?_ ?_
                    rotate_left
                    ·intro w'
                     go_simp
                     with_reducible rfl
                    rotate_left
                    ·simp only [pS]
                     rfl
                    refine pure_ (i:=12) (N:=some 59) (v:=?_) (a':=?_) #[true,true,true,true,true,true,true,true,true,true,true,true,true,true,true,true,true,false,false,false] rfl rfl (any_of HT_.out (by kernel_rfl)) (fun _ _ _ h=>h) (Or.inl ⟨by rfl,?_⟩) ?_ ?_
                    rotate_left
                    ·intro w'
                     go_simp
                     with_reducible rfl
                    rotate_left
                    ·simp only [pS]
                     rfl
                    refine one_ (i:=17) (N:=some 64) #[true,true,true,true,true,true,true,true,true,true,true,true,true,true,true,true,true,true,false,false] rfl rfl (one_of HT_.out (by kernel_rfl)) (by decide) (fun K hK=>?_)
                    refine goes_ Tryz.func25 (by kernel_rfl) rfl #[.int .u64 (IntKind.u64.wrap ((a0_3.size:Int)))] (by rfl) rfl rfl (by (try simp only [List.map_toArray,List.map_cons,List.map_nil]);first | done | rfl | (simp only [List.length_drop,List.length_take];rfl)) ?_
                    with_reducible refine (cellaretref1_Text.calls kj20 (IntKind.u64.wrap ((a0_3.size:Int))) qF _ A39.out).mono ?_
                    rintro e w48 ⟨rfl,hb⟩
                    refine ⟨_,rfl,?_⟩
                    have n0_:=M0 (blk_below (g:=qB) (o:=.cells #[.string a0_0,.string a0_1,.slice A0_2 l0_2.length c0_2,.string a0_3,.int .u32 a0_4,.int .i64 a0_5,.int .u64 a0_6,.int .u64 a0_7,.bool a0_8,.bool a0_9,.bool a0_10,.bool a0_11] 26 (0,0)) (by (with_reducible repeat (first | refine bN ?_ _ | refine bD ?_ | refine bA ?_ _));exact qA.out) hb)
                    have n1_:=M0 (below_step bBn14 hb)
                    clear qA
                    clear HB
                    have qA:=n0_
                    have HB:=n1_
                    clear n0_ n1_
                    clear hb
                    refine hK.out _ _ ⟨(blk_cell qA.out 0).trans rfl,(blk_cell qA.out 1).trans rfl,(blk_cell qA.out 2).trans rfl,(blk_cell qA.out 3).trans rfl,(blk_cell qA.out 4).trans rfl,(blk_cell qA.out 5).trans rfl,(blk_cell qA.out 6).trans rfl,(blk_cell qA.out 7).trans rfl,(blk_cell qA.out 8).trans rfl,(blk_cell qA.out 9).trans rfl,(blk_cell qA.out 10).trans rfl,(blk_cell qA.out 11).trans rfl⟩ (fun hHeld=>?_)
                    clear hK K
                    refine norm_ (a':=?_) ?_ ?_
                    rotate_left
                    ·show Act.put _ (some 64) _=_
                     simp only [pS]
                     rfl
                    refine pure_ (i:=18) (N:=some 65) (v:=?_) (a':=?_) #[true,true,true,true,true,true,true,true,true,true,true,true,true,true,true,true,true,true,true,false] rfl rfl (any_of HT_.out (by kernel_rfl)) (fun _ _ _ h=>h) (Or.inl ⟨by rfl,?_⟩) ?_ ?_
                    rotate_left
                    ·intro w'
                     go_simp
                     with_reducible rfl
                    rotate_left
                    ·simp only [pS]
                     rfl
                    refine pure_ (i:=19) (N:=some 3) (v:=?_) (a':=?_) #[true,true,true,true,true,true,true,true,true,true,true,true,true,true,true,true,true,true,true,true] rfl rfl (any_of HT_.out (by kernel_rfl)) (fun _ _ _ h=>h) (Or.inl ⟨by rfl,?_⟩) ?_ ?_
                    rotate_left
                    ·intro w'
                     go_simp
                     with_reducible rfl
                    rotate_left
                    ·simp only [pS]
                     rfl
                    refine done_ (done_of HT_.out (by kernel_rfl)) ?_
                    obtain ⟨qCQ,qCR,qCS,qCT,qCU,qCV,qCW,qCX,qCY,qCZ,qCA,qCB⟩:=celL qA.out
                    obtain ⟨qCa,qCb,qCc,qCd,qCe,qCf,qCg,qCh,qCi,qCj,qCC,qCD⟩:=froZ qA.out
                    try go_wp2_with (first | ((with_reducible refine gate_callee (f:=25) rfl ?_);refine goesL_ (some 73) rfl rfl Tryz.func25 (by kernel_rfl) rfl #[.int .u64 a0_6] rfl (by (try simp only [List.map_toArray,List.map_cons,List.map_nil]);first | done | rfl | (simp only [List.length_drop,List.length_take];rfl)) ?_;(with_reducible refine (cellaretref1_Text.calls kj20 a0_6 qH _ A43.out).mono ?_);rintro e w50 ⟨rfl,hb⟩;refine ⟨_,rfl,?_⟩;have n0_:=M0 (blk_below (g:=qB) (o:=.cells #[.string a0_0,.string a0_1,.slice A0_2 l0_2.length c0_2,.string a0_3,.int .u32 a0_4,.int .i64 a0_5,.int .u64 a0_6,.int .u64 a0_7,.bool a0_8,.bool a0_9,.bool a0_10,.bool a0_11] 26 (0,0)) (by (with_reducible repeat (first | refine bN ?_ _ | refine bD ?_ | refine bA ?_ _));exact qA.out) hb);have n1_:=M0 (below_step bBn14 hb);clear qA;clear HB;have qA:=n0_;have HB:=n1_;clear n0_ n1_;(try clear hb);(try clear hb2);(try clear hk);(try clear hi)))
                    go_meet
                    case rel=>exact ⟨_,((((((((x3_20++(⟨#[32]⟩:ByteArray))++qC)++(⟨#[32]⟩:ByteArray))++qE)++(⟨#[32]⟩:ByteArray))++qF)++(⟨#[32]⟩:ByteArray))++qH),(by first | rfl | (simp;done) | (simp [*];done)),H',⟨by have:=HJ2.out;have:=HJ9.out;have:=HJ16.out;have:=HJ20.out;first | omega | exact Nat.le_refl _⟩,⟨by (with_reducible repeat (first | refine bN ?_ _ | refine bD ?_ | refine bA ?_ _));exact qA.out⟩,⟨bBn14⟩⟩
                   ·rw [if_neg c44] at H
                    exact absurd H (by simp)
                  ·rw [if_neg c42] at H
                   exact absurd H (by simp)
                 ·rw [if_neg c41] at H
                  have c41b0:(a0_1.toList==([99,97,115]:List UInt8))=false:=beq_eq_false_iff_ne.mpr c41
                  have c41b1:(a0_1.toList != ([99,97,115]:List UInt8))=true:=bne_iff_ne.mpr c41
                  have H':=M0 H
                  clear H
                  try go_wp2
                  have n0_:=M0 (blk_drew qA.out)
                  have n1_:=M0 (below_drew1 HB.out)
                  clear qA
                  clear HB
                  have qA:=n0_
                  have HB:=n1_
                  clear n0_ n1_
                  refine start_ (n:=20) (S:=fun w'=>w'.cell? ⟨qB,0,none⟩=some (.string a0_0)∧w'.cell? ⟨qB,1,none⟩=some (.string a0_1)∧w'.cell? ⟨qB,2,none⟩=some (.slice A0_2 l0_2.length c0_2)∧w'.cell? ⟨qB,3,none⟩=some (.string a0_3)∧w'.cell? ⟨qB,4,none⟩=some (.int .u32 a0_4)∧w'.cell? ⟨qB,5,none⟩=some (.int .i64 a0_5)∧w'.cell? ⟨qB,6,none⟩=some (.int .u64 a0_6)∧w'.cell? ⟨qB,7,none⟩=some (.int .u64 a0_7)∧w'.cell? ⟨qB,8,none⟩=some (.bool a0_8)∧w'.cell? ⟨qB,9,none⟩=some (.bool a0_9)∧w'.cell? ⟨qB,10,none⟩=some (.bool a0_10)∧w'.cell? ⟨qB,11,none⟩=some (.bool a0_11)) (ds:=[]) #[false,false,false,false,false,false,false,false,false,false,false,false,false,false,false,false,false,false,false,false] (by kernel_rfl) rfl rfl ⟨(blk_cell qA.out 0).trans rfl,(blk_cell qA.out 1).trans rfl,(blk_cell qA.out 2).trans rfl,(blk_cell qA.out 3).trans rfl,(blk_cell qA.out 4).trans rfl,(blk_cell qA.out 5).trans rfl,(blk_cell qA.out 6).trans rfl,(blk_cell qA.out 7).trans rfl,(blk_cell qA.out 8).trans rfl,(blk_cell qA.out 9).trans rfl,(blk_cell qA.out 10).trans rfl,(blk_cell qA.out 11).trans rfl⟩ (fun hHeld=>?_);refine with_tabW cellaretlaw18_written.tab11 cellaretlaw18_written.bits11 (fun HT_ HW_=>?_)
                  generalize wc.drew=w51 at qA HB hHeld ⊢
                  refine pure_ (i:=0) (N:=some 47) (v:=?_) (a':=?_) #[true,false,false,false,false,false,false,false,false,false,false,false,false,false,false,false,false,false,false,false] rfl rfl (any_of HT_.out (by kernel_rfl)) (fun _ _ _ h=>h) (Or.inl ⟨by rfl,?_⟩) ?_ ?_
                  rotate_left
                  ·intro w'
                   go_simp
                   with_reducible rfl
                  rotate_left
                  ·simp only [pS]
                   rfl
                  refine pure_ (i:=1) (N:=some 48) (v:=?_) (a':=?_) #[true,true,false,false,false,false,false,false,false,false,false,false,false,false,false,false,false,false,false,false] rfl rfl (any_of HT_.out (by kernel_rfl)) (fun _ _ _ h=>h) (Or.inl ⟨by rfl,?_⟩) ?_ ?_
                  rotate_left
                  ·intro w'
                   go_simp
                   with_reducible rfl
                  rotate_left
                  ·simp only [pS]
                   rfl
                  refine pure_ (i:=2) (N:=some 49) (v:=?_) (a':=?_) #[true,true,true,false,false,false,false,false,false,false,false,false,false,false,false,false,false,false,false,false] rfl rfl (any_of HT_.out (by kernel_rfl)) (fun _ _ _ h=>h) (Or.inl ⟨by rfl,?_⟩) ?_ ?_
                  rotate_left
                  ·intro w'
                   go_simp
                   with_reducible rfl
                  rotate_left
                  ·simp only [pS]
                   rfl
                  refine pure_ (i:=8) (N:=some 55) (v:=?_) (a':=?_) #[true,true,true,false,false,false,false,false,true,false,false,false,false,false,false,false,false,false,false,false] rfl rfl (any_of HT_.out (by kernel_rfl)) (fun _ _ _ h=>h) (Or.inl ⟨by rfl,?_⟩) ?_ ?_
                  rotate_left
                  ·intro w'
                   go_simp
                   with_reducible rfl
                  rotate_left
                  ·simp only [pS]
                   rfl
                  refine pure_ (i:=13) (N:=some 60) (v:=?_) (a':=?_) #[true,true,true,false,false,false,false,false,true,false,false,false,false,true,false,false,false,false,false,false] rfl rfl (any_of HT_.out (by kernel_rfl)) (fun _ _ _ h=>h) (Or.inl ⟨by rfl,?_⟩) ?_ ?_
                  rotate_left
                  ·intro w'
                   go_simp
                   with_reducible rfl
                  rotate_left
                  ·simp only [pS]
                   rfl
                  refine take_ (i:=3) (N:=some 50) (v:=?_) (a':=?_) #[true,true,true,true,false,false,false,false,true,false,false,false,false,true,false,false,false,false,false,false] rfl rfl (take_ofW HT_.out HW_.out (by kernel_rfl)) (fun _ _ _ h=>h) (Or.inl ⟨by rfl,?_⟩) hHeld ?_ ?_
                  rotate_left
                  ·rintro w' ⟨s0,s1,s2,s3,s4,s5,s6,s7,s8,s9,s10,s11⟩
                   go_simp
                   with_reducible rfl
                  rotate_left
                  ·simp only [pS]
                   rfl
                  refine pure_ (i:=4) (N:=some 51) (v:=?_) (a':=?_) #[true,true,true,true,true,false,false,false,true,false,false,false,false,true,false,false,false,false,false,false] rfl rfl (any_of HT_.out (by kernel_rfl)) (fun _ _ _ h=>h) (Or.inl ⟨by rfl,?_⟩) ?_ ?_
                  rotate_left
                  ·intro w'
                   go_simp
                   with_reducible rfl
                  rotate_left
                  ·simp only [pS]
                   rfl
                  refine take_ (i:=9) (N:=some 56) (v:=?_) (a':=?_) #[true,true,true,true,true,false,false,false,true,true,false,false,false,true,false,false,false,false,false,false] rfl rfl (take_ofW HT_.out HW_.out (by kernel_rfl)) (fun _ _ _ h=>h) (Or.inl ⟨by rfl,?_⟩) hHeld ?_ ?_
                  rotate_left
                  ·rintro w' ⟨s0,s1,s2,s3,s4,s5,s6,s7,s8,s9,s10,s11⟩
                   go_simp
                   with_reducible rfl
                  rotate_left
                  ·simp only [pS]
                   rfl
                  refine take_ (i:=14) (N:=some 61) (v:=?_) (a':=?_) #[true,true,true,true,true,false,false,false,true,true,false,false,false,true,true,false,false,false,false,false] rfl rfl (take_ofW HT_.out HW_.out (by kernel_rfl)) (fun _ _ _ h=>h) (Or.inl ⟨by rfl,?_⟩) hHeld ?_ ?_
                  rotate_left
                  ·rintro w' ⟨s0,s1,s2,s3,s4,s5,s6,s7,s8,s9,s10,s11⟩
                   go_simp
                   with_reducible rfl
                  rotate_left
                  ·simp only [pS]
                   rfl
                  refine pure_ (i:=15) (N:=some 62) (v:=?_) (a':=?_) #[true,true,true,true,true,false,false,false,true,true,false,false,false,true,true,true,false,false,false,false] rfl rfl (any_of HT_.out (by kernel_rfl)) (fun _ _ _ h=>h) (Or.inl ⟨by rfl,?_⟩) ?_ ?_
                  rotate_left
                  ·intro w'
                   go_simp
                   with_reducible rfl
                  rotate_left
                  ·simp only [pS]
                   rfl
                  refine pure_ (i:=16) (N:=some 63) (v:=?_) (a':=?_) #[true,true,true,true,true,false,false,false,true,true,false,false,false,true,true,true,true,false,false,false] rfl rfl (any_of HT_.out (by kernel_rfl)) (fun _ _ _ h=>h) (Or.inl ⟨by rfl,?_⟩) ?_ ?_
                  rotate_left
                  ·intro w'
                   go_simp
                   with_reducible rfl
                  rotate_left
                  ·simp only [pS]
                   rfl
                  refine one_ (i:=5) (N:=some 52) #[true,true,true,true,true,true,false,false,true,true,false,false,false,true,true,true,true,false,false,false] rfl rfl (one_of HT_.out (by kernel_rfl)) (by decide) (fun K hK=>?_)
                  refine goes_ Tryz.func25 (by kernel_rfl) rfl #[.int .u64 (IntKind.u64.wrap (a0_4))] (by rfl) rfl rfl (by (try simp only [List.map_toArray,List.map_cons,List.map_nil]);first | done | rfl | (simp only [List.length_drop,List.length_take];rfl)) ?_
                  with_reducible refine (cellaretref1_Text.calls kj20 (IntKind.u64.wrap (a0_4)) qC _ A33.out).mono ?_
                  rintro e w52 ⟨rfl,hb⟩
                  refine ⟨_,rfl,?_⟩
                  have n0_:=M0 (blk_below (g:=qB) (o:=.cells #[.string a0_0,.string a0_1,.slice A0_2 l0_2.length c0_2,.string a0_3,.int .u32 a0_4,.int .i64 a0_5,.int .u64 a0_6,.int .u64 a0_7,.bool a0_8,.bool a0_9,.bool a0_10,.bool a0_11] 26 (0,0)) (by (with_reducible repeat (first | refine bN ?_ _ | refine bD ?_ | refine bA ?_ _));exact qA.out) hb)
                  have n1_:=M0 (below_step bBn14 hb)
                  clear qA
                  clear HB
                  have qA:=n0_
                  have HB:=n1_
                  clear n0_ n1_
                  clear hb
                  refine hK.out _ _ ⟨(blk_cell qA.out 0).trans rfl,(blk_cell qA.out 1).trans rfl,(blk_cell qA.out 2).trans rfl,(blk_cell qA.out 3).trans rfl,(blk_cell qA.out 4).trans rfl,(blk_cell qA.out 5).trans rfl,(blk_cell qA.out 6).trans rfl,(blk_cell qA.out 7).trans rfl,(blk_cell qA.out 8).trans rfl,(blk_cell qA.out 9).trans rfl,(blk_cell qA.out 10).trans rfl,(blk_cell qA.out 11).trans rfl⟩ (fun hHeld=>?_)
                  clear hK K
                  refine norm_ (a':=?_) ?_ ?_
                  rotate_left
                  ·show Act.put _ (some 52) _=_
                   simp only [pS]
                   rfl
                  refine pure_ (i:=6) (N:=some 53) (v:=?_) (a':=?_) #[true,true,true,true,true,true,true,false,true,true,false,false,false,true,true,true,true,false,false,false] rfl rfl (any_of HT_.out (by kernel_rfl)) (fun _ _ _ h=>h) (Or.inl ⟨by rfl,?_⟩) ?_ ?_
                  rotate_left
                  ·intro w'
                   go_simp
                   with_reducible rfl
                  rotate_left
                  ·simp only [pS]
                   rfl
                  refine pure_ (i:=7) (N:=some 54) (v:=?_) (a':=?_) #[true,true,true,true,true,true,true,true,true,true,false,false,false,true,true,true,true,false,false,false] rfl rfl (any_of HT_.out (by kernel_rfl)) (fun _ _ _ h=>h) (Or.inl ⟨by rfl,?_⟩) ?_ ?_
                  rotate_left
                  ·intro w'
                   go_simp
                   with_reducible rfl
                  rotate_left
                  ·simp only [pS]
                   rfl
                  refine one_ (i:=10) (N:=some 57) #[true,true,true,true,true,true,true,true,true,true,true,false,false,true,true,true,true,false,false,false] rfl rfl (one_of HT_.out (by kernel_rfl)) (by decide) (fun K hK=>?_)
                  refine goes_ Tryz.func21 (by kernel_rfl) rfl #[.int .i64 a0_5] (by rfl) rfl rfl (by (try simp only [List.map_toArray,List.map_cons,List.map_nil]);first | done | rfl | (simp only [List.length_drop,List.length_take];rfl)) ?_
                  with_reducible refine (cellaretlaw18_signed.calls kj20 a0_5 qE _ A36.out).mono ?_
                  rintro e w53 ⟨rfl,hb⟩
                  refine ⟨_,rfl,?_⟩
                  have n0_:=M0 (blk_below (g:=qB) (o:=.cells #[.string a0_0,.string a0_1,.slice A0_2 l0_2.length c0_2,.string a0_3,.int .u32 a0_4,.int .i64 a0_5,.int .u64 a0_6,.int .u64 a0_7,.bool a0_8,.bool a0_9,.bool a0_10,.bool a0_11] 26 (0,0)) (by (with_reducible repeat (first | refine bN ?_ _ | refine bD ?_ | refine bA ?_ _));exact qA.out) hb)
                  have n1_:=M0 (below_step bBn14 hb)
                  clear qA
                  clear HB
                  have qA:=n0_
                  have HB:=n1_
                  clear n0_ n1_
                  clear hb
                  refine hK.out _ _ ⟨(blk_cell qA.out 0).trans rfl,(blk_cell qA.out 1).trans rfl,(blk_cell qA.out 2).trans rfl,(blk_cell qA.out 3).trans rfl,(blk_cell qA.out 4).trans rfl,(blk_cell qA.out 5).trans rfl,(blk_cell qA.out 6).trans rfl,(blk_cell qA.out 7).trans rfl,(blk_cell qA.out 8).trans rfl,(blk_cell qA.out 9).trans rfl,(blk_cell qA.out 10).trans rfl,(blk_cell qA.out 11).trans rfl⟩ (fun hHeld=>?_)
                  clear hK K
                  refine norm_ (a':=?_) ?_ ?_
                  rotate_left
                  ·show Act.put _ (some 57) _=_
                   simp only [pS]
                   rfl
                  refine pure_ (i:=11) (N:=some 58) (v:=?_) (a':=?_) #[true,true,true,true,true,true,true,true,true,true,true,true,false,true,true,true,true,false,false,false] rfl rfl (any_of HT_.out (by kernel_rfl)) (fun _ _ _ h=>h) (Or.inl ⟨by rfl,?_⟩) ?_ ?_
                  rotate_left
                  ·intro w'
                   go_simp
                   with_reducible rfl
                  rotate_left
                  ·simp only [pS]
                   rfl
                  refine pure_ (i:=12) (N:=some 59) (v:=?_) (a':=?_) #[true,true,true,true,true,true,true,true,true,true,true,true,true,true,true,true,true,false,false,false] rfl rfl (any_of HT_.out (by kernel_rfl)) (fun _ _ _ h=>h) (Or.inl ⟨by rfl,?_⟩) ?_ ?_
                  rotate_left
                  ·intro w'
                   go_simp
                   with_reducible rfl
                  rotate_left
                  ·simp only [pS]
                   rfl
                  refine one_ (i:=17) (N:=some 64) #[true,true,true,true,true,true,true,true,true,true,true,true,true,true,true,true,true,true,false,false] rfl rfl (one_of HT_.out (by kernel_rfl)) (by decide) (fun K hK=>?_)
                  refine goes_ Tryz.func25 (by kernel_rfl) rfl #[.int .u64 (IntKind.u64.wrap ((a0_3.size:Int)))] (by rfl) rfl rfl (by (try simp only [List.map_toArray,List.map_cons,List.map_nil]);first | done | rfl | (simp only [List.length_drop,List.length_take];rfl)) ?_
                  with_reducible refine (cellaretref1_Text.calls kj20 (IntKind.u64.wrap ((a0_3.size:Int))) qF _ A39.out).mono ?_
                  rintro e w54 ⟨rfl,hb⟩
                  refine ⟨_,rfl,?_⟩
                  have n0_:=M0 (blk_below (g:=qB) (o:=.cells #[.string a0_0,.string a0_1,.slice A0_2 l0_2.length c0_2,.string a0_3,.int .u32 a0_4,.int .i64 a0_5,.int .u64 a0_6,.int .u64 a0_7,.bool a0_8,.bool a0_9,.bool a0_10,.bool a0_11] 26 (0,0)) (by (with_reducible repeat (first | refine bN ?_ _ | refine bD ?_ | refine bA ?_ _));exact qA.out) hb)
                  have n1_:=M0 (below_step bBn14 hb)
                  clear qA
                  clear HB
                  have qA:=n0_
                  have HB:=n1_
                  clear n0_ n1_
                  clear hb
                  refine hK.out _ _ ⟨(blk_cell qA.out 0).trans rfl,(blk_cell qA.out 1).trans rfl,(blk_cell qA.out 2).trans rfl,(blk_cell qA.out 3).trans rfl,(blk_cell qA.out 4).trans rfl,(blk_cell qA.out 5).trans rfl,(blk_cell qA.out 6).trans rfl,(blk_cell qA.out 7).trans rfl,(blk_cell qA.out 8).trans rfl,(blk_cell qA.out 9).trans rfl,(blk_cell qA.out 10).trans rfl,(blk_cell qA.out 11).trans rfl⟩ (fun hHeld=>?_)
                  clear hK K
                  refine norm_ (a':=?_) ?_ ?_
                  rotate_left
                  ·show Act.put _ (some 64) _=_
                   simp only [pS]
                   rfl
                  refine pure_ (i:=18) (N:=some 65) (v:=?_) (a':=?_) #[true,true,true,true,true,true,true,true,true,true,true,true,true,true,true,true,true,true,true,false] rfl rfl (any_of HT_.out (by kernel_rfl)) (fun _ _ _ h=>h) (Or.inl ⟨by rfl,?_⟩) ?_ ?_
                  rotate_left
                  ·intro w'
                   go_simp
                   with_reducible rfl
                  rotate_left
                  ·simp only [pS]
                   rfl
                  refine pure_ (i:=19) (N:=some 3) (v:=?_) (a':=?_) #[true,true,true,true,true,true,true,true,true,true,true,true,true,true,true,true,true,true,true,true] rfl rfl (any_of HT_.out (by kernel_rfl)) (fun _ _ _ h=>h) (Or.inl ⟨by rfl,?_⟩) ?_ ?_
                  rotate_left
                  ·intro w'
                   go_simp
                   with_reducible rfl
                  rotate_left
                  ·simp only [pS]
                   rfl
                  refine done_ (done_of HT_.out (by kernel_rfl)) ?_
                  obtain ⟨qCk,qCl,qCm,qCn,qCo,qCp,qCq,qCr,qCs,qCt,qCE,qCF⟩:=celL qA.out
                  obtain ⟨qCu,qCv,qCw,qCx,qCy,qCz,qDA,qDB,qDC,qDD,qCG,qCH⟩:=froZ qA.out
                  try go_wp2
                  go_meet
                  case rel=>exact ⟨_,((((((x3_20++(⟨#[32]⟩:ByteArray))++qC)++(⟨#[32]⟩:ByteArray))++qE)++(⟨#[32]⟩:ByteArray))++qF),(by first | rfl | (simp;done) | (simp [*];done)),H',⟨by have:=HJ2.out;have:=HJ9.out;have:=HJ16.out;have:=HJ20.out;first | omega | exact Nat.le_refl _⟩,⟨by (with_reducible repeat (first | refine bN ?_ _ | refine bD ?_ | refine bA ?_ _));exact qA.out⟩,⟨bBn14⟩⟩
                ·rw [if_neg c40] at H
                 exact absurd H (by simp)
               ·rw [if_neg c38] at H
                exact absurd H (by simp)
              ·rw [if_neg c37] at H
               exact absurd H (by simp)
             ·rw [if_neg c35] at H
              exact absurd H (by simp)
            ·rw [if_neg c34] at H
             exact absurd H (by simp)
           ·rw [if_neg c32] at H
            exact absurd H (by simp)
          ·rw [if_neg c31] at H
           have c31b0:(a0_0.toList==([115,116,111,114,101]:List UInt8))=false:=beq_eq_false_iff_ne.mpr c31
           have c31b1:(a0_0.toList != ([115,116,111,114,101]:List UInt8))=true:=bne_iff_ne.mpr c31
           (first | rw [c31b0] | (simp only [i64_w,i32_w];rw [c31b0]) | skip)
           by_cases c56:a0_0.toList=([97,114,105,116,104]:List UInt8)
           ·rw [if_pos c56] at H
            have c56b0:(a0_0.toList==([97,114,105,116,104]:List UInt8))=true:=beq_iff_eq.mpr c56
            have c56b1:(a0_0.toList != ([97,114,105,116,104]:List UInt8))=false:=bne_eq_false_iff_eq.mpr c56
            clear c56
            by_cases c57:x3_20.size + 1≤9223372036854775807
            ·rw [if_pos c57] at H
             have c57b0:=eq_true c57
             have c57b1:decide (x3_20.size + 1≤9223372036854775807)=true:=decide_eq_true c57
             try have c57b2:(9223372036854775807 < x3_20.size + 1)=False:=eq_false (Nat.not_lt.2 c57)
             replace H:=Option.bind_eq_some_iff.mp H
             obtain ⟨qBK,A580,H⟩:=H
             replace H:(if (x3_20++(⟨#[32]⟩:ByteArray)).size + qBK.size≤9223372036854775807 then (cellaretlaw18_written.j5 kj20 ((x3_20++(⟨#[32]⟩:ByteArray))++qBK) a0_0 a0_1 l0_2 a0_3 a0_4 a0_5 a0_6 a0_7 a0_8 a0_9 a0_10 a0_11) else (none))=some r:=H
             have A58:=M0 A580
             clear A580
             by_cases c59:(x3_20++(⟨#[32]⟩:ByteArray)).size + qBK.size≤9223372036854775807
             ·rw [if_pos c59] at H
              have c59b0:=eq_true c59
              have c59b1:decide ((x3_20++(⟨#[32]⟩:ByteArray)).size + qBK.size≤9223372036854775807)=true:=decide_eq_true c59
              try have c59b2:(9223372036854775807 < (x3_20++(⟨#[32]⟩:ByteArray)).size + qBK.size)=False:=eq_false (Nat.not_lt.2 c59)
              have c59z:=Nat.not_lt.2 c59
              simp only [ByteArray.size_append,show (⟨#[32]⟩:ByteArray).size=1 from rfl,show (⟨#[32,110,111,114,101,112,108,121]⟩:ByteArray).size=8 from rfl,show (⟨#[13,10]⟩:ByteArray).size=2 from rfl] at c59z
              replace c59z:=eq_false c59z
              have H':=M0 H
              clear H
              obtain ⟨qDE,qDF,qDG,qDH,qDI,qDJ,qDK,qDL,qDM,qDN,qCI,qCJ⟩:=celL qA.out
              obtain ⟨qDO,qDP,qDQ,qDR,qDS,qDT,qDU,qDV,qDW,qDX,qCK,qCL⟩:=froZ qA.out
              go_wp2_with (first | ((with_reducible refine gate_callee (f:=25) rfl ?_);refine goesL_ (some 81) rfl rfl Tryz.func25 (by kernel_rfl) rfl #[.int .u64 a0_7] rfl (by (try simp only [List.map_toArray,List.map_cons,List.map_nil]);first | done | rfl | (simp only [List.length_drop,List.length_take];rfl)) ?_;(with_reducible refine (cellaretref1_Text.calls kj20 a0_7 qBK _ A58.out).mono ?_);rintro e w61 ⟨rfl,hb⟩;refine ⟨_,rfl,?_⟩;have n0_:=M0 (blk_below (g:=qB) (o:=.cells #[.string a0_0,.string a0_1,.slice A0_2 l0_2.length c0_2,.string a0_3,.int .u32 a0_4,.int .i64 a0_5,.int .u64 a0_6,.int .u64 a0_7,.bool a0_8,.bool a0_9,.bool a0_10,.bool a0_11] 26 (0,0)) (by (with_reducible repeat (first | refine bN ?_ _ | refine bD ?_ | refine bA ?_ _));exact qA.out) hb);have n1_:=M0 (below_step bBn14 hb);clear qA;clear HB;have qA:=n0_;have HB:=n1_;clear n0_ n1_;(try clear hb);(try clear hb2);(try clear hk);(try clear hi)))
              go_meet
              case rel=>exact ⟨_,((x3_20++(⟨#[32]⟩:ByteArray))++qBK),(by first | rfl | (simp;done) | (simp [*];done)),H',⟨by have:=HJ2.out;have:=HJ9.out;have:=HJ16.out;have:=HJ20.out;first | omega | exact Nat.le_refl _⟩,⟨by (with_reducible repeat (first | refine bN ?_ _ | refine bD ?_ | refine bA ?_ _));exact qA.out⟩,⟨bBn14⟩⟩
             ·rw [if_neg c59] at H
              exact absurd H (by simp)
            ·rw [if_neg c57] at H
             exact absurd H (by simp)
           ·rw [if_neg c56] at H
            have c56b0:(a0_0.toList==([97,114,105,116,104]:List UInt8))=false:=beq_eq_false_iff_ne.mpr c56
            have c56b1:(a0_0.toList != ([97,114,105,116,104]:List UInt8))=true:=bne_iff_ne.mpr c56
            by_cases c62:a0_0.toList=([116,111,117,99,104]:List UInt8)
            ·rw [if_pos c62] at H
             have c62b0:(a0_0.toList==([116,111,117,99,104]:List UInt8))=true:=beq_iff_eq.mpr c62
             have c62b1:(a0_0.toList != ([116,111,117,99,104]:List UInt8))=false:=bne_eq_false_iff_eq.mpr c62
             clear c62
             by_cases c63:x3_20.size + 1≤9223372036854775807
             ·rw [if_pos c63] at H
              have c63b0:=eq_true c63
              have c63b1:decide (x3_20.size + 1≤9223372036854775807)=true:=decide_eq_true c63
              try have c63b2:(9223372036854775807 < x3_20.size + 1)=False:=eq_false (Nat.not_lt.2 c63)
              replace H:=Option.bind_eq_some_iff.mp H
              obtain ⟨qBL,A640,H⟩:=H
              replace H:(if (x3_20++(⟨#[32]⟩:ByteArray)).size + qBL.size≤9223372036854775807 then (cellaretlaw18_written.j5 kj20 ((x3_20++(⟨#[32]⟩:ByteArray))++qBL) a0_0 a0_1 l0_2 a0_3 a0_4 a0_5 a0_6 a0_7 a0_8 a0_9 a0_10 a0_11) else (none))=some r:=H
              have A64:=M0 A640
              clear A640
              by_cases c65:(x3_20++(⟨#[32]⟩:ByteArray)).size + qBL.size≤9223372036854775807
              ·rw [if_pos c65] at H
               have c65b0:=eq_true c65
               have c65b1:decide ((x3_20++(⟨#[32]⟩:ByteArray)).size + qBL.size≤9223372036854775807)=true:=decide_eq_true c65
               try have c65b2:(9223372036854775807 < (x3_20++(⟨#[32]⟩:ByteArray)).size + qBL.size)=False:=eq_false (Nat.not_lt.2 c65)
               have c65z:=Nat.not_lt.2 c65
               simp only [ByteArray.size_append,show (⟨#[32]⟩:ByteArray).size=1 from rfl,show (⟨#[32,110,111,114,101,112,108,121]⟩:ByteArray).size=8 from rfl,show (⟨#[13,10]⟩:ByteArray).size=2 from rfl] at c65z
               replace c65z:=eq_false c65z
               have H':=M0 H
               clear H
               obtain ⟨qDY,qDZ,qDa,qDb,qDc,qDd,qDe,qDf,qDg,qDh,qCM,qCN⟩:=celL qA.out
               obtain ⟨qDi,qDj,qDk,qDl,qDm,qDn,qDo,qDp,qDq,qDr,qCO,qCP⟩:=froZ qA.out
               go_wp2_with (first | ((with_reducible refine gate_callee (f:=21) rfl ?_);refine goesL_ (some 89) rfl rfl Tryz.func21 (by kernel_rfl) rfl #[.int .i64 a0_5] rfl (by (try simp only [List.map_toArray,List.map_cons,List.map_nil]);first | done | rfl | (simp only [List.length_drop,List.length_take];rfl)) ?_;(with_reducible refine (cellaretlaw18_signed.calls kj20 a0_5 qBL _ A64.out).mono ?_);rintro e w67 ⟨rfl,hb⟩;refine ⟨_,rfl,?_⟩;have n0_:=M0 (blk_below (g:=qB) (o:=.cells #[.string a0_0,.string a0_1,.slice A0_2 l0_2.length c0_2,.string a0_3,.int .u32 a0_4,.int .i64 a0_5,.int .u64 a0_6,.int .u64 a0_7,.bool a0_8,.bool a0_9,.bool a0_10,.bool a0_11] 26 (0,0)) (by (with_reducible repeat (first | refine bN ?_ _ | refine bD ?_ | refine bA ?_ _));exact qA.out) hb);have n1_:=M0 (below_step bBn14 hb);clear qA;clear HB;have qA:=n0_;have HB:=n1_;clear n0_ n1_;(try clear hb);(try clear hb2);(try clear hk);(try clear hi)))
               go_meet
               case rel=>exact ⟨_,((x3_20++(⟨#[32]⟩:ByteArray))++qBL),(by first | rfl | (simp;done) | (simp [*];done)),H',⟨by have:=HJ2.out;have:=HJ9.out;have:=HJ16.out;have:=HJ20.out;first | omega | exact Nat.le_refl _⟩,⟨by (with_reducible repeat (first | refine bN ?_ _ | refine bD ?_ | refine bA ?_ _));exact qA.out⟩,⟨bBn14⟩⟩
              ·rw [if_neg c65] at H
               exact absurd H (by simp)
             ·rw [if_neg c63] at H
              exact absurd H (by simp)
            ·rw [if_neg c62] at H
             have c62b0:(a0_0.toList==([116,111,117,99,104]:List UInt8))=false:=beq_eq_false_iff_ne.mpr c62
             have c62b1:(a0_0.toList != ([116,111,117,99,104]:List UInt8))=true:=bne_iff_ne.mpr c62
             by_cases c68:a0_0.toList=([98,97,100]:List UInt8)
             ·rw [if_pos c68] at H
              have c68b0:(a0_0.toList==([98,97,100]:List UInt8))=true:=beq_iff_eq.mpr c68
              have c68b1:(a0_0.toList != ([98,97,100]:List UInt8))=false:=bne_eq_false_iff_eq.mpr c68
              clear c68
              obtain rfl:=Option.some.inj H
              go_wp2
              go_ret
              exact ⟨by first | rfl | (simp [errW_none,errW_some]<;>rfl) | (simp [*,errW_none,errW_some]<;>rfl),bBn14⟩
             ·rw [if_neg c68] at H
              have c68b0:(a0_0.toList==([98,97,100]:List UInt8))=false:=beq_eq_false_iff_ne.mpr c68
              have c68b1:(a0_0.toList != ([98,97,100]:List UInt8))=true:=bne_iff_ne.mpr c68
              by_cases c69:a0_0.toList=([]:List UInt8)
              ·rw [if_pos c69] at H
               have c69b0:(a0_0.toList==([]:List UInt8))=true:=beq_iff_eq.mpr c69
               have c69b1:(a0_0.toList != ([]:List UInt8))=false:=bne_eq_false_iff_eq.mpr c69
               clear c69
               obtain rfl:=Option.some.inj H
               go_wp2
               go_ret
               exact ⟨by first | rfl | (simp [errW_none,errW_some]<;>rfl) | (simp [*,errW_none,errW_some]<;>rfl),bBn14⟩
              ·rw [if_neg c69] at H
               have c69b0:(a0_0.toList==([]:List UInt8))=false:=beq_eq_false_iff_ne.mpr c69
               have c69b1:(a0_0.toList != ([]:List UInt8))=true:=bne_iff_ne.mpr c69
               have H':=M0 H
               clear H
               go_wp2
               go_meet
               case rel=>exact ⟨_,(x3_20),(by first | rfl | (simp;done) | (simp [*];done)),H',⟨by have:=HJ2.out;have:=HJ9.out;have:=HJ16.out;have:=HJ20.out;first | omega | exact Nat.le_refl _⟩,⟨by (with_reducible repeat (first | refine bN ?_ _ | refine bD ?_ | refine bA ?_ _));exact qA.out⟩,⟨bBn14⟩⟩
         case rest=>
          clear HC29
          obtain ⟨kq,x3_28,rfl,HA,HJ28,qA,HB⟩:=hcut
          cases kq with
          | zero=>exact absurd HA.out (by simp [cellaretlaw18_written.j5])
          | succ kj28=>
           have H:=HA.out
           clear HA
           simp only [cellaretlaw18_written.j5] at H
           have HC70:=M0 H
           clear H
           go_upto_region 21 with (fail)
           go_cut [105] (fun v105 wc=>∃ (kq:Nat) (x105_69:Bool),v105=.bool x105_69∧Aside0 (cellaretlaw18_written.j6 kq x3_28 x105_69 a0_0 a0_1 l0_2 a0_3 a0_4 a0_5 a0_6 a0_7 a0_8 a0_9 a0_10 a0_11=some r)∧Aside0 (kq≤kj28)∧Aside0 (wc.heap[qB]? = some (.cells #[.string a0_0,.string a0_1,(.slice A0_2 l0_2.length c0_2),.string a0_3,.int .u32 a0_4,.int .i64 a0_5,.int .u64 a0_6,.int .u64 a0_7,.bool a0_8,.bool a0_9,.bool a0_10,.bool a0_11] 26 (0,0)))∧Aside0 (Below w.heap.size w wc))
           case first=>
            have H:=HC70.out
            clear HC70
            by_cases c71:a0_11=true
            ·subst c71
             have H1:(if a0_0.toList=([103,101,116]:List UInt8) then (cellaretlaw18_written.j6 kj28 x3_28 false a0_0 a0_1 l0_2 a0_3 a0_4 a0_5 a0_6 a0_7 a0_8 a0_9 a0_10 true) else (cellaretlaw18_written.j6 kj28 x3_28 (a0_0.toList != ([119,111,114,100]:List UInt8)) a0_0 a0_1 l0_2 a0_3 a0_4 a0_5 a0_6 a0_7 a0_8 a0_9 a0_10 true))=some r:=by rw [if_pos rfl] at H;exact H
             clear H
             have H:=H1
             clear H1
             by_cases c72:a0_0.toList=([103,101,116]:List UInt8)
             ·rw [if_pos c72] at H
              have c72b0:(a0_0.toList==([103,101,116]:List UInt8))=true:=beq_iff_eq.mpr c72
              have c72b1:(a0_0.toList != ([103,101,116]:List UInt8))=false:=bne_eq_false_iff_eq.mpr c72
              clear c72
              (first | rw [c72b0] | (simp only [i64_w,i32_w];rw [c72b0]) | skip)
              have H':=M0 H
              clear H
              obtain ⟨qFA,qFB,qFC,qFD,qFE,qFF,qFG,qFH,qFI,qFJ,qEA,qEB⟩:=celL qA.out
              obtain ⟨qFK,qFL,qFM,qFN,qFO,qFP,qFQ,qFR,qFS,qFT,qEC,qED⟩:=froZ qA.out
              go_wp2
              go_meet
              case rel=>exact ⟨_,(false),(by first | rfl | (simp;done) | (simp [*];done)),H',⟨by have:=HJ2.out;have:=HJ9.out;have:=HJ16.out;have:=HJ20.out;have:=HJ28.out;first | omega | exact Nat.le_refl _⟩,⟨by (with_reducible repeat (first | refine bN ?_ _ | refine bD ?_ | refine bA ?_ _));exact qA.out⟩,⟨bBn14⟩⟩
             ·rw [if_neg c72] at H
              have c72b0:(a0_0.toList==([103,101,116]:List UInt8))=false:=beq_eq_false_iff_ne.mpr c72
              have c72b1:(a0_0.toList != ([103,101,116]:List UInt8))=true:=bne_iff_ne.mpr c72
              (first | rw [c72b0] | (simp only [i64_w,i32_w];rw [c72b0]) | skip)
              have H':=M0 H
              clear H
              obtain ⟨qFU,qFV,qFW,qFX,qFY,qFZ,qFa,qFb,qFc,qFd,qEE,qEF⟩:=celL qA.out
              obtain ⟨qFe,qFf,qFg,qFh,qFi,qFj,qFk,qFl,qFm,qFn,qEG,qEH⟩:=froZ qA.out
              go_wp2
              go_meet
              case rel=>exact ⟨_,((a0_0.toList != ([119,111,114,100]:List UInt8))),(by first | rfl | (simp;done) | (simp [*];done)),H',⟨by have:=HJ2.out;have:=HJ9.out;have:=HJ16.out;have:=HJ20.out;have:=HJ28.out;first | omega | exact Nat.le_refl _⟩,⟨by (with_reducible repeat (first | refine bN ?_ _ | refine bD ?_ | refine bA ?_ _));exact qA.out⟩,⟨bBn14⟩⟩
            ·replace c71:=Bool.eq_false_iff.mpr c71
             subst c71
             have H1:(cellaretlaw18_written.j6 kj28 x3_28 false a0_0 a0_1 l0_2 a0_3 a0_4 a0_5 a0_6 a0_7 a0_8 a0_9 a0_10 false)=some r:=by rw [if_neg (show ¬ (false=true) by decide)] at H;exact H
             clear H
             have H:=H1
             clear H1
             have H':=M0 H
             clear H
             obtain ⟨qFo,qFp,qFq,qFr,qFs,qFt,qFu,qFv,qFw,qFx,qEI,qEJ⟩:=celL qA.out
             obtain ⟨qFy,qFz,qGA,qGB,qGC,qGD,qGE,qGF,qGG,qGH,qEK,qEL⟩:=froZ qA.out
             go_wp2
             go_meet
             case rel=>exact ⟨_,(false),(by first | rfl | (simp;done) | (simp [*];done)),H',⟨by have:=HJ2.out;have:=HJ9.out;have:=HJ16.out;have:=HJ20.out;have:=HJ28.out;first | omega | exact Nat.le_refl _⟩,⟨by (with_reducible repeat (first | refine bN ?_ _ | refine bD ?_ | refine bA ?_ _));exact qA.out⟩,⟨bBn14⟩⟩
           case rest=>
            clear HC70
            obtain ⟨kq,x105_69,rfl,HA,HJ69,qA,HB⟩:=hcut
            cases kq with
            | zero=>exact absurd HA.out (by simp [cellaretlaw18_written.j6])
            | succ kj69=>
             have H:=HA.out
             clear HA
             simp only [cellaretlaw18_written.j6] at H
             by_cases c76:x105_69=true
             ·subst c76
              have H1:(if x3_28.size + 8≤9223372036854775807 then (if (x3_28++(⟨#[32,110,111,114,101,112,108,121]⟩:ByteArray)).size + 2≤9223372036854775807 then (if a0_0.toList=([115,116,111,114,101]:List UInt8) then (if ((x3_28++(⟨#[32,110,111,114,101,112,108,121]⟩:ByteArray))++(⟨#[13,10]⟩:ByteArray)).size + a0_3.size≤9223372036854775807 then (if (((x3_28++(⟨#[32,110,111,114,101,112,108,121]⟩:ByteArray))++(⟨#[13,10]⟩:ByteArray))++a0_3).size + 2≤9223372036854775807 then (some ((((x3_28++(⟨#[32,110,111,114,101,112,108,121]⟩:ByteArray))++(⟨#[13,10]⟩:ByteArray))++a0_3)++(⟨#[13,10]⟩:ByteArray))) else (none)) else (none)) else (some ((x3_28++(⟨#[32,110,111,114,101,112,108,121]⟩:ByteArray))++(⟨#[13,10]⟩:ByteArray)))) else (none)) else (none))=some r:=by rw [if_pos rfl] at H;exact H
              clear H
              have H:=H1
              clear H1
              by_cases c77:x3_28.size + 8≤9223372036854775807
              ·rw [if_pos c77] at H
               have c77b0:=eq_true c77
               have c77b1:decide (x3_28.size + 8≤9223372036854775807)=true:=decide_eq_true c77
               try have c77b2:(9223372036854775807 < x3_28.size + 8)=False:=eq_false (Nat.not_lt.2 c77)
               by_cases c78:(x3_28++(⟨#[32,110,111,114,101,112,108,121]⟩:ByteArray)).size + 2≤9223372036854775807
               ·rw [if_pos c78] at H
                have c78b0:=eq_true c78
                have c78b1:decide ((x3_28++(⟨#[32,110,111,114,101,112,108,121]⟩:ByteArray)).size + 2≤9223372036854775807)=true:=decide_eq_true c78
                try have c78b2:(9223372036854775807 < (x3_28++(⟨#[32,110,111,114,101,112,108,121]⟩:ByteArray)).size + 2)=False:=eq_false (Nat.not_lt.2 c78)
                have c78z:=Nat.not_lt.2 c78
                simp only [ByteArray.size_append,show (⟨#[32]⟩:ByteArray).size=1 from rfl,show (⟨#[32,110,111,114,101,112,108,121]⟩:ByteArray).size=8 from rfl,show (⟨#[13,10]⟩:ByteArray).size=2 from rfl] at c78z
                replace c78z:=eq_false c78z
                by_cases c79:a0_0.toList=([115,116,111,114,101]:List UInt8)
                ·rw [if_pos c79] at H
                 have c79b0:(a0_0.toList==([115,116,111,114,101]:List UInt8))=true:=beq_iff_eq.mpr c79
                 have c79b1:(a0_0.toList != ([115,116,111,114,101]:List UInt8))=false:=bne_eq_false_iff_eq.mpr c79
                 clear c79
                 by_cases c80:((x3_28++(⟨#[32,110,111,114,101,112,108,121]⟩:ByteArray))++(⟨#[13,10]⟩:ByteArray)).size + a0_3.size≤9223372036854775807
                 ·rw [if_pos c80] at H
                  have c80b0:=eq_true c80
                  have c80b1:decide (((x3_28++(⟨#[32,110,111,114,101,112,108,121]⟩:ByteArray))++(⟨#[13,10]⟩:ByteArray)).size + a0_3.size≤9223372036854775807)=true:=decide_eq_true c80
                  try have c80b2:(9223372036854775807 < ((x3_28++(⟨#[32,110,111,114,101,112,108,121]⟩:ByteArray))++(⟨#[13,10]⟩:ByteArray)).size + a0_3.size)=False:=eq_false (Nat.not_lt.2 c80)
                  have c80z:=Nat.not_lt.2 c80
                  simp only [ByteArray.size_append,show (⟨#[32]⟩:ByteArray).size=1 from rfl,show (⟨#[32,110,111,114,101,112,108,121]⟩:ByteArray).size=8 from rfl,show (⟨#[13,10]⟩:ByteArray).size=2 from rfl] at c80z
                  replace c80z:=eq_false c80z
                  by_cases c81:(((x3_28++(⟨#[32,110,111,114,101,112,108,121]⟩:ByteArray))++(⟨#[13,10]⟩:ByteArray))++a0_3).size + 2≤9223372036854775807
                  ·rw [if_pos c81] at H
                   have c81b0:=eq_true c81
                   have c81b1:decide ((((x3_28++(⟨#[32,110,111,114,101,112,108,121]⟩:ByteArray))++(⟨#[13,10]⟩:ByteArray))++a0_3).size + 2≤9223372036854775807)=true:=decide_eq_true c81
                   try have c81b2:(9223372036854775807 < (((x3_28++(⟨#[32,110,111,114,101,112,108,121]⟩:ByteArray))++(⟨#[13,10]⟩:ByteArray))++a0_3).size + 2)=False:=eq_false (Nat.not_lt.2 c81)
                   have c81z:=Nat.not_lt.2 c81
                   simp only [ByteArray.size_append,show (⟨#[32]⟩:ByteArray).size=1 from rfl,show (⟨#[32,110,111,114,101,112,108,121]⟩:ByteArray).size=8 from rfl,show (⟨#[13,10]⟩:ByteArray).size=2 from rfl] at c81z
                   replace c81z:=eq_false c81z
                   obtain rfl:=Option.some.inj H
                   obtain ⟨qGw,qGx,qGy,qGz,qHA,qHB,qHC,qHD,qHE,qHF,qGM,qGN⟩:=celL qA.out
                   obtain ⟨qHG,qHH,qHI,qHJ,qHK,qHL,qHM,qHN,qHO,qHP,qGO,qGP⟩:=froZ qA.out
                   go_wp2
                   go_ret
                   exact ⟨by first | rfl | (simp [errW_none,errW_some]<;>rfl) | (simp [*,errW_none,errW_some]<;>rfl),bBn14⟩
                  ·rw [if_neg c81] at H
                   exact absurd H (by simp)
                 ·rw [if_neg c80] at H
                  exact absurd H (by simp)
                ·rw [if_neg c79] at H
                 have c79b0:(a0_0.toList==([115,116,111,114,101]:List UInt8))=false:=beq_eq_false_iff_ne.mpr c79
                 have c79b1:(a0_0.toList != ([115,116,111,114,101]:List UInt8))=true:=bne_iff_ne.mpr c79
                 obtain rfl:=Option.some.inj H
                 obtain ⟨qHQ,qHR,qHS,qHT,qHU,qHV,qHW,qHX,qHY,qHZ,qGQ,qGR⟩:=celL qA.out
                 obtain ⟨qHa,qHb,qHc,qHd,qHe,qHf,qHg,qHh,qHi,qHj,qGS,qGT⟩:=froZ qA.out
                 go_wp2
                 go_ret
                 exact ⟨by first | rfl | (simp [errW_none,errW_some]<;>rfl) | (simp [*,errW_none,errW_some]<;>rfl),bBn14⟩
               ·rw [if_neg c78] at H
                exact absurd H (by simp)
              ·rw [if_neg c77] at H
               exact absurd H (by simp)
             ·replace c76:=Bool.eq_false_iff.mpr c76
              subst c76
              have H1:(if x3_28.size + 2≤9223372036854775807 then (if a0_0.toList=([115,116,111,114,101]:List UInt8) then (if (x3_28++(⟨#[13,10]⟩:ByteArray)).size + a0_3.size≤9223372036854775807 then (if ((x3_28++(⟨#[13,10]⟩:ByteArray))++a0_3).size + 2≤9223372036854775807 then (some (((x3_28++(⟨#[13,10]⟩:ByteArray))++a0_3)++(⟨#[13,10]⟩:ByteArray))) else (none)) else (none)) else (some (x3_28++(⟨#[13,10]⟩:ByteArray)))) else (none))=some r:=by rw [if_neg (show ¬ (false=true) by decide)] at H;exact H
              clear H
              have H:=H1
              clear H1
              by_cases c84:x3_28.size + 2≤9223372036854775807
              ·rw [if_pos c84] at H
               have c84b0:=eq_true c84
               have c84b1:decide (x3_28.size + 2≤9223372036854775807)=true:=decide_eq_true c84
               try have c84b2:(9223372036854775807 < x3_28.size + 2)=False:=eq_false (Nat.not_lt.2 c84)
               by_cases c85:a0_0.toList=([115,116,111,114,101]:List UInt8)
               ·rw [if_pos c85] at H
                have c85b0:(a0_0.toList==([115,116,111,114,101]:List UInt8))=true:=beq_iff_eq.mpr c85
                have c85b1:(a0_0.toList != ([115,116,111,114,101]:List UInt8))=false:=bne_eq_false_iff_eq.mpr c85
                clear c85
                by_cases c86:(x3_28++(⟨#[13,10]⟩:ByteArray)).size + a0_3.size≤9223372036854775807
                ·rw [if_pos c86] at H
                 have c86b0:=eq_true c86
                 have c86b1:decide ((x3_28++(⟨#[13,10]⟩:ByteArray)).size + a0_3.size≤9223372036854775807)=true:=decide_eq_true c86
                 try have c86b2:(9223372036854775807 < (x3_28++(⟨#[13,10]⟩:ByteArray)).size + a0_3.size)=False:=eq_false (Nat.not_lt.2 c86)
                 have c86z:=Nat.not_lt.2 c86
                 simp only [ByteArray.size_append,show (⟨#[32]⟩:ByteArray).size=1 from rfl,show (⟨#[32,110,111,114,101,112,108,121]⟩:ByteArray).size=8 from rfl,show (⟨#[13,10]⟩:ByteArray).size=2 from rfl] at c86z
                 replace c86z:=eq_false c86z
                 by_cases c87:((x3_28++(⟨#[13,10]⟩:ByteArray))++a0_3).size + 2≤9223372036854775807
                 ·rw [if_pos c87] at H
                  have c87b0:=eq_true c87
                  have c87b1:decide (((x3_28++(⟨#[13,10]⟩:ByteArray))++a0_3).size + 2≤9223372036854775807)=true:=decide_eq_true c87
                  try have c87b2:(9223372036854775807 < ((x3_28++(⟨#[13,10]⟩:ByteArray))++a0_3).size + 2)=False:=eq_false (Nat.not_lt.2 c87)
                  have c87z:=Nat.not_lt.2 c87
                  simp only [ByteArray.size_append,show (⟨#[32]⟩:ByteArray).size=1 from rfl,show (⟨#[32,110,111,114,101,112,108,121]⟩:ByteArray).size=8 from rfl,show (⟨#[13,10]⟩:ByteArray).size=2 from rfl] at c87z
                  replace c87z:=eq_false c87z
                  obtain rfl:=Option.some.inj H
                  obtain ⟨qHk,qHl,qHm,qHn,qHo,qHp,qHq,qHr,qHs,qHt,qGU,qGV⟩:=celL qA.out
                  obtain ⟨qHu,qHv,qHw,qHx,qHy,qHz,qIA,qIB,qIC,qID,qGW,qGX⟩:=froZ qA.out
                  go_wp2
                  go_ret
                  exact ⟨by first | rfl | (simp [errW_none,errW_some]<;>rfl) | (simp [*,errW_none,errW_some]<;>rfl),bBn14⟩
                 ·rw [if_neg c87] at H
                  exact absurd H (by simp)
                ·rw [if_neg c86] at H
                 exact absurd H (by simp)
               ·rw [if_neg c85] at H
                have c85b0:(a0_0.toList==([115,116,111,114,101]:List UInt8))=false:=beq_eq_false_iff_ne.mpr c85
                have c85b1:(a0_0.toList != ([115,116,111,114,101]:List UInt8))=true:=bne_iff_ne.mpr c85
                obtain rfl:=Option.some.inj H
                obtain ⟨qIE,qIF,qIG,qIH,qII,qIJ,qIK,qIL,qIM,qIN,qGY,qGZ⟩:=celL qA.out
                obtain ⟨qIO,qIP,qIQ,qIR,qIS,qIT,qIU,qIV,qIW,qIX,qGa,qGb⟩:=froZ qA.out
                go_wp2
                go_ret
                exact ⟨by first | rfl | (simp [errW_none,errW_some]<;>rfl) | (simp [*,errW_none,errW_some]<;>rfl),bBn14⟩
              ·rw [if_neg c84] at H
               exact absurd H (by simp)

end Go.Proofs.YtfbhlbchmenloaaGreatDoor.H
-- thinned
end
section
namespace Go.Proofs.YtfbhlbchmenloaaGreatDoor.H
open Go.RowKit Go.Proofs.YtfbhlbchmenloaaGreatDoorW.PrintWords Go.Proofs.YtfbhlbchmenloaaGreatDoorW.PrintLast Go.Proofs.YtfbhlbchmenloaaGreatDoorW.PrintMore
attribute [local go_sem] max2_int min2_int max_two min_two max_three min_three max_four min_four   -- for this text's walks alone
set_option linter.unusedVariables false
set_option linter.unusedSimpArgs false

/-! ### cellaretref18_verb: function 27 -/
def cellaretref18_verb.f (a0:ByteArray):Option (Bool):=if a0.toList=([115,101,116]:List UInt8) then (some true) else (if a0.toList=([97,100,100]:List UInt8) then (some true) else (if a0.toList=([114,101,112,108,97,99,101]:List UInt8) then (some true) else (if a0.toList=([97,112,112,101,110,100]:List UInt8) then (some true) else (if a0.toList=([112,114,101,112,101,110,100]:List UInt8) then (some true) else (some (a0.toList==([99,97,115]:List UInt8)))))))
set_option maxHeartbeats 8000000 in
set_option maxRecDepth 100000 in
theorem cellaretref18_verb.calls (a0:ByteArray) (r:Bool) (w:World) (h:cellaretref18_verb.f a0=some r) :
  Calls Tryz.prog 27 #[.string a0] w fun e w'=>e=.returned (.bool r)∧Drawn0 w w':=by
 have H:(if a0.toList=([115,101,116]:List UInt8) then (some true) else (if a0.toList=([97,100,100]:List UInt8) then (some true) else (if a0.toList=([114,101,112,108,97,99,101]:List UInt8) then (some true) else (if a0.toList=([97,112,112,101,110,100]:List UInt8) then (some true) else (if a0.toList=([112,114,101,112,101,110,100]:List UInt8) then (some true) else (some (a0.toList==([99,97,115]:List UInt8))))))))=some r:=h
 clear h
 by_cases c2:a0.toList=([115,101,116]:List UInt8)
 ·rw [if_pos c2] at H
  have c2b0:(a0.toList==([115,101,116]:List UInt8))=true:=beq_iff_eq.mpr c2
  have c2b1:(a0.toList != ([115,101,116]:List UInt8))=false:=bne_eq_false_iff_eq.mpr c2
  clear c2
  obtain rfl:=Option.some.inj H
  go_enter Tryz.func27,Tryz.ntmps27
  go_wp2
  go_ret
  exact ⟨by first | rfl | (simp;done) | (simp [*];done),by repeat (first | exact Drawn0.refl _ | apply Drawn0.step)⟩
 ·rw [if_neg c2] at H
  have c2b0:(a0.toList==([115,101,116]:List UInt8))=false:=beq_eq_false_iff_ne.mpr c2
  have c2b1:(a0.toList != ([115,101,116]:List UInt8))=true:=bne_iff_ne.mpr c2
  by_cases c3:a0.toList=([97,100,100]:List UInt8)
  ·rw [if_pos c3] at H
   have c3b0:(a0.toList==([97,100,100]:List UInt8))=true:=beq_iff_eq.mpr c3
   have c3b1:(a0.toList != ([97,100,100]:List UInt8))=false:=bne_eq_false_iff_eq.mpr c3
   clear c3
   obtain rfl:=Option.some.inj H
   go_enter Tryz.func27,Tryz.ntmps27
   go_wp2
   go_ret
   exact ⟨by first | rfl | (simp;done) | (simp [*];done),by repeat (first | exact Drawn0.refl _ | apply Drawn0.step)⟩
  ·rw [if_neg c3] at H
   have c3b0:(a0.toList==([97,100,100]:List UInt8))=false:=beq_eq_false_iff_ne.mpr c3
   have c3b1:(a0.toList != ([97,100,100]:List UInt8))=true:=bne_iff_ne.mpr c3
   by_cases c4:a0.toList=([114,101,112,108,97,99,101]:List UInt8)
   ·rw [if_pos c4] at H
    have c4b0:(a0.toList==([114,101,112,108,97,99,101]:List UInt8))=true:=beq_iff_eq.mpr c4
    have c4b1:(a0.toList != ([114,101,112,108,97,99,101]:List UInt8))=false:=bne_eq_false_iff_eq.mpr c4
    clear c4
    obtain rfl:=Option.some.inj H
    go_enter Tryz.func27,Tryz.ntmps27
    go_wp2
    go_ret
    exact ⟨by first | rfl | (simp;done) | (simp [*];done),by repeat (first | exact Drawn0.refl _ | apply Drawn0.step)⟩
   ·rw [if_neg c4] at H
    have c4b0:(a0.toList==([114,101,112,108,97,99,101]:List UInt8))=false:=beq_eq_false_iff_ne.mpr c4
    have c4b1:(a0.toList != ([114,101,112,108,97,99,101]:List UInt8))=true:=bne_iff_ne.mpr c4
    by_cases c5:a0.toList=([97,112,112,101,110,100]:List UInt8)
    ·rw [if_pos c5] at H
     have c5b0:(a0.toList==([97,112,112,101,110,100]:List UInt8))=true:=beq_iff_eq.mpr c5
     have c5b1:(a0.toList != ([97,112,112,101,110,100]:List UInt8))=false:=bne_eq_false_iff_eq.mpr c5
     clear c5
     obtain rfl:=Option.some.inj H
     go_enter Tryz.func27,Tryz.ntmps27
     go_wp2
     go_ret
     exact ⟨by first | rfl | (simp;done) | (simp [*];done),by repeat (first | exact Drawn0.refl _ | apply Drawn0.step)⟩
    ·rw [if_neg c5] at H
     have c5b0:(a0.toList==([97,112,112,101,110,100]:List UInt8))=false:=beq_eq_false_iff_ne.mpr c5
     have c5b1:(a0.toList != ([97,112,112,101,110,100]:List UInt8))=true:=bne_iff_ne.mpr c5
     by_cases c6:a0.toList=([112,114,101,112,101,110,100]:List UInt8)
     ·rw [if_pos c6] at H
      have c6b0:(a0.toList==([112,114,101,112,101,110,100]:List UInt8))=true:=beq_iff_eq.mpr c6
      have c6b1:(a0.toList != ([112,114,101,112,101,110,100]:List UInt8))=false:=bne_eq_false_iff_eq.mpr c6
      clear c6
      obtain rfl:=Option.some.inj H
      go_enter Tryz.func27,Tryz.ntmps27
      go_wp2
      go_ret
      exact ⟨by first | rfl | (simp;done) | (simp [*];done),by repeat (first | exact Drawn0.refl _ | apply Drawn0.step)⟩
     ·rw [if_neg c6] at H
      have c6b0:(a0.toList==([112,114,101,112,101,110,100]:List UInt8))=false:=beq_eq_false_iff_ne.mpr c6
      have c6b1:(a0.toList != ([112,114,101,112,101,110,100]:List UInt8))=true:=bne_iff_ne.mpr c6
      obtain rfl:=Option.some.inj H
      go_enter Tryz.func27,Tryz.ntmps27
      go_wp2
      go_ret
      exact ⟨by first | rfl | (simp;done) | (simp [*];done),by repeat (first | exact Drawn0.refl _ | apply Drawn0.step)⟩

end Go.Proofs.YtfbhlbchmenloaaGreatDoor.H
-- thinned
end
section
namespace Go.Proofs.YtfbhlbchmenloaaGreatDoor.H
open Go.RowKit Go.Proofs.YtfbhlbchmenloaaGreatDoorW.PrintWords Go.Proofs.YtfbhlbchmenloaaGreatDoorW.PrintLast Go.Proofs.YtfbhlbchmenloaaGreatDoorW.PrintMore
attribute [local go_sem] max2_int min2_int max_two min_two max_three min_three max_four min_four   -- for this text's walks alone
set_option linter.unusedVariables false
set_option linter.unusedSimpArgs false

/-! ### cellaretref18_Good: function 11 -/
def cellaretref18_Good.l0:Nat→Int→ByteArray→ByteArray→List ByteArray→ByteArray→Int→Int→Int→Int→Bool→Bool→Bool→Bool→Option (Bool)
  | 0,_,_,_,_,_,_,_,_,_,_,_,_,_=>none
  | k + 1,x3,x158000,x158001,x158002,x158003,x158004,x158005,x158006,x158007,x158008,x158009,x158010,x158011=>if x3 < (x158002.length:Int) then (if 0≤x3 then ((cellaretref1_Key.f k (rdOf ByteArray.empty x158002 x3)).bind fun t159=>(if t159=true then (cellaretref18_Good.l0 k (wrap64 (x3 + 1)) x158000 x158001 x158002 x158003 x158004 x158005 x158006 x158007 x158008 x158009 x158010 x158011) else (some false))) else (none)) else (if x158000.toList=([103,101,116]:List UInt8) then (if (x158002.length:Int)≥1 then (some (decide ((x158002.length:Int)≤64))) else (some false)) else (if x158000.toList=([115,116,111,114,101]:List UInt8) then ((cellaretref18_verb.f x158001).bind fun t160=>(if t160=true then (some (decide ((x158003.size:Int)≤1024))) else (some false))) else (if x158000.toList=([119,111,114,100]:List UInt8) then (if x158001.toList=([118,101,114,115,105,111,110]:List UInt8) then (some true) else (some (x158001.toList==([113,117,105,116]:List UInt8)))) else (if x158000.toList=([97,114,105,116,104]:List UInt8) then (some true) else (if x158000.toList=([116,111,117,99,104]:List UInt8) then (some true) else (if x158000.toList=([100,101,108,101,116,101]:List UInt8) then (some true) else (if x158000.toList=([102,108,117,115,104]:List UInt8) then (some true) else (some false))))))))
def cellaretref18_Good.f (k:Nat) (a0_0:ByteArray) (a0_1:ByteArray) (l0_2:List ByteArray) (a0_3:ByteArray) (a0_4:Int) (a0_5:Int) (a0_6:Int) (a0_7:Int) (a0_8:Bool) (a0_9:Bool) (a0_10:Bool) (a0_11:Bool):Option (Bool):=cellaretref18_Good.l0 k 0 a0_0 a0_1 l0_2 a0_3 a0_4 a0_5 a0_6 a0_7 a0_8 a0_9 a0_10 a0_11
theorem cellaretref18_Good.mono_l:∀ k,(∀ y0 y1 y2 y3 y4 y5 y6 y7 y8 y9 y10 y11 y12,LeO (cellaretref18_Good.l0 k y0 y1 y2 y3 y4 y5 y6 y7 y8 y9 y10 y11 y12) (cellaretref18_Good.l0 (k + 1) y0 y1 y2 y3 y4 y5 y6 y7 y8 y9 y10 y11 y12))
  | 0=>fun _ _ _ _ _ _ _ _ _ _ _ _ _ r h=>by simp [cellaretref18_Good.l0] at h
  | k + 1=>by
    have ih0:=cellaretref18_Good.mono_l k
    · intro y0 y1 y2 y3 y4 y5 y6 y7 y8 y9 y10 y11 y12
      unfold cellaretref18_Good.l0
      repeat' first
      | (with_reducible exact ih0 _ _ _ _ _ _ _ _ _ _ _ _ _)
      | (with_reducible exact cellaretref1_Key.mono _ _)
      | (with_reducible exact LeO.refl _)
      | (with_reducible exact LeO.none _)
      | (with_reducible refine LeO.ite ?_ ?_)
      | (with_reducible refine LeO.bind ?_ (fun _=>?_))
      | exact ih0 _ _ _ _ _ _ _ _ _ _ _ _ _
      | exact cellaretref1_Key.mono _ _
      | exact LeO.none _
      | refine LeO.ite ?_ ?_
      | refine LeO.bind ?_ (fun _=>?_)
theorem cellaretref18_Good.mono:∀ a0 a1 a2 a3 a4 a5 a6 a7 a8 a9 a10 a11 k,LeO (cellaretref18_Good.f k a0 a1 a2 a3 a4 a5 a6 a7 a8 a9 a10 a11) (cellaretref18_Good.f (k + 1) a0 a1 a2 a3 a4 a5 a6 a7 a8 a9 a10 a11):=by
  intro a0 a1 a2 a3 a4 a5 a6 a7 a8 a9 a10 a11 k
  have ih0:=cellaretref18_Good.mono_l k
  unfold cellaretref18_Good.f
  repeat' first
      | (with_reducible exact ih0 _ _ _ _ _ _ _ _ _ _ _ _ _)
      | (with_reducible exact cellaretref1_Key.mono _ _)
      | (with_reducible exact LeO.refl _)
      | (with_reducible exact LeO.none _)
      | (with_reducible refine LeO.ite ?_ ?_)
      | (with_reducible refine LeO.bind ?_ (fun _=>?_))
      | exact ih0 _ _ _ _ _ _ _ _ _ _ _ _ _
      | exact cellaretref1_Key.mono _ _
      | exact LeO.none _
      | refine LeO.ite ?_ ?_
      | refine LeO.bind ?_ (fun _=>?_)
theorem bBn18 {B:Nat} {w W:World} (h:Below B w W:=by repeat (first | (with_reducible first | exact HB.out | apply wA | apply wN | apply wD | refine below_set ?_ qB.out) | exact HB.out)):Below B w W:=h
set_option maxHeartbeats 8000000 in
set_option maxRecDepth 100000 in
theorem cellaretref18_Good.calls (k:Nat) (a0_0:ByteArray) (a0_1:ByteArray) (A0_2:Option Addr) (c0_2:Nat) (l0_2:List ByteArray) (a0_3:ByteArray) (a0_4:Int) (a0_5:Int) (a0_6:Int) (a0_7:Int) (a0_8:Bool) (a0_9:Bool) (a0_10:Bool) (a0_11:Bool) (r:Bool) (w:World) (hr0_2:Kd.C Kd.string w A0_2 l0_2.length l0_2) (hc0_2:l0_2.length≤c0_2) (h:cellaretref18_Good.f k a0_0 a0_1 l0_2 a0_3 a0_4 a0_5 a0_6 a0_7 a0_8 a0_9 a0_10 a0_11=some r) :
  Calls Tryz.prog 11 #[.agg #[.string a0_0,.string a0_1,.slice A0_2 l0_2.length c0_2,.string a0_3,.int .u32 a0_4,.int .i64 a0_5,.int .u64 a0_6,.int .u64 a0_7,.bool a0_8,.bool a0_9,.bool a0_10,.bool a0_11]] w fun e w'=>e=.returned (.bool r)∧Below w.heap.size w w':=by
 have hu26:=Tryz.underlying26
 have HR0_2:=M0 hr0_2
 have HC0_2:=M0 hc0_2
 clear hr0_2 hc0_2
 have HB:=M0 (Below.refl w.heap.size w)
 have H:(cellaretref18_Good.l0 k 0 a0_0 a0_1 l0_2 a0_3 a0_4 a0_5 a0_6 a0_7 a0_8 a0_9 a0_10 a0_11)=some r:=h
 clear h
 have H':=M0 H
 clear H
 go_enter Tryz.func11,Tryz.ntmps11
 go_wp2_with (first | ((with_reducible refine gate_dst (N:=1) rfl ?_);(try (refine gate_guard (by rfl) ?_;dsimp only));refine box_event ?hg (N:=1) ?hd (cs:=#[.string a0_0,.string a0_1,.slice A0_2 l0_2.length c0_2,.string a0_3,.int .u32 a0_4,.int .i64 a0_5,.int .u64 a0_6,.int .u64 a0_7,.bool a0_8,.bool a0_9,.bool a0_10,.bool a0_11]) (t:=26) ?hr ?_;(case hd=>rfl);(case hg=>rfl);(case hr=>first | (go_simp;done) | (go_simp;rfl));intro qD hg w2 hbox hb;have n0_:=M0 (below_step bBn18 hb);have n1_:=M0 (hbox);have n2_:=M0 ((by rw [hg];exact (below_size bBn18):w.heap.size≤qD));have n3_:=M0 ((by rw [hg];exact (below_size bBn18):w.heap.size≤qD));clear HB;have HB:=n0_;have qA:=n1_;have GW157:=n2_;have qB:=n3_;clear n0_ n1_ n2_ n3_;clear hb hbox hg))
 go_loopg [3] k (fun kq v3 w'=>∃ (x3_1:Int),v3=.int .i64 x3_1∧Aside0 (cellaretref18_Good.l0 kq x3_1 a0_0 a0_1 l0_2 a0_3 a0_4 a0_5 a0_6 a0_7 a0_8 a0_9 a0_10 a0_11=some r)∧Aside0 (kq≤k)∧Aside0 (w'.heap[qD]? = some (.cells #[.string a0_0,.string a0_1,(.slice A0_2 l0_2.length c0_2),.string a0_3,.int .u32 a0_4,.int .i64 a0_5,.int .u64 a0_6,.int .u64 a0_7,.bool a0_8,.bool a0_9,.bool a0_10,.bool a0_11] 26 (0,0)))∧Aside0 (Below w.heap.size w w'))
 case atStart=>exact ⟨(0),(by first | rfl | (simp;done) | (simp [*];done)),H',⟨Nat.le_refl _⟩,⟨by (with_reducible repeat (first | refine bN ?_ _ | refine bD ?_ | refine bA ?_ _));exact qA.out⟩,⟨bBn18⟩⟩
 case round=>
  clear H'
  try clear c1
  try clear p2
  obtain ⟨x3_1,rfl,HA,HK1,qA,HB⟩:=hrel
  cases gk with
  | zero=>exact absurd HA.out (by simp [cellaretref18_Good.l0])
  | succ k1=>
   have H:=HA.out
   clear HA
   simp only [cellaretref18_Good.l0] at H
   by_cases c3:x3_1 < (l0_2.length:Int)
   ·rw [if_pos c3] at H
    have c3b0:decide (x3_1 < (l0_2.length:Int))=true:=decide_eq_true c3
    clear c3
    by_cases c4:0≤x3_1
    ·rw [if_pos c4] at H
     have c4b0:decide (0≤x3_1)=true:=decide_eq_true c4
     clear c4
     replace H:=Option.bind_eq_some_iff.mp H
     obtain ⟨qE,A50,H⟩:=H
     replace H:(if qE=true then (cellaretref18_Good.l0 k1 (wrap64 (x3_1 + 1)) a0_0 a0_1 l0_2 a0_3 a0_4 a0_5 a0_6 a0_7 a0_8 a0_9 a0_10 a0_11) else (some false))=some r:=H
     have A5:=M0 A50
     clear A50
     by_cases c6:qE=true
     ·subst c6
      have H1:(cellaretref18_Good.l0 k1 (wrap64 (x3_1 + 1)) a0_0 a0_1 l0_2 a0_3 a0_4 a0_5 a0_6 a0_7 a0_8 a0_9 a0_10 a0_11)=some r:=by rw [if_pos rfl] at H;exact H
      clear H
      have H:=H1
      clear H1
      have H':=M0 H
      clear H
      obtain ⟨qET,qEU,qEV,qEW,qEX,qEY,qEZ,qEa,qEb,qEc,qz,qAA⟩:=celL qA.out
      obtain ⟨qEd,qEe,qEf,qEg,qEh,qEi,qEj,qEk,qEl,qEm,qAB,qAC⟩:=froZ qA.out
      have p158:0≤(x3_1:Int):=of_decide_eq_true (by first | (with_reducible assumption) | assumption)
      have q158:x3_1 < (l0_2.length:Int):=of_decide_eq_true (by first | (with_reducible assumption) | assumption)
      obtain ⟨qG,e158,qC⟩:=Kd.at_string HR0_2.out x3_1 p158 q158
      cases e158
      replace qC:=(HB.out.cell (World.block_lt_of_cell? w _ qC)).trans qC
      replace p158:=eq_true p158
      replace q158:=eq_true q158
      go_wp2_with (first | ((with_reducible refine gate_callee (f:=26) rfl ?_);refine goesL_ (some 16) rfl rfl Tryz.func26 (by kernel_rfl) rfl #[.string (rdOf ByteArray.empty l0_2 x3_1)] rfl (by (try simp only [List.map_toArray,List.map_cons,List.map_nil]);first | done | rfl | (simp only [List.length_drop,List.length_take];rfl)) ?_;(with_reducible refine (cellaretref1_Key.calls k1 (rdOf ByteArray.empty l0_2 x3_1) true _ A5.out).mono ?_);rintro e w' ⟨rfl,⟨nd,rfl⟩⟩;refine ⟨_,rfl,?_⟩))
      go_roundg k1
      case measure=>have:=HK1.out;omega
      case rel=>exact ⟨(wrap64 (x3_1 + 1)),(by first | rfl | (simp;done) | (simp [*];done)),H',⟨by have:=HK1.out;omega⟩,⟨by (with_reducible repeat (first | refine bN ?_ _ | refine bD ?_ | refine bA ?_ _));exact qA.out⟩,⟨bBn18⟩⟩
     ·replace c6:=Bool.eq_false_iff.mpr c6
      subst c6
      have H1:(some false)=some r:=by rw [if_neg (show ¬ (false=true) by decide)] at H;exact H
      clear H
      have H:=H1
      clear H1
      obtain rfl:=Option.some.inj H
      obtain ⟨qEn,qEo,qEp,qEq,qEr,qEs,qEt,qEu,qEv,qEw,qAD,qAE⟩:=celL qA.out
      obtain ⟨qEx,qEy,qEz,qFA,qFB,qFC,qFD,qFE,qFF,qFG,qAF,qAG⟩:=froZ qA.out
      have p158:0≤(x3_1:Int):=of_decide_eq_true (by first | (with_reducible assumption) | assumption)
      have q158:x3_1 < (l0_2.length:Int):=of_decide_eq_true (by first | (with_reducible assumption) | assumption)
      obtain ⟨qG,e158,qC⟩:=Kd.at_string HR0_2.out x3_1 p158 q158
      cases e158
      replace qC:=(HB.out.cell (World.block_lt_of_cell? w _ qC)).trans qC
      replace p158:=eq_true p158
      replace q158:=eq_true q158
      go_wp2_with (first | ((with_reducible refine gate_callee (f:=26) rfl ?_);refine goesL_ (some 16) rfl rfl Tryz.func26 (by kernel_rfl) rfl #[.string (rdOf ByteArray.empty l0_2 x3_1)] rfl (by (try simp only [List.map_toArray,List.map_cons,List.map_nil]);first | done | rfl | (simp only [List.length_drop,List.length_take];rfl)) ?_;(with_reducible refine (cellaretref1_Key.calls k1 (rdOf ByteArray.empty l0_2 x3_1) false _ A5.out).mono ?_);rintro e w' ⟨rfl,⟨nd,rfl⟩⟩;refine ⟨_,rfl,?_⟩))
      go_ret
      exact ⟨by first | rfl | (simp [errW_none,errW_some]<;>rfl) | (simp [*,errW_none,errW_some]<;>rfl),bBn18⟩
    ·rw [if_neg c4] at H
     exact absurd H (by simp)
   ·rw [if_neg c3] at H
    have c3b0:decide (x3_1 < (l0_2.length:Int))=false:=decide_eq_false c3
    clear c3
    by_cases c9:a0_0.toList=([103,101,116]:List UInt8)
    ·rw [if_pos c9] at H
     have c9b0:(a0_0.toList==([103,101,116]:List UInt8))=true:=beq_iff_eq.mpr c9
     have c9b1:(a0_0.toList != ([103,101,116]:List UInt8))=false:=bne_eq_false_iff_eq.mpr c9
     clear c9
     by_cases c10:(l0_2.length:Int)≥1
     ·rw [if_pos c10] at H
      have c10b0:decide (1≤(l0_2.length:Int))=true:=decide_eq_true c10
      have c10b1:decide (1≤l0_2.length)=true:=decide_eq_true (by omega)
      clear c10
      obtain rfl:=Option.some.inj H
      obtain ⟨qAH,qAI,qAJ,qAK,qAL,qAM,qAN,qAO,qAP,qAQ,qH,qI⟩:=celL qA.out
      obtain ⟨qAR,qAS,qAT,qAU,qAV,qAW,qAX,qAY,qAZ,qAa,qJ,qK⟩:=froZ qA.out
      go_wp2
      go_ret
      exact ⟨by first | rfl | (simp [errW_none,errW_some]<;>rfl) | (simp [*,errW_none,errW_some]<;>rfl),bBn18⟩
     ·rw [if_neg c10] at H
      have c10b0:decide (1≤(l0_2.length:Int))=false:=decide_eq_false c10
      have c10b1:decide (1≤l0_2.length)=false:=decide_eq_false (by omega)
      clear c10
      obtain rfl:=Option.some.inj H
      obtain ⟨qAb,qAc,qAd,qAe,qAf,qAg,qAh,qAi,qAj,qAk,qL,qM⟩:=celL qA.out
      obtain ⟨qAl,qAm,qAn,qAo,qAp,qAq,qAr,qAs,qAt,qAu,qN,qO⟩:=froZ qA.out
      go_wp2
      go_ret
      exact ⟨by first | rfl | (simp [errW_none,errW_some]<;>rfl) | (simp [*,errW_none,errW_some]<;>rfl),bBn18⟩
    ·rw [if_neg c9] at H
     have c9b0:(a0_0.toList==([103,101,116]:List UInt8))=false:=beq_eq_false_iff_ne.mpr c9
     have c9b1:(a0_0.toList != ([103,101,116]:List UInt8))=true:=bne_iff_ne.mpr c9
     by_cases c13:a0_0.toList=([115,116,111,114,101]:List UInt8)
     ·rw [if_pos c13] at H
      have c13b0:(a0_0.toList==([115,116,111,114,101]:List UInt8))=true:=beq_iff_eq.mpr c13
      have c13b1:(a0_0.toList != ([115,116,111,114,101]:List UInt8))=false:=bne_eq_false_iff_eq.mpr c13
      clear c13
      replace H:=Option.bind_eq_some_iff.mp H
      obtain ⟨qF,A140,H⟩:=H
      replace H:(if qF=true then (some (decide ((a0_3.size:Int)≤1024))) else (some false))=some r:=H
      have A14:=M0 A140
      clear A140
      by_cases c15:qF=true
      ·subst c15
       have H1:(some (decide ((a0_3.size:Int)≤1024)))=some r:=by rw [if_pos rfl] at H;exact H
       clear H
       have H:=H1
       clear H1
       obtain rfl:=Option.some.inj H
       obtain ⟨qAv,qAw,qAx,qAy,qAz,qBA,qBB,qBC,qBD,qBE,qP,qQ⟩:=celL qA.out
       obtain ⟨qBF,qBG,qBH,qBI,qBJ,qBK,qBL,qBM,qBN,qBO,qR,qS⟩:=froZ qA.out
       go_wp2_with (first | ((with_reducible refine gate_callee (f:=27) rfl ?_);refine goesL_ (some 36) rfl rfl Tryz.func27 (by kernel_rfl) rfl #[.string a0_1] rfl (by (try simp only [List.map_toArray,List.map_cons,List.map_nil]);first | done | rfl | (simp only [List.length_drop,List.length_take];rfl)) ?_;(with_reducible refine (cellaretref18_verb.calls a0_1 true _ A14.out).mono ?_);rintro e w' ⟨rfl,⟨nd,rfl⟩⟩;refine ⟨_,rfl,?_⟩))
       go_ret
       exact ⟨by first | rfl | (simp [errW_none,errW_some]<;>rfl) | (simp [*,errW_none,errW_some]<;>rfl),bBn18⟩
      ·replace c15:=Bool.eq_false_iff.mpr c15
       subst c15
       have H1:(some false)=some r:=by rw [if_neg (show ¬ (false=true) by decide)] at H;exact H
       clear H
       have H:=H1
       clear H1
       obtain rfl:=Option.some.inj H
       obtain ⟨qBP,qBQ,qBR,qBS,qBT,qBU,qBV,qBW,qBX,qBY,qT,qU⟩:=celL qA.out
       obtain ⟨qBZ,qBa,qBb,qBc,qBd,qBe,qBf,qBg,qBh,qBi,qV,qW⟩:=froZ qA.out
       go_wp2_with (first | ((with_reducible refine gate_callee (f:=27) rfl ?_);refine goesL_ (some 36) rfl rfl Tryz.func27 (by kernel_rfl) rfl #[.string a0_1] rfl (by (try simp only [List.map_toArray,List.map_cons,List.map_nil]);first | done | rfl | (simp only [List.length_drop,List.length_take];rfl)) ?_;(with_reducible refine (cellaretref18_verb.calls a0_1 false _ A14.out).mono ?_);rintro e w' ⟨rfl,⟨nd,rfl⟩⟩;refine ⟨_,rfl,?_⟩))
       go_ret
       exact ⟨by first | rfl | (simp [errW_none,errW_some]<;>rfl) | (simp [*,errW_none,errW_some]<;>rfl),bBn18⟩
     ·rw [if_neg c13] at H
      have c13b0:(a0_0.toList==([115,116,111,114,101]:List UInt8))=false:=beq_eq_false_iff_ne.mpr c13
      have c13b1:(a0_0.toList != ([115,116,111,114,101]:List UInt8))=true:=bne_iff_ne.mpr c13
      by_cases c18:a0_0.toList=([119,111,114,100]:List UInt8)
      ·rw [if_pos c18] at H
       have c18b0:(a0_0.toList==([119,111,114,100]:List UInt8))=true:=beq_iff_eq.mpr c18
       have c18b1:(a0_0.toList != ([119,111,114,100]:List UInt8))=false:=bne_eq_false_iff_eq.mpr c18
       clear c18
       by_cases c19:a0_1.toList=([118,101,114,115,105,111,110]:List UInt8)
       ·rw [if_pos c19] at H
        have c19b0:(a0_1.toList==([118,101,114,115,105,111,110]:List UInt8))=true:=beq_iff_eq.mpr c19
        have c19b1:(a0_1.toList != ([118,101,114,115,105,111,110]:List UInt8))=false:=bne_eq_false_iff_eq.mpr c19
        clear c19
        obtain rfl:=Option.some.inj H
        obtain ⟨qBj,qBk,qBl,qBm,qBn,qBo,qBp,qBq,qBr,qBs,qX,qY⟩:=celL qA.out
        obtain ⟨qBt,qBu,qBv,qBw,qBx,qBy,qBz,qCA,qCB,qCC,qZ,qa⟩:=froZ qA.out
        go_wp2
        go_ret
        exact ⟨by first | rfl | (simp [errW_none,errW_some]<;>rfl) | (simp [*,errW_none,errW_some]<;>rfl),bBn18⟩
       ·rw [if_neg c19] at H
        have c19b0:(a0_1.toList==([118,101,114,115,105,111,110]:List UInt8))=false:=beq_eq_false_iff_ne.mpr c19
        have c19b1:(a0_1.toList != ([118,101,114,115,105,111,110]:List UInt8))=true:=bne_iff_ne.mpr c19
        obtain rfl:=Option.some.inj H
        obtain ⟨qCD,qCE,qCF,qCG,qCH,qCI,qCJ,qCK,qCL,qCM,qb,qc⟩:=celL qA.out
        obtain ⟨qCN,qCO,qCP,qCQ,qCR,qCS,qCT,qCU,qCV,qCW,qd,qe⟩:=froZ qA.out
        go_wp2
        go_ret
        exact ⟨by first | rfl | (simp [errW_none,errW_some]<;>rfl) | (simp [*,errW_none,errW_some]<;>rfl),bBn18⟩
      ·rw [if_neg c18] at H
       have c18b0:(a0_0.toList==([119,111,114,100]:List UInt8))=false:=beq_eq_false_iff_ne.mpr c18
       have c18b1:(a0_0.toList != ([119,111,114,100]:List UInt8))=true:=bne_iff_ne.mpr c18
       by_cases c22:a0_0.toList=([97,114,105,116,104]:List UInt8)
       ·rw [if_pos c22] at H
        have c22b0:(a0_0.toList==([97,114,105,116,104]:List UInt8))=true:=beq_iff_eq.mpr c22
        have c22b1:(a0_0.toList != ([97,114,105,116,104]:List UInt8))=false:=bne_eq_false_iff_eq.mpr c22
        clear c22
        obtain rfl:=Option.some.inj H
        obtain ⟨qCX,qCY,qCZ,qCa,qCb,qCc,qCd,qCe,qCf,qCg,qf,qg⟩:=celL qA.out
        obtain ⟨qCh,qCi,qCj,qCk,qCl,qCm,qCn,qCo,qCp,qCq,qh,qi⟩:=froZ qA.out
        go_wp2
        go_ret
        exact ⟨by first | rfl | (simp [errW_none,errW_some]<;>rfl) | (simp [*,errW_none,errW_some]<;>rfl),bBn18⟩
       ·rw [if_neg c22] at H
        have c22b0:(a0_0.toList==([97,114,105,116,104]:List UInt8))=false:=beq_eq_false_iff_ne.mpr c22
        have c22b1:(a0_0.toList != ([97,114,105,116,104]:List UInt8))=true:=bne_iff_ne.mpr c22
        by_cases c24:a0_0.toList=([116,111,117,99,104]:List UInt8)
        ·rw [if_pos c24] at H
         have c24b0:(a0_0.toList==([116,111,117,99,104]:List UInt8))=true:=beq_iff_eq.mpr c24
         have c24b1:(a0_0.toList != ([116,111,117,99,104]:List UInt8))=false:=bne_eq_false_iff_eq.mpr c24
         clear c24
         obtain rfl:=Option.some.inj H
         obtain ⟨qCr,qCs,qCt,qCu,qCv,qCw,qCx,qCy,qCz,qDA,qj,qk⟩:=celL qA.out
         obtain ⟨qDB,qDC,qDD,qDE,qDF,qDG,qDH,qDI,qDJ,qDK,ql,qm⟩:=froZ qA.out
         go_wp2
         go_ret
         exact ⟨by first | rfl | (simp [errW_none,errW_some]<;>rfl) | (simp [*,errW_none,errW_some]<;>rfl),bBn18⟩
        ·rw [if_neg c24] at H
         have c24b0:(a0_0.toList==([116,111,117,99,104]:List UInt8))=false:=beq_eq_false_iff_ne.mpr c24
         have c24b1:(a0_0.toList != ([116,111,117,99,104]:List UInt8))=true:=bne_iff_ne.mpr c24
         by_cases c26:a0_0.toList=([100,101,108,101,116,101]:List UInt8)
         ·rw [if_pos c26] at H
          have c26b0:(a0_0.toList==([100,101,108,101,116,101]:List UInt8))=true:=beq_iff_eq.mpr c26
          have c26b1:(a0_0.toList != ([100,101,108,101,116,101]:List UInt8))=false:=bne_eq_false_iff_eq.mpr c26
          clear c26
          obtain rfl:=Option.some.inj H
          obtain ⟨qDL,qDM,qDN,qDO,qDP,qDQ,qDR,qDS,qDT,qDU,qn,qo⟩:=celL qA.out
          obtain ⟨qDV,qDW,qDX,qDY,qDZ,qDa,qDb,qDc,qDd,qDe,qp,qq⟩:=froZ qA.out
          go_wp2
          go_ret
          exact ⟨by first | rfl | (simp [errW_none,errW_some]<;>rfl) | (simp [*,errW_none,errW_some]<;>rfl),bBn18⟩
         ·rw [if_neg c26] at H
          have c26b0:(a0_0.toList==([100,101,108,101,116,101]:List UInt8))=false:=beq_eq_false_iff_ne.mpr c26
          have c26b1:(a0_0.toList != ([100,101,108,101,116,101]:List UInt8))=true:=bne_iff_ne.mpr c26
          by_cases c28:a0_0.toList=([102,108,117,115,104]:List UInt8)
          ·rw [if_pos c28] at H
           have c28b0:(a0_0.toList==([102,108,117,115,104]:List UInt8))=true:=beq_iff_eq.mpr c28
           have c28b1:(a0_0.toList != ([102,108,117,115,104]:List UInt8))=false:=bne_eq_false_iff_eq.mpr c28
           clear c28
           obtain rfl:=Option.some.inj H
           obtain ⟨qDf,qDg,qDh,qDi,qDj,qDk,qDl,qDm,qDn,qDo,qr,qs⟩:=celL qA.out
           obtain ⟨qDp,qDq,qDr,qDs,qDt,qDu,qDv,qDw,qDx,qDy,qt,qu⟩:=froZ qA.out
           go_wp2
           go_ret
           exact ⟨by first | rfl | (simp [errW_none,errW_some]<;>rfl) | (simp [*,errW_none,errW_some]<;>rfl),bBn18⟩
          ·rw [if_neg c28] at H
           have c28b0:(a0_0.toList==([102,108,117,115,104]:List UInt8))=false:=beq_eq_false_iff_ne.mpr c28
           have c28b1:(a0_0.toList != ([102,108,117,115,104]:List UInt8))=true:=bne_iff_ne.mpr c28
           obtain rfl:=Option.some.inj H
           obtain ⟨qDz,qEA,qEB,qEC,qED,qEE,qEF,qEG,qEH,qEI,qv,qw⟩:=celL qA.out
           obtain ⟨qEJ,qEK,qEL,qEM,qEN,qEO,qEP,qEQ,qER,qES,qx,qy⟩:=froZ qA.out
           go_wp2
           go_ret
           exact ⟨by first | rfl | (simp [errW_none,errW_some]<;>rfl) | (simp [*,errW_none,errW_some]<;>rfl),bBn18⟩

end Go.Proofs.YtfbhlbchmenloaaGreatDoor.H
-- thinned
end
