/-
  The law's own walk, its plain statement and its row: the law holds. Its condition: none beside the given row's own.
-/
import Derived.Test.YtfbhlbchmenloaaGreatDoorMA3
import Derived.Test.YtfbhlbchmenloaaGreatDoorMA4
import Derived.Test.YtfbhlbchmenloaaGreatDoorMA2
import Derived.Test.YtfbhlbchmenloaaGreatDoorMA0
import Derived.ChangeArms
import Derived.DataReads
import Derived.SizedLaws
import Derived.Carry
import Derived.ShutString
import Derived.ChangeOld
import Derived.Below
import Derived.ChangeSlices
section
namespace Go.Proofs.YtfbhlbchmenloaaGreatDoor.O
open Go Go.RowKit Go.Proofs.YtfbhlbchmenloaaGreatDoorW.PrintWords Go.Proofs.YtfbhlbchmenloaaGreatDoor.H Go.Proofs.YtfbhlbchmenloaaGreatDoor.L Go.Proofs.YtfbhlbchmenloaaGreatDoor.Pure
set_option linter.unusedSimpArgs false
set_option linter.unusedVariables false
@[reducible] def spB:ByteArray:=⟨#[32]⟩
@[reducible] def nlB:ByteArray:=⟨#[13,10]⟩
@[reducible] def quB:ByteArray:=⟨#[32,110,111,114,101,112,108,121]⟩
/-- A number with its sign. -/
def sgn (n:Int):List UInt8:=if n < 0 then 45::Lib.decDigits (-n).toNat else Lib.decDigits n.toNat
def decB (n:Int):ByteArray:=ba (Lib.decDigits n.toNat)
/-- Words behind a text, each behind a blank. -/
def lineO (t:ByteArray) (ws:List ByteArray):ByteArray:=ws.foldl (fun t x=>(t++spB)++x) t
theorem ba_size (l:List UInt8):(ba l).size=l.length:=by simp [ba,ByteArray.size]
theorem dec_size (n:Int) (h0:0≤n) (h:n < 18446744073709551616):1≤(decB n).size∧(decB n).size≤20:=by
  unfold decB
  rw [ba_size]
  exact dec_len n.toNat (by omega)
theorem sgn_size (n:Int) (h0:-9223372036854775808≤n) (h:n < 9223372036854775808):1≤(sgn n).length∧(sgn n).length≤21:=by
  unfold sgn
  by_cases hn:n < 0
  · rw [if_pos hn,List.length_cons]
    have:=dec_len (-n).toNat (by omega)
    omega
  · rw [if_neg hn]
    have:=dec_len n.toNat (by omega)
    omega
theorem lineO_size (B:Nat):∀ (ws:List ByteArray) (t:ByteArray),(∀ x∈ws,x.size≤B)→(lineO t ws).size≤t.size + ws.length * (B + 1)
  | [],t,h=>by simp [lineO]
  | x::r,t,h=>by
    have ih:=lineO_size B r ((t++spB)++x) (fun y hy=>h y (List.mem_cons_of_mem _ hy))
    have hx:=h x (List.mem_cons_self ..)
    have e:lineO t (x::r)=lineO ((t++spB)++x) r:=rfl
    have hs:spB.size=1:=rfl
    rw [e,List.length_cons,Nat.add_mul]
    rw [ByteArray.size_append,ByteArray.size_append,hs] at ih
    omega
theorem evText (n:Int) (h0:0≤n) (h:n < 18446744073709551616):Ev (fun k=>cellaretref1_Text.f k n) (decB n):=by
  have e:=evRefText n.toNat (by omega)
  rw [show ((n.toNat:Nat):Int)=n by omega] at e
  exact e
theorem evSgn (n:Int) (h0:-9223372036854775808≤n) (h:n < 9223372036854775808):Ev (fun k=>cellaretlaw18_signed.f k n) (ba (sgn n)):=by
  unfold cellaretlaw18_signed.f sgn
  by_cases hn:n < 0
  · have hw:IntKind.u64.wrap (wrap64 (-n))=((-n).toNat:Int):=by rw [IntKind.wrap_u64];unfold wrap64;omega
    have e:=evText (-n) (by omega) (by omega)
    have hs:=(dec_size (-n) (by omega) (by omega)).2
    simp only [if_pos hn,hw]
    rw [show (((-n).toNat:Nat):Int)=-n by omega]
    refine Ev.bind e ?_
    simp only [if_pos (show 1 + (decB (-n)).size≤9223372036854775807 by omega)]
    have hx:(⟨#[45]⟩:ByteArray)++decB (-n)=ba (45::Lib.decDigits (-n).toNat):=ba_ext (by unfold decB;rw [ba_app,ba_toList];rfl)
    rw [hx]
    exact Ev.now _
  · have hw:IntKind.u64.wrap n=n:=by rw [IntKind.wrap_u64];omega
    simp only [if_neg hn,hw]
    exact Ev.bind (evText n (by omega) (by omega)) (Ev.now _)
/-! What is written. -/
def nameW (d:Cd):ByteArray:=
  if d.what=getT then (if d.withTouch=true then (if d.withCas=true then gatsW else gatW) else (if d.withCas=true then getsW else getW))
  else if d.what=storeT then d.verb else if d.what=wordT then d.verb else if d.what=arithT then (if d.down=true then decrW else incrW) else if d.what=flushT then flushW else d.what
def preW (d:Cd):List ByteArray:=if d.what=getT∧d.withTouch=true then [ba (sgn d.exp)] else []
def keysW (d:Cd):List ByteArray:=if d.what=flushT∨d.what=wordT then [] else d.keys
def midW (d:Cd):List ByteArray:=
  if d.what=storeT then (if d.verb=casW then [decB d.flags,ba (sgn d.exp),decB d.data.size,decB d.cas] else [decB d.flags,ba (sgn d.exp),decB d.data.size])
  else if d.what=arithT then [decB d.by_] else if d.what=touchT then [ba (sgn d.exp)] else []
def quietW (d:Cd):Prop:=d.quiet=true∧d.what≠getT∧d.what≠wordT
instance (d:Cd):Decidable (quietW d):=by unfold quietW;infer_instance
def finW (d:Cd) (t:ByteArray):ByteArray:=
  let u:=(if quietW d then t++quB else t)++nlB
  if d.what=storeT then (u++d.data)++nlB else u
def lineD (d:Cd):ByteArray:=lineO (lineO (lineO (nameW d) (preW d)) (keysW d)) (midW d)
def spellD (d:Cd):ByteArray:=if d.what=badT∨d.what=ez then ez else finW d (lineD d)
/-- A command's numbers are what their types hold; its texts have a size. -/
def Fits (d:Cd) (B:Nat):Prop:=(0≤d.flags∧d.flags < 4294967296)∧(-9223372036854775808≤d.exp∧d.exp < 9223372036854775808)∧(0≤d.cas∧d.cas < 18446744073709551616)∧(0≤d.by_∧d.by_ < 18446744073709551616)∧d.verb.size≤B∧d.what.size≤B∧d.data.size≤B∧(∀ x∈d.keys,x.size≤B)∧d.keys.length≤100
def wj5 (d:Cd) (t:ByteArray) (k:Nat):=cellaretlaw18_written.j5 k t d.what d.verb d.keys d.data d.flags d.exp d.cas d.by_ d.withCas d.withTouch d.down d.quiet
def wj4 (d:Cd) (t:ByteArray) (k:Nat):=cellaretlaw18_written.j4 k t d.what d.verb d.keys d.data d.flags d.exp d.cas d.by_ d.withCas d.withTouch d.down d.quiet
theorem w6 (d : Cd) (t : ByteArray) (ht : t.size ≤ 1000000000000000000) (hd : d.data.size ≤ 1000000000000000000) (b : Bool) (hb : b = decide (quietW d)) :
    Ev (fun k=>cellaretlaw18_written.j6 k t b d.what d.verb d.keys d.data d.flags d.exp d.cas d.by_ d.withCas d.withTouch d.down d.quiet) (finW d t):=by
  refine Ev.step (fun k=>cellaretlaw18_written.j6.eq_2 _ _ _ _ _ _ _ _ _ _ _ _ _ _ _) ?_
  subst hb
  unfold finW
  have z1:quB.size=8:=rfl
  have z2:nlB.size=2:=rfl
  by_cases hq:quietW d
  · simp only [decide_eq_true hq,if_true,if_pos hq,eq_tl d.what storeT _ (tl _)]
    simp only [ByteArray.size_append,z1,z2,if_pos (show t.size + 8≤9223372036854775807 by omega),if_pos (show t.size + 8 + 2≤9223372036854775807 by omega)]
    by_cases hw:d.what=storeT
    · simp only [if_pos hw,if_pos (show t.size + 8 + 2 + d.data.size≤9223372036854775807 by omega),if_pos (show t.size + 8 + 2 + d.data.size + 2≤9223372036854775807 by omega)]
      exact Ev.now _
    · simp only [if_neg hw];exact Ev.now _
  · simp only [decide_eq_false hq,Bool.false_eq_true,if_false,if_neg hq,eq_tl d.what storeT _ (tl _)]
    simp only [ByteArray.size_append,z1,z2,if_pos (show t.size + 2≤9223372036854775807 by omega)]
    by_cases hw:d.what=storeT
    · simp only [if_pos hw,if_pos (show t.size + 2 + d.data.size≤9223372036854775807 by omega),if_pos (show t.size + 2 + d.data.size + 2≤9223372036854775807 by omega)]
      exact Ev.now _
    · simp only [if_neg hw];exact Ev.now _
theorem w5 (d:Cd) (t:ByteArray) (ht:t.size≤1000000000000000000) (hd:d.data.size≤1000000000000000000):Ev (wj5 d t) (finW d t):=by
  unfold wj5
  refine Ev.step (fun k=>cellaretlaw18_written.j5.eq_2 _ _ _ _ _ _ _ _ _ _ _ _ _ _) ?_
  by_cases hq:d.quiet=true
  · simp only [if_pos hq,eq_tl d.what getT _ (tl _)]
    by_cases hg:d.what=getT
    · simp only [if_pos hg]
      exact w6 d t ht hd _ (decide_eq_false (fun e:quietW d=>e.2.1 hg)).symm
    · simp only [if_neg hg]
      refine w6 d t ht hd _ ?_
      rw [bne,beq_tl d.what wordT _ (tl _)]
      by_cases hw:d.what=wordT
      · rw [decide_eq_true hw,decide_eq_false (fun e:quietW d=>e.2.2 hw)];rfl
      · rw [decide_eq_false hw,decide_eq_true (show quietW d from ⟨hq,hg,hw⟩)];rfl
  · simp only [if_neg hq]
    exact w6 d t ht hd _ (decide_eq_false (fun e:quietW d=>hq e.1)).symm
theorem w4 (d:Cd) {B:Nat} (hF:Fits d B) (hB:B≤1000000000000000) (t:ByteArray) (ht:t.size≤100000000000000000):Ev (wj4 d t) (if d.what=badT∨d.what=ez then ez else finW d (lineO t (midW d))):=by
  obtain ⟨⟨f1,f2⟩,⟨e1,e2⟩,⟨c1,c2⟩,⟨b1,b2⟩,hv,hwz,hd,hk,hn⟩:=hF
  have z1:spB.size=1:=rfl
  have s1:=(dec_size d.flags (by omega) (by omega)).2
  have s2:=(sgn_size d.exp e1 e2).2
  have s3:=(dec_size (d.data.size:Int) (by omega) (by omega)).2
  have s4:=(dec_size d.cas c1 c2).2
  have s5:=(dec_size d.by_ b1 b2).2
  have s2':(ba (sgn d.exp)).size≤21:=by rw [ba_size];exact s2
  have hdd:d.data.size≤1000000000000000000:=by omega
  unfold wj4
  refine Ev.step (fun k=>cellaretlaw18_written.j4.eq_2 _ _ _ _ _ _ _ _ _ _ _ _ _ _) ?_
  simp only [eq_tl d.what storeT _ (tl _),eq_tl d.what arithT _ (tl _),eq_tl d.what touchT _ (tl _),eq_tl d.what badT _ (tl _),eq_tl d.what ez [] (tl _),eq_tl d.verb casW _ (tl _),ByteArray.size_append,z1]
  by_cases hs:d.what=storeT
  · have hm:¬ (d.what=badT∨d.what=ez):=by rw [hs];decide
    have w1:IntKind.u64.wrap d.flags=d.flags:=by rw [IntKind.wrap_u64];omega
    have w2:IntKind.u64.wrap (d.data.size:Int)=(d.data.size:Int):=by rw [IntKind.wrap_u64];omega
    simp only [if_pos hs,if_neg hm,w1,w2,if_pos (show t.size + 1≤9223372036854775807 by omega)]
    refine Ev.bind (evText d.flags (by omega) (by omega)) ?_
    simp only [if_pos (show t.size + 1 + (decB d.flags).size≤9223372036854775807 by omega),if_pos (show t.size + 1 + (decB d.flags).size + 1≤9223372036854775807 by omega)]
    refine Ev.bind (evSgn d.exp e1 e2) ?_
    simp only [if_pos (show t.size + 1 + (decB d.flags).size + 1 + (ba (sgn d.exp)).size≤9223372036854775807 by omega),if_pos (show t.size + 1 + (decB d.flags).size + 1 + (ba (sgn d.exp)).size + 1≤9223372036854775807 by omega)]
    refine Ev.bind (evText (d.data.size:Int) (by omega) (by omega)) ?_
    simp only [if_pos (show t.size + 1 + (decB d.flags).size + 1 + (ba (sgn d.exp)).size + 1 + (decB (d.data.size:Int)).size≤9223372036854775807 by omega)]
    unfold midW
    by_cases hc:d.verb=casW
    · simp only [if_pos hs,if_pos hc,if_pos (show t.size + 1 + (decB d.flags).size + 1 + (ba (sgn d.exp)).size + 1 + (decB (d.data.size:Int)).size + 1≤9223372036854775807 by omega)]
      refine Ev.bind (evText d.cas c1 c2) ?_
      simp only [if_pos (show t.size + 1 + (decB d.flags).size + 1 + (ba (sgn d.exp)).size + 1 + (decB (d.data.size:Int)).size + 1 + (decB d.cas).size≤9223372036854775807 by omega)]
      exact w5 d _ (by simp only [ByteArray.size_append,z1];omega) hdd
    · simp only [if_pos hs,if_neg hc]
      exact w5 d _ (by simp only [ByteArray.size_append,z1];omega) hdd
  · simp only [if_neg hs]
    unfold midW
    by_cases ha:d.what=arithT
    · have hm:¬ (d.what=badT∨d.what=ez):=by rw [ha];decide
      simp only [if_pos ha,if_neg hs,if_neg hm,if_pos (show t.size + 1≤9223372036854775807 by omega)]
      refine Ev.bind (evText d.by_ b1 b2) ?_
      simp only [if_pos (show t.size + 1 + (decB d.by_).size≤9223372036854775807 by omega)]
      exact w5 d _ (by simp only [ByteArray.size_append,z1];omega) hdd
    · simp only [if_neg ha]
      by_cases hto:d.what=touchT
      · have hm:¬ (d.what=badT∨d.what=ez):=by rw [hto];decide
        simp only [if_pos hto,if_neg hs,if_neg ha,if_neg hm,if_pos (show t.size + 1≤9223372036854775807 by omega)]
        refine Ev.bind (evSgn d.exp e1 e2) ?_
        simp only [if_pos (show t.size + 1 + (ba (sgn d.exp)).size≤9223372036854775807 by omega)]
        exact w5 d _ (by simp only [ByteArray.size_append,z1];omega) hdd
      · simp only [if_neg hto,if_neg hs,if_neg ha]
        by_cases hb:d.what=badT
        · simp only [if_pos hb,if_pos (show d.what=badT∨d.what=ez from .inl hb)];exact Ev.now _
        · by_cases he:d.what=ez
          · simp only [if_neg hb,if_pos he,if_pos (show d.what=badT∨d.what=ez from .inr he)];exact Ev.now _
          · simp only [if_neg hb,if_neg he,if_neg (show ¬ (d.what=badT∨d.what=ez) from fun z=>z.elim hb he)]
            exact w5 d _ (by omega) hdd
theorem wl0 (d : Cd) {B : Nat} (hF : Fits d B) (hB : B ≤ 140737488351232) : ∀ (m i : Nat) (t : ByteArray), i + m = d.keys.length → t.size + m * (B + 1) ≤ 100000000000000000 →
    Ev (fun k=>cellaretlaw18_written.l0 k t (i:Int) d.what d.verb d.keys d.data d.flags d.exp d.cas d.by_ d.withCas d.withTouch d.down d.quiet) (if d.what=badT∨d.what=ez then ez else finW d (lineO (lineO t (d.keys.drop i)) (midW d)))
  | 0,i,t,hi,ht=>by
    refine Ev.step (fun k=>cellaretlaw18_written.l0.eq_2 _ _ _ _ _ _ _ _ _ _ _ _ _ _ _) ?_
    simp only [if_neg (show ¬ (i:Int) < (d.keys.length:Int) by omega)]
    rw [List.drop_of_length_le (by omega)]
    exact w4 d hF (by omega) t (by omega)
  | m + 1,i,t,hi,ht=>by
    have hlt:i < d.keys.length:=by omega
    have hk:=hF.2.2.2.2.2.2.2.1 d.keys[i] (List.getElem_mem hlt)
    have hn:=hF.2.2.2.2.2.2.2.2
    have z1:spB.size=1:=rfl
    rw [Nat.add_mul,Nat.one_mul] at ht
    refine Ev.step (fun k=>cellaretlaw18_written.l0.eq_2 _ _ _ _ _ _ _ _ _ _ _ _ _ _ _) ?_
    simp only [if_pos (show (i:Int) < (d.keys.length:Int) by omega),if_pos (show (0:Int)≤(i:Int) by omega),rdOf_at ByteArray.empty d.keys i hlt,wrap_next (show (0:Int)≤(i:Int) by omega) (by omega),ByteArray.size_append,z1,if_pos (show t.size + 1≤9223372036854775807 by omega),if_pos (show t.size + 1 + d.keys[i].size≤9223372036854775807 by omega)]
    rw [List.drop_eq_getElem_cons hlt]
    exact wl0 d hF hB m (i + 1) ((t++spB)++d.keys[i]) (by omega) (by simp only [ByteArray.size_append,z1];omega)
theorem evName (d:Cd):Ev (fun k=>cellaretref18_Name.f k d.what d.verb d.keys d.data d.flags d.exp d.cas d.by_ d.withCas d.withTouch d.down d.quiet) (nameW d):=by
  unfold cellaretref18_Name.f nameW
  simp only [eq_tl d.what getT _ (tl _),eq_tl d.what storeT _ (tl _),beq_tl d.what storeT _ (tl _),beq_tl d.what wordT _ (tl _)]
  by_cases hg:d.what=getT
  · simp only [if_pos hg]
    by_cases ht:d.withTouch=true
    · simp only [if_pos ht]
      by_cases hc:d.withCas=true
      · simp only [if_pos hc];exact Ev.now _
      · simp only [if_neg hc];exact Ev.now _
    · simp only [if_neg ht]
      by_cases hc:d.withCas=true
      · simp only [if_pos hc];exact Ev.now _
      · simp only [if_neg hc];exact Ev.now _
  · simp only [if_neg hg]
    by_cases hs:d.what=storeT
    · simp only [if_pos hs,decide_eq_true hs]
      refine Ev.step (fun k=>cellaretref18_Name.j0.eq_2 _ _ _ _ _ _ _ _ _ _ _ _ _ _ _) ?_
      simp only [if_true];exact Ev.now _
    · simp only [if_neg hs]
      refine Ev.step (fun k=>cellaretref18_Name.j0.eq_2 _ _ _ _ _ _ _ _ _ _ _ _ _ _ _) ?_
      by_cases hw:d.what=wordT
      · simp only [if_pos hw,decide_eq_true hw,if_true];exact Ev.now _
      · simp only [if_neg hw,decide_eq_false hw,Bool.false_eq_true,if_false,eq_tl d.what arithT _ (tl _),eq_tl d.what flushT _ (tl _)]
        by_cases ha:d.what=arithT
        · simp only [if_pos ha]
          by_cases hd:d.down=true
          · simp only [if_pos hd];exact Ev.now _
          · simp only [if_neg hd];exact Ev.now _
        · simp only [if_neg ha]
          by_cases hf:d.what=flushT
          · simp only [if_pos hf];exact Ev.now _
          · simp only [if_neg hf];exact Ev.now _
theorem name_size (d:Cd) {B:Nat} (hF:Fits d B):(nameW d).size≤B + 9:=by
  obtain ⟨_,_,_,_,hv,hwz,_⟩:=hF
  unfold nameW
  (repeat' split)<;>first | omega | (simp only [ByteArray.size];decide) | skip
  all_goals (first | omega | (show (_:Nat)≤_;exact Nat.le_trans (by decide:_≤9) (Nat.le_add_left ..)))
theorem evWritten (d:Cd) {B:Nat} (hF:Fits d B) (hB:B≤140737488351232):Ev (fun k=>cellaretlaw18_written.f k d.what d.verb d.keys d.data d.flags d.exp d.cas d.by_ d.withCas d.withTouch d.down d.quiet) (spellD d):=by
  unfold cellaretlaw18_written.f
  refine Ev.bind (evName d) ?_
  have hns:=name_size d hF
  have hn:=hF.2.2.2.2.2.2.2.2
  have he:=hF.2.1
  have z1:spB.size=1:=rfl
  have hm:d.keys.length * (B + 1)≤100 * (B + 1):=Nat.mul_le_mul_right _ hn
  have key:∀ t:ByteArray,t.size≤B + 100→Ev (fun k=>cellaretlaw18_written.j1 k t d.what d.verb d.keys d.data d.flags d.exp d.cas d.by_ d.withCas d.withTouch d.down d.quiet) (if d.what=badT∨d.what=ez then ez else finW d (lineO (lineO t (keysW d)) (midW d))):=by
    intro t ht
    have h2:∀ b,b=decide (¬ (d.what=flushT∨d.what=wordT))→Ev (fun k=>cellaretlaw18_written.j2 k t b d.what d.verb d.keys d.data d.flags d.exp d.cas d.by_ d.withCas d.withTouch d.down d.quiet) (if d.what=badT∨d.what=ez then ez else finW d (lineO (lineO t (keysW d)) (midW d))):=by
      intro b hb
      subst hb
      refine Ev.step (fun k=>cellaretlaw18_written.j2.eq_2 _ _ _ _ _ _ _ _ _ _ _ _ _ _ _) ?_
      unfold keysW
      by_cases hx:d.what=flushT∨d.what=wordT
      · simp only [decide_eq_false (not_not_intro hx),Bool.false_eq_true,if_false,if_pos hx]
        exact w4 d hF (by omega) t (by omega)
      · simp only [decide_eq_true hx,if_true,if_neg hx]
        exact wl0 d hF hB d.keys.length 0 t (by omega) (by omega)
    refine Ev.step (fun k=>cellaretlaw18_written.j1.eq_2 _ _ _ _ _ _ _ _ _ _ _ _ _ _) ?_
    simp only [eq_tl d.what flushT _ (tl _)]
    by_cases hf:d.what=flushT
    · simp only [if_pos hf]
      exact h2 _ (decide_eq_false (not_not_intro (.inl hf))).symm
    · simp only [if_neg hf]
      refine h2 _ ?_
      rw [bne,beq_tl d.what wordT _ (tl _)]
      by_cases hw:d.what=wordT
      · rw [decide_eq_true hw,decide_eq_false (not_not_intro (.inr hw))];rfl
      · rw [decide_eq_false hw,decide_eq_true (show ¬ (d.what=flushT∨d.what=wordT) from fun z=>z.elim hf hw)];rfl
  have h0:∀ b,b=decide (d.what=getT∧d.withTouch=true)→Ev (fun k=>cellaretlaw18_written.j0 k (nameW d) b d.what d.verb d.keys d.data d.flags d.exp d.cas d.by_ d.withCas d.withTouch d.down d.quiet) (spellD d):=by
    intro b hb
    subst hb
    refine Ev.step (fun k=>cellaretlaw18_written.j0.eq_2 _ _ _ _ _ _ _ _ _ _ _ _ _ _ _) ?_
    unfold spellD lineD preW
    have s2:=(sgn_size d.exp he.1 he.2).2
    have s2':(ba (sgn d.exp)).size≤21:=by rw [ba_size];exact s2
    by_cases hx:d.what=getT∧d.withTouch=true
    · simp only [decide_eq_true hx,if_true,if_pos hx,ByteArray.size_append,z1,if_pos (show (nameW d).size + 1≤9223372036854775807 by omega)]
      refine Ev.bind (evSgn d.exp he.1 he.2) ?_
      simp only [if_pos (show (nameW d).size + 1 + (ba (sgn d.exp)).size≤9223372036854775807 by omega)]
      exact key _ (by simp only [ByteArray.size_append,z1];omega)
    · simp only [decide_eq_false hx,Bool.false_eq_true,if_false,if_neg hx]
      exact key _ (by omega)
  simp only [eq_tl d.what getT _ (tl _)]
  by_cases hg:d.what=getT
  · simp only [if_pos hg]
    refine h0 _ ?_
    cases ht:d.withTouch
    · exact (decide_eq_false (fun z:_∧_=>by simp [ht] at z)).symm
    · exact (decide_eq_true ⟨hg,rfl⟩).symm
  · simp only [if_neg hg]
    exact h0 _ (decide_eq_false (fun z:_∧_=>hg z.1)).symm
/-! Is it good? -/
def kindG (d:Cd):Bool:=
  if d.what=getT then decide (1≤d.keys.length)&&decide (d.keys.length≤64)
  else if d.what=storeT then decide (isStoreW d.verb)&&decide (d.data.size≤1024)
  else if d.what=wordT then decide (d.verb=versionW∨d.verb=quitW)
  else decide (d.what=arithT∨d.what=touchT∨d.what=deleteT∨d.what=flushT)
def goodD (d:Cd):Bool:=d.keys.all keyF&&kindG d
theorem verb_is (s:ByteArray):cellaretref18_verb.f s=some (decide (isStoreW s)):=by
  unfold cellaretref18_verb.f isStoreW
  simp only [eq_tl s setW _ (tl _),eq_tl s addW _ (tl _),eq_tl s replaceW _ (tl _),eq_tl s appendW _ (tl _),eq_tl s prependW _ (tl _),beq_tl s casW _ (tl _)]
  (repeat' split)<;>simp_all
theorem good_kind (d:Cd) (hn:d.keys.length≤100):∀ k:Nat,(if d.what.toList=([103,101,116]:List UInt8) then (if (d.keys.length:Int)≥1 then (some (decide ((d.keys.length:Int)≤64))) else (some false)) else (if d.what.toList=([115,116,111,114,101]:List UInt8) then ((cellaretref18_verb.f d.verb).bind fun t160=>(if t160=true then (some (decide ((d.data.size:Int)≤1024))) else (some false))) else (if d.what.toList=([119,111,114,100]:List UInt8) then (if d.verb.toList=([118,101,114,115,105,111,110]:List UInt8) then (some true) else (some (d.verb.toList==([113,117,105,116]:List UInt8)))) else (if d.what.toList=([97,114,105,116,104]:List UInt8) then (some true) else (if d.what.toList=([116,111,117,99,104]:List UInt8) then (some true) else (if d.what.toList=([100,101,108,101,116,101]:List UInt8) then (some true) else (if d.what.toList=([102,108,117,115,104]:List UInt8) then (some true) else (some false))))))))=some (kindG d):=by
  intro k
  unfold kindG
  simp only [eq_tl d.what getT _ (tl _),eq_tl d.what storeT _ (tl _),eq_tl d.what wordT _ (tl _),eq_tl d.what arithT _ (tl _),eq_tl d.what touchT _ (tl _),eq_tl d.what deleteT _ (tl _),eq_tl d.what flushT _ (tl _),eq_tl d.verb versionW _ (tl _),beq_tl d.verb quitW _ (tl _),verb_is,Option.bind_some]
  by_cases hg:d.what=getT
  · simp only [if_pos hg]
    by_cases h1:1≤d.keys.length
    · simp only [if_pos (show (d.keys.length:Int)≥1 by omega),decide_eq_true h1,Bool.true_and]
      exact congrArg some (decide_eq_decide.2 ⟨fun h=>by omega,fun h=>by omega⟩)
    · simp only [if_neg (show ¬ (d.keys.length:Int)≥1 by omega),decide_eq_false h1,Bool.false_and]
  · simp only [if_neg hg]
    by_cases hs:d.what=storeT
    · simp only [if_pos hs,decide_eq_true_iff]
      by_cases hv:isStoreW d.verb
      · simp only [if_pos hv,decide_eq_true hv,Bool.true_and]
        exact congrArg some (decide_eq_decide.2 ⟨fun h=>by omega,fun h=>by omega⟩)
      · simp only [if_neg hv,decide_eq_false hv,Bool.false_and]
    · simp only [if_neg hs]
      by_cases hw:d.what=wordT
      · simp only [if_pos hw]
        by_cases hv:d.verb=versionW
        · simp [hv]
        · simp [hv]
      · simp only [if_neg hw]
        (repeat' split)<;>simp_all
theorem evGood (d:Cd) {B:Nat} (hF:Fits d B) (hB:B≤140737488351232):Ev (fun k=>cellaretref18_Good.f k d.what d.verb d.keys d.data d.flags d.exp d.cas d.by_ d.withCas d.withTouch d.down d.quiet) (goodD d):=by
  unfold cellaretref18_Good.f
  have key:∀ (m i:Nat),i + m=d.keys.length→Ev (fun k=>cellaretref18_Good.l0 k (i:Int) d.what d.verb d.keys d.data d.flags d.exp d.cas d.by_ d.withCas d.withTouch d.down d.quiet) ((d.keys.drop i).all keyF&&kindG d):=by
    intro m
    induction m with
    | zero=>
      intro i hi
      refine Ev.step (fun k=>cellaretref18_Good.l0.eq_2 _ _ _ _ _ _ _ _ _ _ _ _ _ _) ?_
      simp only [if_neg (show ¬ (i:Int) < (d.keys.length:Int) by omega)]
      rw [List.drop_of_length_le (by omega)]
      refine Ev.congr (fun k=>good_kind d hF.2.2.2.2.2.2.2.2 k) ?_
      simpa using Ev.now _
    | succ m ih=>
      intro i hi
      have hlt:i < d.keys.length:=by omega
      have hk:=hF.2.2.2.2.2.2.2.1 d.keys[i] (List.getElem_mem hlt)
      have hn:=hF.2.2.2.2.2.2.2.2
      refine Ev.step (fun k=>cellaretref18_Good.l0.eq_2 _ _ _ _ _ _ _ _ _ _ _ _ _ _) ?_
      simp only [if_pos (show (i:Int) < (d.keys.length:Int) by omega),if_pos (show (0:Int)≤(i:Int) by omega),rdOf_at ByteArray.empty d.keys i hlt,wrap_next (show (0:Int)≤(i:Int) by omega) (by omega)]
      refine Ev.bind (evRefKey d.keys[i] (by omega)) ?_
      rw [List.drop_eq_getElem_cons hlt,List.all_cons]
      by_cases hkk:keyF d.keys[i]=true
      · simp only [if_pos hkk,hkk,Bool.true_and]
        exact ih (i + 1) (by omega)
      · simp only [if_neg hkk,eq_false_of_ne_true hkk,Bool.false_and]
        exact Ev.now _
  exact key d.keys.length 0 (by omega)
end Go.Proofs.YtfbhlbchmenloaaGreatDoor.O
end
section
namespace Go.Proofs.YtfbhlbchmenloaaGreatDoor.O
open Go Go.RowKit Go.Proofs.YtfbhlbchmenloaaGreatDoorW.PrintWords Go.Proofs.YtfbhlbchmenloaaGreatDoor.H Go.Proofs.YtfbhlbchmenloaaGreatDoor.L Go.Proofs.YtfbhlbchmenloaaGreatDoor.Pure
set_option linter.unusedSimpArgs false
set_option linter.unusedVariables false
/-- A word: no blank, no end of a line in it. -/
def Wd (w:ByteArray):Prop:=w.data.toList≠[]∧∀ c∈w.data.toList,c≠32∧c≠10
theorem lineO_app (t:ByteArray) (a b:List ByteArray):lineO (lineO t a) b=lineO t (a++b):=by
  unfold lineO
  rw [List.foldl_append]
theorem lineO_list (t x:ByteArray):((t++spB)++x).data.toList=t.data.toList++32::x.data.toList:=by
  rw [ByteArray.data_append,Array.toList_append,ByteArray.data_append,Array.toList_append,List.append_assoc]
  rfl
theorem lineO_words:∀ (ws:List ByteArray) (t:ByteArray),(∀ x∈ws,Wd x)→wl [] (lineO t ws).data.toList=wl [] t.data.toList++ws.map (fun x=>x.data.toList)
  | [],t,h=>by simp [lineO]
  | x::r,t,h=>by
    have ih:=lineO_words r ((t++spB)++x) (fun y hy=>h y (List.mem_cons_of_mem _ hy))
    obtain ⟨h1,h2⟩:=h x (List.mem_cons_self ..)
    have e:lineO t (x::r)=lineO ((t++spB)++x) r:=rfl
    have hx:=wl_word x.data.toList [] (fun c hc=>(h2 c hc).1)
    rw [List.nil_append,if_neg h1] at hx
    rw [e,ih,lineO_list,wl_app,hx,List.map_cons,List.append_assoc,List.singleton_append]
theorem lineO_lacks:∀ (ws:List ByteArray) (t:ByteArray),Lacks 10 t→(∀ x∈ws,Wd x)→Lacks 10 (lineO t ws)
  | [],t,ht,h=>ht
  | x::r,t,ht,h=>by
    refine lineO_lacks r ((t++spB)++x) ?_ (fun y hy=>h y (List.mem_cons_of_mem _ hy))
    refine lacks_app (lacks_app ht (by unfold Lacks;decide)) ?_
    exact fun c hc=>((h x (List.mem_cons_self ..)).2 c hc).2
theorem words_of {n:ByteArray} {ws:List ByteArray} (hn:Wd n) (h:∀ x∈ws,Wd x):(wl [] (lineO n ws).data.toList).map ba=n::ws:=by
  have hx:=wl_word n.data.toList [] (fun c hc=>(hn.2 c hc).1)
  rw [List.nil_append,if_neg hn.1] at hx
  rw [lineO_words ws n h,hx,List.singleton_append,List.map_cons,List.map_map,ba_of]
  congr 1
  conv=>rhs;rw [← List.map_id ws]
  exact List.map_congr_left fun c _=>ba_of c
theorem wd_dec (n:Nat):Wd (ba (Lib.decDigits n)):=by
  unfold Wd
  rw [ba_toList]
  refine ⟨?_,fun c hc=>⟨dec_ne n 32 (by decide) c hc,dec_ne n 10 (by decide) c hc⟩⟩
  rw [Lib.decDigits]
  split
  · simp
  · simp
theorem wd_sgn (n:Int):Wd (ba (sgn n)):=by
  unfold sgn
  split
  · obtain ⟨h1,h2⟩:=wd_dec (-n).toNat
    unfold Wd at *
    rw [ba_toList] at *
    refine ⟨by simp,fun c hc=>?_⟩
    rcases List.mem_cons.1 hc with rfl | hc
    · decide
    · exact h2 c hc
  · exact wd_dec _
theorem wd_key (k:ByteArray) (h:keyF k=true):Wd k:=by
  obtain ⟨h1,h2,h3⟩:=key_is k h
  refine ⟨fun e=>?_,fun c hc=>?_⟩
  · have:=len_eq k
    rw [e] at this
    simp at this
    omega
  · have:=h3 c hc
    refine ⟨fun e=>?_,fun e=>?_⟩<;>subst e<;>exact absurd this (by decide)
theorem dec_head (n:Nat):∃ c r,Lib.decDigits n=c::r∧c.toNat≥48:=by
  obtain ⟨h1,h2⟩:=wd_dec n
  rw [ba_toList] at h1 h2
  match h:Lib.decDigits n with
  | []=>exact absurd h h1
  | c::r=>exact ⟨c,r,rfl,(dec_mem n c (by rw [h];exact List.mem_cons_self ..)).1⟩
theorem signF_sgn (n:Int) (h0:-9223372036854775808≤n) (h:n < 9223372036854775808):signF (sgn n)=(n,true):=by
  unfold sgn
  by_cases hn:n < 0
  · rw [if_pos hn]
    have hl:=dec_len (-n).toNat (by omega)
    have hf:=numF_dec (-n).toNat 0 (by omega) (by omega)
    rw [List.replicate_zero,List.nil_append] at hf
    unfold signF
    rw [show negL (45::Lib.decDigits (-n).toNat)=true from rfl,if_pos rfl,show (45::Lib.decDigits (-n).toNat).drop 1=Lib.decDigits (-n).toNat from rfl,hf,if_pos ⟨rfl,by show (((-n).toNat:Nat):Int)≤_;omega⟩]
    have e:wrap64 (-(wrap64 (((-n).toNat:Nat):Int)))=n:=by unfold wrap64;omega
    rw [e]
  · rw [if_neg hn]
    obtain ⟨c,r,e,hc⟩:=dec_head n.toNat
    have hng:negL (Lib.decDigits n.toNat)=false:=by
      rw [e]
      show (c==45)=false
      rw [beq_eq_false_iff_ne]
      rintro rfl
      exact absurd hc (by decide)
    have hl:=dec_len n.toNat (by omega)
    have hf:=numF_dec n.toNat 0 (by omega) (by omega)
    rw [List.replicate_zero,List.nil_append] at hf
    unfold signF
    rw [hng,hf,if_neg (by simp),if_pos ⟨rfl,by show ((n.toNat:Nat):Int) < _;omega⟩]
    have e2:wrap64 ((n.toNat:Nat):Int)=n:=by unfold wrap64;omega
    rw [e2]
theorem numF_decB (n:Int) (h0:0≤n) (h:n < 18446744073709551616):numF (decB n).data.toList=(n,true):=by
  unfold decB
  rw [num_digits n.toNat (by omega)]
  rw [show ((n.toNat:Nat):Int)=n by omega]
theorem signF_B (n:Int) (h0:-9223372036854775808≤n) (h:n < 9223372036854775808):signF (ba (sgn n)).data.toList=(n,true):=by rw [ba_toList,signF_sgn n h0 h]
/-! The line. -/
def qW (d:Cd):List ByteArray:=if quietW d then [noreplyW] else []
def lineF (d:Cd):ByteArray:=lineO (nameW d) (preW d++keysW d++midW d++qW d)
theorem fin_is (d:Cd):finW d (lineD d)=if d.what=storeT then ((lineF d++nlB)++d.data)++nlB else lineF d++nlB:=by
  have h:(if quietW d then lineD d++quB else lineD d)=lineF d:=by
    unfold lineF lineD qW
    rw [lineO_app,lineO_app,← List.append_assoc]
    by_cases hq:quietW d
    · rw [if_pos hq,if_pos hq]
      have e:lineO (nameW d) (preW d++keysW d++midW d++[noreplyW])=(lineO (nameW d) (preW d++keysW d++midW d)++spB)++noreplyW:=(lineO_app _ _ _).symm
      rw [e]
      refine ba_ext ?_
      rw [lineO_list,ByteArray.data_append,Array.toList_append]
    · rw [if_neg hq,if_neg hq,List.append_nil]
  unfold finW
  simp only [h]
theorem spell_feed (d:Cd) (h1:d.what≠badT) (h2:d.what≠ez):psFeed psNew (bytesOf (spellD d))=⟨bytesOf (lineF d)++13::10::(if d.what=storeT then bytesOf d.data++[13,10] else []),false,.nil,0⟩:=by
  unfold spellD
  rw [if_neg (fun z=>z.elim h1 h2),fin_is]
  have hn:bytesOf nlB=[13,10]:=rfl
  by_cases hs:d.what=storeT
  · rw [if_pos hs,if_pos hs,bytes_app,bytes_app,bytes_app,hn]
    unfold psFeed psNew
    simp
  · rw [if_neg hs,if_neg hs,bytes_app,hn]
    unfold psFeed psNew
    simp
theorem next_end (m:Int):nextR ⟨[],false,.nil,m⟩=(.pl .nil,false,⟨[],false,.nil,m⟩):=by
  unfold nextR
  rw [nrm_off rfl]
  unfold nextN
  rw [if_neg (by simp),if_pos (by rfl),if_pos (show idx10 [] < 0 by decide),if_neg (show ¬ 2048 < (trimL []).length by decide)]
/-- One key, or none, or a Get's; no more. -/
def Form (d:Cd):Prop:=(d.what=getT)∨(d.what=storeT∧∃ k,d.keys=[k])∨(d.what=arithT∧∃ k,d.keys=[k])∨(d.what=touchT∧∃ k,d.keys=[k])∨(d.what=deleteT∧∃ k,d.keys=[k])∨d.what=flushT∨d.what=badT∨d.what=wordT∨d.what=ez
theorem back_form (d:Cd):Form (backD d):=by
  unfold backD Form
  (repeat' split)<;>simp [back_get,back_store,back_arith,back_touch,back_delete,back_flush,back_bad,back_word,back_other,ez]
/-- What a line of words comes to. -/
theorem line_reads (d : Cd) (n : ByteArray) (ws : List ByteArray) (hn : nameW d = n) (hw : preW d ++ keysW d ++ midW d ++ qW d = ws) (wn : Wd n) (ww : ∀ x ∈ ws, Wd x) (hsz : (lineO n ws).size ≤ 2048) (x : Cx) (hx : lineX (n :: ws) = (x, -1)) (h1 : d.what ≠ badT) (h2 : d.what ≠ ez) (h3 : d.what ≠ storeT) :
    nextR (psFeed psNew (bytesOf (spellD d)))=(x,true,⟨[],false,.nil,0⟩):=by
  have e:=next_crlf (s:=lineO n ws) (lineO_lacks ws n (fun c hc=>(wn.2 c hc).2) ww) hsz [] 0
  rw [words_of wn ww,hx,if_pos rfl] at e
  rw [spell_feed d h1 h2,if_neg h3]
  unfold lineF
  rw [hn,hw]
  exact e
theorem store_reads (d : Cd) (n : ByteArray) (ws : List ByteArray) (hn : nameW d = n) (hw : preW d ++ keysW d ++ midW d ++ qW d = ws) (wn : Wd n) (ww : ∀ x ∈ ws, Wd x) (hsz : (lineO n ws).size ≤ 2048) (c : Cm) (hx : lineX (n :: ws) = (.pl c, (d.data.size : Int))) (h3 : d.what = storeT) :
    nextR (psFeed psNew (bytesOf (spellD d)))=(.pl (withData c d.data),true,⟨[],false,.nil,(d.data.size:Int)⟩):=by
  have e:=next_crlf (s:=lineO n ws) (lineO_lacks ws n (fun c hc=>(wn.2 c hc).2) ww) hsz (bytesOf d.data++[13,10]) 0
  rw [words_of wn ww,hx,if_neg (by show ¬ (d.data.size:Int)=-1;omega)] at e
  rw [spell_feed d (by rw [h3];decide) (by rw [h3];decide),if_pos h3]
  unfold lineF
  rw [hn,hw,e]
  have e2:=data_crlf (bytesOf d.data) [] false c
  rw [bytes_len,back_str] at e2
  exact e2
/-! Way by way. -/
theorem all_keys {d:Cd} (hg:goodD d=true):d.keys.all keyF=true∧kindG d=true:=by unfold goodD at hg;rwa [Bool.and_eq_true] at hg
theorem all_wd {ks:List ByteArray} (h:ks.all keyF=true):∀ x∈ks,Wd x:=fun x hx=>wd_key x (List.all_eq_true.1 h x hx)
theorem any_not {ks:List ByteArray} (h:ks.all keyF=true):¬ ks.any (fun k=>!keyF k)=true:=by
  intro e
  obtain ⟨x,hx,hb⟩:=List.any_eq_true.1 e
  rw [List.all_eq_true.1 h x hx] at hb
  cases hb
theorem lineX_plain {n:ByteArray} {r:List ByteArray} (h1:n≠getW) (h2:n≠getsW) (h3:n≠gatW) (h4:n≠gatsW):lineX (n::r)=(.pl (plainR (n::r)).1,(plainR (n::r)).2):=by
  unfold lineX
  simp only [if_neg h1,if_neg h2,if_neg h3,if_neg h4]
theorem getX_good {ks:List ByteArray} (h:ks.all keyF=true) (hl:ks.length≤64) (ca t:Bool) (e:Int):getX ks ca t (e,true)=.get ks ca t e:=by
  unfold getX
  rw [if_neg (fun z=>z.elim (any_not h) (fun z=>by omega))]
theorem law_get (d : Cd) (hw : d.what = getT) (hg : goodD d = true) (h0 : -9223372036854775808 ≤ d.exp) (h : d.exp < 9223372036854775808) (hsz : (spellD d).size ≤ 2000) :
    ∃ x m,nextR (psFeed psNew (bytesOf (spellD d)))=(x,true,⟨[],false,.nil,m⟩)∧toX x=plainD d∧(spellD d).size≤2000:=by
  have hsz0:=hsz
  obtain ⟨ha,hk⟩:=all_keys hg
  unfold kindG at hk
  rw [if_pos hw,Bool.and_eq_true,decide_eq_true_iff,decide_eq_true_iff] at hk
  obtain ⟨hk1,hk2⟩:=hk
  have q0:qW d=[]:=by unfold qW;rw [if_neg (fun z:quietW d=>z.2.1 hw)]
  have k0:keysW d=d.keys:=by unfold keysW;rw [if_neg (by rw [hw];decide)]
  have m0:midW d=[]:=by unfold midW;rw [if_neg (by rw [hw];decide),if_neg (by rw [hw];decide),if_neg (by rw [hw];decide)]
  have hF:(lineF d).size≤2048:=by
    unfold spellD at hsz
    rw [if_neg (by rw [hw];decide),fin_is,if_neg (by rw [hw];decide),ByteArray.size_append] at hsz
    omega
  have n1:d.what≠badT:=by rw [hw];decide
  have n2:d.what≠ez:=by rw [hw];decide
  have n3:d.what≠storeT:=by rw [hw];decide
  unfold lineF at hF
  cases ht:d.withTouch with
  | false=>
    have p0:preW d=[]:=by unfold preW;rw [if_neg (by rw [ht];simp)]
    have hws:preW d++keysW d++midW d++qW d=d.keys:=by rw [p0,k0,m0,q0];simp
    rw [hws] at hF
    have hp:plainD d=plain_get0 d:=by unfold plainD;rw [if_pos hw,if_neg (by rw [ht];simp)]
    cases hc:d.withCas with
    | false=>
      have hn:nameW d=getW:=by unfold nameW;rw [if_pos hw,if_neg (by rw [ht];simp),if_neg (by rw [hc];simp)]
      rw [hn] at hF
      refine ⟨_,_,line_reads d getW d.keys hn hws (by unfold Wd;decide) (all_wd ha) hF (.get d.keys false false 0) ?_ n1 n2 n3,?_,hsz0⟩
      · unfold lineX
        simp only [if_true]
        unfold get1
        rw [if_neg (by omega),getX_good ha hk2]
      · rw [hp];unfold plain_get0;rw [hc];rfl
    | true=>
      have hn:nameW d=getsW:=by unfold nameW;rw [if_pos hw,if_neg (by rw [ht];simp),if_pos (by rw [hc])]
      rw [hn] at hF
      refine ⟨_,_,line_reads d getsW d.keys hn hws (by unfold Wd;decide) (all_wd ha) hF (.get d.keys true false 0) ?_ n1 n2 n3,?_,hsz0⟩
      · unfold lineX
        simp only [if_neg (show ¬ getsW=getW by decide),if_true]
        unfold get1
        rw [if_neg (by omega),getX_good ha hk2]
      · rw [hp];unfold plain_get0;rw [hc];rfl
  | true=>
    have p0:preW d=[ba (sgn d.exp)]:=by unfold preW;rw [if_pos ⟨hw,ht⟩]
    have hws:preW d++keysW d++midW d++qW d=ba (sgn d.exp)::d.keys:=by rw [p0,k0,m0,q0];simp
    rw [hws] at hF
    have hwd:∀ x∈ba (sgn d.exp)::d.keys,Wd x:=by
      intro x hx
      rcases List.mem_cons.1 hx with rfl | hx
      · exact wd_sgn _
      · exact all_wd ha x hx
    have hp:plainD d=plain_get1 d:=by unfold plainD;rw [if_pos hw,if_pos ht]
    obtain ⟨y,ks,hy⟩:∃ y ks,d.keys=y::ks:=by
      match hd:d.keys with
      | []=>rw [hd] at hk1;simp at hk1
      | y::ks=>exact ⟨y,ks,rfl⟩
    cases hc:d.withCas with
    | false=>
      have hn:nameW d=gatW:=by unfold nameW;rw [if_pos hw,if_pos ht,if_neg (by rw [hc];simp)]
      rw [hn] at hF
      refine ⟨_,_,line_reads d gatW _ hn hws (by unfold Wd;decide) hwd hF (.get d.keys false true d.exp) ?_ n1 n2 n3,?_,hsz0⟩
      · unfold lineX
        simp only [if_neg (show ¬ gatW=getW by decide),if_neg (show ¬ gatW=getsW by decide),if_true,hy,signF_B d.exp h0 h]
        rw [← hy,getX_good ha hk2]
      · rw [hp];unfold plain_get1;rw [hc];rfl
    | true=>
      have hn:nameW d=gatsW:=by unfold nameW;rw [if_pos hw,if_pos ht,if_pos hc]
      rw [hn] at hF
      refine ⟨_,_,line_reads d gatsW _ hn hws (by unfold Wd;decide) hwd hF (.get d.keys true true d.exp) ?_ n1 n2 n3,?_,hsz0⟩
      · unfold lineX
        simp only [if_neg (show ¬ gatsW=getW by decide),if_neg (show ¬ gatsW=getsW by decide),if_neg (show ¬ gatsW=gatW by decide),if_true,hy,signF_B d.exp h0 h]
        rw [← hy,getX_good ha hk2]
      · rw [hp];unfold plain_get1;rw [hc];rfl
theorem ends_no {ws more:List ByteArray} {n:Nat} (h:ws.length=n):endsR ws n more=(false,true):=if_pos h
theorem ends_q {ws more:List ByteArray} {n:Nat} (h:ws.length=n + 1) (ha:at_ ws n=noreplyW) (hm:memB noreplyW more=true):endsR ws n more=(true,true):=by
  unfold endsR
  rw [if_neg (by omega),ha,if_pos ⟨h,hm⟩,decide_eq_true rfl]
theorem storeP5 {ws:List ByteArray} {v k a b c:ByteArray} {q:List ByteArray} (hws:ws=v::k::a::b::c::q) {f e n:Int} (hk:keyF k=true) (hf:numF a.data.toList=(f,true)) (f0:0≤f) (f1:f < 4294967296) (he:signF b.data.toList=(e,true)) (hn:numF c.data.toList=(n,true)) (h1:n≤1024) (qq:Bool) (hen:endsR ws 5 [noreplyW]=(qq,true)):storeP ws false=(.store v k ⟨#[]⟩ f e 0 qq,n):=by
  have r0:at_ ws 0=v:=by subst hws;rfl
  have r1:at_ ws 1=k:=by subst hws;rfl
  have r2:at_ ws 2=a:=by subst hws;rfl
  have r3:at_ ws 3=b:=by subst hws;rfl
  have r4:at_ ws 4=c:=by subst hws;rfl
  clear hws
  unfold storeP
  simp only [Bool.false_eq_true,if_false,hen,r0,r1,r2,r3,r4,hf,he,hn,hk,Bool.true_eq_false,true_and]
  rw [if_pos ⟨by omega,by omega⟩,if_neg (by omega),Int.emod_eq_of_lt f0 (by omega)]
theorem storeP6 {ws:List ByteArray} {v k a b c g:ByteArray} {q:List ByteArray} (hws:ws=v::k::a::b::c::g::q) {f e n m:Int} (hk:keyF k=true) (hf:numF a.data.toList=(f,true)) (f0:0≤f) (f1:f < 4294967296) (he:signF b.data.toList=(e,true)) (hn:numF c.data.toList=(n,true)) (h1:n≤1024) (hm:numF g.data.toList=(m,true)) (qq:Bool) (hen:endsR ws 6 [noreplyW]=(qq,true)):storeP ws true=(.store v k ⟨#[]⟩ f e m qq,n):=by
  have r0:at_ ws 0=v:=by subst hws;rfl
  have r1:at_ ws 1=k:=by subst hws;rfl
  have r2:at_ ws 2=a:=by subst hws;rfl
  have r3:at_ ws 3=b:=by subst hws;rfl
  have r4:at_ ws 4=c:=by subst hws;rfl
  have r5:at_ ws 5=g:=by subst hws;rfl
  clear hws
  unfold storeP
  simp only [if_true,hen,r0,r1,r2,r3,r4,r5,hf,he,hn,hm,hk,Bool.true_eq_false,if_false,true_and]
  rw [if_pos ⟨by omega,by omega⟩,if_neg (by omega),Int.emod_eq_of_lt f0 (by omega)]
theorem q_is {d:Cd} (h1:d.what≠getT) (h2:d.what≠wordT):qW d=if d.quiet=true then [noreplyW] else []:=by
  unfold qW
  by_cases h:d.quiet=true
  · rw [if_pos h,if_pos (show quietW d from ⟨h,h1,h2⟩)]
  · rw [if_neg h,if_neg (fun z:quietW d=>h z.1)]
theorem wd_no:Wd noreplyW:=by unfold Wd;decide
theorem dec_wd (n:Int):Wd (decB n):=wd_dec _
theorem store_verb {v:ByteArray} (h:isStoreW v):Wd v∧v.size≤7∧v≠getW∧v≠getsW∧v≠gatW∧v≠gatsW:=by
  rcases h with rfl | rfl | rfl | rfl | rfl | rfl<;>exact ⟨by unfold Wd;decide,by decide,by decide,by decide,by decide,by decide⟩
theorem size_few {n k:ByteArray} {r:List ByteArray} (hn:n.size≤9) (hk:k.size≤250) (hl:r.length≤5) (h:∀ x∈r,x.size≤21):(lineO n (k::r)).size≤400:=by
  have:=lineO_size 21 r ((n++spB)++k) h
  have h2:r.length * (21 + 1)≤5 * 22:=Nat.mul_le_mul_right _ hl
  have z1:spB.size=1:=rfl
  rw [ByteArray.size_append,ByteArray.size_append,z1] at this
  have e:lineO n (k::r)=lineO ((n++spB)++k) r:=rfl
  rw [e]
  omega
theorem spell_size (d:Cd) (h1:d.what≠badT) (h2:d.what≠ez) {n:ByteArray} {ws:List ByteArray} (hn:nameW d=n) (hw:preW d++keysW d++midW d++qW d=ws):(spellD d).size=(lineO n ws).size + 2 + (if d.what=storeT then d.data.size + 2 else 0):=by
  have z:nlB.size=2:=rfl
  unfold spellD
  rw [if_neg (fun z=>z.elim h1 h2),fin_is]
  unfold lineF
  rw [hn,hw]
  by_cases hs:d.what=storeT
  · rw [if_pos hs,if_pos hs,ByteArray.size_append,ByteArray.size_append,ByteArray.size_append,z];omega
  · rw [if_neg hs,if_neg hs,ByteArray.size_append,z]
/-- What a law tells of a command. -/
def Reads (d:Cd):Prop:=∃ x m,nextR (psFeed psNew (bytesOf (spellD d)))=(x,true,⟨[],false,.nil,m⟩)∧toX x=plainD d∧(spellD d).size≤2000
theorem line_law (d:Cd) (n:ByteArray) (ws:List ByteArray) (hn:nameW d=n) (hw:preW d++keysW d++midW d++qW d=ws) (wn:Wd n) (ww:∀ x∈ws,Wd x) (hsz:(lineO n ws).size≤400) (x:Cx) (hx:lineX (n::ws)=(x,-1)) (h1:d.what≠badT) (h2:d.what≠ez) (h3:d.what≠storeT) (hp:toX x=plainD d):Reads d:=
  ⟨x,0,line_reads d n ws hn hw wn ww (by omega) x hx h1 h2 h3,hp,by rw [spell_size d h1 h2 hn hw,if_neg h3];omega⟩
theorem store_law (d:Cd) (n:ByteArray) (ws:List ByteArray) (hn:nameW d=n) (hw:preW d++keysW d++midW d++qW d=ws) (wn:Wd n) (ww:∀ x∈ws,Wd x) (hsz:(lineO n ws).size≤400) (c:Cm) (hx:lineX (n::ws)=(.pl c,(d.data.size:Int))) (h3:d.what=storeT) (hd:d.data.size≤1024) (hp:toX (.pl (withData c d.data))=plainD d):Reads d:=
  ⟨_,_,store_reads d n ws hn hw wn ww (by omega) c hx h3,hp,by rw [spell_size d (by rw [h3];decide) (by rw [h3];decide) hn hw,if_pos h3];omega⟩
theorem law_store (d : Cd) (hw : d.what = storeT) (hk1 : ∃ k, d.keys = [k]) (hg : goodD d = true) {B : Nat} (hF : Fits d B) :
    Reads d:=by
  obtain ⟨ha,hk⟩:=all_keys hg
  obtain ⟨k,hkk⟩:=hk1
  obtain ⟨⟨f0,f1⟩,⟨e0,e1⟩,⟨c0,c1⟩,⟨b0,b1⟩,_⟩:=hF
  unfold kindG at hk
  rw [if_neg (by rw [hw];decide),if_pos hw,Bool.and_eq_true,decide_eq_true_iff,decide_eq_true_iff] at hk
  obtain ⟨hv,hd⟩:=hk
  obtain ⟨wv,sv,v1,v2,v3,v4⟩:=store_verb hv
  have hkey:keyF k=true:=by rw [hkk] at ha;simpa using ha
  have ks:=(key_is k hkey).2.1
  have s1:=(dec_size d.flags (by omega) (by omega)).2
  have s2:(ba (sgn d.exp)).size≤21:=by rw [ba_size];exact (sgn_size d.exp e0 e1).2
  have s3:=(dec_size (d.data.size:Int) (by omega) (by omega)).2
  have s4:=(dec_size d.cas c0 c1).2
  have zn:noreplyW.size≤21:=by decide
  have q0:=q_is (d:=d) (by rw [hw];decide) (by rw [hw];decide)
  have k0:keysW d=[k]:=by unfold keysW;rw [if_neg (by rw [hw];decide),hkk]
  have p0:preW d=[]:=by unfold preW;rw [if_neg (fun z=>by rw [hw] at z;exact absurd z.1 (by decide))]
  have hn:nameW d=d.verb:=by unfold nameW;rw [if_neg (by rw [hw];decide),if_pos hw]
  have nf:=numF_decB d.flags (by omega) (by omega)
  have ne:=signF_B d.exp e0 e1
  have nn:=numF_decB (d.data.size:Int) (by omega) (by omega)
  have nc:=numF_decB d.cas c0 c1
  have hpl:∀ r,plainR (d.verb::r)=storeP (d.verb::r) (decide (d.verb=casW)):=fun r=>by
    unfold plainR
    rw [if_pos (show isStoreW (at_ (d.verb::r) 0) from hv)]
    rfl
  by_cases hc:d.verb=casW
  · have m0:midW d=[decB d.flags,ba (sgn d.exp),decB d.data.size,decB d.cas]:=by unfold midW;rw [if_pos hw,if_pos hc]
    have hp:plainD d=plain_cas d:=by unfold plainD;rw [if_neg (by rw [hw];decide),if_pos hw,if_pos hc]
    have hX:toX (.pl (withData (.store d.verb k ⟨#[]⟩ d.flags d.exp d.cas d.quiet) d.data))=plainD d:=by rw [hp];unfold plain_cas;rw [hkk];rfl
    cases hq:d.quiet with
    | false=>
      rw [hq,if_neg (by decide)] at q0
      have hws:preW d++keysW d++midW d++qW d=[k,decB d.flags,ba (sgn d.exp),decB d.data.size,decB d.cas]:=by rw [p0,k0,m0,q0];rfl
      refine store_law d d.verb _ hn hws wv ?_ (size_few (by omega) (by omega) (by simp) ?_) _ ?_ hw hd hX
      · intro x hx
        simp only [List.mem_cons,List.mem_nil_iff,or_false] at hx
        rcases hx with rfl | rfl | rfl | rfl | rfl
        · exact wd_key _ hkey
        · exact dec_wd _
        · exact wd_sgn _
        · exact dec_wd _
        · exact dec_wd _
      · intro x hx
        simp only [List.mem_cons,List.mem_nil_iff,or_false] at hx
        rcases hx with rfl | rfl | rfl | rfl<;>omega
      · rw [lineX_plain v1 v2 v3 v4,hpl,decide_eq_true hc,storeP6 rfl hkey nf (by omega) (by omega) ne nn (by omega) nc false (ends_no rfl),hq]
    | true=>
      rw [hq,if_pos rfl] at q0
      have hws:preW d++keysW d++midW d++qW d=[k,decB d.flags,ba (sgn d.exp),decB d.data.size,decB d.cas,noreplyW]:=by rw [p0,k0,m0,q0];rfl
      refine store_law d d.verb _ hn hws wv ?_ (size_few (by omega) (by omega) (by simp) ?_) _ ?_ hw hd hX
      · intro x hx
        simp only [List.mem_cons,List.mem_nil_iff,or_false] at hx
        rcases hx with rfl | rfl | rfl | rfl | rfl | rfl
        · exact wd_key _ hkey
        · exact dec_wd _
        · exact wd_sgn _
        · exact dec_wd _
        · exact dec_wd _
        · exact wd_no
      · intro x hx
        simp only [List.mem_cons,List.mem_nil_iff,or_false] at hx
        rcases hx with rfl | rfl | rfl | rfl | rfl<;>omega
      · rw [lineX_plain v1 v2 v3 v4,hpl,decide_eq_true hc,storeP6 rfl hkey nf (by omega) (by omega) ne nn (by omega) nc true (ends_q rfl rfl (by decide)),hq]
  · have m0:midW d=[decB d.flags,ba (sgn d.exp),decB d.data.size]:=by unfold midW;rw [if_pos hw,if_neg hc]
    have hp:plainD d=plain_store d:=by unfold plainD;rw [if_neg (by rw [hw];decide),if_pos hw,if_neg hc]
    have hX:toX (.pl (withData (.store d.verb k ⟨#[]⟩ d.flags d.exp 0 d.quiet) d.data))=plainD d:=by rw [hp];unfold plain_store;rw [hkk];rfl
    cases hq:d.quiet with
    | false=>
      rw [hq,if_neg (by decide)] at q0
      have hws:preW d++keysW d++midW d++qW d=[k,decB d.flags,ba (sgn d.exp),decB d.data.size]:=by rw [p0,k0,m0,q0];rfl
      refine store_law d d.verb _ hn hws wv ?_ (size_few (by omega) (by omega) (by simp) ?_) _ ?_ hw hd hX
      · intro x hx
        simp only [List.mem_cons,List.mem_nil_iff,or_false] at hx
        rcases hx with rfl | rfl | rfl | rfl
        · exact wd_key _ hkey
        · exact dec_wd _
        · exact wd_sgn _
        · exact dec_wd _
      · intro x hx
        simp only [List.mem_cons,List.mem_nil_iff,or_false] at hx
        rcases hx with rfl | rfl | rfl<;>omega
      · rw [lineX_plain v1 v2 v3 v4,hpl,decide_eq_false hc,storeP5 rfl hkey nf (by omega) (by omega) ne nn (by omega) false (ends_no rfl),hq]
    | true=>
      rw [hq,if_pos rfl] at q0
      have hws:preW d++keysW d++midW d++qW d=[k,decB d.flags,ba (sgn d.exp),decB d.data.size,noreplyW]:=by rw [p0,k0,m0,q0];rfl
      refine store_law d d.verb _ hn hws wv ?_ (size_few (by omega) (by omega) (by simp) ?_) _ ?_ hw hd hX
      · intro x hx
        simp only [List.mem_cons,List.mem_nil_iff,or_false] at hx
        rcases hx with rfl | rfl | rfl | rfl | rfl
        · exact wd_key _ hkey
        · exact dec_wd _
        · exact wd_sgn _
        · exact dec_wd _
        · exact wd_no
      · intro x hx
        simp only [List.mem_cons,List.mem_nil_iff,or_false] at hx
        rcases hx with rfl | rfl | rfl | rfl<;>omega
      · rw [lineX_plain v1 v2 v3 v4,hpl,decide_eq_false hc,storeP5 rfl hkey nf (by omega) (by omega) ne nn (by omega) true (ends_q rfl rfl (by decide)),hq]
theorem keyedA {ws:List ByteArray} {v k a:ByteArray} {q:List ByteArray} (hws:ws=v::k::a::q) (hv:v≠touchW) (hk:keyF k=true) {m:Int} (hn:numF a.data.toList=(m,true)) (qq:Bool) (hen:endsR ws 3 [noreplyW]=(qq,true)):keyedR ws=(.arith k m (decide (v=decrW)) qq,-1):=by
  have r0:at_ ws 0=v:=by subst hws;rfl
  have r1:at_ ws 1=k:=by subst hws;rfl
  have r2:at_ ws 2=a:=by subst hws;rfl
  clear hws
  unfold keyedR
  simp only [hen,r0,r1,r2,hk,hn,Bool.true_eq_false,if_false,if_neg hv,if_true]
theorem keyedT {ws:List ByteArray} {k a:ByteArray} {q:List ByteArray} (hws:ws=touchW::k::a::q) (hk:keyF k=true) {m:Int} (hn:signF a.data.toList=(m,true)) (qq:Bool) (hen:endsR ws 3 [noreplyW]=(qq,true)):keyedR ws=(.touch k m qq,-1):=by
  have r0:at_ ws 0=touchW:=by subst hws;rfl
  have r1:at_ ws 1=k:=by subst hws;rfl
  have r2:at_ ws 2=a:=by subst hws;rfl
  clear hws
  unfold keyedR
  simp only [hen,r0,r1,r2,hk,hn,Bool.true_eq_false,if_false,if_true]
theorem plainR_keyed {v:ByteArray} {r:List ByteArray} (h1:¬ isStoreW v) (h2:isKeyedW v):plainR (v::r)=keyedR (v::r):=by
  unfold plainR
  rw [if_neg (show ¬ isStoreW (at_ (v::r) 0) from h1),if_pos (show isKeyedW (at_ (v::r) 0) from h2)]
theorem law_arith (d:Cd) (hw:d.what=arithT) (hk1:∃ k,d.keys=[k]) (hg:goodD d=true) {B:Nat} (hF:Fits d B):Reads d:=by
  obtain ⟨ha,hk⟩:=all_keys hg
  obtain ⟨k,hkk⟩:=hk1
  obtain ⟨_,_,_,⟨b0,b1⟩,_⟩:=hF
  have hkey:keyF k=true:=by rw [hkk] at ha;simpa using ha
  have ks:=(key_is k hkey).2.1
  have s1:=(dec_size d.by_ b0 b1).2
  have zn:noreplyW.size≤21:=by decide
  have q0:=q_is (d:=d) (by rw [hw];decide) (by rw [hw];decide)
  have k0:keysW d=[k]:=by unfold keysW;rw [if_neg (by rw [hw];decide),hkk]
  have p0:preW d=[]:=by unfold preW;rw [if_neg (fun z=>by rw [hw] at z;exact absurd z.1 (by decide))]
  have m0:midW d=[decB d.by_]:=by unfold midW;rw [if_neg (by rw [hw];decide),if_pos hw]
  have hp:plainD d=plain_arith d:=by unfold plainD;rw [if_neg (by rw [hw];decide),if_neg (by rw [hw];decide),if_pos hw]
  have nb:=numF_decB d.by_ b0 b1
  have hn:nameW d=if d.down=true then decrW else incrW:=by unfold nameW;rw [if_neg (by rw [hw];decide),if_neg (by rw [hw];decide),if_neg (by rw [hw];decide),if_pos hw]
  have hX:toX (.pl (.arith k d.by_ d.down d.quiet))=plainD d:=by rw [hp];unfold plain_arith;rw [hkk];rfl
  have n1:d.what≠badT:=by rw [hw];decide
  have n2:d.what≠ez:=by rw [hw];decide
  have n3:d.what≠storeT:=by rw [hw];decide
  have go:∀ (v:ByteArray) (dn:Bool),d.down=dn→nameW d=v→Wd v→v.size≤9→¬ isStoreW v→isKeyedW v→v≠touchW→v≠getW→v≠getsW→v≠gatW→v≠gatsW→decide (v=decrW)=dn→Reads d:=by
    intro v dn hdn hv wv sv i1 i2 i3 g1 g2 g3 g4 hdec
    subst hdn
    cases hq:d.quiet with
    | false=>
      rw [hq,if_neg (by decide)] at q0
      have hws:preW d++keysW d++midW d++qW d=[k,decB d.by_]:=by rw [p0,k0,m0,q0];rfl
      refine line_law d v _ hv hws wv ?_ (size_few sv (by omega) (by simp) ?_) _ ?_ n1 n2 n3 hX
      · intro x hx
        simp only [List.mem_cons,List.mem_nil_iff,or_false] at hx
        rcases hx with rfl | rfl
        · exact wd_key _ hkey
        · exact dec_wd _
      · intro x hx
        simp only [List.mem_cons,List.mem_nil_iff,or_false] at hx
        subst hx;omega
      · rw [lineX_plain g1 g2 g3 g4,plainR_keyed i1 i2,keyedA rfl i3 hkey nb false (ends_no rfl),hdec,hq]
    | true=>
      rw [hq,if_pos rfl] at q0
      have hws:preW d++keysW d++midW d++qW d=[k,decB d.by_,noreplyW]:=by rw [p0,k0,m0,q0];rfl
      refine line_law d v _ hv hws wv ?_ (size_few sv (by omega) (by simp) ?_) _ ?_ n1 n2 n3 hX
      · intro x hx
        simp only [List.mem_cons,List.mem_nil_iff,or_false] at hx
        rcases hx with rfl | rfl | rfl
        · exact wd_key _ hkey
        · exact dec_wd _
        · exact wd_no
      · intro x hx
        simp only [List.mem_cons,List.mem_nil_iff,or_false] at hx
        rcases hx with rfl | rfl<;>omega
      · rw [lineX_plain g1 g2 g3 g4,plainR_keyed i1 i2,keyedA rfl i3 hkey nb true (ends_q rfl rfl (by decide)),hdec,hq]
  cases hd:d.down with
  | false=>exact go incrW false hd (by rw [hn,hd];rfl) (by unfold Wd;decide) (by decide) (by decide) (by decide) (by decide) (by decide) (by decide) (by decide) (by decide) (by decide)
  | true=>exact go decrW true hd (by rw [hn,hd];rfl) (by unfold Wd;decide) (by decide) (by decide) (by decide) (by decide) (by decide) (by decide) (by decide) (by decide) (by decide)
theorem law_touch (d:Cd) (hw:d.what=touchT) (hk1:∃ k,d.keys=[k]) (hg:goodD d=true) {B:Nat} (hF:Fits d B):Reads d:=by
  obtain ⟨ha,hk⟩:=all_keys hg
  obtain ⟨k,hkk⟩:=hk1
  obtain ⟨_,⟨e0,e1⟩,_⟩:=hF
  have hkey:keyF k=true:=by rw [hkk] at ha;simpa using ha
  have ks:=(key_is k hkey).2.1
  have s1:(ba (sgn d.exp)).size≤21:=by rw [ba_size];exact (sgn_size d.exp e0 e1).2
  have zn:noreplyW.size≤21:=by decide
  have q0:=q_is (d:=d) (by rw [hw];decide) (by rw [hw];decide)
  have k0:keysW d=[k]:=by unfold keysW;rw [if_neg (by rw [hw];decide),hkk]
  have p0:preW d=[]:=by unfold preW;rw [if_neg (fun z=>by rw [hw] at z;exact absurd z.1 (by decide))]
  have m0:midW d=[ba (sgn d.exp)]:=by unfold midW;rw [if_neg (by rw [hw];decide),if_neg (by rw [hw];decide),if_pos hw]
  have hp:plainD d=plain_touch d:=by unfold plainD;rw [if_neg (by rw [hw];decide),if_neg (by rw [hw];decide),if_neg (by rw [hw];decide),if_pos hw]
  have nb:=signF_B d.exp e0 e1
  have hn:nameW d=touchW:=by unfold nameW;rw [if_neg (by rw [hw];decide),if_neg (by rw [hw];decide),if_neg (by rw [hw];decide),if_neg (by rw [hw];decide),if_neg (by rw [hw];decide),hw]
  have hX:toX (.pl (.touch k d.exp d.quiet))=plainD d:=by rw [hp];unfold plain_touch;rw [hkk];rfl
  have n1:d.what≠badT:=by rw [hw];decide
  have n2:d.what≠ez:=by rw [hw];decide
  have n3:d.what≠storeT:=by rw [hw];decide
  cases hq:d.quiet with
  | false=>
    rw [hq,if_neg (by decide)] at q0
    have hws:preW d++keysW d++midW d++qW d=[k,ba (sgn d.exp)]:=by rw [p0,k0,m0,q0];rfl
    refine line_law d touchW _ hn hws (by unfold Wd;decide) ?_ (size_few (by decide) (by omega) (by simp) ?_) _ ?_ n1 n2 n3 hX
    · intro x hx
      simp only [List.mem_cons,List.mem_nil_iff,or_false] at hx
      rcases hx with rfl | rfl
      · exact wd_key _ hkey
      · exact wd_sgn _
    · intro x hx
      simp only [List.mem_cons,List.mem_nil_iff,or_false] at hx
      subst hx;omega
    · rw [lineX_plain (by decide) (by decide) (by decide) (by decide),plainR_keyed (by decide) (by decide),keyedT rfl hkey nb false (ends_no rfl),hq]
  | true=>
    rw [hq,if_pos rfl] at q0
    have hws:preW d++keysW d++midW d++qW d=[k,ba (sgn d.exp),noreplyW]:=by rw [p0,k0,m0,q0];rfl
    refine line_law d touchW _ hn hws (by unfold Wd;decide) ?_ (size_few (by decide) (by omega) (by simp) ?_) _ ?_ n1 n2 n3 hX
    · intro x hx
      simp only [List.mem_cons,List.mem_nil_iff,or_false] at hx
      rcases hx with rfl | rfl | rfl
      · exact wd_key _ hkey
      · exact wd_sgn _
      · exact wd_no
    · intro x hx
      simp only [List.mem_cons,List.mem_nil_iff,or_false] at hx
      rcases hx with rfl | rfl<;>omega
    · rw [lineX_plain (by decide) (by decide) (by decide) (by decide),plainR_keyed (by decide) (by decide),keyedT rfl hkey nb true (ends_q rfl rfl (by decide)),hq]
theorem deleteA {ws:List ByteArray} {v k:ByteArray} {q:List ByteArray} (hws:ws=v::k::q) (hk:keyF k=true) (qq:Bool) (hen:endsR ws 2 [noreplyW,noughtW]=(qq,true)):deleteR ws=(.delete k qq,-1):=by
  have r1:at_ ws 1=k:=by subst hws;rfl
  clear hws
  unfold deleteR
  simp only [hen,r1,hk,if_true]
theorem plainR_delete (r:List ByteArray):plainR (deleteW::r)=deleteR (deleteW::r):=by
  unfold plainR
  rw [if_neg (show ¬ isStoreW (at_ (deleteW::r) 0) from (by decide:¬ isStoreW deleteW)),if_neg (show ¬ isKeyedW (at_ (deleteW::r) 0) from (by decide:¬ isKeyedW deleteW)),if_pos (show at_ (deleteW::r) 0=deleteW from rfl)]
theorem plainR_flush (r:List ByteArray):plainR (flushW::r)=flushR (flushW::r):=by
  unfold plainR
  rw [if_neg (show ¬ isStoreW (at_ (flushW::r) 0) from (by decide:¬ isStoreW flushW)),if_neg (show ¬ isKeyedW (at_ (flushW::r) 0) from (by decide:¬ isKeyedW flushW)),if_neg (show ¬ at_ (flushW::r) 0=deleteW from (by decide:¬ flushW=deleteW)),if_pos (show at_ (flushW::r) 0=flushW from rfl)]
theorem plainR_word {v:ByteArray} (hv:v=versionW∨v=quitW):plainR [v]=(.word v,-1):=by
  unfold plainR
  have a0:at_ [v] 0=v:=rfl
  rcases hv with rfl | rfl
  · rw [a0,if_neg (by decide),if_neg (by decide),if_neg (by decide),if_neg (by decide),if_pos (by decide)];rfl
  · rw [a0,if_neg (by decide),if_neg (by decide),if_neg (by decide),if_neg (by decide),if_pos (by decide)];rfl
theorem law_delete (d:Cd) (hw:d.what=deleteT) (hk1:∃ k,d.keys=[k]) (hg:goodD d=true):Reads d:=by
  obtain ⟨ha,hk⟩:=all_keys hg
  obtain ⟨k,hkk⟩:=hk1
  have hkey:keyF k=true:=by rw [hkk] at ha;simpa using ha
  have ks:=(key_is k hkey).2.1
  have zn:noreplyW.size≤21:=by decide
  have q0:=q_is (d:=d) (by rw [hw];decide) (by rw [hw];decide)
  have k0:keysW d=[k]:=by unfold keysW;rw [if_neg (by rw [hw];decide),hkk]
  have p0:preW d=[]:=by unfold preW;rw [if_neg (fun z=>by rw [hw] at z;exact absurd z.1 (by decide))]
  have m0:midW d=[]:=by unfold midW;rw [if_neg (by rw [hw];decide),if_neg (by rw [hw];decide),if_neg (by rw [hw];decide)]
  have hp:plainD d=plain_delete d:=by unfold plainD;rw [if_neg (by rw [hw];decide),if_neg (by rw [hw];decide),if_neg (by rw [hw];decide),if_neg (by rw [hw];decide),if_pos hw]
  have hn:nameW d=deleteW:=by unfold nameW;rw [if_neg (by rw [hw];decide),if_neg (by rw [hw];decide),if_neg (by rw [hw];decide),if_neg (by rw [hw];decide),if_neg (by rw [hw];decide),hw]
  have hX:toX (.pl (.delete k d.quiet))=plainD d:=by rw [hp];unfold plain_delete;rw [hkk];rfl
  have n1:d.what≠badT:=by rw [hw];decide
  have n2:d.what≠ez:=by rw [hw];decide
  have n3:d.what≠storeT:=by rw [hw];decide
  cases hq:d.quiet with
  | false=>
    rw [hq,if_neg (by decide)] at q0
    have hws:preW d++keysW d++midW d++qW d=[k]:=by rw [p0,k0,m0,q0];rfl
    refine line_law d deleteW _ hn hws (by unfold Wd;decide) ?_ (size_few (by decide) (by omega) (by simp) (by simp)) _ ?_ n1 n2 n3 hX
    · intro x hx
      obtain rfl:=List.mem_singleton.1 hx
      exact wd_key _ hkey
    · rw [lineX_plain (by decide) (by decide) (by decide) (by decide),plainR_delete,deleteA rfl hkey false (ends_no rfl),hq]
  | true=>
    rw [hq,if_pos rfl] at q0
    have hws:preW d++keysW d++midW d++qW d=[k,noreplyW]:=by rw [p0,k0,m0,q0];rfl
    refine line_law d deleteW _ hn hws (by unfold Wd;decide) ?_ (size_few (by decide) (by omega) (by simp) ?_) _ ?_ n1 n2 n3 hX
    · intro x hx
      simp only [List.mem_cons,List.mem_nil_iff,or_false] at hx
      rcases hx with rfl | rfl
      · exact wd_key _ hkey
      · exact wd_no
    · intro x hx
      obtain rfl:=List.mem_singleton.1 hx
      exact zn
    · rw [lineX_plain (by decide) (by decide) (by decide) (by decide),plainR_delete,deleteA rfl hkey true (ends_q rfl rfl (by decide)),hq]
theorem law_flush (d:Cd) (hw:d.what=flushT):Reads d:=by
  have q0:=q_is (d:=d) (by rw [hw];decide) (by rw [hw];decide)
  have k0:keysW d=[]:=by unfold keysW;rw [if_pos (.inl hw)]
  have p0:preW d=[]:=by unfold preW;rw [if_neg (fun z=>by rw [hw] at z;exact absurd z.1 (by decide))]
  have m0:midW d=[]:=by unfold midW;rw [if_neg (by rw [hw];decide),if_neg (by rw [hw];decide),if_neg (by rw [hw];decide)]
  have hp:plainD d=plain_flush d:=by unfold plainD;rw [if_neg (by rw [hw];decide),if_neg (by rw [hw];decide),if_neg (by rw [hw];decide),if_neg (by rw [hw];decide),if_neg (by rw [hw];decide),if_pos hw]
  have hn:nameW d=flushW:=by unfold nameW;rw [if_neg (by rw [hw];decide),if_neg (by rw [hw];decide),if_neg (by rw [hw];decide),if_neg (by rw [hw];decide),if_pos hw]
  have hX:toX (.pl (.flush d.quiet))=plainD d:=by rw [hp];rfl
  have n1:d.what≠badT:=by rw [hw];decide
  have n2:d.what≠ez:=by rw [hw];decide
  have n3:d.what≠storeT:=by rw [hw];decide
  cases hq:d.quiet with
  | false=>
    rw [hq,if_neg (by decide)] at q0
    have hws:preW d++keysW d++midW d++qW d=[]:=by rw [p0,k0,m0,q0];rfl
    refine line_law d flushW _ hn hws (by unfold Wd;decide) (by simp) (by decide) _ ?_ n1 n2 n3 hX
    rw [lineX_plain (by decide) (by decide) (by decide) (by decide),plainR_flush,hq];rfl
  | true=>
    rw [hq,if_pos rfl] at q0
    have hws:preW d++keysW d++midW d++qW d=[noreplyW]:=by rw [p0,k0,m0,q0];rfl
    refine line_law d flushW _ hn hws (by unfold Wd;decide) ?_ (by decide) _ ?_ n1 n2 n3 hX
    · intro x hx
      obtain rfl:=List.mem_singleton.1 hx
      exact wd_no
    · rw [lineX_plain (by decide) (by decide) (by decide) (by decide),plainR_flush,hq]
      unfold flushR
      rw [ends_q rfl rfl (by decide)];rfl
theorem law_word (d:Cd) (hw:d.what=wordT) (hg:goodD d=true):Reads d:=by
  obtain ⟨ha,hk⟩:=all_keys hg
  unfold kindG at hk
  rw [if_neg (by rw [hw];decide),if_neg (by rw [hw];decide),if_pos hw,decide_eq_true_iff] at hk
  have q0:qW d=[]:=by unfold qW;rw [if_neg (fun z:quietW d=>z.2.2 hw)]
  have k0:keysW d=[]:=by unfold keysW;rw [if_pos (.inr hw)]
  have p0:preW d=[]:=by unfold preW;rw [if_neg (fun z=>by rw [hw] at z;exact absurd z.1 (by decide))]
  have m0:midW d=[]:=by unfold midW;rw [if_neg (by rw [hw];decide),if_neg (by rw [hw];decide),if_neg (by rw [hw];decide)]
  have hp:plainD d=plain_word d:=by unfold plainD;rw [if_neg (by rw [hw];decide),if_neg (by rw [hw];decide),if_neg (by rw [hw];decide),if_neg (by rw [hw];decide),if_neg (by rw [hw];decide),if_neg (by rw [hw];decide)]
  have hn:nameW d=d.verb:=by unfold nameW;rw [if_neg (by rw [hw];decide),if_neg (by rw [hw];decide),if_pos hw]
  have hX:toX (.pl (.word d.verb))=plainD d:=by rw [hp];rfl
  have n1:d.what≠badT:=by rw [hw];decide
  have n2:d.what≠ez:=by rw [hw];decide
  have n3:d.what≠storeT:=by rw [hw];decide
  have hws:preW d++keysW d++midW d++qW d=[]:=by rw [p0,k0,m0,q0];rfl
  have hv:Wd d.verb∧d.verb.size≤9∧d.verb≠getW∧d.verb≠getsW∧d.verb≠gatW∧d.verb≠gatsW:=by
    rcases hk with e | e<;>rw [e]<;>exact ⟨by unfold Wd;decide,by decide,by decide,by decide,by decide,by decide⟩
  refine line_law d d.verb _ hn hws hv.1 (by simp) (by show d.verb.size≤400;omega) _ ?_ n1 n2 n3 hX
  rw [lineX_plain hv.2.2.1 hv.2.2.2.1 hv.2.2.2.2.1 hv.2.2.2.2.2,plainR_word hk]
theorem law_all (d:Cd) (hf:Form d) (hg:goodD d=true) {B:Nat} (hF:Fits d B) (hs:d.what=getT→(spellD d).size≤2000):Reads d:=by
  rcases hf with h | ⟨h,hk⟩ | ⟨h,hk⟩ | ⟨h,hk⟩ | ⟨h,hk⟩ | h | h | h | h
  · exact law_get d h hg hF.2.1.1 hF.2.1.2 (hs h)
  · exact law_store d h hk hg hF
  · exact law_arith d h hk hg hF
  · exact law_touch d h hk hg hF
  · exact law_delete d h hk hg
  · exact law_flush d h
  · exact absurd (all_keys hg).2 (by unfold kindG;rw [if_neg (by rw [h];decide),if_neg (by rw [h];decide),if_neg (by rw [h];decide),h];decide)
  · exact law_word d h hg
  · exact absurd (all_keys hg).2 (by unfold kindG;rw [if_neg (by rw [h];decide),if_neg (by rw [h];decide),if_neg (by rw [h];decide),h];decide)
end Go.Proofs.YtfbhlbchmenloaaGreatDoor.O
end
section
namespace Go.Proofs.YtfbhlbchmenloaaGreatDoor.O
open Go Go.RowKit Go.Proofs.YtfbhlbchmenloaaGreatDoorW.PrintWords Go.Proofs.YtfbhlbchmenloaaGreatDoorW.PrintLast Go.Proofs.YtfbhlbchmenloaaGreatDoorW.PrintMore Go.Proofs.YtfbhlbchmenloaaGreatDoor.H Go.Proofs.YtfbhlbchmenloaaGreatDoor.L Go.Proofs.YtfbhlbchmenloaaGreatDoor.Pure
set_option linter.unusedVariables false
set_option linter.unusedSimpArgs false
/-- A command's numbers are what their types hold; its texts have a size. -/
def FitsA (d:Cd) (B:Nat):Prop:=(0≤d.flags∧d.flags < 4294967296)∧(-9223372036854775808≤d.exp∧d.exp < 9223372036854775808)∧(0≤d.cas∧d.cas < 18446744073709551616)∧(0≤d.by_∧d.by_ < 18446744073709551616)∧d.verb.size≤B∧d.data.size≤B∧(∀ x∈d.keys,x.size≤B)
theorem k1_size {d:Cd} {B:Nat} (h:∀ x∈d.keys,x.size≤B):(k1 d).size≤B:=by
  unfold k1
  match hk:d.keys with
  | []=>exact Nat.zero_le _
  | x::r=>rw [hk] at h;exact h x (List.mem_cons_self ..)
theorem back_fits {d:Cd} {B:Nat} (h:FitsA d B) (hB:10≤B) (hk:d.keys.length≤100):Fits (backD d) B:=by
  obtain ⟨⟨f0,f1⟩,⟨e0,e1⟩,⟨c0,c1⟩,⟨b0,b1⟩,hv,hd,hks⟩:=h
  have hk1:=k1_size hks
  have e:(⟨#[]⟩:ByteArray).size≤B:=Nat.zero_le _
  have t1:getT.size≤B:=Nat.le_trans (by decide) hB
  have t2:storeT.size≤B:=Nat.le_trans (by decide) hB
  have t3:arithT.size≤B:=Nat.le_trans (by decide) hB
  have t4:touchT.size≤B:=Nat.le_trans (by decide) hB
  have t5:deleteT.size≤B:=Nat.le_trans (by decide) hB
  have t6:flushT.size≤B:=Nat.le_trans (by decide) hB
  have t7:badT.size≤B:=Nat.le_trans (by decide) hB
  have t8:wordT.size≤B:=Nat.le_trans (by decide) hB
  have one:∀ x∈[k1 d],x.size≤B:=fun x hx=>by obtain rfl:=List.mem_singleton.1 hx;exact hk1
  have non:∀ x∈([]:List ByteArray),x.size≤B:=fun x hx=>by cases hx
  have l1:[k1 d].length≤100:=by simp
  have l0:([]:List ByteArray).length≤100:=by simp
  have z:(0:Int)≤0∧(0:Int) < 4294967296:=by omega
  have z2:(-9223372036854775808:Int)≤0∧(0:Int) < 9223372036854775808:=by omega
  have z3:(0:Int)≤0∧(0:Int) < 18446744073709551616:=by omega
  unfold backD Fits
  by_cases h1:d.what=getT
  · rw [if_pos h1];exact ⟨z,⟨e0,e1⟩,z3,z3,e,t1,e,hks,hk⟩
  by_cases h2:d.what=storeT
  · rw [if_neg h1,if_pos h2];exact ⟨⟨f0,f1⟩,⟨e0,e1⟩,⟨c0,c1⟩,z3,hv,t2,hd,one,l1⟩
  by_cases h3:d.what=arithT
  · rw [if_neg h1,if_neg h2,if_pos h3];exact ⟨z,z2,z3,⟨b0,b1⟩,e,t3,e,one,l1⟩
  by_cases h4:d.what=touchT
  · rw [if_neg h1,if_neg h2,if_neg h3,if_pos h4];exact ⟨z,⟨e0,e1⟩,z3,z3,e,t4,e,one,l1⟩
  by_cases h5:d.what=deleteT
  · rw [if_neg h1,if_neg h2,if_neg h3,if_neg h4,if_pos h5];exact ⟨z,z2,z3,z3,e,t5,e,one,l1⟩
  by_cases h6:d.what=flushT
  · rw [if_neg h1,if_neg h2,if_neg h3,if_neg h4,if_neg h5,if_pos h6];exact ⟨z,z2,z3,z3,e,t6,e,non,l0⟩
  by_cases h7:d.what=badT
  · rw [if_neg h1,if_neg h2,if_neg h3,if_neg h4,if_neg h5,if_neg h6,if_pos h7];exact ⟨z,z2,z3,z3,hv,t7,e,non,l0⟩
  by_cases h8:d.what=wordT
  · rw [if_neg h1,if_neg h2,if_neg h3,if_neg h4,if_neg h5,if_neg h6,if_neg h7,if_pos h8];exact ⟨z,z2,z3,z3,hv,t8,e,non,l0⟩
  rw [if_neg h1,if_neg h2,if_neg h3,if_neg h4,if_neg h5,if_neg h6,if_neg h7,if_neg h8]
  exact ⟨z,z2,z3,z3,e,e,e,non,l0⟩
/-- A good command is one of seven. -/
theorem good_kinds {d:Cd} (hg:goodD d=true):d.what=getT∨d.what=storeT∨d.what=arithT∨d.what=touchT∨d.what=deleteT∨d.what=flushT∨d.what=wordT:=by
  have hk:=(all_keys hg).2
  unfold kindG at hk
  by_cases h1:d.what=getT
  · exact .inl h1
  by_cases h2:d.what=storeT
  · exact .inr (.inl h2)
  by_cases h3:d.what=wordT
  · exact .inr (.inr (.inr (.inr (.inr (.inr h3)))))
  rw [if_neg h1,if_neg h2,if_neg h3,decide_eq_true_iff] at hk
  rcases hk with h | h | h | h
  · exact .inr (.inr (.inl h))
  · exact .inr (.inr (.inr (.inl h)))
  · exact .inr (.inr (.inr (.inr (.inl h))))
  · exact .inr (.inr (.inr (.inr (.inr (.inl h)))))
theorem spell_ne {d:Cd} (hg:goodD d=true):¬ (spellD d).toList=[]:=by
  have hk:=good_kinds hg
  have h1:¬ (d.what=badT∨d.what=ez):=by rcases hk with h | h | h | h | h | h | h<;>rw [h]<;>decide
  have hz:=spell_size d (fun e=>h1 (.inl e)) (fun e=>h1 (.inr e)) rfl rfl
  intro e
  rw [tl] at e
  have:=len_eq (spellD d)
  rw [e] at this
  simp only [List.length_nil] at this
  omega
theorem back_ref' (d0 d:Cd) (hd:backD d0=d) {A:Option Addr} {c:Nat} {W:World} (hk:d0.keys.length≤100) (hr:Kd.C Kd.string W A d0.keys.length d0.keys):Calls Tryz.prog 9 #[cdV d0 (.slice A d0.keys.length c)] W (TellsB d W):=by
  subst hd
  exact back_ref d0 hk hr
theorem plain_ref' (d p:Cd) (hp:plainD d=p) (hd:d.what=getT∨d.what=storeT∨d.what=arithT∨d.what=touchT∨d.what=deleteT∨d.what=flushT∨d.what=wordT) {A:Option Addr} {c:Nat} {W:World} (hr:Kd.C Kd.string W A d.keys.length d.keys) (hc:d.keys.length≤c):Calls Tryz.prog 17 #[cdV d (.slice A d.keys.length c)] W (TellsB p W):=by
  subst hp
  exact plain_ref d hd hr hc
theorem cmd_refR (d : Cd) {A : Option Addr} {c : Nat} {W : World} (hk : d.keys.length ≤ 100) (hr : Kd.C Kd.string W A d.keys.length d.keys) (hc : d.keys.length ≤ c) :
    Calls Tryz.prog 8 #[cdV d (.slice A d.keys.length c)] W fun e w'=>∃ A' c',e=.returned (cdV d (.slice A' d.keys.length c'))∧d.keys.length≤c'∧Kd.R Kd.string 9 w' W.heap.size (fun _=>True) (.slice A' d.keys.length c') d.keys∧Below W.heap.size W w':=by
  refine (cellaretref17_Cmd.calls d.what d.verb A c d.keys d.data d.flags d.exp d.cas d.by_ d.withCas d.withTouch d.down d.quiet _ _ _ _ _ _ _ _ _ _ _ _ W hr hc (cmd_is d hk)).mono ?_
  rintro e w' ⟨v,rfl,hr,hb⟩
  obtain ⟨A,c,ev⟩:=Kd.R_slice hr
  subst ev
  exact ⟨A,c,rfl,(Kd.R_reads' hr).2.1,hr,hb⟩
theorem written_refB (d : Cd) (s : ByteArray) (hs : spellD d = s) {B : Nat} (hF : Fits d B) (hB : B ≤ 140737488351232) {A : Option Addr} {c : Nat} {W : World} (hr : Kd.C Kd.string W A d.keys.length d.keys) (hc : d.keys.length ≤ c) :
    Calls Tryz.prog 10 #[cdV d (.slice A d.keys.length c)] W fun e w'=>e=.returned (.string s)∧Below W.heap.size W w':=by
  subst hs
  obtain ⟨k,h⟩:=(evWritten d hF hB).rounds
  exact cellaretlaw18_written.calls k d.what d.verb A c d.keys d.data d.flags d.exp d.cas d.by_ d.withCas d.withTouch d.down d.quiet _ W hr hc h
theorem good_refB (d : Cd) (b : Bool) (hb : goodD d = b) {B : Nat} (hF : Fits d B) (hB : B ≤ 140737488351232) {A : Option Addr} {c : Nat} {W : World} (hr : Kd.C Kd.string W A d.keys.length d.keys) (hc : d.keys.length ≤ c) :
    Calls Tryz.prog 11 #[cdV d (.slice A d.keys.length c)] W fun e w'=>e=.returned (.bool b)∧Below W.heap.size W w':=by
  subst hb
  obtain ⟨k,h⟩:=(evGood d hF hB).rounds
  exact cellaretref18_Good.calls k d.what d.verb A c d.keys d.data d.flags d.exp d.cas d.by_ d.withCas d.withTouch d.down d.quiet _ W hr hc h
theorem waits_ref {g:Nat} {m:Int} {W0 W:World} (hI:IsP W0 W g ⟨[],false,.nil,m⟩) (hB:Below W0.heap.size W0 W):Calls Tryz.prog 15 #[.pointer (some ⟨g,0,none⟩)] W fun e w'=>e=.returned (.int .i64 0)∧w'=W:=Waits_walk g ⟨[],false,.nil,m⟩ W0 W hI hB
theorem next_refR {g : Nat} {ps : PS} {q : Cx × Bool × PS} {W0 W : World} (hi : Inv ps) (hq : nextR ps = q) (d : Cd) (hd : toX q.1 = d) (ok : Bool) (hok : q.2.1 = ok) (hI : IsP W0 W g ps) (hB : Below W0.heap.size W0 W) (HLD : LaidA W) :
    Calls Tryz.prog 14 #[.pointer (some ⟨g,0,none⟩)] W fun e w'=>∃ A c,e=.returned (.tuple #[cdV d (.slice A d.keys.length c),.bool ok])∧Kd.R Kd.string 9 w' W.heap.size (fun _=>True) (.slice A d.keys.length c) d.keys∧IsP W0 w' g q.2.2∧Below W0.heap.size W0 w'∧KeepBut W w' g none:=by
  subst hq
  subst hd
  subst hok
  obtain ⟨k,h⟩:=(evNext ps hi).rounds
  refine (parse_Next.calls k g ps (toX (nextR ps).1).what (toX (nextR ps).1).verb (toX (nextR ps).1).keys (toX (nextR ps).1).data (toX (nextR ps).1).flags (toX (nextR ps).1).exp (toX (nextR ps).1).cas (toX (nextR ps).1).by_ (toX (nextR ps).1).withCas (toX (nextR ps).1).withTouch (toX (nextR ps).1).down (toX (nextR ps).1).quiet (nextR ps).2.1 (nextR ps).2.2 W0 W hI hB HLD h).mono ?_
  rintro e w' ⟨v,rfl,hr,h1,h2,h3⟩
  obtain ⟨A,c,ev⟩:=Kd.R_slice hr
  subst ev
  exact ⟨A,c,rfl,hr,h1,h2,h3⟩
def cellaretlaw18_ParseBack.T13:Bool×List (List Nat×List Nat):=(true,[([],[]),([0],[0]),([1],[1]),([2,1],[1,2]),([1,3],[1,3]),([4,1],[4]),([5],[5]),([6,5,5],[5,6]),([7,5],[5,7]),([5,8],[5,8]),([9,7],[9]),([10],[10]),([11,10,10],[10,11]),([10],[10]),([13,12,10],[10,13]),([12,14,14,10],[10,12,14]),([10,15],[10,15]),([16,15,0,1,2,3,4,5,6,7,8,9,10,11,12,13,14,15,16],[16])])
def cellaretlaw18_ParseBack.B13:List Nat:=[0,1,3,7,15,31,63,127,255,511,1023,2047,4095,2047,16383,32767,65535,131071]
theorem cellaretlaw18_ParseBack.tab13:rtab .any (opsOf Tryz.f3 13)=cellaretlaw18_ParseBack.T13:=by kernel_rfl
theorem cellaretlaw18_ParseBack.bits13:waitsOk cellaretlaw18_ParseBack.T13.2 cellaretlaw18_ParseBack.B13=true:=by kernel_rfl
set_option maxHeartbeats 4000000 in
set_option maxRecDepth 100000 in
theorem back_walk (d0:Cd) {A:Option Addr} {c:Nat} {B:Nat} (hF0:FitsA d0 B) (hB0:10≤B) (hB1:B≤140737488351232) (w:World) (HLD:LaidA w) (hr:Kd.C Kd.string w A d0.keys.length d0.keys) (hc:d0.keys.length≤c):Calls Tryz.prog 3 #[cdV d0 (.slice A d0.keys.length c)] w fun e w'=>e=.returned (.bool true)∧Below w.heap.size w w':=by
  have HL:=Aside0.mk HLD
  have HR:=Aside0.mk hr
  have hu29:=Tryz.underlying29
  have hu26:=Tryz.underlying26
  have hu36:=Tryz.underlying36
  have HB:=Aside0.mk (Below.refl w.heap.size w)
  clear HLD hr
  by_cases h1:(100:Int) < (d0.keys.length:Int)
  · have h1a:((100:Int) < (d0.keys.length:Int))=True:=eq_true (h1)
    have h1b:decide ((100:Int) < (d0.keys.length:Int))=true:=decide_eq_true (h1)
    unfold cdV
    go_enter Tryz.func3,Tryz.ntmps3
    go_wp2_with fail
    refine calls_var ?_
    intro w1 hs hv
    replace HB:=Aside0.mk (below_step HB.out hs)
    have Va:=Aside0.mk (hv)
    clear hs hv
    refine (awake_ref (HL.out.below HB.out)).mono ?_
    rintro e w2 ⟨rfl,hs⟩
    replace HB:=Aside0.mk (below_step HB.out hs)
    replace Va:=Aside0.mk (blk_below Va.out hs)
    clear hs
    obtain ⟨x0,x1,x2,x3,x4,x5,x6,x7,x8,x9,x10,x11⟩:=celL Va.out
    go_wp2_with fail
    go_ret
    exact ⟨rfl,HB.out⟩
  have h1a:((100:Int) < (d0.keys.length:Int))=False:=eq_false (h1)
  have h1b:decide ((100:Int) < (d0.keys.length:Int))=false:=decide_eq_false (h1)
  have hk0:d0.keys.length≤100:=by omega
  obtain ⟨d,hd⟩:∃ d,backD d0=d:=⟨_,rfl⟩
  have HF:Aside0 (Fits d B∧Form d):=⟨by rw [← hd];exact ⟨back_fits hF0 hB0 hk0,back_form d0⟩⟩
  have hk:d.keys.length≤100:=HF.out.1.2.2.2.2.2.2.2.2
  unfold cdV
  go_enter Tryz.func3,Tryz.ntmps3
  go_wp2_with fail
  refine calls_var ?_
  intro w1 hs hv
  replace HB:=Aside0.mk (below_step HB.out hs)
  have Va:=Aside0.mk (hv)
  clear hs hv
  refine (awake_ref (HL.out.below HB.out)).mono ?_
  rintro e w2 ⟨rfl,hs⟩
  replace HB:=Aside0.mk (below_step HB.out hs)
  replace Va:=Aside0.mk (blk_below Va.out hs)
  clear hs
  obtain ⟨x0,x1,x2,x3,x4,x5,x6,x7,x8,x9,x10,x11⟩:=celL Va.out
  go_wp2_with fail
  refine (back_ref' d0 d hd hk0 (Kd.C_below HR.out HB.out)).mono ?_
  rintro e w3 ⟨A1,c1,rfl,hl1,hC1,hs⟩
  clear x0 x1 x2 x3 x4 x5 x6 x7 x8 x9 x10 x11
  replace HB:=Aside0.mk (below_step HB.out hs)
  replace Va:=Aside0.mk (blk_below Va.out hs)
  have HC1:=Aside0.mk (hC1)
  clear hs hC1
  go_wp2_with fail
  refine (cmd_refR d hk HC1.out hl1).mono ?_
  rintro e w4 ⟨A2,c2,rfl,hl2,hC2,hs⟩
  replace HB:=Aside0.mk (below_step HB.out hs)
  replace Va:=Aside0.mk (blk_below Va.out hs)
  replace HC1:=Aside0.mk (Kd.C_below HC1.out hs)
  clear HC1
  have HR2:=Aside0.mk hC2
  clear hs hC2 hl1
  unfold cdV
  obtain ⟨x0,x1,x2,x3,x4,x5,x6,x7,x8,x9,x10,x11⟩:=celL Va.out
  obtain ⟨z0,z1,z2,z3,z4,z5,z6,z7,z8,z9,z10,z11⟩:=froZ Va.out
  go_wp2_with (first | ((with_reducible refine gate_store (t:=26) (p:=1) rfl ?_);refine store_event (t:=26) (p:=1) (v:=?vo1) (w1:=((((((((((((w4.setCell ⟨w.heap.size,0,none⟩ (.string d.what)).setCell ⟨w.heap.size,1,none⟩ (.string d.verb)).setCell ⟨w.heap.size,2,none⟩ (.slice A2 d.keys.length c2)).setCell ⟨w.heap.size,3,none⟩ (.string d.data)).setCell ⟨w.heap.size,4,none⟩ (.int .u32 d.flags)).setCell ⟨w.heap.size,5,none⟩ (.int .i64 d.exp)).setCell ⟨w.heap.size,6,none⟩ (.int .u64 d.cas)).setCell ⟨w.heap.size,7,none⟩ (.int .u64 d.by_)).setCell ⟨w.heap.size,8,none⟩ (.bool d.withCas)).setCell ⟨w.heap.size,9,none⟩ (.bool d.withTouch)).setCell ⟨w.heap.size,10,none⟩ (.bool d.down)).setCell ⟨w.heap.size,11,none⟩ (.bool d.quiet))) ?hg ?ho ?hn ?hr ?_;(case ho=>rfl);(case hg=>rfl);(case hn=>rfl);(case hr=>first | (go_simp;done) | (go_simp;rfl));intro w5 hw;have HC2:Aside0 (Kd.C Kd.string w5 A2 d.keys.length d.keys):=⟨by rw [hw];exact (Kd.R_reads' (R_far12 w.heap.size (Kd.R_types HR2.out Va.out (by decide)) _ _ _ _ _ _ _ _ _ _ _ _)).2.2⟩;replace Va:=Aside0.mk (show w5.heap[w.heap.size]? = some (.cells #[.string d.what,.string d.verb,.slice A2 d.keys.length c2,.string d.data,.int .u32 d.flags,.int .i64 d.exp,.int .u64 d.cas,.int .u64 d.by_,.bool d.withCas,.bool d.withTouch,.bool d.down,.bool d.quiet] 26 (0,0)) by rw [hw];exact putG Va.out);replace HB:=Aside0.mk (show Below w.heap.size w w5 by rw [hw];exact below12 HB.out (Nat.le_refl _) _ _ _ _ _ _ _ _ _ _ _ _);clear hw HR2;clear x0 x1 x2 x3 x4 x5 x6 x7 x8 x9 x10 x11 z0 z1 z2 z3 z4 z5 z6 z7 z8 z9 z10 z11;obtain ⟨x0,x1,x2,x3,x4,x5,x6,x7,x8,x9,x10,x11⟩:=celL Va.out))
  obtain ⟨s,hs0⟩:∃ s,spellD d=s:=⟨_,rfl⟩
  have HS:=Aside0.mk hs0
  clear hs0
  refine (written_refB d s HS.out HF.out.1 hB1 HC2.out hl2).mono ?_
  rintro e w6 ⟨rfl,hs⟩
  replace HB:=Aside0.mk (below_step HB.out hs)
  replace Va:=Aside0.mk (blk_below Va.out hs)
  replace HC2:=Aside0.mk (Kd.C_below HC2.out hs)
  clear hs
  clear x0 x1 x2 x3 x4 x5 x6 x7 x8 x9 x10 x11
  obtain ⟨x0,x1,x2,x3,x4,x5,x6,x7,x8,x9,x10,x11⟩:=celL Va.out
  go_wp2_with fail
  by_cases hg:goodD d=false
  · have hg:goodD d=false:=hg
    refine (good_refB d false hg HF.out.1 hB1 HC2.out hl2).mono ?_
    rintro e w7 ⟨rfl,hs⟩
    replace HB:=Aside0.mk (below_step HB.out hs)
    replace Va:=Aside0.mk (blk_below Va.out hs)
    replace HC2:=Aside0.mk (Kd.C_below HC2.out hs)
    clear hs
    clear x0 x1 x2 x3 x4 x5 x6 x7 x8 x9 x10 x11
    obtain ⟨x0,x1,x2,x3,x4,x5,x6,x7,x8,x9,x10,x11⟩:=celL Va.out
    have s0:(s.toList==([]:List UInt8))=(s.toList==([]:List UInt8)):=rfl
    clear s0
    go_wp2_with fail
    go_ret
    exact ⟨rfl,HB.out⟩
  replace hg:goodD d=true:=by simpa using hg
  have hn0:=spell_ne hg
  rw [HS.out] at hn0
  obtain ⟨sa,sb⟩:=tlF hn0
  clear hn0
  refine (good_refB d true hg HF.out.1 hB1 HC2.out hl2).mono ?_
  rintro e w7 ⟨rfl,hs⟩
  replace HB:=Aside0.mk (below_step HB.out hs)
  replace Va:=Aside0.mk (blk_below Va.out hs)
  replace HC2:=Aside0.mk (Kd.C_below HC2.out hs)
  clear hs
  clear x0 x1 x2 x3 x4 x5 x6 x7 x8 x9 x10 x11
  obtain ⟨x0,x1,x2,x3,x4,x5,x6,x7,x8,x9,x10,x11⟩:=celL Va.out
  by_cases hz:(2000:Int) < (s.size:Int)
  · have hw : d.what = getT := by
      by_cases e:d.what=getT
      · exact e
      · obtain ⟨x,m,h1,h2,h3⟩:=law_all d HF.out.2 hg HF.out.1 (fun z=>absurd z e)
        rw [HS.out] at h3
        omega
    have hza:((2000:Int) < (s.size:Int))=True:=eq_true (hz)
    have hzb:decide ((2000:Int) < (s.size:Int))=true:=decide_eq_true (hz)
    obtain ⟨ga,gb⟩:=tlT (show d.what.toList=[103,101,116] by rw [hw];exact tl _)
    clear hw
    go_wp2_with fail
    go_ret
    exact ⟨rfl,HB.out⟩
  have hza:((2000:Int) < (s.size:Int))=False:=eq_false (hz)
  have hzb:decide ((2000:Int) < (s.size:Int))=false:=decide_eq_false (hz)
  have hsz:s.size≤2000:=by omega
  obtain ⟨x,m,hx1,hx2,hx3⟩:=law_all d HF.out.2 hg HF.out.1 (fun _=>by rw [HS.out];exact hsz)
  rw [HS.out] at hx1
  obtain ⟨p,hp⟩:∃ p,plainD d=p:=⟨_,rfl⟩
  rw [hp] at hx2
  have HQ:=Aside0.mk hx1
  have HX:=Aside0.mk hx2
  have HP:=Aside0.mk hp
  have hkp:p.keys.length≤64:=by have h:=next_keys (psFeed psNew (bytesOf s));rw [hx1] at h;rw [← hx2];exact h
  clear hx1 hx2 hx3 hp
  go_wp2_with fail
  clear x0 x1 x2 x3 x4 x5 x6 x7 x8 x9 x10 x11
  clear sa sb hza hzb h1a h1b
  have HW:=HB
  replace HL:=Aside0.mk (HL.out.below HB.out)
  replace HB:=Aside0.mk (Below.refl w7.heap.size w7)
  have hlt:=blk_lt Va.out
  refine (new_ref HB.out (HL.out.below HB.out)).mono ?_
  rintro e w8 ⟨g,rfl,hi,hb,hs⟩
  replace HB:=Aside0.mk hb
  have HI:=Aside0.mk hi
  clear hi hb hs
  clear hlt
  go_wp2_with ((with_reducible refine gate_dst (N:=40) rfl ?_);(refine conv_event rfl (N:=40) rfl 9 36 5 rfl Tryz.underlying9 Tryz.underlying36 Tryz.underlying5 (s) (bytesOf s) rfl (conv_is _ (by omega)) ?_);intro v4 w9 ho hs;obtain ⟨A4,c4,ev⟩:=Kd.V_slice ho;subst ev;have HC4:=Aside0.mk (Kd.V_reads' ho);replace HB:=Aside0.mk (below_step HB.out hs);replace HI:=Aside0.mk (HI.out.below hs);clear ho hs)
  refine (feed_ref HI.out HB.out (HL.out.below HB.out) (HC4.out.2.2) (HC4.out.2.1) (by rw [bytes_len];show 0 + _≤_;omega)).mono ?_
  rintro e w10 ⟨rfl,hi,hb,hk⟩
  replace HI:=Aside0.mk hi
  replace HB:=Aside0.mk hb
  clear hi hb hk
  clear HC4
  go_wp2_with fail
  refine (next_refR (Inv.feed (ps:=psNew) (fun h=>by cases h) _) HQ.out p HX.out true rfl HI.out HB.out (HL.out.below HB.out)).mono ?_
  rintro e w11 ⟨A3,c3,rfl,hr3,hi,hb,hk⟩
  have G3:=Aside0.mk HI.out.lt
  replace HI:=Aside0.mk hi
  replace HB:=Aside0.mk hb
  have HR3:=Aside0.mk hr3
  clear hi hb hk hr3
  unfold cdV
  go_wp2_with fail
  have Vxg:=Aside0.mk HI.out.lt
  refine calls_var ?_
  intro w12 hs hv
  replace HB:=Aside0.mk (below_step HB.out hs)
  replace HI:=Aside0.mk (HI.out.below hs)
  replace HR3:=Aside0.mk (Kd.R_below HR3.out hs)
  have Vx:=Aside0.mk (hv)
  clear hs hv
  refine (next_refR (fun h=>by cases h) (next_end _) (toD .nil) rfl false rfl HI.out HB.out (HL.out.below HB.out)).mono ?_
  rintro e w13 ⟨A5,c5,rfl,hr5,hi,hb,hk⟩
  replace Vx:=Aside0.mk (KeepBut.blk hk Vx.out (Nat.ne_of_gt Vxg.out) (by simp))
  replace HR3:=Aside0.mk (row_next HR3.out G3.out hk)
  replace HI:=Aside0.mk hi
  replace HB:=Aside0.mk hb
  clear hi hb hk hr5 G3
  dsimp only [cdV,toD]
  go_wp2_with fail
  refine wp_var ?_
  intro w14 hs hv
  replace HB:=Aside0.mk (below_step HB.out hs)
  replace HI:=Aside0.mk (HI.out.below hs)
  replace HR3:=Aside0.mk (Kd.R_below HR3.out hs)
  replace Vx:=Aside0.mk (blk_below Vx.out hs)
  clear hs hv
  have HC3:=Aside0.mk (Kd.R_reads' HR3.out).2.2
  have hl3:=(Kd.R_reads' HR3.out).2.1
  clear HR3
  have Vd:=Aside0.mk (blk_below Va.out HB.out)
  have HCd:=Aside0.mk (Kd.C_below HC2.out HB.out)
  clear Va HC2
  refine start_ (n:=18) (S:=fun w'=>C12 w' (w11.heap.size) (.string p.what) (.string p.verb) (.slice A3 p.keys.length c3) (.string p.data) (.int .u32 p.flags) (.int .i64 p.exp) (.int .u64 p.cas) (.int .u64 p.by_) (.bool p.withCas) (.bool p.withTouch) (.bool p.down) (.bool p.quiet)∧C12 w' (w.heap.size) (.string d.what) (.string d.verb) (.slice A2 d.keys.length c2) (.string d.data) (.int .u32 d.flags) (.int .i64 d.exp) (.int .u64 d.cas) (.int .u64 d.by_) (.bool d.withCas) (.bool d.withTouch) (.bool d.down) (.bool d.quiet)) (ds:=[]) #[f,f,f,f,f,f,f,f,f,f,f,f,f,f,f,f,f,f] (by kernel_rfl) rfl rfl ⟨celL Vx.out,celL Vd.out⟩ (fun hHeld=>?_)
  refine with_tabW cellaretlaw18_ParseBack.tab13 cellaretlaw18_ParseBack.bits13 (fun HT_ HW_=>?_)
  replace HB:=Aside0.mk (below_drew1 HB.out)
  replace HI:=Aside0.mk (HI.out.drew)
  replace Vx:=Aside0.mk (blk_drew Vx.out)
  replace HC3:=Aside0.mk (Kd.C_drew HC3.out)
  replace Vd:=Aside0.mk (blk_drew Vd.out)
  replace HCd:=Aside0.mk (Kd.C_drew HCd.out)
  refine pure_ (i:=0) (N:=some 52) (v:=?_) (a':=?_) #[t,f,f,f,f,f,f,f,f,f,f,f,f,f,f,f,f,f] rfl rfl (any_of HT_.out (by kernel_rfl)) (fun _ _ _ h=>h) (Or.inl ⟨by rfl,?_⟩) ?_ ?_
  rotate_left
  · intro w'
    go_simp
    with_reducible rfl
  rotate_left
  · simp only [pS]
    rfl
  refine pure_ (i:=1) (N:=some 53) (v:=?_) (a':=?_) #[t,t,f,f,f,f,f,f,f,f,f,f,f,f,f,f,f,f] rfl rfl (any_of HT_.out (by kernel_rfl)) (fun _ _ _ h=>h) (Or.inl ⟨by rfl,?_⟩) ?_ ?_
  rotate_left
  · intro w'
    go_simp
    with_reducible rfl
  rotate_left
  · simp only [pS]
    rfl
  refine pure_ (i:=2) (N:=some 54) (v:=?_) (a':=?_) #[t,t,t,f,f,f,f,f,f,f,f,f,f,f,f,f,f,f] rfl rfl (any_of HT_.out (by kernel_rfl)) (fun _ _ _ h=>h) (Or.inl ⟨by rfl,?_⟩) ?_ ?_
  rotate_left
  · intro w'
    go_simp
    with_reducible rfl
  rotate_left
  · simp only [pS]
    rfl
  refine pure_ (i:=3) (N:=some 55) (v:=?_) (a':=?_) #[t,t,t,t,f,f,f,f,f,f,f,f,f,f,f,f,f,f] rfl rfl (any_of HT_.out (by kernel_rfl)) (fun _ _ _ h=>h) (Or.inl ⟨by rfl,?_⟩) ?_ ?_
  rotate_left
  · intro w'
    go_simp
    with_reducible rfl
  rotate_left
  · simp only [pS]
    rfl
  refine pure_ (i:=4) (N:=some 56) (v:=?_) (a':=?_) #[t,t,t,t,t,f,f,f,f,f,f,f,f,f,f,f,f,f] rfl rfl (any_of HT_.out (by kernel_rfl)) (fun _ _ _ h=>h) (Or.inl ⟨by rfl,?_⟩) ?_ ?_
  rotate_left
  · intro w'
    go_simp
    with_reducible rfl
  rotate_left
  · simp only [pS]
    rfl
  refine pure_ (i:=5) (N:=some 57) (v:=?_) (a':=?_) #[t,t,t,t,t,t,f,f,f,f,f,f,f,f,f,f,f,f] rfl rfl (any_of HT_.out (by kernel_rfl)) (fun _ _ _ h=>h) (Or.inl ⟨by rfl,?_⟩) ?_ ?_
  rotate_left
  · intro w'
    go_simp
    with_reducible rfl
  rotate_left
  · simp only [pS]
    rfl
  refine pure_ (i:=6) (N:=some 58) (v:=?_) (a':=?_) #[t,t,t,t,t,t,t,f,f,f,f,f,f,f,f,f,f,f] rfl rfl (any_of HT_.out (by kernel_rfl)) (fun _ _ _ h=>h) (Or.inl ⟨by rfl,?_⟩) ?_ ?_
  rotate_left
  · intro w'
    go_simp
    with_reducible rfl
  rotate_left
  · simp only [pS]
    rfl
  refine one_ (i:=7) (N:=some 59) #[t,t,t,t,t,t,t,t,f,f,f,f,f,f,f,f,f,f] rfl rfl (one_of HT_.out (by kernel_rfl)) (by decide) (fun K hK=>?_)
  refine goes_ Tryz.func15 (by kernel_rfl) rfl #[.pointer (some ⟨g,0,none⟩)] (by rfl) rfl rfl (by (try simp only [List.map_toArray,List.map_cons,List.map_nil]);first | done | rfl) ?_
  refine (waits_ref HI.out HB.out).mono ?_
  rintro e _ ⟨rfl,rfl⟩
  refine ⟨_,rfl,?_⟩
  refine hK.out _ _ ⟨celL Vx.out,celL Vd.out⟩ (fun hHeld=>?_)
  clear hK K
  refine norm_ (a':=?_) ?_ ?_
  rotate_left
  · show Act.put _ (some 59) _=_
    simp only [pS]
    rfl
  refine pure_ (i:=8) (N:=some 60) (v:=?_) (a':=?_) #[t,t,t,t,t,t,t,t,t,f,f,f,f,f,f,f,f,f] rfl rfl (any_of HT_.out (by kernel_rfl)) (fun _ _ _ h=>h) (Or.inl ⟨by rfl,?_⟩) ?_ ?_
  rotate_left
  · intro w'
    go_simp
    with_reducible rfl
  rotate_left
  · simp only [pS]
    rfl
  refine pure_ (i:=9) (N:=some 61) (v:=?_) (a':=?_) #[t,t,t,t,t,t,t,t,t,t,f,f,f,f,f,f,f,f] rfl rfl (any_of HT_.out (by kernel_rfl)) (fun _ _ _ h=>h) (Or.inl ⟨by rfl,?_⟩) ?_ ?_
  rotate_left
  · intro w'
    go_simp
    with_reducible rfl
  rotate_left
  · simp only [pS]
    rfl
  refine pure_ (i:=10) (N:=some 62) (v:=?_) (a':=?_) #[t,t,t,t,t,t,t,t,t,t,t,f,f,f,f,f,f,f] rfl rfl (any_of HT_.out (by kernel_rfl)) (fun _ _ _ h=>h) (Or.inl ⟨by rfl,?_⟩) ?_ ?_
  rotate_left
  · intro w'
    go_simp
    with_reducible rfl
  rotate_left
  · simp only [pS]
    rfl
  refine take_ (i:=11) (N:=some 63) (v:=?_) (a':=?_) #[t,t,t,t,t,t,t,t,t,t,t,t,f,f,f,f,f,f] rfl rfl (take_ofW HT_.out HW_.out (by kernel_rfl)) (fun _ _ _ h=>h) (Or.inl ⟨by rfl,?_⟩) hHeld ?_ ?_
  rotate_left
  · rintro w' ⟨⟨s0,s1,s2,s3,s4,s5,s6,s7,s8,s9,s10,s11⟩,⟨s12,s13,s14,s15,s16,s17,s18,s19,s20,s21,s22,s23⟩⟩
    go_simp
    with_reducible rfl
  rotate_left
  · simp only [pS]
    rfl
  refine take_ (i:=13) (N:=some 65) (v:=?_) (a':=?_) #[t,t,t,t,t,t,t,t,t,t,t,t,f,t,f,f,f,f] rfl rfl (take_ofW HT_.out HW_.out (by kernel_rfl)) (fun _ _ _ h=>h) (Or.inl ⟨by rfl,?_⟩) hHeld ?_ ?_
  rotate_left
  · rintro w' ⟨⟨s0,s1,s2,s3,s4,s5,s6,s7,s8,s9,s10,s11⟩,⟨s12,s13,s14,s15,s16,s17,s18,s19,s20,s21,s22,s23⟩⟩
    go_simp
    with_reducible rfl
  rotate_left
  · simp only [pS]
    rfl
  refine one_ (i:=12) (N:=some 64) #[t,t,t,t,t,t,t,t,t,t,t,t,t,t,f,f,f,f] rfl rfl (one_of HT_.out (by kernel_rfl)) (by decide) (fun K hK=>?_)
  refine goes_ Tryz.func8 (by kernel_rfl) rfl #[.agg #[.string p.what,.string p.verb,.slice A3 p.keys.length c3,.string p.data,.int .u32 p.flags,.int .i64 p.exp,.int .u64 p.cas,.int .u64 p.by_,.bool p.withCas,.bool p.withTouch,.bool p.down,.bool p.quiet]] (by rfl) rfl rfl (by (try simp only [List.map_toArray,List.map_cons,List.map_nil]);first | done | rfl) ?_
  refine (cmd_ref p (by omega) HC3.out hl3).mono ?_
  rintro e w15 ⟨A6,c6,rfl,hl6,hC,hs⟩
  refine ⟨_,rfl,?_⟩
  replace HB:=Aside0.mk (below_step HB.out hs)
  replace HI:=Aside0.mk (HI.out.below hs)
  replace Vx:=Aside0.mk (blk_below Vx.out hs)
  replace HC3:=Aside0.mk (Kd.C_below HC3.out hs)
  replace Vd:=Aside0.mk (blk_below Vd.out hs)
  replace HCd:=Aside0.mk (Kd.C_below HCd.out hs)
  have HC6:=Aside0.mk (hC)
  clear hs hC
  refine hK.out _ _ ⟨celL Vx.out,celL Vd.out⟩ (fun hHeld=>?_)
  clear hK K
  refine norm_ (a':=?_) ?_ ?_
  rotate_left
  · show Act.put _ (some 64) _=_
    simp only [pS]
    rfl
  refine one_ (i:=14) (N:=some 66) #[t,t,t,t,t,t,t,t,t,t,t,t,t,t,t,f,f,f] rfl rfl (one_of HT_.out (by kernel_rfl)) (by decide) (fun K hK=>?_)
  refine goes_ Tryz.func17 (by kernel_rfl) rfl #[.agg #[.string d.what,.string d.verb,.slice A2 d.keys.length c2,.string d.data,.int .u32 d.flags,.int .i64 d.exp,.int .u64 d.cas,.int .u64 d.by_,.bool d.withCas,.bool d.withTouch,.bool d.down,.bool d.quiet]] (by rfl) rfl rfl (by (try simp only [List.map_toArray,List.map_cons,List.map_nil]);first | done | rfl) ?_
  refine (plain_ref' d p HP.out (good_kinds hg) HCd.out hl2).mono ?_
  rintro e w16 ⟨A7,c7,rfl,hl7,hC7,hs⟩
  refine ⟨_,rfl,?_⟩
  replace HB:=Aside0.mk (below_step HB.out hs)
  replace HI:=Aside0.mk (HI.out.below hs)
  replace Vx:=Aside0.mk (blk_below Vx.out hs)
  replace HC3:=Aside0.mk (Kd.C_below HC3.out hs)
  replace Vd:=Aside0.mk (blk_below Vd.out hs)
  replace HCd:=Aside0.mk (Kd.C_below HCd.out hs)
  replace HC6:=Aside0.mk (Kd.C_below HC6.out hs)
  have HC7:=Aside0.mk (hC7)
  clear hs hC7
  refine hK.out _ _ ⟨celL Vx.out,celL Vd.out⟩ (fun hHeld=>?_)
  clear hK K
  refine norm_ (a':=?_) ?_ ?_
  rotate_left
  · show Act.put _ (some 66) _=_
    simp only [pS]
    rfl
  refine one_ (i:=15) (N:=some 67) #[t,t,t,t,t,t,t,t,t,t,t,t,t,t,t,t,f,f] rfl rfl (one_of HT_.out (by kernel_rfl)) (by decide) (fun K hK=>?_)
  refine goes_ Tryz.func16 (by kernel_rfl) rfl #[cdV p (.slice A6 p.keys.length c6),cdV p (.slice A7 p.keys.length c7)] (by rfl) rfl rfl (by (try simp only [List.map_toArray,List.map_cons,List.map_nil]);first | done | rfl) ?_
  refine (same_ref p (by omega) HC6.out hl6 HC7.out hl7).mono ?_
  rintro e w17 ⟨rfl,hs⟩
  refine ⟨_,rfl,?_⟩
  replace HB:=Aside0.mk (below_step HB.out hs)
  replace HI:=Aside0.mk (HI.out.below hs)
  replace Vx:=Aside0.mk (blk_below Vx.out hs)
  replace HC3:=Aside0.mk (Kd.C_below HC3.out hs)
  replace Vd:=Aside0.mk (blk_below Vd.out hs)
  replace HCd:=Aside0.mk (Kd.C_below HCd.out hs)
  replace HC6:=Aside0.mk (Kd.C_below HC6.out hs)
  replace HC7:=Aside0.mk (Kd.C_below HC7.out hs)
  clear hs
  refine hK.out _ _ ⟨celL Vx.out,celL Vd.out⟩ (fun hHeld=>?_)
  clear hK K
  refine norm_ (a':=?_) ?_ ?_
  rotate_left
  · show Act.put _ (some 67) _=_
    simp only [pS]
    rfl
  refine pure_ (i:=16) (N:=some 68) (v:=?_) (a':=?_) #[t,t,t,t,t,t,t,t,t,t,t,t,t,t,t,t,t,f] rfl rfl (any_of HT_.out (by kernel_rfl)) (fun _ _ _ h=>h) (Or.inl ⟨by rfl,?_⟩) ?_ ?_
  rotate_left
  · intro w'
    go_simp
    with_reducible rfl
  rotate_left
  · simp only [pS]
    rfl
  refine pure_ (i:=17) (N:=some 2) (v:=?_) (a':=?_) #[t,t,t,t,t,t,t,t,t,t,t,t,t,t,t,t,t,t] rfl rfl (any_of HT_.out (by kernel_rfl)) (fun _ _ _ h=>h) (Or.inl ⟨by rfl,?_⟩) ?_ ?_
  rotate_left
  · intro w'
    go_simp
    with_reducible rfl
  rotate_left
  · simp only [pS]
    rfl
  refine done_ (done_of HT_.out (by kernel_rfl)) ?_
  try go_wp2
  go_ret
  exact ⟨rfl,below_step HW.out HB.out⟩
end Go.Proofs.YtfbhlbchmenloaaGreatDoor.O
end
section
namespace Go.Proofs.YtfbhlbchmenloaaGreatDoor.R
open Go.ChangeShapes Go.WideShapes Go.ChangeAt Go.RowKit Go.Proofs.YtfbhlbchmenloaaGreatDoor.H Go.Proofs.YtfbhlbchmenloaaGreatDoor.O Go.Proofs.YtfbhlbchmenloaaGreatDoorW.PrintWords Go.Proofs.YtfbhlbchmenloaaGreatDoorW.PrintLast Go.Proofs.YtfbhlbchmenloaaGreatDoorW.PrintMore
set_option linter.unusedVariables false
set_option linter.unusedSimpArgs false
section
variable {H:Type} {enc:TypeId×Value→H} {P:Program} {w:World} {base:Nat} {spare:Nat→Bool} {held:Bool}
theorem open_row {α : Type} (K : Kd α) {t e : TypeId} (ht : P.underlying t = some (.slice e)) (hsz : P.cellsOf e = K.sz) (good : α → DataW H → Prop)
    (hopen:∀ n cs y,cs.length=K.sz→DataW.trod enc P w base spare held n e cs=some y→∃ x:α,K.K w x cs∧good x y.1)
    {n:Nat} {v:Value} {y:DataW H×List MemPlace} (h:DataW.trod enc P w base spare held n t [v]=some y) :
    ∃ (a:Option Addr) (xs:List α) (cap:Nat),v=.slice a xs.length cap∧xs.length≤cap∧K.C w a xs.length xs∧∃ es rest:List (DataW H),(y.1=.nil∧xs=[]∨y.1=.slice es rest)∧es.length=xs.length∧∀ (i:Nat) x z,xs[i]? = some x→es[i]? = some z→good x z:=by
  rcases DataW.trod_slice ht h with ⟨hcs,hx⟩ | ⟨ad,len,cap,elems,rest,n,_,hcs,hx,hb,hl,hm,hlen,hel,_,_⟩
  · obtain rfl:=(List.cons.inj hcs).1
    exact ⟨none,[],0,rfl,Nat.le_refl _,Kd.C_nil K w,[],[],.inl ⟨by rw [hx],rfl⟩,rfl,fun i x y hi=>by simp at hi⟩
  · obtain rfl:=(List.cons.inj hcs).1
    have each:∀ i:Fin len,∃ x:α,(∃ cs,cs.length=K.sz∧(∀ k,k < K.sz→w.cell? ((ad.add (i.1 * K.sz)).add k)=cs[k]?)∧K.K w x cs)∧∀ y,elems[i.1]? = some y→good x y.1:=fun i=>by
      have h1:=hel i.1 i.2
      have hy:elems[i.1]? = some (elems[i.1]'(by rw [hlen];exact i.2)):=List.getElem?_eq_getElem _
      rw [hy,Option.bind_eq_some_iff] at h1
      obtain ⟨cs,hc,h2⟩:=h1
      rw [hsz] at hc
      obtain ⟨_,hcl,hcell⟩:=World.cells?_some hc
      obtain ⟨x,hK,hg⟩:=hopen n cs _ hcl h2
      refine ⟨x,⟨cs,hcl,hcell,hK⟩,fun y hy2=>?_⟩
      rw [hy] at hy2
      rw [← Option.some.inj hy2]
      exact hg
    have hlm:len≤9223372036854775807:=by simp only [maxLen] at hm;omega
    refine ⟨some ad,List.ofFn fun i:Fin len=>Classical.choose (each i),cap,by simp,by simpa using hl,⟨rfl,by simpa using hlm,fun _=>⟨ad,rfl,fun j p hj=>?_⟩⟩,elems.map (·.1),rest.map (·.1),.inr (by rw [hx]),by simp [hlen],fun i x y hi hy=>?_⟩
    · have hjl:j < len:=by have:=(List.getElem?_eq_some_iff.1 hj).1;simpa using this
      rw [List.getElem?_ofFn,dif_pos hjl] at hj
      obtain rfl:=Option.some.inj hj
      obtain ⟨⟨cs,hcl,hcell,hK⟩,_⟩:=Classical.choose_spec (each ⟨j,hjl⟩)
      refine ⟨cs,hcl,hK,fun k u hu=>?_⟩
      have hk:k < K.sz:=by have:=(List.getElem?_eq_some_iff.1 hu).1;omega
      have:=hcell k hk
      rw [hu] at this
      rw [← this]
      congr 1
      unfold Addr.add
      (repeat' split)<;>simp_all<;>omega
    · have hil:i < len:=by have:=(List.getElem?_eq_some_iff.1 hi).1;simpa using this
      rw [List.getElem?_ofFn,dif_pos hil] at hi
      obtain rfl:=Option.some.inj hi
      rw [List.getElem?_map,Option.map_eq_some_iff] at hy
      obtain ⟨y0,hy0,rfl⟩:=hy
      exact (Classical.choose_spec (each ⟨i,hil⟩)).2 y0 hy0
end
section
variable {H:Type} {enc:TypeId×Value→H} {w:World} {base:Nat} {spare:Nat→Bool} {held:Bool}
def goodS (x:ByteArray) (y:DataW H):Prop:=y=.lit (.string x.data.toList)
theorem open_str (n:Nat) (cs:List Value) (y:DataW H×List MemPlace) (hl:cs.length=1) (h:DataW.trod enc Tryz.prog w base spare held n 9 cs=some y):∃ x:ByteArray,Kd.string.K w x cs∧goodS x y.1:=by
  obtain ⟨s,hs,rfl,_⟩:=DataW.trod_string Tryz.underlying9 h
  subst hs
  exact ⟨s,rfl,rfl⟩
/-- What a command reads as. -/
def goodC (x:Cd) (y:DataW H):Prop:=∃ kd,y=.agg [.lit (.string x.what.data.toList),.lit (.string x.verb.data.toList),kd,.lit (.string x.data.data.toList),.lit (.int .u32 x.flags),.lit (.int .i64 x.exp),.lit (.int .u64 x.cas),.lit (.int .u64 x.by_),.lit (.bool x.withCas),.lit (.bool x.withTouch),.lit (.bool x.down),.lit (.bool x.quiet)]
  ∧ (∃ es rest:List (DataW H),(kd=.nil∧x.keys=[]∨kd=.slice es rest)∧es.length=x.keys.length∧∀ (i:Nat) k z,x.keys[i]? = some k→es[i]? = some z→goodS k z)
  ∧ (Lit.int .u32 x.flags).wf=true∧(Lit.int .i64 x.exp).wf=true∧(Lit.int .u64 x.cas).wf=true∧(Lit.int .u64 x.by_).wf=true
theorem open_cd (n : Nat) (cs : List Value) (y : DataW H × List MemPlace) (hl : cs.length = 12) (h : DataW.trod enc Tryz.prog w base spare held n 26 cs = some y) :
    ∃ (x:Cd) (a:Option Addr) (cap:Nat),cs=[.string x.what,.string x.verb,.slice a x.keys.length cap,.string x.data,.int .u32 x.flags,.int .i64 x.exp,.int .u64 x.cas,.int .u64 x.by_,.bool x.withCas,.bool x.withTouch,.bool x.down,.bool x.quiet]∧x.keys.length≤cap∧Kd.C Kd.string w a x.keys.length x.keys∧goodC x y.1:=by
  obtain ⟨xs,m,_,rfl,_,hxl,hf⟩:=DataW.trod_struct Tryz.underlying26 h
  obtain ⟨c0,c1,c2,c3,c4,c5,c6,c7,c8,c9,c10,c11,rfl⟩:∃ c0 c1 c2 c3 c4 c5 c6 c7 c8 c9 c10 c11,cs=[c0,c1,c2,c3,c4,c5,c6,c7,c8,c9,c10,c11]:=by
    rcases cs with _ | ⟨c0,_ | ⟨c1,_ | ⟨c2,_ | ⟨c3,_ | ⟨c4,_ | ⟨c5,_ | ⟨c6,_ | ⟨c7,_ | ⟨c8,_ | ⟨c9,_ | ⟨c10,_ | ⟨c11,_ | ⟨c12,r⟩⟩⟩⟩⟩⟩⟩⟩⟩⟩⟩⟩⟩<;>simp at hl
    exact ⟨_,_,_,_,_,_,_,_,_,_,_,_,rfl⟩
  obtain ⟨x0,x1,x2,x3,x4,x5,x6,x7,x8,x9,x10,x11,rfl⟩:∃ x0 x1 x2 x3 x4 x5 x6 x7 x8 x9 x10 x11,xs=[x0,x1,x2,x3,x4,x5,x6,x7,x8,x9,x10,x11]:=by
    rcases xs with _ | ⟨c0,_ | ⟨c1,_ | ⟨c2,_ | ⟨c3,_ | ⟨c4,_ | ⟨c5,_ | ⟨c6,_ | ⟨c7,_ | ⟨c8,_ | ⟨c9,_ | ⟨c10,_ | ⟨c11,_ | ⟨c12,r⟩⟩⟩⟩⟩⟩⟩⟩⟩⟩⟩⟩⟩<;>simp at hxl
    exact ⟨_,_,_,_,_,_,_,_,_,_,_,_,rfl⟩
  have e_lstring:Tryz.prog.cellsOf 22=1:=by kernel_rfl
  have e_bool:Tryz.prog.cellsOf 4=1:=by kernel_rfl
  have e_int64:Tryz.prog.cellsOf 2=1:=by kernel_rfl
  have e_string:Tryz.prog.cellsOf 9=1:=by kernel_rfl
  have e_uint32:Tryz.prog.cellsOf 23=1:=by kernel_rfl
  have e_uint64:Tryz.prog.cellsOf 24=1:=by kernel_rfl
  have h0:DataW.trod enc Tryz.prog w base spare held m 9 ((([c0,c1,c2,c3,c4,c5,c6,c7,c8,c9,c10,c11]:List Value).drop 0).take (Tryz.prog.cellsOf 9))=some x0:=hf 0 _ rfl
  rw [e_string] at h0
  have h1:DataW.trod enc Tryz.prog w base spare held m 9 ((([c0,c1,c2,c3,c4,c5,c6,c7,c8,c9,c10,c11]:List Value).drop 1).take (Tryz.prog.cellsOf 9))=some x1:=hf 1 _ rfl
  rw [e_string] at h1
  have h2:DataW.trod enc Tryz.prog w base spare held m 22 ((([c0,c1,c2,c3,c4,c5,c6,c7,c8,c9,c10,c11]:List Value).drop 2).take (Tryz.prog.cellsOf 22))=some x2:=hf 2 _ rfl
  rw [e_lstring] at h2
  have h3:DataW.trod enc Tryz.prog w base spare held m 9 ((([c0,c1,c2,c3,c4,c5,c6,c7,c8,c9,c10,c11]:List Value).drop 3).take (Tryz.prog.cellsOf 9))=some x3:=hf 3 _ rfl
  rw [e_string] at h3
  have h4:DataW.trod enc Tryz.prog w base spare held m 23 ((([c0,c1,c2,c3,c4,c5,c6,c7,c8,c9,c10,c11]:List Value).drop 4).take (Tryz.prog.cellsOf 23))=some x4:=hf 4 _ rfl
  rw [e_uint32] at h4
  have h5:DataW.trod enc Tryz.prog w base spare held m 2 ((([c0,c1,c2,c3,c4,c5,c6,c7,c8,c9,c10,c11]:List Value).drop 5).take (Tryz.prog.cellsOf 2))=some x5:=hf 5 _ rfl
  rw [e_int64] at h5
  have h6:DataW.trod enc Tryz.prog w base spare held m 24 ((([c0,c1,c2,c3,c4,c5,c6,c7,c8,c9,c10,c11]:List Value).drop 6).take (Tryz.prog.cellsOf 24))=some x6:=hf 6 _ rfl
  rw [e_uint64] at h6
  have h7:DataW.trod enc Tryz.prog w base spare held m 24 ((([c0,c1,c2,c3,c4,c5,c6,c7,c8,c9,c10,c11]:List Value).drop 7).take (Tryz.prog.cellsOf 24))=some x7:=hf 7 _ rfl
  rw [e_uint64] at h7
  have h8:DataW.trod enc Tryz.prog w base spare held m 4 ((([c0,c1,c2,c3,c4,c5,c6,c7,c8,c9,c10,c11]:List Value).drop 8).take (Tryz.prog.cellsOf 4))=some x8:=hf 8 _ rfl
  rw [e_bool] at h8
  have h9:DataW.trod enc Tryz.prog w base spare held m 4 ((([c0,c1,c2,c3,c4,c5,c6,c7,c8,c9,c10,c11]:List Value).drop 9).take (Tryz.prog.cellsOf 4))=some x9:=hf 9 _ rfl
  rw [e_bool] at h9
  have h10:DataW.trod enc Tryz.prog w base spare held m 4 ((([c0,c1,c2,c3,c4,c5,c6,c7,c8,c9,c10,c11]:List Value).drop 10).take (Tryz.prog.cellsOf 4))=some x10:=hf 10 _ rfl
  rw [e_bool] at h10
  have h11:DataW.trod enc Tryz.prog w base spare held m 4 ((([c0,c1,c2,c3,c4,c5,c6,c7,c8,c9,c10,c11]:List Value).drop 11).take (Tryz.prog.cellsOf 4))=some x11:=hf 11 _ rfl
  rw [e_bool] at h11
  obtain ⟨s0,hs0,rfl,_⟩:=DataW.trod_string Tryz.underlying9 h0
  obtain ⟨s1,hs1,rfl,_⟩:=DataW.trod_string Tryz.underlying9 h1
  obtain ⟨a,ks,cap,hs2,hk1,hk2,hk3⟩:=open_row Kd.string Tryz.underlying22 (by kernel_rfl) goodS (fun n cs y hl h=>open_str n cs y hl h) h2
  obtain ⟨s3,hs3,rfl,_⟩:=DataW.trod_string Tryz.underlying9 h3
  obtain ⟨s4,hs4,rfl,w4⟩:=DataW.trod_int Tryz.underlying23 h4
  obtain ⟨s5,hs5,rfl,w5⟩:=DataW.trod_int Tryz.underlying2 h5
  obtain ⟨s6,hs6,rfl,w6⟩:=DataW.trod_int Tryz.underlying24 h6
  obtain ⟨s7,hs7,rfl,w7⟩:=DataW.trod_int Tryz.underlying24 h7
  obtain ⟨s8,hs8,rfl⟩:=DataW.trod_bool Tryz.underlying4 h8
  obtain ⟨s9,hs9,rfl⟩:=DataW.trod_bool Tryz.underlying4 h9
  obtain ⟨s10,hs10,rfl⟩:=DataW.trod_bool Tryz.underlying4 h10
  obtain ⟨s11,hs11,rfl⟩:=DataW.trod_bool Tryz.underlying4 h11
  obtain rfl:=(List.cons.inj hs0).1
  obtain rfl:=(List.cons.inj hs1).1
  subst hs2
  obtain rfl:=(List.cons.inj hs3).1
  obtain rfl:=(List.cons.inj hs4).1
  obtain rfl:=(List.cons.inj hs5).1
  obtain rfl:=(List.cons.inj hs6).1
  obtain rfl:=(List.cons.inj hs7).1
  obtain rfl:=(List.cons.inj hs8).1
  obtain rfl:=(List.cons.inj hs9).1
  obtain rfl:=(List.cons.inj hs10).1
  obtain rfl:=(List.cons.inj hs11).1
  exact ⟨⟨s0,s1,ks,s3,s4,s5,s6,s7,s8,s9,s10,s11⟩,a,cap,rfl,hk1,hk2,⟨_,rfl,hk3,w4,w5,w6,w7⟩⟩
set_option maxRecDepth 100000 in
theorem open_cmd {r : Reach} {b0 : Nat} {v : Value} {d : DataW H} {ps : List MemPlace} (hv : Value.okWide Tryz.prog w r b0 26 v) (h : DataW.Trod enc Tryz.prog w base spare held 26 v d ps) :
    ∃ (x:Cd) (a:Option Addr) (cap:Nat),v=cdV x (.slice a x.keys.length cap)∧x.keys.length≤cap∧Kd.C Kd.string w a x.keys.length x.keys∧goodC x d:=by
  obtain ⟨cs,rfl,hsz⟩:=okWide_struct Tryz.underlying26 hv
  obtain ⟨fuel,hf⟩:=h
  have e12:Tryz.prog.cellsOf 26=12:=by kernel_rfl
  obtain ⟨x,a,cap,hx,h1,h2,hg⟩:=open_cd fuel cs.toList (d,ps) (by rw [Array.length_toList,hsz,e12]) hf
  exact ⟨x,a,cap,congrArg Value.agg (Array.toList_inj.1 hx),h1,h2,hg⟩
end
theorem weights_all {H:Type} {P:Program} {e:TypeId}:∀ {es:List (DataW H)} {i:Nat} {z:DataW H},es[i]? = some z→∀ n∈z.weights P e,n∈DataW.weightsAll P e es
  | x::r,0,z,h,n,hn=>by
    simp only [List.getElem?_cons_zero,Option.some.injEq] at h
    subst h
    simp only [DataW.weightsAll,List.mem_append]
    exact .inl hn
  | x::r,i + 1,z,h,n,hn=>by
    simp only [List.getElem?_cons_succ] at h
    simp only [DataW.weightsAll,List.mem_append]
    exact .inr (weights_all h n hn)
  | [],i,z,h,n,hn=>by simp at h
theorem laidOut:laidOutB Tryz.prog=true:=by kernel_rfl
theorem cmd_fits {H:Type} {x:Cd} {d:DataW H} (hg:goodC x d) (hs:∀ n∈d.weights Tryz.prog 26,n≤reachBytes):FitsA x 140737488351232:=by
  obtain ⟨kd,rfl,⟨es,rest,hkd,hel,hz⟩,w4,w5,w6,w7⟩:=hg
  have hR:reachBytes=140737488351232:=rfl
  have e1:IntKind.u32.min=0:=rfl
  have e2:IntKind.u32.max=4294967295:=rfl
  have e3:IntKind.u64.min=0:=rfl
  have e4:IntKind.u64.max=18446744073709551615:=rfl
  have e5:IntKind.i64.min=-9223372036854775808:=rfl
  have e6:IntKind.i64.max=9223372036854775807:=rfl
  simp [Lit.wf,e1,e2] at w4
  simp [Lit.wf,e5,e6] at w5
  simp [Lit.wf,e3,e4] at w6 w7
  have hu:=Tryz.underlying26
  have each:∀ {j:Nat} {t:TypeId} {z:DataW H},([9,9,22,9,23,2,24,24,4,4,4,4]:List TypeId)[j]? = some t→([.lit (.string x.what.data.toList),.lit (.string x.verb.data.toList),kd,.lit (.string x.data.data.toList),.lit (.int .u32 x.flags),.lit (.int .i64 x.exp),.lit (.int .u64 x.cas),.lit (.int .u64 x.by_),.lit (.bool x.withCas),.lit (.bool x.withTouch),.lit (.bool x.down),.lit (.bool x.quiet)]:List (DataW H))[j]? = some z→∀ n∈z.weights Tryz.prog t,n≤reachBytes:=fun hj hz n hn=>hs n (by
    simp only [DataW.weights,hu]
    exact DataW.weights_mem_each hj hz n hn)
  refine ⟨by omega,by omega,by omega,by omega,?_,?_,?_⟩
  · have h:=each (j:=1) rfl rfl x.verb.data.toList.length (by simp [DataW.weights])
    rw [← hR];rwa [Array.length_toList] at h
  · have h:=each (j:=3) rfl rfl x.data.data.toList.length (by simp [DataW.weights])
    rw [← hR];rwa [Array.length_toList] at h
  · intro k hk
    obtain ⟨i,hi,rfl⟩:=List.getElem_of_mem hk
    rcases hkd with ⟨_,e⟩ | rfl
    · rw [e] at hi;simp at hi
    · have hz1:=hz i x.keys[i] (es[i]'(by omega)) (List.getElem?_eq_getElem hi) (List.getElem?_eq_getElem (by omega))
      have hus:=Tryz.underlying22
      have h:=each (j:=2) rfl rfl x.keys[i].data.toList.length (by
        simp only [DataW.weights,hus,List.mem_cons,List.mem_append]
        refine .inr (.inl (weights_all (i:=i) (List.getElem?_eq_getElem (by omega)) _ ?_))
        rw [hz1]
        simp [DataW.weights])
      rw [← hR];rwa [Array.length_toList] at h
end Go.Proofs.YtfbhlbchmenloaaGreatDoor.R
end
section
namespace Go.Proofs.YtfbhlbchmenloaaGreatDoor.parseBack
open Go.ChangeShapes Go.WideShapes Go.ChangeAt Go.RowKit Go.Proofs.YtfbhlbchmenloaaGreatDoor.R Go.Proofs.YtfbhlbchmenloaaGreatDoor.H
open Go.ChangeMaps (open_string shut_string)
set_option linter.unusedVariables false
set_option linter.unusedSimpArgs false
set_option maxRecDepth 100000 in
theorem contract (H : Type) (enc : TypeId × Value → H) (W : World) (base : Nat) (args : Array Value) (ds gs : List (DataW H)) (before : List MemPlace)
    (hval0:∀ (j:Nat) t v,Tryz.f3.params[j]? = some t→args[j]? = some v→Value.okWide Tryz.prog W .any base t v)
    (hW:DataW.Whole enc Tryz.prog Tryz.f3.params.toList Rows.parseBackSpec.vars false W args.toList ds gs before)
    (hsz0:(DataW.weightsEach Tryz.prog (Tryz.f3.params.toList++Rows.parseBackSpec.plain.varTypes Tryz.prog) (ds++gs)).all (·≤reachBytes)=true)
    (HLD:LaidA W) :
    Calls Tryz.prog 3 args W fun e W'=>∃ v,e=.returned v∧Rows.parseBackSpec.post enc Tryz.prog Tryz.f3 false true false false W args v W':=by
  have hsz:=hsz0
  have hval:=hval0
  have hW':=hW
  obtain ⟨p,q,hA0,hV,rfl,hfz,hnd⟩:=hW
  have hA:DataW.TrodAll enc Tryz.prog W 0 (fun _=>true) true Tryz.f3.params.toList args.toList ds p:=hA0
  rw [Tryz.params3] at hA hval hsz
  obtain ⟨v0,vs0,d0,ds0,p0,q0,hargs,rfl,rfl,h0,r0⟩:=trodAll_cons hA
  obtain ⟨rfl,rfl,rfl⟩:=trodAll_nil r0
  obtain rfl:args=#[v0]:=by cases args;simp_all
  obtain ⟨rfl,rfl⟩:=trodVars_none hV
  have k0:=h0
  have lt0:∀ x∈p0,x.block < W.heap.size:=by obtain ⟨m,hm⟩:=k0;exact DataW.trod_lt m _ _ _ hm
  obtain ⟨x0,a0,cap0,rfl,hc0,hC0,hg0⟩:=open_cmd (hval 0 26 v0 rfl rfl) h0
  have fits0:=cmd_fits hg0 (fun n hn=>by simpa using List.all_eq_true.1 hsz n (DataW.weights_mem_each (j:=0) rfl rfl n hn))
  clear hA0 hval0 hsz0 hsz
  refine (Go.Proofs.YtfbhlbchmenloaaGreatDoor.O.back_walk x0 fits0 (by decide) (by decide) W HLD hC0 hc0).mono fun e W' ⟨he,bel⟩=>?_
  subst he
  exact ⟨_,rfl,_,_,_,[],_,[],hW',trodAll_mk1 (shut_bool Tryz.underlying4 _),(trodAll_cons_mk (Below.trod laidOut (by kernel_rfl) (of_decide_eq_true (by kernel_rfl)) k0 bel lt0) trodAll_mk0),rfl,bel.frame _,fun h=>by cases h⟩
theorem reads (os:Os) {H:Type} (enc:TypeId×Value→H):∃ places,DataW.whole enc Tryz.prog ((laidWorld os).forCall (fun _ _=>0) ⟨#[],#[.agg #[.string ByteArray.empty,.string ByteArray.empty,.slice none 0 0,.string ByteArray.empty,.int .u32 0,.int .i64 0,.int .u64 0,.int .u64 0,.bool false,.bool false,.bool false,.bool false]],[]⟩).memory Tryz.f3.params.toList Rows.parseBackSpec.vars false #[Value.agg #[.string ByteArray.empty,.string ByteArray.empty,.slice none 0 0,.string ByteArray.empty,.int .u32 0,.int .i64 0,.int .u64 0,.int .u64 0,.bool false,.bool false,.bool false,.bool false]].toList 8=some ([.agg [.lit (.string []),.lit (.string []),.nil,.lit (.string []),.lit (.int .u32 0),.lit (.int .i64 0),.lit (.int .u64 0),.lit (.int .u64 0),.lit (.bool false),.lit (.bool false),.lit (.bool false),.lit (.bool false)]],[],places):=
  ⟨[],by kernel_rfl⟩
set_option maxRecDepth 100000 in
theorem lifted (os : Os) (started : os.Started) (H : Type) (enc : TypeId × Value → H) (F : Stop.Interp) :
    ReturnsInHanded {} Tryz.checked os 3 .any ((OpenSpec.ofChange Rows.parseBackSpec).preRow enc Tryz.prog Tryz.f3 Rows.parseBackRow.domain false Rows.parseBackRow.laid) (((OpenSpec.ofChange Rows.parseBackSpec).at F).post enc Tryz.prog Tryz.f3 false true false false):=by
  obtain ⟨places,hx⟩:=reads os enc
  refine returnsInHanded_of_row (C:=Tryz.checked) (s:=OpenSpec.ofChange Rows.parseBackSpec) own started (by kernel_rfl) Tryz.func3
    (witness_row_atRef (enc:=enc) (C:=Tryz.checked) false (laidWorld os) #[.agg #[.string ByteArray.empty,.string ByteArray.empty,.slice none 0 0,.string ByteArray.empty,.int .u32 0,.int .i64 0,.int .u64 0,.int .u64 0,.bool false,.bool false,.bool false,.bool false]] rfl (by kernel_rfl) (by kernel_rfl) (by kernel_rfl)
      (OpenSpec.preRow_of_cond 8 hx (by kernel_rfl) (fun k hk=>by cases hk) (by kernel_rfl) (laid_met os _))) ?_
  intro W base args ds gs before hval hW _ _ hsz hL hsh _
  exact contract H enc W base args ds gs before hval hW hsz (laidA_of hL hsh)
theorem said:Rows.ParseBackSaid:=
  OpenClaim.holds_of_cond 3 Tryz.f3 rfl rfl rfl rfl rfl rfl rfl ⟨rfl,rfl,rfl,rfl,rfl⟩ rfl rfl rfl rfl rfl (by kernel_rfl) Tryz.func3 (by kernel_rfl)
    (of_decide_eq_true (by kernel_rfl)) (by unfold Func.isWrapper;first | (rw [if_pos (by decide +kernel)];kernel_rfl) | (rw [if_neg (by decide +kernel)];exact ⟨rfl,rfl⟩))
    (fun os started H enc _ F=>by rw [OpenClaim.pre_eq_preRow];exact lifted os started H enc F)
theorem plain (f : FuncId) (fn : Func) (hf : Tryz.pinned.checked.prog.funcNamed "cellaret/cellaretlaw18.ParseBack" = some f) (hfn : Tryz.pinned.checked.prog.funcs[f]? = some fn) :
    true=Tryz.pinned.checked.prog.looks []∧∀ (j:Nat) t,fn.params[j]? = some t→Tryz.pinned.checked.prog.wantsStandIn t=false:=by
  obtain rfl:f=3:=Option.some.inj ((show Tryz.prog.funcNamed "cellaret/cellaretlaw18.ParseBack"=some 3 by kernel_rfl).symm.trans hf) |>.symm
  obtain rfl:fn=Tryz.f3:=(Option.some.inj (Tryz.func3.symm.trans hfn)).symm
  refine ⟨by kernel_rfl,fun j t ht=>?_⟩
  rw [Tryz.params3] at ht
  have hm:=Array.mem_of_getElem? ht
  have hm2:t=26:=by simpa using hm
  rcases hm2 with rfl
  · exact (show Tryz.prog.wantsStandIn 26=false by kernel_rfl)
theorem card:Rows.ParseBackCardSaid:=
  Claim7.holds_tied_plain_at .later [] _ _ _ _ said (fun _ h=>by cases h) (by kernel_rfl) (fun _ h=>by cases h) parseBack_row_tie rfl ⟨rfl,rfl⟩ (by kernel_rfl) rfl plain (by kernel_rfl)
end Go.Proofs.YtfbhlbchmenloaaGreatDoor.parseBack
namespace Go.Proofs.YtfbhlbchmenloaaGreatDoor
/-- The card, under a short name, for the claim. -/
theorem parseBack_holds:Rows.ParseBackCardSaid:=parseBack.card
end Go.Proofs.YtfbhlbchmenloaaGreatDoor
end
