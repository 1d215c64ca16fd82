/-
  Contracts in the form that the printed walks use: '[]byte(s)' (a row that is only read), a string of such a row, strconv.Itoa, reply.number. Their conditions: the laid tables and error variables; texts of at most 2^48 bytes for a number.
-/
import Derived.Test.YtgopcfkofjipjaaDoorG2
import Derived.Lib.ConvBytes
import Derived.Lib.ItoaNum
import Derived.LoopTactic
import Derived.Deep.LoopGhost
import Derived.Deep.QuietTactic
import Derived.BigQuiet
import Derived.WalkSpells
import Derived.Lib.AtoiErrMem
import Derived.Lib.ParseIntBCases
import Derived.Shelf.Pu.ErrVarParseUint
import Derived.WalkLawsBesides
namespace Go.Proofs.YtgopcfkofjipjaaDoor.H
open Go.RowKit Go.Sort Go.Proofs.YtgopcfkofjipjaaDoorW.PrintWords Go.Proofs.YtgopcfkofjipjaaDoorW.PrintLast Go.Proofs.YtgopcfkofjipjaaDoorW.PrintMore
set_option linter.unusedVariables false

/-! A conversion's row. -/
def convB.f (s : ByteArray) : Option (List Int) := if s.size ≤ 9223372036854775807 then some (bytesOf s) else none
theorem bytesWorld_Below (W : World) (e : TypeId) (s : ByteArray) : Below W.heap.size W (Lib.bytesWorld W e s) :=
  ⟨rfl, rfl, rfl, by rw [Lib.bytesWorld_size]; omega, fun i hi => Lib.bytesWorld_at_old W e s i hi⟩
theorem conv_event {P : Program} {ops : Array Oper} {o : Oper} {rest : List Oper} {a : Act} {Q : Exit → Act → World → Prop} {W : World} (hgd : o.guard = none) {N : Tmp} (hd : o.dst = some N) {x : Operand} (ts td e : TypeId)
    (ho : o.op = .convert ts td x) (hs : P.underlying ts = some .string) (ht : P.underlying td = some (.slice e)) (he : P.underlying e = some (.int .u8)) (s : ByteArray) (r : List Int) (hx : a.eval x = .string s) (h0 : convB.f s = some r)
    (h : ∀ v1 w1, Kd.V (Kd.int .u8) e w1 W.heap.size (fun k_ => W.heap.size ≤ k_) v1 r → Below W.heap.size W w1 → wpList P ops Q rest (a.put o.dst v1) w1) : wpList P ops Q (o :: rest) a W := by
  unfold convB.f at h0
  by_cases hc : s.size ≤ 9223372036854775807
  · rw [if_pos hc] at h0
    obtain rfl := Option.some.inj h0
    have hlen : (bytesOf s).length = s.size := bytesOf_length s
    refine Kd.event_run hgd (v := .slice (some ⟨W.heap.size, 0, none⟩) (bytesOf s).length (grownCap W s.size 0 e)) (w1 := Lib.bytesWorld W e s) ?_ (h _ _ (Kd.V_mk (by rw [hlen]; exact grownCap_ge _ _ _ _) ?_) (bytesWorld_Below W e s))
    · rw [hlen]
      simp [execOp, ho, hx, Lib.run_convert_string_bytes W ts td e s hs ht he]
    · intro W' hW
      have hb := hW W.heap.size (Nat.le_refl _) (by rw [Lib.bytesWorld_size]; omega)
      refine ⟨rfl, by rw [hlen]; exact hc, fun _ => ⟨_, rfl, fun j p hj => ⟨[.int .u8 p], rfl, rfl, fun i u hu => ?_⟩⟩⟩
      have hi : i = 0 := by
        cases i with
        | zero => rfl
        | succ n => simp at hu
      subst hi
      obtain rfl : Value.int .u8 p = u := by simpa using hu
      have hjs : j < s.size := by
        have := (List.getElem?_eq_some_iff.1 hj).1
        rwa [hlen] at this
      have hc2 : W'.cell? ⟨W.heap.size, j, none⟩ = (Lib.bytesWorld W e s).cell? ⟨W.heap.size, j, none⟩ := World.cell?_of_block hb
      have ha : (⟨W.heap.size, 0, none⟩ : Addr).add (j * 1 + 0) = ⟨W.heap.size, j, none⟩ := by unfold Addr.add; split <;> simp_all
      show W'.cell? ((⟨W.heap.size, 0, none⟩ : Addr).add (j * 1 + 0)) = _
      rw [ha, hc2, Lib.bytesWorld_cell W e s j hjs]
      have hp : p = ((s.data.toList.getD j 0).toNat : Int) := by
        have hj2 := hj
        unfold bytesOf at hj2
        rw [List.getElem?_map] at hj2
        have hl : j < s.data.toList.length := by rw [data_length]; exact hjs
        rw [List.getElem?_eq_getElem hl] at hj2
        rw [List.getD_eq_getElem?_getD, List.getElem?_eq_getElem hl]
        exact (Option.some.inj hj2).symm
      rw [hp]
  · rw [if_neg hc] at h0
    cases h0

/-! A constant's row: a literal, then the conversion to its own type, which marks the row. -/
def litB.f (l : List Int) : Option (List Int) := if l.length ≤ 9223372036854775807 then some l else none
def markW (W : World) (e : TypeId) (cells : Array Value) : World := (W.alloc (.cells cells e)).freeze ⟨W.heap.size, cells.size, none⟩ 1
theorem run_convert_mark {P : Program} (W : World) (t e : TypeId) (cells : Array Value) (n c : Nat) (ht : P.underlying t = some (.slice e)) (he : P.underlying e = some (.int .u8)) :
    (convert t t (.slice (some ⟨W.heap.size, 0, none⟩) n c)).run P (W.alloc (.cells cells e)) = .ok (.slice (some ⟨W.heap.size, 0, none⟩) n c) (markW W e cells) := by
  have hsh : (W.alloc (.cells cells e)).shape? W.heap.size = some (e, cells.size) := by
    simp [World.shape?, World.alloc, -World.alloc_eq]
  simp [convert, run_underlying ht, run_underlying he, markStringish, hsh, markW, Result.andThen]
theorem markW_at_old (w : World) (e : TypeId) (cells : Array Value) (j : Nat) (hj : j < w.heap.size) : (markW w e cells).heap[j]? = w.heap[j]? := by
  have h1 : w.heap.size ≠ j := by omega
  simp [markW, World.freeze, World.alloc, -World.alloc_eq, Array.getElem?_modify, Array.getElem?_push, h1, Ne.symm h1]
theorem markW_at_new (w : World) (e : TypeId) (cells : Array Value) : (markW w e cells).heap[w.heap.size]? = some (.cells cells e (cells.size, cells.size + 1)) := by
  simp [markW, World.freeze, World.alloc, -World.alloc_eq]
  rw [Array.getElem_modify_self]
  simp
theorem markW_size (w : World) (e : TypeId) (cells : Array Value) : (markW w e cells).heap.size = w.heap.size + 1 := by
  simp [markW, World.freeze, World.alloc, -World.alloc_eq]
theorem lit_event {P : Program} {ops : Array Oper} {o1 o2 : Oper} {rest : List Oper} {a : Act} {Q : Exit → Act → World → Prop} {W : World} (hg1 : o1.guard = none) (hg2 : o2.guard = none) {N : Tmp} (hd : o1.dst = some N) (t e : TypeId) (l r : List Int)
    (ho2 : o2.op = .convert t t (.tmp N)) (ht : P.underlying t = some (.slice e)) (he : P.underlying e = some (.int .u8)) (h0 : litB.f l = some r)
    (hr : (execOp a.eval o1).run P W = .ok (.value (.slice (some ⟨W.heap.size, 0, none⟩) l.length l.length)) (W.alloc (.cells (l.map fun z => Value.int .u8 z).toArray e)))
    (hp : ∀ v, (a.put o1.dst v).eval (.tmp N) = v)
    (h : ∀ v1 w1, Kd.V (Kd.int .u8) e w1 W.heap.size (fun k_ => W.heap.size ≤ k_) v1 r → Below W.heap.size W w1 → wpList P ops Q rest ((a.put o1.dst v1).put o2.dst v1) w1) : wpList P ops Q (o1 :: o2 :: rest) a W := by
  obtain ⟨hl, rfl⟩ : l.length ≤ 9223372036854775807 ∧ l = r := by
    unfold litB.f at h0
    by_cases hc : l.length ≤ 9223372036854775807
    · rw [if_pos hc] at h0
      exact ⟨hc, Option.some.inj h0⟩
    · rw [if_neg hc] at h0; cases h0
  refine Kd.event_run hg1 hr ?_
  refine Kd.event_run hg2 (v := .slice (some ⟨W.heap.size, 0, none⟩) l.length l.length) (w1 := markW W e (l.map fun z => Value.int .u8 z).toArray) ?_ (h _ _ (Kd.V_mk (Nat.le_refl _) ?_) ?_)
  · simp [execOp, ho2, hp, run_convert_mark W t e _ _ _ ht he]
  · intro W' hW
    have hb := hW W.heap.size (Nat.le_refl _) (by rw [markW_size]; omega)
    refine ⟨rfl, hl, fun _ => ⟨_, rfl, fun j p hj => ⟨[.int .u8 p], rfl, rfl, fun i u hu => ?_⟩⟩⟩
    have hi : i = 0 := by
      cases i with
      | zero => rfl
      | succ n => simp at hu
    subst hi
    obtain rfl : Value.int .u8 p = u := by simpa using hu
    have ha : (⟨W.heap.size, 0, none⟩ : Addr).add (j * 1 + 0) = ⟨W.heap.size, j, none⟩ := by unfold Addr.add; split <;> simp_all
    show W'.cell? ((⟨W.heap.size, 0, none⟩ : Addr).add (j * 1 + 0)) = _
    rw [ha, World.cell?_of_block (w := markW W e (l.map fun z => Value.int .u8 z).toArray) (a := ⟨W.heap.size, j, none⟩) hb, cell_of_row _ W.heap.size j _ e _ (markW_at_new W e _)]
    simp [hj]
  · exact ⟨rfl, rfl, rfl, by rw [markW_size]; omega, fun i hi => markW_at_old W e _ i hi⟩

theorem V_string {P : Program} {w : World} {base : Nat} {e' src dst e : TypeId} {ok : Nat → Prop} {v : Value} {xs : List Int} (hs : P.underlying src = some (.slice e)) (he : P.underlying e = some (.int .u8)) (hd : P.underlying dst = some .string)
    (h : Kd.V (Kd.int .u8) e' w base ok v xs) : (convert src dst v).run P w = .ok (.string (strOfNums xs)) w := by
  obtain ⟨A, c, rfl, hl, hF⟩ := h
  exact Kd.C_string hs he hd (Kd.F_now hF)

/-! strconv.Itoa. -/
def strconv_Itoa.f (a0 : Int) : Option ByteArray := if 0 ≤ a0 ∧ a0 ≤ 9223372036854775807 then some ⟨(Lib.decDigits a0.toNat).toArray⟩ else none
theorem strconv_Itoa.calls (a0 : Int) (r : ByteArray) (w : World) (HLD : LaidA w) (h : strconv_Itoa.f a0 = some r) :
    Calls Tryd.prog 18 #[.int .i64 a0] w fun e w' => e = .returned (.string r) ∧ Below w.heap.size w w' := by
  unfold strconv_Itoa.f at h
  by_cases hc : 0 ≤ a0 ∧ a0 ≤ 9223372036854775807
  · rw [if_pos hc] at h
    obtain rfl := Option.some.inj h
    obtain ⟨u, rfl⟩ := Int.eq_ofNat_of_zero_le hc.1
    refine (Tryd.strconv_Itoa (u : Int) (by omega) hc.2 w HLD.pow).mono ?_
    rintro e w' ⟨rfl, k, os, rfl⟩
    refine ⟨?_, grow_below w k os⟩
    rw [Lib.itoa_nonneg]
    rfl
  · rw [if_neg hc] at h
    cases h

/-! reply.number. -/
/-- What it tells. -/
def numR (l : List UInt8) (most : Int) : Int × Bool := match Lib.parseUintB 64 l with
  | .ok u => ((u : Int), decide ((u : Int) ≤ most) && (Lib.decDigits u == l))
  | .range => (18446744073709551615, false)
  | _ => (0, false)
def reply_number.f (a0 : ByteArray) (a1 : Int) : Option (Int × Bool) := if a0.size ≤ 281474976710656 then some (numR a0.data.toList a1) else none
theorem ret_numR {s : ByteArray} {m : Int} {a : Int} {b : Bool} (h : numR s.data.toList m = (a, b)) : Ending.returned (.tuple #[.int .u64 a, .bool b]) = .returned (.tuple #[.int .u64 (numR s.data.toList m).1, .bool (numR s.data.toList m).2]) := by rw [h]

set_option maxHeartbeats 1000000 in
set_option maxRecDepth 100000 in
theorem number_walk (s : ByteArray) (most : Int) (hs48 : s.size ≤ 281474976710656) (w : World) (HLD : LaidA w) :
    Calls Tryd.prog 35 #[.string s, .int .u64 most] w fun e w' => e = .returned (.tuple #[.int .u64 (numR s.data.toList most).1, .bool (numR s.data.toList most).2]) ∧ Below w.heap.size w w' := by
  have hmax : s.size ≤ 9223372036854775806 := by omega
  rcases hp : Lib.parseUintB 64 s.data.toList with u | _ | _
  · have hu : u < 18446744073709551616 := by have := Lib.parseUintB_le hp; omega
    have hn0 : numR s.data.toList most = ((u : Int), decide ((u : Int) ≤ most) && (Lib.decDigits u == s.data.toList)) := by unfold numR; rw [hp]
    have HP := Aside0.mk hp
    have HF := Aside0.mk (show strconv_FormatUint.f (u : Int) 10 = some ⟨(Lib.decDigits u).toArray⟩ from by unfold strconv_FormatUint.f; rw [if_pos ⟨rfl, by omega, by omega⟩]; rfl)
    clear hp
    by_cases hm : (u : Int) ≤ most
    · have d1 : decide ((u : Int) ≤ most) = true := decide_eq_true hm
      rw [d1, Bool.true_and] at hn0
      have Hn := Aside0.mk hn0
      clear hn0
      have HL := Aside0.mk HLD
      clear HLD
      go_enter Tryd.func35, Tryd.ntmps35
      go_wp2_with (go_at_call 48; refine (Tryd.strconv_ParseUint_10_at64_ok s hmax u HP.out _).mono ?_; rintro e w' ⟨rfl, hw'⟩)
      have hb0 : Below w.heap.size w w' := by
        rcases hw' with rfl | rfl
        · exact Below.refl _ _
        · exact bytesWorld_Below _ _ _
      have HB0 := Aside0.mk hb0
      clear hb0 hw'
      refine (strconv_FormatUint.calls (u : Int) 10 _ w' (HL.out.below HB0.out) HF.out).mono ?_
      rintro e w2 ⟨rfl, hb2⟩
      have HB2 := Aside0.mk hb2
      clear hb2
      go_wp2
      go_ret2
      refine ⟨ret_numR (Hn.out.trans (Prod.ext rfl ?_)), below_step HB0.out HB2.out⟩
      rw [Bool.eq_iff_iff]
      simp [ByteArray.toList_eq]
    · have d1 : decide ((u : Int) ≤ most) = false := decide_eq_false hm
      rw [d1, Bool.false_and] at hn0
      have Hn := Aside0.mk hn0
      clear hn0
      have HL := Aside0.mk HLD
      clear HLD
      go_enter Tryd.func35, Tryd.ntmps35
      go_wp2_with (go_at_call 48; refine (Tryd.strconv_ParseUint_10_at64_ok s hmax u HP.out _).mono ?_; rintro e w' ⟨rfl, hw'⟩)
      go_ret2
      refine ⟨ret_numR Hn.out, ?_⟩
      rcases hw' with rfl | rfl
      · exact Below.refl _ _
      · exact bytesWorld_Below _ _ _
  · have hn0 : numR s.data.toList most = (0, false) := by unfold numR; rw [hp]
    have HP := Aside0.mk hp
    have Hn := Aside0.mk hn0
    obtain ⟨tp, p, hv⟩ := HLD.syn
    have HV := Aside0.mk hv
    clear hp hn0 hv HLD
    go_enter Tryd.func35, Tryd.ntmps35
    go_wp2_with (go_at_call 48; refine (show Calls Tryd.prog 48 #[.string s, .int .i64 10, .int .i64 64] _ _ from Any.strconv_ParseUint_10_at64_syntax_var Tryd.laysPu14 s hs48 HP.out tp p _ HV.out).mono ?_; rintro e w' ⟨N, rfl, _, _, hb⟩)
    go_ret2
    exact ⟨ret_numR Hn.out, hb⟩
  · have hn0 : numR s.data.toList most = (18446744073709551615, false) := by unfold numR; rw [hp]
    have HP := Aside0.mk hp
    have Hn := Aside0.mk hn0
    obtain ⟨tp, p, hv⟩ := HLD.rng
    have HV := Aside0.mk hv
    clear hp hn0 hv HLD
    go_enter Tryd.func35, Tryd.ntmps35
    go_wp2_with (go_at_call 48; refine (Tryd.strconv_ParseUint_10_at64_range_var s hs48 HP.out tp p _ HV.out).mono ?_; rintro e w' ⟨N, rfl, _, _, hb⟩)
    go_ret2
    exact ⟨ret_numR Hn.out, hb⟩
theorem reply_number.calls (a0 : ByteArray) (a1 : Int) (r1 : Int) (r2 : Bool) (w : World) (HLD : LaidA w) (h : reply_number.f a0 a1 = some (r1, r2)) :
    Calls Tryd.prog 35 #[.string a0, .int .u64 a1] w fun e w' => e = .returned (.tuple #[.int .u64 r1, .bool r2]) ∧ Below w.heap.size w w' := by
  unfold reply_number.f at h
  by_cases hc : a0.size ≤ 281474976710656
  · rw [if_pos hc] at h
    have e := Option.some.inj h
    have h1 := number_walk a0 a1 hc w HLD
    rw [e] at h1
    exact h1
  · rw [if_neg hc] at h
    cases h
end Go.Proofs.YtgopcfkofjipjaaDoor.H
