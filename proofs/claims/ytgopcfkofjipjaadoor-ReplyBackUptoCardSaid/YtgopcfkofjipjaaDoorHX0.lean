/-
  Printed by this session's hybrid.py (it runs the kit's print over contracts of our own for library functions): plain functions with the answers of Go functions, and that the calls come to them. Their conditions stand in each head.
-/
import Derived.Test.YtgopcfkofjipjaaDoorProg
import Derived.Below
import Derived.Deep.Draws
import Derived.Deep.AppendLies
import Derived.Maps.AppendAt
import Derived.OwnWalk
import Derived.Laws.BytesArg
import Derived.Laws.MakeOwn
import Derived.Laws.OwnMore
import Derived.Deep.OwnRows
import Derived.Tactics
import Derived.Lib.ConvBytes
import Derived.Laws.Slices
import Derived.WalkKit
import Derived.KernelRfl
import Derived.RowKit3
import Derived.Deep.LoopGhost
import Derived.Deep.QuietTactic
import Derived.BigQuiet
import Derived.WideLaws
import Derived.Deep.DeepCutAuto
import Derived.Deep.CutBlock
import Derived.Deep.RegionHeld3
import Derived.Laws.Rows
import Derived.Lib.AppendStr
import Derived.ArgAppend
import Derived.Laws.IdiomCopy
import Derived.OrdersHeld
import Derived.Laws.BitsLemmas
import Derived.RowKit
import Derived.Test.YtgopcfkofjipjaaDoorV2
import Derived.Test.YtgopcfkofjipjaaDoorWWords
import Derived.Test.YtgopcfkofjipjaaDoorWLast
import Derived.Test.YtgopcfkofjipjaaDoorWTab
import Derived.Test.YtgopcfkofjipjaaDoorWQPut
import Derived.Test.YtgopcfkofjipjaaDoorWApart
import Derived.Test.YtgopcfkofjipjaaDoorWArr
import Derived.Test.YtgopcfkofjipjaaDoorWZeros
import Derived.Test.YtgopcfkofjipjaaDoorWFoot
import Derived.Test.YtgopcfkofjipjaaDoorWKept
import Derived.Test.YtgopcfkofjipjaaDoorWShare
import Derived.Test.YtgopcfkofjipjaaDoorWN
import Derived.Test.YtgopcfkofjipjaaDoorWEqStruct
import Derived.Test.YtgopcfkofjipjaaDoorWRepsOne
import Derived.Test.YtgopcfkofjipjaaDoorWGuard
import Derived.Test.YtgopcfkofjipjaaDoorWNEv
import Derived.Test.YtgopcfkofjipjaaDoorWMore
namespace Go.Proofs.YtgopcfkofjipjaaDoor.H
open Go.RowKit Go.Proofs.YtgopcfkofjipjaaDoorW.PrintWords Go.Proofs.YtgopcfkofjipjaaDoorW.PrintLast Go.Proofs.YtgopcfkofjipjaaDoorW.PrintMore
attribute [local go_sem] max2_int min2_int max_two min_two max_three min_three max_four min_four   -- for this text's walks alone
set_option linter.unusedVariables false
set_option linter.unusedSimpArgs false



def errW : Option Int → Value
  | none => .nilIface
  | some c => .iface 0 (.int .i64 c)
theorem errW_none : errW none = .nilIface := rfl
theorem errW_some (c : Int) : errW (some c) = .iface 0 (.int .i64 c) := rfl

theorem info5 : (Tryd.prog.info? 5).map (fun i => (i.zero, i.size, i.bytes)) = some (some (.int .u8 0), 1, 1) := by kernel_rfl
theorem info29 : (Tryd.prog.info? 29).map (fun i => (i.zero, i.size, i.bytes)) = some (some (.agg #[(.bool false), (.string ⟨#[]⟩), (.string ⟨#[]⟩), (.string ⟨#[]⟩), (.int .u32 0), (.int .u64 0), (.bool false)]), 7, 80) := by kernel_rfl
theorem info34 : (Tryd.prog.info? 34).map (fun i => (i.zero, i.size, i.bytes)) = some (some (.agg #[(.bool false), (.string ⟨#[]⟩), (.string ⟨#[]⟩), (.string ⟨#[]⟩), (.int .u32 0), (.int .u64 0), (.bool false)]), 7, 80) := by kernel_rfl
-- the values' own types
/-! #### struct type 34 -/
structure S34 where
  f0 : Bool
  f1 : ByteArray
  f2 : ByteArray
  f3 : ByteArray
  f4 : Int
  f5 : Int
  f6 : Bool
def z34 : S34 := ⟨false, (⟨#[]⟩ : ByteArray), (⟨#[]⟩ : ByteArray), (⟨#[]⟩ : ByteArray), (0 : Int), (0 : Int), false⟩
def k34 : Kd S34 := Kd.iso (Kd.pair Kd.bool (Kd.pair Kd.string (Kd.pair Kd.string (Kd.pair Kd.string (Kd.pair (Kd.int .u32) (Kd.pair (Kd.int .u64) Kd.bool)))))) (fun x : S34 => (x.f0, x.f1, x.f2, x.f3, x.f4, x.f5, x.f6))
theorem k34_heap : Kd.Heap k34 := Kd.heap_iso _ (Kd.heap_pair Kd.heap_bool (Kd.heap_pair Kd.heap_string (Kd.heap_pair Kd.heap_string (Kd.heap_pair Kd.heap_string (Kd.heap_pair (Kd.heap_int .u32) (Kd.heap_pair (Kd.heap_int .u64) Kd.heap_bool))))))
theorem k34_open {w : World} {x : S34} {cs : List Value} (h : k34.K w x cs) : cs = [.bool x.f0, .string x.f1, .string x.f2, .string x.f3, .int .u32 x.f4, .int .u64 x.f5, .bool x.f6] := by
  obtain ⟨_, _, rfl, rfl, ⟨_, _, rfl, rfl, ⟨_, _, rfl, rfl, ⟨_, _, rfl, rfl, ⟨_, _, rfl, rfl, ⟨_, _, rfl, rfl, rfl⟩⟩⟩⟩⟩⟩ := h
  exact rfl
theorem k34_openM {w : World} {base : Nat} {ok : Nat → Prop} {x : S34} {cs : List Value} (h : k34.M w base ok x cs) : cs = [.bool x.f0, .string x.f1, .string x.f2, .string x.f3, .int .u32 x.f4, .int .u64 x.f5, .bool x.f6] := by
  obtain ⟨_, _, rfl, rfl, ⟨_, _, rfl, rfl, ⟨_, _, rfl, rfl, ⟨_, _, rfl, rfl, ⟨_, _, rfl, rfl, ⟨_, _, rfl, rfl, rfl⟩⟩⟩⟩⟩⟩ := h
  exact rfl
theorem k34_mk (w : World) (x : S34)  : k34.K w x [.bool x.f0, .string x.f1, .string x.f2, .string x.f3, .int .u32 x.f4, .int .u64 x.f5, .bool x.f6] := ⟨[.bool x.f0], [.string x.f1, .string x.f2, .string x.f3, .int .u32 x.f4, .int .u64 x.f5, .bool x.f6], rfl, rfl, ⟨[.string x.f1], [.string x.f2, .string x.f3, .int .u32 x.f4, .int .u64 x.f5, .bool x.f6], rfl, rfl, ⟨[.string x.f2], [.string x.f3, .int .u32 x.f4, .int .u64 x.f5, .bool x.f6], rfl, rfl, ⟨[.string x.f3], [.int .u32 x.f4, .int .u64 x.f5, .bool x.f6], rfl, rfl, ⟨[.int .u32 x.f4], [.int .u64 x.f5, .bool x.f6], rfl, rfl, ⟨[.int .u64 x.f5], [.bool x.f6], rfl, rfl, rfl⟩⟩⟩⟩⟩⟩
theorem k34_mkM (w : World) (base : Nat) (ok : Nat → Prop) (x : S34)  : k34.M w base ok x [.bool x.f0, .string x.f1, .string x.f2, .string x.f3, .int .u32 x.f4, .int .u64 x.f5, .bool x.f6] := ⟨[.bool x.f0], [.string x.f1, .string x.f2, .string x.f3, .int .u32 x.f4, .int .u64 x.f5, .bool x.f6], rfl, rfl, ⟨[.string x.f1], [.string x.f2, .string x.f3, .int .u32 x.f4, .int .u64 x.f5, .bool x.f6], rfl, rfl, ⟨[.string x.f2], [.string x.f3, .int .u32 x.f4, .int .u64 x.f5, .bool x.f6], rfl, rfl, ⟨[.string x.f3], [.int .u32 x.f4, .int .u64 x.f5, .bool x.f6], rfl, rfl, ⟨[.int .u32 x.f4], [.int .u64 x.f5, .bool x.f6], rfl, rfl, ⟨[.int .u64 x.f5], [.bool x.f6], rfl, rfl, rfl⟩⟩⟩⟩⟩⟩
theorem k34_mkF (W : World) (ok : Nat → Prop) (x : S34) : Kd.FK k34 W ok x [.bool x.f0, .string x.f1, .string x.f2, .string x.f3, .int .u32 x.f4, .int .u64 x.f5, .bool x.f6] := fun W2 _ => k34_mk W2 x
def rd_T34 (xs : List S34) (i : Int) : S34 := xs.getD i.toNat z34
theorem at_T34 {w : World} {A : Option Addr} {n : Nat} {xs : List S34} (h : Kd.C k34 w A n xs) (i : Int) (h0 : 0 ≤ i) (h1 : i < n) : ∃ ad , A = some ad ∧ w.cell? (ad.add (i.toNat * 7)) = some (.bool (rd_T34 xs i).f0) ∧ w.cell? ⟨(ad.add (i.toNat * 7)).block, (ad.add (i.toNat * 7)).off + 1, none⟩ = some (.string (rd_T34 xs i).f1) ∧ w.cell? ⟨(ad.add (i.toNat * 7)).block, (ad.add (i.toNat * 7)).off + 2, none⟩ = some (.string (rd_T34 xs i).f2) ∧ w.cell? ⟨(ad.add (i.toNat * 7)).block, (ad.add (i.toNat * 7)).off + 3, none⟩ = some (.string (rd_T34 xs i).f3) ∧ w.cell? ⟨(ad.add (i.toNat * 7)).block, (ad.add (i.toNat * 7)).off + 4, none⟩ = some (.int .u32 (rd_T34 xs i).f4) ∧ w.cell? ⟨(ad.add (i.toNat * 7)).block, (ad.add (i.toNat * 7)).off + 5, none⟩ = some (.int .u64 (rd_T34 xs i).f5) ∧ w.cell? ⟨(ad.add (i.toNat * 7)).block, (ad.add (i.toNat * 7)).off + 6, none⟩ = some (.bool (rd_T34 xs i).f6) := by
  obtain ⟨ad, c, e, _, hK, hc0⟩ := Kd.C_get h z34 i h0 h1
  have hc : ∀ j u, c[j]? = some u → w.cell? (ad.add (i.toNat * 7 + j)) = some u := hc0
  obtain rfl := k34_open hK
  exact ⟨ad, e, hc 0 _ rfl, by rw [← add_field _ _ 1 (by omega)]; exact hc 1 _ rfl, by rw [← add_field _ _ 2 (by omega)]; exact hc 2 _ rfl, by rw [← add_field _ _ 3 (by omega)]; exact hc 3 _ rfl, by rw [← add_field _ _ 4 (by omega)]; exact hc 4 _ rfl, by rw [← add_field _ _ 5 (by omega)]; exact hc 5 _ rfl, by rw [← add_field _ _ 6 (by omega)]; exact hc 6 _ rfl⟩

def rd_L7 (xs : List (List Int)) (i : Int) : (List Int) := xs.getD i.toNat ([] : List Int)
theorem at_L7 {w : World} {A : Option Addr} {n : Nat} {xs : List (List Int)} (h : Kd.C (Kd.slice 5 (Kd.int .u8)) w A n xs) (i : Int) (h0 : 0 ≤ i) (h1 : i < n) : ∃ ad A0 c0, A = some ad ∧ w.cell? (ad.add i.toNat) = some (.slice A0 (rd_L7 xs i).length c0) ∧ (rd_L7 xs i).length ≤ c0 ∧ (Kd.int .u8).C w A0 (rd_L7 xs i).length (rd_L7 xs i) := by
  obtain ⟨ad, c, e, _, hK, hc0⟩ := Kd.C_get h ([] : List Int) i h0 h1
  have hc : ∀ j u, c[j]? = some u → w.cell? (ad.add (i.toNat * 1 + j)) = some u := hc0
  obtain ⟨A0, c0, rfl, l0, g0⟩ := hK
  exact ⟨ad, A0, c0, e, by have hq := hc 0 _ rfl; rwa [Nat.mul_one, Nat.add_zero] at hq, l0, g0⟩

def rd_L8 (xs : List (List ByteArray)) (i : Int) : (List ByteArray) := xs.getD i.toNat ([] : List ByteArray)
theorem at_L8 {w : World} {A : Option Addr} {n : Nat} {xs : List (List ByteArray)} (h : Kd.C (Kd.slice 9 Kd.string) w A n xs) (i : Int) (h0 : 0 ≤ i) (h1 : i < n) : ∃ ad A0 c0, A = some ad ∧ w.cell? (ad.add i.toNat) = some (.slice A0 (rd_L8 xs i).length c0) ∧ (rd_L8 xs i).length ≤ c0 ∧ Kd.string.C w A0 (rd_L8 xs i).length (rd_L8 xs i) := by
  obtain ⟨ad, c, e, _, hK, hc0⟩ := Kd.C_get h ([] : List ByteArray) i h0 h1
  have hc : ∀ j u, c[j]? = some u → w.cell? (ad.add (i.toNat * 1 + j)) = some u := hc0
  obtain ⟨A0, c0, rfl, l0, g0⟩ := hK
  exact ⟨ad, A0, c0, e, by have hq := hc 0 _ rfl; rwa [Nat.mul_one, Nat.add_zero] at hq, l0, g0⟩

/-! #### struct type 29 -/
structure S29 where
  f0 : Bool
  f1 : ByteArray
  f2 : ByteArray
  f3 : ByteArray
  f4 : Int
  f5 : Int
  f6 : Bool
def z29 : S29 := ⟨false, (⟨#[]⟩ : ByteArray), (⟨#[]⟩ : ByteArray), (⟨#[]⟩ : ByteArray), (0 : Int), (0 : Int), false⟩
def k29 : Kd S29 := Kd.iso (Kd.pair Kd.bool (Kd.pair Kd.string (Kd.pair Kd.string (Kd.pair Kd.string (Kd.pair (Kd.int .u32) (Kd.pair (Kd.int .u64) Kd.bool)))))) (fun x : S29 => (x.f0, x.f1, x.f2, x.f3, x.f4, x.f5, x.f6))
theorem k29_heap : Kd.Heap k29 := Kd.heap_iso _ (Kd.heap_pair Kd.heap_bool (Kd.heap_pair Kd.heap_string (Kd.heap_pair Kd.heap_string (Kd.heap_pair Kd.heap_string (Kd.heap_pair (Kd.heap_int .u32) (Kd.heap_pair (Kd.heap_int .u64) Kd.heap_bool))))))
theorem k29_open {w : World} {x : S29} {cs : List Value} (h : k29.K w x cs) : cs = [.bool x.f0, .string x.f1, .string x.f2, .string x.f3, .int .u32 x.f4, .int .u64 x.f5, .bool x.f6] := by
  obtain ⟨_, _, rfl, rfl, ⟨_, _, rfl, rfl, ⟨_, _, rfl, rfl, ⟨_, _, rfl, rfl, ⟨_, _, rfl, rfl, ⟨_, _, rfl, rfl, rfl⟩⟩⟩⟩⟩⟩ := h
  exact rfl
theorem k29_openM {w : World} {base : Nat} {ok : Nat → Prop} {x : S29} {cs : List Value} (h : k29.M w base ok x cs) : cs = [.bool x.f0, .string x.f1, .string x.f2, .string x.f3, .int .u32 x.f4, .int .u64 x.f5, .bool x.f6] := by
  obtain ⟨_, _, rfl, rfl, ⟨_, _, rfl, rfl, ⟨_, _, rfl, rfl, ⟨_, _, rfl, rfl, ⟨_, _, rfl, rfl, ⟨_, _, rfl, rfl, rfl⟩⟩⟩⟩⟩⟩ := h
  exact rfl
theorem k29_mk (w : World) (x : S29)  : k29.K w x [.bool x.f0, .string x.f1, .string x.f2, .string x.f3, .int .u32 x.f4, .int .u64 x.f5, .bool x.f6] := ⟨[.bool x.f0], [.string x.f1, .string x.f2, .string x.f3, .int .u32 x.f4, .int .u64 x.f5, .bool x.f6], rfl, rfl, ⟨[.string x.f1], [.string x.f2, .string x.f3, .int .u32 x.f4, .int .u64 x.f5, .bool x.f6], rfl, rfl, ⟨[.string x.f2], [.string x.f3, .int .u32 x.f4, .int .u64 x.f5, .bool x.f6], rfl, rfl, ⟨[.string x.f3], [.int .u32 x.f4, .int .u64 x.f5, .bool x.f6], rfl, rfl, ⟨[.int .u32 x.f4], [.int .u64 x.f5, .bool x.f6], rfl, rfl, ⟨[.int .u64 x.f5], [.bool x.f6], rfl, rfl, rfl⟩⟩⟩⟩⟩⟩
theorem k29_mkM (w : World) (base : Nat) (ok : Nat → Prop) (x : S29)  : k29.M w base ok x [.bool x.f0, .string x.f1, .string x.f2, .string x.f3, .int .u32 x.f4, .int .u64 x.f5, .bool x.f6] := ⟨[.bool x.f0], [.string x.f1, .string x.f2, .string x.f3, .int .u32 x.f4, .int .u64 x.f5, .bool x.f6], rfl, rfl, ⟨[.string x.f1], [.string x.f2, .string x.f3, .int .u32 x.f4, .int .u64 x.f5, .bool x.f6], rfl, rfl, ⟨[.string x.f2], [.string x.f3, .int .u32 x.f4, .int .u64 x.f5, .bool x.f6], rfl, rfl, ⟨[.string x.f3], [.int .u32 x.f4, .int .u64 x.f5, .bool x.f6], rfl, rfl, ⟨[.int .u32 x.f4], [.int .u64 x.f5, .bool x.f6], rfl, rfl, ⟨[.int .u64 x.f5], [.bool x.f6], rfl, rfl, rfl⟩⟩⟩⟩⟩⟩
theorem k29_mkF (W : World) (ok : Nat → Prop) (x : S29) : Kd.FK k29 W ok x [.bool x.f0, .string x.f1, .string x.f2, .string x.f3, .int .u32 x.f4, .int .u64 x.f5, .bool x.f6] := fun W2 _ => k29_mk W2 x
def rd_T29 (xs : List S29) (i : Int) : S29 := xs.getD i.toNat z29
theorem at_T29 {w : World} {A : Option Addr} {n : Nat} {xs : List S29} (h : Kd.C k29 w A n xs) (i : Int) (h0 : 0 ≤ i) (h1 : i < n) : ∃ ad , A = some ad ∧ w.cell? (ad.add (i.toNat * 7)) = some (.bool (rd_T29 xs i).f0) ∧ w.cell? ⟨(ad.add (i.toNat * 7)).block, (ad.add (i.toNat * 7)).off + 1, none⟩ = some (.string (rd_T29 xs i).f1) ∧ w.cell? ⟨(ad.add (i.toNat * 7)).block, (ad.add (i.toNat * 7)).off + 2, none⟩ = some (.string (rd_T29 xs i).f2) ∧ w.cell? ⟨(ad.add (i.toNat * 7)).block, (ad.add (i.toNat * 7)).off + 3, none⟩ = some (.string (rd_T29 xs i).f3) ∧ w.cell? ⟨(ad.add (i.toNat * 7)).block, (ad.add (i.toNat * 7)).off + 4, none⟩ = some (.int .u32 (rd_T29 xs i).f4) ∧ w.cell? ⟨(ad.add (i.toNat * 7)).block, (ad.add (i.toNat * 7)).off + 5, none⟩ = some (.int .u64 (rd_T29 xs i).f5) ∧ w.cell? ⟨(ad.add (i.toNat * 7)).block, (ad.add (i.toNat * 7)).off + 6, none⟩ = some (.bool (rd_T29 xs i).f6) := by
  obtain ⟨ad, c, e, _, hK, hc0⟩ := Kd.C_get h z29 i h0 h1
  have hc : ∀ j u, c[j]? = some u → w.cell? (ad.add (i.toNat * 7 + j)) = some u := hc0
  obtain rfl := k29_open hK
  exact ⟨ad, e, hc 0 _ rfl, by rw [← add_field _ _ 1 (by omega)]; exact hc 1 _ rfl, by rw [← add_field _ _ 2 (by omega)]; exact hc 2 _ rfl, by rw [← add_field _ _ 3 (by omega)]; exact hc 3 _ rfl, by rw [← add_field _ _ 4 (by omega)]; exact hc 4 _ rfl, by rw [← add_field _ _ 5 (by omega)]; exact hc 5 _ rfl, by rw [← add_field _ _ 6 (by omega)]; exact hc 6 _ rfl⟩

end Go.Proofs.YtgopcfkofjipjaaDoor.H
