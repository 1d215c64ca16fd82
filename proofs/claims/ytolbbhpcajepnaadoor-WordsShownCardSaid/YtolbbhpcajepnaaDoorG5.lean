/-
  words.octal and words.Shown write and answer what the plain functions oct and shownF say. Their conditions: utf8's tables are laid; a text of at most 2^44 bytes.
-/
import Derived.Test.YtolbbhpcajepnaaDoorG4
namespace Go.Proofs.YtolbbhpcajepnaaDoor.H
open Go.RowKit Go.Proofs.YtolbbhpcajepnaaDoorW.PrintWords
set_option linter.unusedVariables false

/-- A byte in three octal digits behind a backslash. -/
def octB (c : UInt8) : List UInt8 := [92, UInt8.ofNat (48 + c.toNat / 64 % 8), UInt8.ofNat (48 + c.toNat / 8 % 8), UInt8.ofNat (48 + c.toNat % 8)]
def oct (l : List UInt8) : List UInt8 := l.flatMap octB

theorem u8_num (n : Nat) (h : n < 256) : ((UInt8.ofNat n).toNat : Int) = (n : Int) := by rw [UInt8.toNat_ofNat', Nat.mod_eq_of_lt (by omega)]
theorem oct_d0 (x : Nat) : (48 + (x : Int) / 64 % 8) = ((UInt8.ofNat (48 + x / 64 % 8)).toNat : Int) := by rw [u8_num _ (by omega)]; omega
theorem oct_d1 (x : Nat) : (48 + (x : Int) / 8 % 8) = ((UInt8.ofNat (48 + x / 8 % 8)).toNat : Int) := by rw [u8_num _ (by omega)]; omega
theorem oct_d2 (x : Nat) : (48 + (x : Int) % 8) = ((UInt8.ofNat (48 + x % 8)).toNat : Int) := by rw [u8_num _ (by omega)]; omega
theorem cell_snoc (l : List UInt8) (c : Int) (u : UInt8) (h : c = (u.toNat : Int)) : Lib.byteCells l ++ [Value.int .u8 c] = Lib.byteCells (l ++ [u]) := by
  subst h
  rw [Lib.byteCells_append]
  rfl
theorem oct_take (l : List UInt8) (k : Nat) (h : k < l.length) : oct (l.take (k + 1)) = oct (l.take k) ++ octB (l[k]'h) := by
  rw [List.take_succ_eq_append_getElem h]
  simp only [oct, List.flatMap_append, List.flatMap_cons, List.flatMap_nil, List.append_nil]
theorem oct_len (l : List UInt8) : (oct l).length = 4 * l.length := by
  induction l with
  | nil => rfl
  | cons c l ih => simp [oct, octB] at ih ⊢; omega
theorem cells_len (l : List UInt8) : (Lib.byteCells l).length = l.length := Lib.byteCells_length l

set_option maxHeartbeats 2000000 in
set_option maxRecDepth 100000 in
theorem octal_walk (B b : Nat) (bs : List UInt8) (s : ByteArray) (w : World) (h : Lib.IsBuilderF 49 5 B b (Lib.byteCells bs) w) (hlen : bs.length + 4 * s.size ≤ 140737488355328) (hBw : B ≤ w.heap.size) :
    Calls Tryd.prog 35 #[.pointer (some ⟨b, 0, none⟩), .string s] w fun e w' => e = .returned (.tuple #[]) ∧ Lib.IsBuilderF 49 5 B b (Lib.byteCells (bs ++ oct s.data.toList)) w' ∧ Below B w w' ∧ Lib.OthersKept 5 (some b) w w' := by
  have hsl : s.data.toList.length = s.size := Array.length_toList
  have HSL := Aside0.mk hsl
  clear hsl
  go_enter Tryd.func35, Tryd.ntmps35
  go_wp2
  go_loopw [4] (fun i wr => ∃ k : Nat, k ≤ s.size ∧ i = .int .i64 k ∧ Aside0 (Lib.IsBuilderF 49 5 B b (Lib.byteCells (bs ++ oct (s.data.toList.take k))) wr) ∧ Aside0 (Below B w wr) ∧ Aside0 (Lib.OthersKept 5 (some b) w wr)) (fun i _ => s.size - (intOf i).toNat)
  case atStart => exact ⟨0, Nat.zero_le _, rfl, ⟨by simpa [oct] using h⟩, ⟨Below.refl _ _⟩, ⟨Lib.OthersKept.refl _ _ _⟩⟩
  case round =>
    obtain ⟨k, hk, rfl, HI, HB, HK⟩ := hrel
    by_cases hlt : k < s.size
    · have hB1 : B ≤ wr.heap.size := Nat.le_trans hBw HB.out.size
      have hl0 : (bs ++ oct (s.data.toList.take k)).length = bs.length + 4 * k := by rw [List.length_append, oct_len, List.length_take, HSL.out]; omega
      have hl1 : (Lib.byteCells (bs ++ oct (s.data.toList.take k))).length + 1 ≤ 140737488355328 := by rw [cells_len, hl0]; omega
      have HL0 := Aside0.mk hl0
      clear hl0
      have HC : Aside0 (bs ++ oct (s.data.toList.take (k + 1)) = bs ++ oct (s.data.toList.take k) ++ octB (s[k]'hlt)) := ⟨by rw [oct_take _ _ (by rw [HSL.out]; exact hlt), List.append_assoc]; rfl⟩
      have hc0 := (s[k]'hlt).toNat_lt
      have HD0 := Aside0.mk (oct_d0 (s[k]'hlt).toNat)
      have HD1 := Aside0.mk (oct_d1 (s[k]'hlt).toNat)
      have HD2 := Aside0.mk (oct_d2 (s[k]'hlt).toNat)
      go_wp2_with (go_at_call 46; refine (Tryd.Builder_WriteByte_k B b _ 92 _ HI.out hl1 hB1).mono ?_; rintro e w1 ⟨rfl, hI1, hB2, hK2⟩)
      have HI1 := Aside0.mk hI1
      have HB1 := Aside0.mk (HB.out.trans hB2)
      have HK1 := Aside0.mk (HK.out.trans hK2)
      clear hI1 hB2 hK2 hl1
      obtain ⟨wo, rfl⟩ : ∃ wo : World, wo = wr := ⟨_, rfl⟩
      go_loopw [5] (fun i wr => ∃ j : Nat, j ≤ 3 ∧ i = .int .i64 (6 - 3 * (j : Int)) ∧ Aside0 (Lib.IsBuilderF 49 5 B b (Lib.byteCells (bs ++ oct (s.data.toList.take k) ++ (octB (s[k]'hlt)).take (j + 1))) wr) ∧ Aside0 (Below B w wr) ∧ Aside0 (Lib.OthersKept 5 (some b) w wr)) (fun i _ => (intOf i + 3).toNat)
      case atStart =>
        refine ⟨0, by omega, rfl, ⟨?_⟩, HB1, HK1⟩
        have h1 := HI1.out
        rw [cell_snoc _ 92 92 rfl] at h1
        exact .inr h1
      case round =>
        clear HB HK HI HI1 HB1 HK1
        obtain ⟨j, hj, rfl, HI, HB, HK⟩ := hrel
        have hB1 : B ≤ wr.heap.size := Nat.le_trans hBw HB.out.size
        have hl1 : (Lib.byteCells (bs ++ oct (s.data.toList.take k) ++ (octB (s[k]'hlt)).take (j + 1))).length + 1 ≤ 140737488355328 ∨ j = 3 := by
          by_cases e : j = 3
          · exact .inr e
          · left
            have := List.length_take_le (j + 1) (octB (s[k]'hlt))
            rw [cells_len, List.length_append, HL0.out]
            omega
        match j, hj with
        | 0, _ =>
          have hl2 := hl1.resolve_right (by omega)
          clear hl1
          go_wp2_with (go_at_call 46; refine (Tryd.Builder_WriteByte_k B b _ _ _ HI.out hl2 hB1).mono ?_; rintro e w1 ⟨rfl, hI1, hB2, hK2⟩)
          have HI1 := Aside0.mk hI1
          have HB1 := Aside0.mk (HB.out.trans hB2)
          have HK1 := Aside0.mk (HK.out.trans hK2)
          clear hI1 hB2 hK2 hl2
          go_roundw
          case rel =>
            refine ⟨1, by omega, by go_num, ⟨?_⟩, HB1, HK1⟩
            have h1 := HI1.out
            rw [cell_snoc _ _ (UInt8.ofNat (48 + (s[k]'hlt).toNat / 64 % 8)) HD0.out, List.append_assoc] at h1
            exact .inr h1
          case measure => simp [intOf]
        | 1, _ =>
          have hl2 := hl1.resolve_right (by omega)
          clear hl1
          go_wp2_with (go_at_call 46; refine (Tryd.Builder_WriteByte_k B b _ _ _ HI.out hl2 hB1).mono ?_; rintro e w1 ⟨rfl, hI1, hB2, hK2⟩)
          have HI1 := Aside0.mk hI1
          have HB1 := Aside0.mk (HB.out.trans hB2)
          have HK1 := Aside0.mk (HK.out.trans hK2)
          clear hI1 hB2 hK2 hl2
          go_roundw
          case rel =>
            refine ⟨2, by omega, by go_num, ⟨?_⟩, HB1, HK1⟩
            have h1 := HI1.out
            rw [cell_snoc _ _ (UInt8.ofNat (48 + (s[k]'hlt).toNat / 8 % 8)) HD1.out, List.append_assoc] at h1
            exact .inr h1
          case measure => simp [intOf]
        | 2, _ =>
          have hl2 := hl1.resolve_right (by omega)
          clear hl1
          go_wp2_with (go_at_call 46; refine (Tryd.Builder_WriteByte_k B b _ _ _ HI.out hl2 hB1).mono ?_; rintro e w1 ⟨rfl, hI1, hB2, hK2⟩)
          have HI1 := Aside0.mk hI1
          have HB1 := Aside0.mk (HB.out.trans hB2)
          have HK1 := Aside0.mk (HK.out.trans hK2)
          clear hI1 hB2 hK2 hl2
          go_roundw
          case rel =>
            refine ⟨3, by omega, by go_num, ⟨?_⟩, HB1, HK1⟩
            have h1 := HI1.out
            rw [cell_snoc _ _ (UInt8.ofNat (48 + (s[k]'hlt).toNat % 8)) HD2.out, List.append_assoc] at h1
            exact .inr h1
          case measure => simp [intOf]
        | 3, _ =>
          go_wp2
          go_roundw
          case rel =>
            refine ⟨k + 1, by omega, by go_num, ⟨?_⟩, HB, HK⟩
            rw [HC.out]
            exact HI.out
          case measure => simp [intOf]; omega
        | j + 4, hj => omega
    · go_wp2
      go_end0
      refine ⟨rfl, ?_, HB.out, HK.out⟩
      have h1 := HI.out
      rw [List.take_of_length_le (by rw [HSL.out]; omega)] at h1
      exact h1
end Go.Proofs.YtolbbhpcajepnaaDoor.H
