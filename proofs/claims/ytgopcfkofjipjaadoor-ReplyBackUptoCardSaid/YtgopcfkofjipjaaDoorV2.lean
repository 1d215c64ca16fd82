/-
  bytes.Cut by a separator of two bytes, in the form that the printed walks use: the parts share the text's memory. Its conditions: a text of fewer than 2^32 - 15 bytes, each number a byte's.
-/
import Derived.Test.YtgopcfkofjipjaaDoorV1
import Derived.Shelf.Bytes.SlCut
namespace Go.Proofs.YtgopcfkofjipjaaDoor.H
open Go.RowKit Go.Proofs.YtgopcfkofjipjaaDoorW.PrintWords Go.Proofs.YtgopcfkofjipjaaDoorW.PrintLast Go.Proofs.YtgopcfkofjipjaaDoorW.PrintMore
set_option linter.unusedVariables false

def byteList (l : List Int) : Bool := l.all fun z => decide (0 ≤ z) && decide (z < 256)
theorem byteList_mem {l : List Int} (h : byteList l = true) : ∀ x ∈ l, 0 ≤ x ∧ x < 256 := fun x hx => by
  have := List.all_eq_true.1 h x hx
  simpa using this
/-- What it tells. -/
def cutF (l s : List Int) : List Int × List Int × Bool :=
  if 0 ≤ Lib.index (Lib.bytesOf l) (Lib.bytesOf s) then (l.take (Lib.index (Lib.bytesOf l) (Lib.bytesOf s)).toNat, l.drop ((Lib.index (Lib.bytesOf l) (Lib.bytesOf s)).toNat + 2), true) else (l, [], false)
def bytes_Cut.f (l0 l1 : List Int) : Option (List Int × List Int × Bool) := if l0.length < 4294967281 ∧ l1.length = 2 ∧ byteList l0 = true ∧ byteList l1 = true then some (cutF l0 l1) else none

theorem bytesIn_C {w : World} {A : Option Addr} {xs : List Int} (h : Kd.C (Kd.int .u8) w A xs.length xs) : Lib.BytesIn w A xs.length xs := fun hn => by
  obtain ⟨_, _, h3⟩ := h
  obtain ⟨ad, rfl, hc⟩ := h3 hn
  have hc2 : ∀ i, i < xs.length → w.cell? (ad.add i) = some (.int .u8 (xs.getD i 0)) := fun i hi => by
    obtain ⟨c, hcl, hK, hcc⟩ := hc i (xs[i]'hi) (List.getElem?_eq_getElem hi)
    have h1 := hcc 0 (.int .u8 (xs[i]'hi)) (by rw [show c = [.int .u8 (xs[i]'hi)] from hK]; rfl)
    rw [List.getD_eq_getElem?_getD, List.getElem?_eq_getElem hi]
    have e : i * (Kd.int .u8).sz + 0 = i := Nat.mul_one i
    rw [e] at h1
    exact h1
  exact Lib.BytesIn.of_cells hc2 hn

theorem bytes_Cut.calls (P0_ : Nat → Prop) (A0 : Option Addr) (c0 : Nat) (l0 : List Int) (A1 : Option Addr) (c1 : Nat) (l1 : List Int) (r1 : List Int) (r2 : List Int) (r3 : Bool) (w : World) (HLD : LaidA w)
    (hs0 : Kd.V (Kd.int .u8) 5 w w.heap.size (fun k_ => P0_ k_) (.slice A0 l0.length c0) l0) (hr1 : Kd.C (Kd.int .u8) w A1 l1.length l1) (hc1 : l1.length ≤ c1) (h : bytes_Cut.f l0 l1 = some (r1, r2, r3)) :
    Calls Tryd.prog 24 #[.slice A0 l0.length c0, .slice A1 l1.length c1] w fun e w' => ∃ v0_ v1_ : Value, e = .returned (.tuple #[v0_, v1_, .bool r3]) ∧
      Kd.V (Kd.int .u8) 5 w' w.heap.size (fun k_ => (P0_ k_ ∨ w.heap.size ≤ k_)) v0_ r1 ∧ Kd.V (Kd.int .u8) 5 w' w.heap.size (fun k_ => (P0_ k_ ∨ w.heap.size ≤ k_)) v1_ r2 ∧ Below w.heap.size w w' := by
  unfold bytes_Cut.f at h
  by_cases hc : l0.length < 4294967281 ∧ l1.length = 2 ∧ byteList l0 = true ∧ byteList l1 = true
  · rw [if_pos hc] at h
    have hr := Option.some.inj h
    obtain ⟨A, c, hA, hl, hF⟩ := hs0
    obtain ⟨rfl, _, rfl⟩ : A0 = A ∧ l0.length = l0.length ∧ c0 = c := by simpa using hA
    obtain ⟨hlen, h2, hb0, hb1⟩ := hc
    have hC := Kd.F_now hF
    have hL1 : (Lib.bytesOf l1).length = 2 := by rw [Lib.bytesOf_length, h2]
    have hcut : Calls Tryd.prog 24 #[.slice A0 l0.length c0, .slice A1 l1.length c1] w fun e w' => e = .returned (Lib.cutV A0 l0.length c0 2 (Lib.index (Lib.bytesOf l0) (Lib.bytesOf l1))) ∧ ∃ q, w' = w.drewN q := by
      by_cases hn : A0 = none
      · by_cases h0 : l0.length = 0
        · have hi : Lib.index (Lib.bytesOf l0) (Lib.bytesOf l1) = -1 := by
            have h3 := Lib.index_ge (Lib.bytesOf l0) (Lib.bytesOf l1)
            have h4 := Lib.index_room (Lib.bytesOf l0) (Lib.bytesOf l1)
            rw [hL1, Lib.bytesOf_length] at h4
            by_cases h5 : 0 ≤ Lib.index (Lib.bytesOf l0) (Lib.bytesOf l1)
            · have := h4 h5; omega
            · omega
          rw [hi]
          have := Tryd.bytes_Cut_of A0 A1 l0.length c0 l1.length c1 (-1) w hl (by omega) (by omega) (by omega)
            ((Tryd.bytes_Index_longer A0 A1 l0.length c0 l1.length c1 w (by omega) (by omega) (by omega)).mono fun e w' he => ⟨he.1, 0, he.2⟩)
          rw [h2] at this ⊢
          exact this
        · obtain ⟨_, _, h3⟩ := hC
          obtain ⟨ad, hA', _⟩ := h3 (by omega)
          rw [hn] at hA'; cases hA'
      · obtain ⟨m, hm⟩ := HLD.maxLen
        have := Tryd.bytes_Cut_all A0 A1 l0.length c0 l1.length c1 l0 l1 m w rfl rfl (byteList_mem hb0) (byteList_mem hb1) (bytesIn_C hC) (bytesIn_C hr1) (fun e => absurd e hn) hl hlen (by omega) hm
        rw [h2] at this ⊢
        exact this
    refine hcut.mono ?_
    rintro e w' ⟨rfl, q, rfl⟩
    have hF' : Kd.F (Kd.int .u8) (w.drewN q) (fun k_ => (P0_ k_ ∨ w.heap.size ≤ k_)) A0 l0.length l0 := Kd.F_mono (Kd.F_drewN hF q) (fun k hk => .inl hk)
    unfold cutF at hr
    unfold Lib.cutV
    by_cases hi : 0 ≤ Lib.index (Lib.bytesOf l0) (Lib.bytesOf l1)
    · rw [if_pos hi] at hr ⊢
      obtain ⟨rfl, hr2⟩ := Prod.mk.inj hr
      obtain ⟨rfl, rfl⟩ := Prod.mk.inj hr2
      have hroom := Lib.index_room (Lib.bytesOf l0) (Lib.bytesOf l1) hi
      rw [hL1, Lib.bytesOf_length] at hroom
      have ht : (l0.take (Lib.index (Lib.bytesOf l0) (Lib.bytesOf l1)).toNat).length = (Lib.index (Lib.bytesOf l0) (Lib.bytesOf l1)).toNat := by rw [List.length_take]; omega
      refine ⟨_, _, rfl, ⟨A0, c0, by rw [ht], by rw [ht]; omega, Kd.F_take hF' (by omega)⟩, ⟨_, c0 - ((Lib.index (Lib.bytesOf l0) (Lib.bytesOf l1)).toNat + 2), ?_, by rw [List.length_drop]; omega, Kd.F_cut hF' (by omega) hl⟩, pw_below_drewN (Below.refl _ _) q⟩
      rw [List.length_drop]
      unfold Lib.fromV
      rw [show ((Lib.index (Lib.bytesOf l0) (Lib.bytesOf l1)).toNat + 2) * (Kd.int .u8).sz = (Lib.index (Lib.bytesOf l0) (Lib.bytesOf l1)).toNat + 2 from Nat.mul_one _]
    · rw [if_neg hi] at hr ⊢
      obtain ⟨rfl, hr2⟩ := Prod.mk.inj hr
      obtain ⟨rfl, rfl⟩ := Prod.mk.inj hr2
      exact ⟨_, _, rfl, ⟨A0, c0, rfl, hl, hF'⟩, Kd.V_nil _ _ _ _ _, pw_below_drewN (Below.refl _ _) q⟩
  · rw [if_neg hc] at h
    cases h
end Go.Proofs.YtgopcfkofjipjaaDoor.H
