/-
  words.Shown answers what the plain function shownF says. Its conditions: utf8's tables are laid; a text of at most 2^45 bytes.
-/
import Derived.Test.YtolbbhpcajepnaaDoorG5
import Derived.Test.YtolbbhpcajepnaaDoorU8
namespace Go.Proofs.YtolbbhpcajepnaaDoor.H
open Go.RowKit Go.Proofs.YtolbbhpcajepnaaDoorW.PrintWords
set_option linter.unusedVariables false

def piece (s : ByteArray) (pos : Nat) : ByteArray := s.extract pos (pos + (Utf8.decode s pos).2)
/-- Is the rune at pos shown as it is? -/
def plainAt (s : ByteArray) (pos : Nat) : Bool :=
  okAt s pos && (decide (32 < (Utf8.decode s pos).1) && ((Utf8.decode s pos).1 != 127 && ((Utf8.decode s pos).1 != 34 && (Utf8.decode s pos).1 != 92)))
def shownFrom (s : ByteArray) : Nat → Nat → List UInt8
  | 0, _ => []
  | f + 1, pos => if pos < s.size then (if plainAt s pos then (piece s pos).data.toList else oct (piece s pos).data.toList) ++ shownFrom s f (pos + (Utf8.decode s pos).2) else []
def shownF (s : ByteArray) : List UInt8 := shownFrom s s.size 0
theorem shownFrom_end (s : ByteArray) (f pos : Nat) (h : ¬ pos < s.size) : shownFrom s f pos = [] := by cases f <;> simp [shownFrom, h]

theorem piece_size (s : ByteArray) (pos : Nat) (h : pos < s.size) : (piece s pos).size = (Utf8.decode s pos).2 := by
  have := U8.dec_fits s pos h
  unfold piece
  rw [ByteArray.size_extract]
  omega
theorem piece_len (s : ByteArray) (pos : Nat) (h : pos < s.size) : (piece s pos).data.toList.length = (Utf8.decode s pos).2 := by
  rw [← piece_size s pos h]; exact Array.length_toList
theorem wide_ok (s : ByteArray) (pos : Nat) (h : pos < s.size) (hk : okAt s pos = true) : Lib.runeLen ((Utf8.decode s pos).1 : Int) = ((Utf8.decode s pos).2 : Int) := by
  have h1 := U8.dec_shape (s.data.toList.drop pos)
  rw [Lib.decodeL_drop] at h1
  rcases h1 with ⟨h1, h2⟩ | ⟨h1, _⟩
  · simp [okAt, h1, h2] at hk
  · exact h1
theorem wide_bad (s : ByteArray) (pos : Nat) (h : pos < s.size) (hk : okAt s pos = false) : (Utf8.decode s pos).2 = 1 := by
  have h1 := Lib.decode_width_pos s pos h
  simp [okAt] at hk
  omega

theorem builderAt_below {T e : TypeId} {B b : Nat} {p : Value} {bs : List Value} {w w1 : World} (h : Lib.BuilderAtF T e B b p bs w) (hw : Below w.heap.size w w1) : Lib.BuilderAtF T e B b p bs w1 := by
  obtain ⟨hB, v, hb, hown, hne⟩ := h
  have keep : ∀ (i : Nat) (o : Obj), w.heap[i]? = some o → w1.heap[i]? = some o := fun i o hi => (hw.block i (Array.getElem?_eq_some_iff.1 hi).1).trans hi
  refine ⟨hB, v, keep _ _ hb, ⟨hown.1, ?_⟩, hne⟩
  rcases hown.2 with hn | ⟨g, cap, cur, fz, hv, hbg, hg, rest⟩
  · exact .inl hn
  · exact .inr ⟨g, cap, cur, fz, hv, hbg, keep _ _ hg, rest⟩
theorem builder_below {T e : TypeId} {B b : Nat} {bs : List Value} {w w1 : World} (h : Lib.IsBuilderF T e B b bs w) (hw : Below w.heap.size w w1) : Lib.IsBuilderF T e B b bs w1 :=
  h.elim (fun x => .inl (builderAt_below x hw)) (fun x => .inr (builderAt_below x hw))

set_option maxHeartbeats 4000000 in
set_option maxRecDepth 100000 in
theorem shown_walk (s : ByteArray) (hs : s.size ≤ 35184372088832) (w : World) (HLD : LaidA w) :
    Calls Tryd.prog 18 #[.string s] w fun e w' => e = .returned (.string ⟨(shownF s).toArray⟩) ∧ Below w.heap.size w w' := by
  have hs2 : s.size ≤ 140737488351232 := by omega
  go_enter Tryd.func18, Tryd.ntmps18
  go_wp2
  go_loopw [] (fun wr => ∃ (pos fuel : Nat) (acc : List UInt8), Aside0 (Lib.IsBuilderF 49 5 w.heap.size w.heap.size (Lib.byteCells acc) wr) ∧ Aside0 (wr.heap[w.heap.size + 1]? = some (.stringIter s pos)) ∧ Aside0 (Below w.heap.size w wr) ∧ Aside0 (acc ++ shownFrom s fuel pos = shownF s) ∧ s.size ≤ pos + fuel ∧ Aside0 (acc.length ≤ 4 * pos)) (fun wr => s.size - wr.iterPos (w.heap.size + 1))
  case atStart =>
    refine ⟨0, s.size, [], ⟨(Lib.IsBuilderF.of (Lib.fresh_isBuilder 49 5 w)).alloc _⟩, ⟨?_⟩, ⟨((Below.refl _ w).alloc (Nat.le_refl _) _).alloc (by simp) _⟩, ⟨rfl⟩, by omega, ⟨by simp⟩⟩
    have := World.iter_heap (w.alloc (.cells #[.pointer none, .slice none 0 0] 49)) s 0
    simpa using this
  case round =>
    obtain ⟨pos, fuel, acc, HI, HT, HB, HA, hfu, HL⟩ := hrel
    have hit := HT.out
    have hsz : w.heap.size + 1 < wr.heap.size := (Array.getElem?_eq_some_iff.1 hit).1
    by_cases hp : pos < s.size
    · have hnx : ∀ ty, (Instr.next (.pointer (some ⟨w.heap.size + 1, 0, none⟩)) true ty).run Tryd.prog wr = _ := fun ty => Lib.run_next_any_at wr (w.heap.size + 1) s pos ty hit hp
      have hwd := Lib.decode_width_pos s pos hp
      have hfit := U8.dec_fits s pos hp
      have hle := decode_le s pos
      have HI2 := Aside0.mk (HI.out.iterAt hit (pos + (Utf8.decode s pos).2))
      have HT2 := Aside0.mk (Lib.iterAt_heap wr (w.heap.size + 1) s pos (pos + (Utf8.decode s pos).2) hit)
      have HB2 := Aside0.mk (Lib.below_iterAt HB.out (k := w.heap.size + 1) (by omega) s (pos + (Utf8.decode s pos).2))
      have HL2 := HLD.below HB2.out
      have HS2 := Aside0.mk (Lib.iterAt_size wr (w.heap.size + 1) s (pos + (Utf8.decode s pos).2))
      have HPL := Aside0.mk (piece_size s pos hp)
      have HPN := Aside0.mk (piece_len s pos hp)
      have HR : Aside0 (piece s pos = s.extract pos (pos + (Utf8.decode s pos).2)) := ⟨rfl⟩
      have hlO : (acc.length + 4 * (piece s pos).size ≤ 140737488355328) := by have := HL.out; rw [HPL.out]; omega
      have hlS : (Lib.byteCells acc).length + (piece s pos).size ≤ 140737488355328 := by have := HL.out; rw [HPL.out, cells_len]; omega
      have HLO := Aside0.mk hlO
      have HLS := Aside0.mk hlS
      clear hit hlO hlS
      obtain ⟨f, rfl⟩ : ∃ f, fuel = f + 1 := ⟨fuel - 1, by omega⟩
      have HA1 : Aside0 (shownFrom s (f + 1) pos = (if plainAt s pos then (piece s pos).data.toList else oct (piece s pos).data.toList) ++ shownFrom s f (pos + (Utf8.decode s pos).2)) := ⟨by simp [shownFrom, hp]⟩
      by_cases hk : okAt s pos = true
      · have HK0 := Aside0.mk hk
        have HW := Aside0.mk (wide_ok s pos hp hk)
        clear hk
        by_cases c1 : 32 < (Utf8.decode s pos).1
        · have e1 : decide (32 < ((Utf8.decode s pos).1 : Int)) = true := decide_eq_true (by omega)
          by_cases c2 : (Utf8.decode s pos).1 = 127
          · have HF : Aside0 (plainAt s pos = false) := ⟨by simp [plainAt, c2]⟩
            have e2 : (((Utf8.decode s pos).1 : Int) != 127) = false := by rw [bne_eq_false_iff_eq]; omega
            clear c1 c2 hle
            go_wp2_with (first
              | (go_at_call 31; refine (spelt_is s pos true HK0.out hp hs2 _ HL2).mono ?_; rintro e w1 ⟨rfl, hb1⟩)
              | (go_at_call 33; refine (Tryd.utf8_RuneLen _ _).mono ?_; rintro e w2 ⟨rfl, rfl⟩; rw [HW.out]))
            rw [← HR.out]
            refine (octal_walk w.heap.size w.heap.size acc (piece s pos) _ (builder_below HI2.out hb1) HLO.out (by have := hb1.size; rw [HS2.out] at this; omega)).mono ?_
            rintro e w3 ⟨rfl, h1, b1, k1⟩
            have HT3 := Aside0.mk (k1.iter ((hb1.block _ (by rw [HS2.out]; omega)).trans HT2.out) (by omega))
            have HB3 := Aside0.mk ((below_then HB2.out (by rw [HS2.out]; omega) hb1).trans b1)
            have H1 := Aside0.mk h1
            clear h1 b1 k1 hb1
            go_wp2
            go_roundw
            case rel =>
              refine ⟨pos + (Utf8.decode s pos).2, f, acc ++ oct (piece s pos).data.toList, ⟨?_⟩, HT3, HB3, ⟨?_⟩, by omega, ⟨?_⟩⟩
              · exact H1.out
              · rw [← HA.out, HA1.out, HF.out, List.append_assoc]; rfl
              · have := HL.out; rw [List.length_append, oct_len, HPN.out]; omega
            case measure =>
              simp only [World.iterPos, HT3.out, HT.out]
              omega
          · have e2 : (((Utf8.decode s pos).1 : Int) != 127) = true := by rw [bne_iff_ne]; omega
            by_cases c3 : (Utf8.decode s pos).1 = 34
            · have HF : Aside0 (plainAt s pos = false) := ⟨by simp [plainAt, c3]⟩
              have e3 : (((Utf8.decode s pos).1 : Int) != 34) = false := by rw [bne_eq_false_iff_eq]; omega
              clear c1 c2 c3 hle
              go_wp2_with (first
                | (go_at_call 31; refine (spelt_is s pos true HK0.out hp hs2 _ HL2).mono ?_; rintro e w1 ⟨rfl, hb1⟩)
                | (go_at_call 33; refine (Tryd.utf8_RuneLen _ _).mono ?_; rintro e w2 ⟨rfl, rfl⟩; rw [HW.out]))
              rw [← HR.out]
              refine (octal_walk w.heap.size w.heap.size acc (piece s pos) _ (builder_below HI2.out hb1) HLO.out (by have := hb1.size; rw [HS2.out] at this; omega)).mono ?_
              rintro e w3 ⟨rfl, h1, b1, k1⟩
              have HT3 := Aside0.mk (k1.iter ((hb1.block _ (by rw [HS2.out]; omega)).trans HT2.out) (by omega))
              have HB3 := Aside0.mk ((below_then HB2.out (by rw [HS2.out]; omega) hb1).trans b1)
              have H1 := Aside0.mk h1
              clear h1 b1 k1 hb1
              go_wp2
              go_roundw
              case rel =>
                refine ⟨pos + (Utf8.decode s pos).2, f, acc ++ oct (piece s pos).data.toList, ⟨?_⟩, HT3, HB3, ⟨?_⟩, by omega, ⟨?_⟩⟩
                · exact H1.out
                · rw [← HA.out, HA1.out, HF.out, List.append_assoc]; rfl
                · have := HL.out; rw [List.length_append, oct_len, HPN.out]; omega
              case measure =>
                simp only [World.iterPos, HT3.out, HT.out]
                omega
            · have e3 : (((Utf8.decode s pos).1 : Int) != 34) = true := by rw [bne_iff_ne]; omega
              by_cases c4 : (Utf8.decode s pos).1 = 92
              · have HF : Aside0 (plainAt s pos = false) := ⟨by simp [plainAt, c4]⟩
                have e4 : (((Utf8.decode s pos).1 : Int) != 92) = false := by rw [bne_eq_false_iff_eq]; omega
                clear c1 c2 c3 c4 hle
                go_wp2_with (first
                  | (go_at_call 31; refine (spelt_is s pos true HK0.out hp hs2 _ HL2).mono ?_; rintro e w1 ⟨rfl, hb1⟩)
                  | (go_at_call 33; refine (Tryd.utf8_RuneLen _ _).mono ?_; rintro e w2 ⟨rfl, rfl⟩; rw [HW.out]))
                rw [← HR.out]
                refine (octal_walk w.heap.size w.heap.size acc (piece s pos) _ (builder_below HI2.out hb1) HLO.out (by have := hb1.size; rw [HS2.out] at this; omega)).mono ?_
                rintro e w3 ⟨rfl, h1, b1, k1⟩
                have HT3 := Aside0.mk (k1.iter ((hb1.block _ (by rw [HS2.out]; omega)).trans HT2.out) (by omega))
                have HB3 := Aside0.mk ((below_then HB2.out (by rw [HS2.out]; omega) hb1).trans b1)
                have H1 := Aside0.mk h1
                clear h1 b1 k1 hb1
                go_wp2
                go_roundw
                case rel =>
                  refine ⟨pos + (Utf8.decode s pos).2, f, acc ++ oct (piece s pos).data.toList, ⟨?_⟩, HT3, HB3, ⟨?_⟩, by omega, ⟨?_⟩⟩
                  · exact H1.out
                  · rw [← HA.out, HA1.out, HF.out, List.append_assoc]; rfl
                  · have := HL.out; rw [List.length_append, oct_len, HPN.out]; omega
                case measure =>
                  simp only [World.iterPos, HT3.out, HT.out]
                  omega
              · have e4 : (((Utf8.decode s pos).1 : Int) != 92) = true := by rw [bne_iff_ne]; omega
                have HF : Aside0 (plainAt s pos = true) := ⟨by simp [plainAt, HK0.out, c1, c2, c3, c4]⟩
                clear c1 c2 c3 c4 hle
                go_wp2_with (first
                  | (go_at_call 31; refine (spelt_is s pos true HK0.out hp hs2 _ HL2).mono ?_; rintro e w1 ⟨rfl, hb1⟩)
                  | (go_at_call 33; refine (Tryd.utf8_RuneLen _ _).mono ?_; rintro e w2 ⟨rfl, rfl⟩; rw [HW.out]))
                rw [← HR.out]
                refine (Tryd.Builder_WriteString_k w.heap.size w.heap.size _ (piece s pos) _ (builder_below HI2.out hb1) HLS.out (by have := hb1.size; rw [HS2.out] at this; omega)).mono ?_
                rintro e w3 ⟨rfl, h1, b1, k1⟩
                have HT3 := Aside0.mk (k1.iter ((hb1.block _ (by rw [HS2.out]; omega)).trans HT2.out) (by omega))
                have HB3 := Aside0.mk ((below_then HB2.out (by rw [HS2.out]; omega) hb1).trans b1)
                have H1 := Aside0.mk h1
                clear h1 b1 k1 hb1
                go_wp2
                go_roundw
                case rel =>
                  refine ⟨pos + (Utf8.decode s pos).2, f, acc ++ (piece s pos).data.toList, ⟨?_⟩, HT3, HB3, ⟨?_⟩, by omega, ⟨?_⟩⟩
                  · have h1 := H1.out
                    rw [Lib.strCells_eq, ← Lib.byteCells_append] at h1
                    exact .inr h1
                  · rw [← HA.out, HA1.out, HF.out, List.append_assoc]; rfl
                  · have := HL.out; rw [List.length_append, HPN.out]; omega
                case measure =>
                  simp only [World.iterPos, HT3.out, HT.out]
                  omega
        · have HF : Aside0 (plainAt s pos = false) := ⟨by simp [plainAt, c1]⟩
          have e1 : decide (32 < ((Utf8.decode s pos).1 : Int)) = false := decide_eq_false (by omega)
          clear c1 hle
          go_wp2_with (first
            | (go_at_call 31; refine (spelt_is s pos true HK0.out hp hs2 _ HL2).mono ?_; rintro e w1 ⟨rfl, hb1⟩)
            | (go_at_call 33; refine (Tryd.utf8_RuneLen _ _).mono ?_; rintro e w2 ⟨rfl, rfl⟩; rw [HW.out]))
          rw [← HR.out]
          refine (octal_walk w.heap.size w.heap.size acc (piece s pos) _ (builder_below HI2.out hb1) HLO.out (by have := hb1.size; rw [HS2.out] at this; omega)).mono ?_
          rintro e w3 ⟨rfl, h1, b1, k1⟩
          have HT3 := Aside0.mk (k1.iter ((hb1.block _ (by rw [HS2.out]; omega)).trans HT2.out) (by omega))
          have HB3 := Aside0.mk ((below_then HB2.out (by rw [HS2.out]; omega) hb1).trans b1)
          have H1 := Aside0.mk h1
          clear h1 b1 k1 hb1
          go_wp2
          go_roundw
          case rel =>
            refine ⟨pos + (Utf8.decode s pos).2, f, acc ++ oct (piece s pos).data.toList, ⟨?_⟩, HT3, HB3, ⟨?_⟩, by omega, ⟨?_⟩⟩
            · exact H1.out
            · rw [← HA.out, HA1.out, HF.out, List.append_assoc]; rfl
            · have := HL.out; rw [List.length_append, oct_len, HPN.out]; omega
          case measure =>
            simp only [World.iterPos, HT3.out, HT.out]
            omega
      · have HK0 : Aside0 (okAt s pos = false) := ⟨by simpa using hk⟩
        have hw1 := wide_bad s pos hp HK0.out
        have HR1 : Aside0 (piece s pos = s.extract pos (pos + 1)) := ⟨by unfold piece; rw [hw1]⟩
        have HF : Aside0 (plainAt s pos = false) := ⟨by simp [plainAt, HK0.out]⟩
        clear hk hw1
        go_wp2_with (first
          | (go_at_call 31; refine (spelt_is s pos false HK0.out hp hs2 _ HL2).mono ?_; rintro e w1 ⟨rfl, hb1⟩))
        rw [← HR1.out]
        refine (octal_walk w.heap.size w.heap.size acc (piece s pos) _ (builder_below HI2.out hb1) HLO.out (by have := hb1.size; rw [HS2.out] at this; omega)).mono ?_
        rintro e w3 ⟨rfl, h1, b1, k1⟩
        have HT3 := Aside0.mk (k1.iter ((hb1.block _ (by rw [HS2.out]; omega)).trans HT2.out) (by omega))
        have HB3 := Aside0.mk ((below_then HB2.out (by rw [HS2.out]; omega) hb1).trans b1)
        have H1 := Aside0.mk h1
        clear h1 b1 k1 hb1
        go_wp2
        go_roundw
        case rel =>
          refine ⟨pos + (Utf8.decode s pos).2, f, acc ++ oct (piece s pos).data.toList, ⟨?_⟩, HT3, HB3, ⟨?_⟩, by omega, ⟨?_⟩⟩
          · exact H1.out
          · rw [← HA.out, HA1.out, HF.out, List.append_assoc]; rfl
          · have := HL.out; rw [List.length_append, oct_len, HPN.out]; omega
        case measure =>
          simp only [World.iterPos, HT3.out, HT.out]
          omega
    · have hnx : ∀ ty, (Instr.next (.pointer (some ⟨w.heap.size + 1, 0, none⟩)) true ty).run Tryd.prog wr = _ := fun ty => Lib.run_next_end_at wr (w.heap.size + 1) s pos ty hit hp
      have hB1 : w.heap.size ≤ wr.heap.size := by omega
      clear hit
      go_wp2_with (go_at_call 36; refine (Tryd.Builder_String_any_k w.heap.size w.heap.size acc _ HI.out hB1).mono ?_; rintro e W1 ⟨rfl, _, b1, _⟩)
      go_ret
      have h1 := HA.out
      rw [shownFrom_end s fuel pos hp, List.append_nil] at h1
      rw [← h1]
      exact ⟨rfl, HB.out.trans b1⟩
def words_Shown.f (a0 : ByteArray) : Option ByteArray := if a0.size ≤ 35184372088832 then some ⟨(shownF a0).toArray⟩ else none
theorem words_Shown.calls (a0 : ByteArray) (r : ByteArray) (w : World) (HLD : LaidA w) (h : words_Shown.f a0 = some r) :
    Calls Tryd.prog 18 #[.string a0] w fun e w' => e = .returned (.string r) ∧ Below w.heap.size w w' := by
  unfold words_Shown.f at h
  by_cases hc : a0.size ≤ 35184372088832
  · rw [if_pos hc] at h
    obtain rfl := Option.some.inj h
    exact shown_walk a0 hc w HLD
  · rw [if_neg hc] at h
    cases h
end Go.Proofs.YtolbbhpcajepnaaDoor.H
