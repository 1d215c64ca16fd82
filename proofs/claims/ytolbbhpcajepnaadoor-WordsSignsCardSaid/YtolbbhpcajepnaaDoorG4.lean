/-
  words.spelt, words.Runes and words.Key answer what the plain functions okAt, runeCount with okAll, and keyF say. Their conditions: utf8's tables are laid; a text of at most 2^47 - 4096 bytes.
-/
import Derived.Test.YtolbbhpcajepnaaDoorG3
import Derived.Lib.RuneCountTail
import Derived.Lib.OthersKept
namespace Go.Proofs.YtolbbhpcajepnaaDoor.H
open Go.RowKit Go.Proofs.YtolbbhpcajepnaaDoorW.PrintWords
set_option linter.unusedVariables false

/-- Is the rune that stands at pos well formed? -/
def okAt (s : ByteArray) (pos : Nat) : Bool := (Utf8.decode s pos).1 != 65533 || decide (1 < (Utf8.decode s pos).2)
theorem decodeGo_at (s : ByteArray) (pos : Nat) (h : pos < s.size) : Lib.decodeGo (s.extract pos s.size) = Utf8.decode s pos := by
  unfold Lib.decodeGo
  rw [if_neg (by rw [ByteArray.size_extract]; omega), Lib.tail_decode, Nat.add_zero]

set_option maxHeartbeats 1000000 in
set_option maxRecDepth 100000 in
theorem spelt_walk (s : ByteArray) (pos : Nat) (hp : pos < s.size) (hs : s.size ≤ 140737488351232) (w : World) (HLD : LaidA w) :
    Calls Tryd.prog 31 #[.string s, .int .i64 pos, .int .i32 (Utf8.decode s pos).1] w fun e w' => e = .returned (.bool (okAt s pos)) ∧ Below w.heap.size w w' := by
  have hle := decode_le s pos
  by_cases h : (Utf8.decode s pos).1 = 65533
  · have e1 : (((Utf8.decode s pos).1 : Int) != 65533) = false := by rw [bne_eq_false_iff_eq]; omega
    have HO : Aside0 (okAt s pos = decide (1 < (Utf8.decode s pos).2)) := ⟨by unfold okAt; rw [show ((Utf8.decode s pos).1 != 65533) = false by rw [bne_eq_false_iff_eq]; exact h]; rfl⟩
    have HG := Aside0.mk (decodeGo_at s pos hp)
    clear h
    go_enter Tryd.func31, Tryd.ntmps31
    go_wp2_with (go_at_call 43; refine (Tryd.utf8_DecodeRuneInString (s.extract pos s.size) _ HLD.utf8).mono ?_; rintro e w' ⟨rfl, hb⟩)
    go_ret
    refine ⟨?_, hb⟩
    rw [HO.out, HG.out]
    simp
    omega
  · have e1 : (((Utf8.decode s pos).1 : Int) != 65533) = true := by rw [bne_iff_ne]; omega
    have HO : Aside0 (okAt s pos = true) := ⟨by unfold okAt; rw [show ((Utf8.decode s pos).1 != 65533) = true by rw [bne_iff_ne]; exact h]; rfl⟩
    clear h
    go_enter Tryd.func31, Tryd.ntmps31
    go_wp2
    go_ret
    exact ⟨by rw [HO.out]; rfl, Below.refl _ _⟩

theorem spelt_is (s : ByteArray) (pos : Nat) (b : Bool) (hb : okAt s pos = b) (hp : pos < s.size) (hs : s.size ≤ 140737488351232) (w : World) (HLD : LaidA w) :
    Calls Tryd.prog 31 #[.string s, .int .i64 pos, .int .i32 (Utf8.decode s pos).1] w fun e w' => e = .returned (.bool b) ∧ Below w.heap.size w w' := by
  subst hb; exact spelt_walk s pos hp hs w HLD

def okFrom (s : ByteArray) : Nat → Nat → Bool
  | 0, _ => true
  | f + 1, pos => if pos < s.size then okAt s pos && okFrom s f (pos + (Utf8.decode s pos).2) else true
def okAll (s : ByteArray) : Bool := okFrom s s.size 0
theorem okFrom_end (s : ByteArray) (f pos : Nat) (h : ¬ pos < s.size) : okFrom s f pos = true := by cases f <;> simp [okFrom, h]

set_option maxHeartbeats 1000000 in
set_option maxRecDepth 100000 in
theorem runes_walk (s : ByteArray) (hs : s.size ≤ 140737488351232) (w : World) (HLD : LaidA w) :
    Calls Tryd.prog 19 #[.string s] w fun e w' => e = .returned (.tuple #[.int .i64 (Lib.runeCount s), .bool (okAll s)]) ∧ Below w.heap.size w w' := by
  go_enter Tryd.func19, Tryd.ntmps19
  go_wp2
  go_loopw [4, 5] (fun n o wr => ∃ (pos b acc : Nat) (ok : Bool), n = .int .i64 acc ∧ o = .bool ok ∧ Aside0 (wr.heap[w.heap.size]? = some (.stringIter s pos)) ∧ Aside0 (Below w.heap.size w wr) ∧ Aside0 (acc + Lib.runeCountFrom s b pos = Lib.runeCount s) ∧ Aside0 ((ok && okFrom s b pos) = okAll s) ∧ s.size ≤ pos + b ∧ acc ≤ pos ∧ acc ≤ s.size) (fun _ _ wr => s.size - wr.iterPos w.heap.size)
  case atStart =>
    refine ⟨0, s.size, 0, true, rfl, rfl, ⟨World.iter_heap w s 0⟩, ⟨below_alloc (Below.refl _ _) _⟩, ⟨by simp [Lib.runeCount]⟩, ⟨by simp [okAll]⟩, by omega, by omega, by omega⟩
  case round =>
    obtain ⟨pos, b, acc, ok, rfl, rfl, HI, HB, HN, HO, hb, ha, hc⟩ := hrel
    have hit := HI.out
    have hsz : w.heap.size < wr.heap.size := (Array.getElem?_eq_some_iff.1 hit).1
    by_cases hp : pos < s.size
    · have hnx : ∀ ty, (Instr.next (.pointer (some ⟨w.heap.size, 0, none⟩)) true ty).run Tryd.prog wr = _ := fun ty => Lib.run_next_any_at wr w.heap.size s pos ty hit hp
      have hwd := Lib.decode_width_pos s pos hp
      have HI2 := Aside0.mk (Lib.iterAt_heap wr w.heap.size s pos (pos + (Utf8.decode s pos).2) hit)
      have HB2 := Aside0.mk (Lib.below_iterAt HB.out (k := w.heap.size) (Nat.le_refl _) s (pos + (Utf8.decode s pos).2))
      have HL2 := HLD.below HB2.out
      have hsz2 : (wr.iterAt w.heap.size s (pos + (Utf8.decode s pos).2)).heap.size = wr.heap.size := Lib.iterAt_size _ _ _ _
      have HS2 := Aside0.mk hsz2
      clear hsz2 hit
      obtain ⟨f, rfl⟩ : ∃ f, b = f + 1 := ⟨b - 1, by omega⟩
      cases ok with
      | true =>
        go_wp2_with (go_at_call 31; refine (spelt_walk s pos hp hs _ HL2).mono ?_; rintro e w1 ⟨rfl, hb1⟩)
        have HI3 : Aside0 (w1.heap[w.heap.size]? = some (.stringIter s (pos + (Utf8.decode s pos).2))) := ⟨(hb1.block _ (by rw [HS2.out]; omega)).trans HI2.out⟩
        go_roundw
        case rel =>
          refine ⟨pos + (Utf8.decode s pos).2, f, acc + 1, okAt s pos, by go_num, rfl, HI3, ⟨below_then HB2.out (by rw [HS2.out]; omega) hb1⟩, ⟨?_⟩, ⟨?_⟩, by omega, by omega, by omega⟩
          · rw [← HN.out]; simp [Lib.runeCountFrom, hp]; omega
          · rw [← HO.out]; simp [okFrom, hp]
        case measure =>
          simp only [World.iterPos, HI3.out, HI.out]
          omega
      | false =>
        go_wp2
        go_roundw
        case rel =>
          refine ⟨pos + (Utf8.decode s pos).2, f, acc + 1, false, by go_num, rfl, HI2, HB2, ⟨?_⟩, ⟨?_⟩, by omega, by omega, by omega⟩
          · rw [← HN.out]; simp [Lib.runeCountFrom, hp]; omega
          · rw [← HO.out]; rfl
        case measure =>
          simp only [World.iterPos, HI2.out, HI.out]
          omega
    · have hnx : ∀ ty, (Instr.next (.pointer (some ⟨w.heap.size, 0, none⟩)) true ty).run Tryd.prog wr = _ := fun ty => Lib.run_next_end_at wr w.heap.size s pos ty hit hp
      clear hit
      go_wp2
      go_ret2
      have h1 := HN.out
      have h2 := HO.out
      rw [Lib.runeCountFrom_end s b pos hp, Nat.add_zero] at h1
      rw [okFrom_end s b pos hp, Bool.and_true] at h2
      rw [← h1, ← h2]
      exact ⟨rfl, HB.out⟩
def words_Runes.f (a0 : ByteArray) : Option (Int × Bool) := if a0.size ≤ 140737488351232 then some ((Lib.runeCount a0 : Int), okAll a0) else none
theorem words_Runes.calls (a0 : ByteArray) (r1 : Int) (r2 : Bool) (w : World) (HLD : LaidA w) (h : words_Runes.f a0 = some (r1, r2)) :
    Calls Tryd.prog 19 #[.string a0] w fun e w' => e = .returned (.tuple #[.int .i64 r1, .bool r2]) ∧ Below w.heap.size w w' := by
  unfold words_Runes.f at h
  by_cases hc : a0.size ≤ 140737488351232
  · rw [if_pos hc] at h
    obtain ⟨rfl, rfl⟩ := Prod.mk.inj (Option.some.inj h)
    exact runes_walk a0 hc w HLD
  · rw [if_neg hc] at h
    cases h

/-- May the rune at pos stand in a key? -/
def keyAt (s : ByteArray) (pos : Nat) : Bool :=
  okAt s pos && decide (32 < (Utf8.decode s pos).1) && !(decide (127 ≤ (Utf8.decode s pos).1) && decide ((Utf8.decode s pos).1 ≤ 160)) && (Utf8.decode s pos).1 != 8232 && (Utf8.decode s pos).1 != 8233
def keyFrom (s : ByteArray) : Nat → Nat → Bool
  | 0, _ => true
  | f + 1, pos => if pos < s.size then keyAt s pos && keyFrom s f (pos + (Utf8.decode s pos).2) else true
def keyF (s : ByteArray) : Bool := !(decide (s.size < 1)) && !(decide (250 < s.size)) && keyFrom s s.size 0
theorem keyFrom_end (s : ByteArray) (f pos : Nat) (h : ¬ pos < s.size) : keyFrom s f pos = true := by cases f <;> simp [keyFrom, h]
theorem ret_key {s : ByteArray} {b : Bool} (h : keyF s = b) : Ending.returned (.bool b) = .returned (.bool (keyF s)) := by rw [h]

set_option maxHeartbeats 2000000 in
set_option maxRecDepth 100000 in
theorem key_walk (s : ByteArray) (w : World) (HLD : LaidA w) :
    Calls Tryd.prog 16 #[.string s] w fun e w' => e = .returned (.bool (keyF s)) ∧ Below w.heap.size w w' := by
  by_cases h1 : s.size < 1
  · have HK : Aside0 (keyF s = false) := ⟨by simp [keyF, h1]⟩
    have d1 : decide (s.size < 1) = true := decide_eq_true h1
    go_enter Tryd.func16, Tryd.ntmps16
    go_wp2
    go_ret
    exact ⟨ret_key HK.out, Below.refl _ _⟩
  · by_cases h2 : 250 < s.size
    · have HK : Aside0 (keyF s = false) := ⟨by simp [keyF, h2]⟩
      have d1 : decide (s.size < 1) = false := decide_eq_false h1
      have d2 : decide (250 < s.size) = true := decide_eq_true h2
      go_enter Tryd.func16, Tryd.ntmps16
      go_wp2
      go_ret
      exact ⟨ret_key HK.out, Below.refl _ _⟩
    · have HK : Aside0 (keyF s = keyFrom s s.size 0) := ⟨by simp [keyF, h1, h2]⟩
      have d1 : decide (s.size < 1) = false := decide_eq_false h1
      have d2 : decide (250 < s.size) = false := decide_eq_false h2
      have hs : s.size ≤ 140737488351232 := by omega
      go_enter Tryd.func16, Tryd.ntmps16
      go_wp2
      go_loopw [] (fun wr => ∃ (pos b : Nat), Aside0 (wr.heap[w.heap.size]? = some (.stringIter s pos)) ∧ Aside0 (Below w.heap.size w wr) ∧ Aside0 (keyFrom s b pos = keyF s) ∧ s.size ≤ pos + b) (fun wr => s.size - wr.iterPos w.heap.size)
      case atStart =>
        exact ⟨0, s.size, ⟨World.iter_heap w s 0⟩, ⟨below_alloc (Below.refl _ _) _⟩, ⟨HK.out.symm⟩, by omega⟩
      case round =>
        obtain ⟨pos, b, HI, HB, HO, hb⟩ := hrel
        have hit := HI.out
        have hsz : w.heap.size < wr.heap.size := (Array.getElem?_eq_some_iff.1 hit).1
        by_cases hp : pos < s.size
        · have hnx : ∀ ty, (Instr.next (.pointer (some ⟨w.heap.size, 0, none⟩)) true ty).run Tryd.prog wr = _ := fun ty => Lib.run_next_any_at wr w.heap.size s pos ty hit hp
          have hwd := Lib.decode_width_pos s pos hp
          have HI2 := Aside0.mk (Lib.iterAt_heap wr w.heap.size s pos (pos + (Utf8.decode s pos).2) hit)
          have HB2 := Aside0.mk (Lib.below_iterAt HB.out (k := w.heap.size) (Nat.le_refl _) s (pos + (Utf8.decode s pos).2))
          have HL2 := HLD.below HB2.out
          have HS2 := Aside0.mk (Lib.iterAt_size wr w.heap.size s (pos + (Utf8.decode s pos).2))
          clear hit
          obtain ⟨f, rfl⟩ : ∃ f, b = f + 1 := ⟨b - 1, by omega⟩
          have HO1 : Aside0 (keyFrom s (f + 1) pos = (keyAt s pos && keyFrom s f (pos + (Utf8.decode s pos).2))) := ⟨by simp [keyFrom, hp]⟩
          have hle := decode_le s pos
          by_cases hk : okAt s pos = true
          · have HK0 := Aside0.mk hk
            clear hk
            by_cases c1 : (Utf8.decode s pos).1 ≤ 32
            · have HF : Aside0 (keyF s = false) := ⟨by rw [← HO.out, HO1.out]; simp [keyAt, HK0.out, (show ¬ 32 < (Utf8.decode s pos).1 by omega)]⟩
              have e1 : decide (((Utf8.decode s pos).1 : Int) ≤ 32) = true := decide_eq_true (by omega)
              clear hle
              go_wp2_with (go_at_call 31; refine (spelt_is s pos true HK0.out hp hs _ HL2).mono ?_; rintro e w1 ⟨rfl, hb1⟩)
              go_ret
              exact ⟨ret_key HF.out, below_then HB2.out (by rw [HS2.out]; omega) hb1⟩
            · have e1 : decide (((Utf8.decode s pos).1 : Int) ≤ 32) = false := decide_eq_false (by omega)
              by_cases c2 : 127 ≤ (Utf8.decode s pos).1 ∧ (Utf8.decode s pos).1 ≤ 160
              · have HF : Aside0 (keyF s = false) := ⟨by rw [← HO.out, HO1.out]; simp [keyAt, c2.1, c2.2]⟩
                have e2 : decide (127 ≤ ((Utf8.decode s pos).1 : Int)) = true := decide_eq_true (by omega)
                have e3 : decide (((Utf8.decode s pos).1 : Int) ≤ 160) = true := decide_eq_true (by omega)
                clear hle c1 c2
                go_wp2_with (go_at_call 31; refine (spelt_is s pos true HK0.out hp hs _ HL2).mono ?_; rintro e w1 ⟨rfl, hb1⟩)
                go_ret
                exact ⟨ret_key HF.out, below_then HB2.out (by rw [HS2.out]; omega) hb1⟩
              · by_cases c3 : (Utf8.decode s pos).1 = 8232 ∨ (Utf8.decode s pos).1 = 8233
                · have HF : Aside0 (keyF s = false) := ⟨by rw [← HO.out, HO1.out]; rcases c3 with c3 | c3 <;> simp [keyAt, c3]⟩
                  have e2 : decide (127 ≤ ((Utf8.decode s pos).1 : Int)) = true := decide_eq_true (by omega)
                  have e3 : decide (((Utf8.decode s pos).1 : Int) ≤ 160) = false := decide_eq_false (by omega)
                  by_cases c4 : (Utf8.decode s pos).1 = 8232
                  · have e4 : (((Utf8.decode s pos).1 : Int) == 8232) = true := beq_iff_eq.2 (by omega)
                    clear hle c1 c2 c3 c4
                    go_wp2_with (go_at_call 31; refine (spelt_is s pos true HK0.out hp hs _ HL2).mono ?_; rintro e w1 ⟨rfl, hb1⟩)
                    go_ret
                    exact ⟨ret_key HF.out, below_then HB2.out (by rw [HS2.out]; omega) hb1⟩
                  · have e4 : (((Utf8.decode s pos).1 : Int) == 8232) = false := beq_eq_false_iff_ne.2 (by omega)
                    have e5 : (((Utf8.decode s pos).1 : Int) == 8233) = true := beq_iff_eq.2 (by omega)
                    clear hle c1 c2 c3 c4
                    go_wp2_with (go_at_call 31; refine (spelt_is s pos true HK0.out hp hs _ HL2).mono ?_; rintro e w1 ⟨rfl, hb1⟩)
                    go_ret
                    exact ⟨ret_key HF.out, below_then HB2.out (by rw [HS2.out]; omega) hb1⟩
                · have HC : Aside0 (keyFrom s f (pos + (Utf8.decode s pos).2) = keyF s) := ⟨by rw [← HO.out, HO1.out, show keyAt s pos = true by simp [keyAt, HK0.out]; omega]; rfl⟩
                  have e4 : (((Utf8.decode s pos).1 : Int) == 8232) = false := beq_eq_false_iff_ne.2 (by omega)
                  have e5 : (((Utf8.decode s pos).1 : Int) == 8233) = false := beq_eq_false_iff_ne.2 (by omega)
                  by_cases c4 : 127 ≤ (Utf8.decode s pos).1
                  · have e2 : decide (127 ≤ ((Utf8.decode s pos).1 : Int)) = true := decide_eq_true (by omega)
                    have e3 : decide (((Utf8.decode s pos).1 : Int) ≤ 160) = false := decide_eq_false (by omega)
                    clear hle c1 c2 c3 c4
                    go_wp2_with (go_at_call 31; refine (spelt_is s pos true HK0.out hp hs _ HL2).mono ?_; rintro e w1 ⟨rfl, hb1⟩)
                    have HI3 : Aside0 (w1.heap[w.heap.size]? = some (.stringIter s (pos + (Utf8.decode s pos).2))) := ⟨(hb1.block _ (by rw [HS2.out]; omega)).trans HI2.out⟩
                    go_roundw
                    case rel => exact ⟨pos + (Utf8.decode s pos).2, f, HI3, ⟨below_then HB2.out (by rw [HS2.out]; omega) hb1⟩, HC, by omega⟩
                    case measure =>
                      simp only [World.iterPos, HI3.out, HI.out]
                      omega
                  · have e2 : decide (127 ≤ ((Utf8.decode s pos).1 : Int)) = false := decide_eq_false (by omega)
                    clear hle c1 c2 c3 c4
                    go_wp2_with (go_at_call 31; refine (spelt_is s pos true HK0.out hp hs _ HL2).mono ?_; rintro e w1 ⟨rfl, hb1⟩)
                    have HI3 : Aside0 (w1.heap[w.heap.size]? = some (.stringIter s (pos + (Utf8.decode s pos).2))) := ⟨(hb1.block _ (by rw [HS2.out]; omega)).trans HI2.out⟩
                    go_roundw
                    case rel => exact ⟨pos + (Utf8.decode s pos).2, f, HI3, ⟨below_then HB2.out (by rw [HS2.out]; omega) hb1⟩, HC, by omega⟩
                    case measure =>
                      simp only [World.iterPos, HI3.out, HI.out]
                      omega
          · have HK0 : Aside0 (okAt s pos = false) := ⟨by simpa using hk⟩
            clear hk hle
            have HF : Aside0 (keyF s = false) := ⟨by rw [← HO.out, HO1.out]; simp [keyAt, HK0.out]⟩
            go_wp2_with (go_at_call 31; refine (spelt_is s pos false HK0.out hp hs _ HL2).mono ?_; rintro e w1 ⟨rfl, hb1⟩)
            go_ret
            exact ⟨ret_key HF.out, below_then HB2.out (by rw [HS2.out]; omega) hb1⟩
        · have hnx : ∀ ty, (Instr.next (.pointer (some ⟨w.heap.size, 0, none⟩)) true ty).run Tryd.prog wr = _ := fun ty => Lib.run_next_end_at wr w.heap.size s pos ty hit hp
          clear hit
          go_wp2
          go_ret
          have h2 := HO.out
          rw [keyFrom_end s b pos hp] at h2
          exact ⟨ret_key h2.symm, HB.out⟩
def words_Key.f (a0 : ByteArray) : Option Bool := some (keyF a0)
theorem words_Key.calls (a0 : ByteArray) (r : Bool) (w : World) (HLD : LaidA w) (h : words_Key.f a0 = some r) :
    Calls Tryd.prog 16 #[.string a0] w fun e w' => e = .returned (.bool r) ∧ Below w.heap.size w w' := by
  obtain rfl := Option.some.inj h
  exact key_walk a0 w HLD
end Go.Proofs.YtolbbhpcajepnaaDoor.H
