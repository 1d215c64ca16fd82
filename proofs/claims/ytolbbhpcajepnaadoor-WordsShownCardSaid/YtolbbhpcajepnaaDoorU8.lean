/-
  Plain laws on one decoded rune: how wide it is, that it lies in the text, when it is well formed. No program. Their conditions: a byte is at hand.
-/
import Derived.Lib.MapLaws
import Derived.Lib.TrimUEq
import Derived.Lib.Small
namespace Go.Proofs.YtolbbhpcajepnaaDoor.U8
open Go

theorem drop_len (s : ByteArray) (pos : Nat) : (s.data.toList.drop pos).length = s.size - pos := by
  rw [List.length_drop]; show s.data.toList.length - pos = s.data.size - pos; rw [Array.length_toList]
theorem dec_fits (s : ByteArray) (pos : Nat) (h : pos < s.size) : pos + (Utf8.decode s pos).2 ≤ s.size := by
  rw [← Lib.decodeL_drop]
  have h1 := Lib.decodeL_le (s.data.toList.drop pos) (by intro e; have := drop_len s pos; rw [e] at this; simp at this; omega)
  rw [drop_len] at h1
  omega
/-- A rune's shape: well formed and as wide as its number says, or U+FFFD of one byte. -/
theorem dec_shape (l : List UInt8) : ((Lib.decodeL l).2 = 1 ∧ (Lib.decodeL l).1 = 65533) ∨ (Lib.runeLen ((Lib.decodeL l).1 : Int) = ((Lib.decodeL l).2 : Int) ∧ ((Lib.decodeL l).1 = 65533 → (Lib.decodeL l).2 = 3)) := by
  rw [Lib.decodeL_N]
  have k0 := (l.getD 0 0).toNat_lt
  have k1 := (l.getD 1 0).toNat_lt
  have k2 := (l.getD 2 0).toNat_lt
  have k3 := (l.getD 3 0).toNat_lt
  rcases Lib.decodeN_shape l.length (l.getD 0 0).toNat (l.getD 1 0).toNat (l.getD 2 0).toNat (l.getD 3 0).toNat with ⟨c, e⟩ | ⟨c1, c2, c3, cv, e⟩ | ⟨c1, c2, c3, c4, cv, cs, e⟩ | ⟨c1, c2, c3, c4, c5, cv, cw, e⟩ | e
  all_goals rw [e]
  · refine .inr ⟨?_, fun h => by dsimp only at h; omega⟩
    unfold Lib.runeLen
    rw [if_neg (by omega), if_pos (by omega)]; rfl
  · refine .inr ⟨?_, fun h => by dsimp only at h; omega⟩
    unfold Lib.runeLen
    rw [if_neg (by omega), if_neg (by omega), if_pos (by omega)]; rfl
  · refine .inr ⟨?_, fun _ => rfl⟩
    unfold Lib.runeLen
    rw [if_neg (by omega), if_neg (by omega), if_neg (by omega), if_neg (by omega), if_pos (by omega)]; rfl
  · refine .inr ⟨?_, fun h => by dsimp only at h; omega⟩
    unfold Lib.runeLen
    rw [if_neg (by omega), if_neg (by omega), if_neg (by omega), if_neg (by omega), if_neg (by omega), if_pos (by omega)]; rfl
  · exact .inl ⟨rfl, rfl⟩
end Go.Proofs.YtolbbhpcajepnaaDoor.U8
