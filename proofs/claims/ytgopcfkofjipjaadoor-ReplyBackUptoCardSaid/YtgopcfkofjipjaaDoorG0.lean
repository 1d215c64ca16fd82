/-
  What the contracts of this seat ask of the world: the library's tables and error variables as their initialisers lay them, and that this lives on where memory only grows. Its conditions: none.
-/
import Derived.Test.YtgopcfkofjipjaaDoorProg
import Derived.Below
import Derived.WalkKit
import Derived.WalkSmall
import Derived.Deep.Draws
import Derived.Lib.ItoaMem
import Derived.Lib.LaidU8
import Derived.Shelf.Unicode.DecodeSlow
import Derived.Test.YtgopcfkofjipjaaDoorWWords
namespace Go.Proofs.YtgopcfkofjipjaaDoor.H
open Go.RowKit Go.Proofs.YtgopcfkofjipjaaDoorW.PrintWords
set_option linter.unusedVariables false

/-- The laid variables, as the contracts want them. -/
structure LaidA (w : World) : Prop where
  utf8 : Lib.Utf8Tabs 6 7 w
  syn : ∃ tp p, w.var? Tryd.prog "strconv.ErrSyntax" = some #[.iface tp p]
  rng : ∃ tp p, w.var? Tryd.prog "strconv.ErrRange" = some #[.iface tp p]
  pow : Lib.TabIs Tryd.prog w "internal/strconv.uint64pow10" .u64 Lib.pow10Tab
  maxLen : ∃ m, w.cell? ⟨1, 0, none⟩ = some (.int .i64 m)

theorem var_below {P : Program} {w w' : World} {n : String} {cs : Array Value} (h : Below w.heap.size w w') (hv : w.var? P n = some cs) : w'.var? P n = some cs := by
  have hv0 := hv
  unfold World.var? at hv ⊢
  cases hg : P.globalNamed n with
  | none => rw [hg] at hv; simp at hv
  | some g =>
    rw [hg] at hv
    simp only [Option.bind_some] at hv ⊢
    have hlt : g < w.heap.size := by
      by_cases hl : g < w.heap.size
      · exact hl
      · rw [Array.getElem?_eq_none (by omega)] at hv
        simp at hv
    rw [h.block g hlt]
    exact hv

theorem LaidA.below {w w' : World} (h : LaidA w) (hb : Below w.heap.size w w') : LaidA w' where
  utf8 := Utf8Tabs_below h.utf8 hb
  syn := let ⟨tp, p, hv⟩ := h.syn; ⟨tp, p, var_below hb hv⟩
  rng := let ⟨tp, p, hv⟩ := h.rng; ⟨tp, p, var_below hb hv⟩
  pow := var_below hb h.pow
  maxLen := let ⟨m, hm⟩ := h.maxLen; ⟨m, pw_cell_below hb hm⟩
theorem LaidA.alloc {w : World} (h : LaidA w) (o : Obj) : LaidA (w.alloc o) := h.below (below_alloc (Below.refl _ _) o)
theorem LaidA.drewN {w : World} (h : LaidA w) (n : Nat) : LaidA (w.drewN n) := h.below (pw_below_drewN (Below.refl _ _) n)
theorem LaidA.drew {w : World} (h : LaidA w) : LaidA w.drew := h.below (below_drew (Below.refl _ _))
end Go.Proofs.YtgopcfkofjipjaaDoor.H
