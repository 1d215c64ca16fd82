/-
  What a row's list of laid variables gives the walks ('LaidA'), and a world for the witness in which they lie so. No condition.
-/
import Derived.Test.YtgopcfkofjipjaaDoorCards
import Derived.Test.YtgopcfkofjipjaaDoorTie
import Derived.Test.YtgopcfkofjipjaaDoorG1
import Derived.WalkKit
import Derived.ProofKit
import Derived.OpenShut
import Derived.Deep.DeepHandedRow
import Derived.Deep.DeepWitnessRowRef
import Derived.Lib.LaidTab
import Derived.Lib.LaidU8
import Derived.Stop.LaidErr
namespace Go.Proofs.YtgopcfkofjipjaaDoor.R
open Go.ChangeShapes Go.WideShapes Go.ChangeAt Go.RowKit Go.Proofs.YtgopcfkofjipjaaDoor.H
set_option linter.unusedVariables false

theorem own : ownKnob Tryd.prog.godebug = none := by kernel_rfl
theorem star : "*" ++ "errors.errorString" = "*errors.errorString" := by decide
theorem rowStar (u : TypeId) (h : Tryd.prog.typeName? 3 u = some "*errors.errorString") : u = 112 :=
  typeName_ptr_named (nm := "errors.errorString") (by rw [star]; kernel_rfl) (by kernel_rfl) (by decide) u (by rw [star]; exact h)
theorem firstEq : Go.Pinned.utf8First = Lib.firstData := by kernel_rfl
theorem acceptEq : (Rows.laid_unicode_utf8_acceptRanges : DataW Unit) = Lib.acceptData := by kernel_rfl

/-- The list that every row of this seat bears. -/
def laidL : List (String × DataW Unit) := [("math/bits.deBruijn32tab", Rows.laid_math_bits_deBruijn32tab), ("math/bits.deBruijn64tab", Rows.laid_math_bits_deBruijn64tab), ("internal/strconv.uint64pow10", Rows.laid_internal_strconv_uint64pow10), ("unicode/utf8.acceptRanges", Rows.laid_unicode_utf8_acceptRanges), ("strconv.ErrRange", Rows.laid_strconv_ErrRange), ("strconv.ErrSyntax", Rows.laid_strconv_ErrSyntax), ("unicode/utf8.first", Rows.laid_unicode_utf8_first)]

theorem laidA_of {W : World} (hL0 : laidMetH Tryd.prog laidL W) (hsh : W.ShapedOpen Tryd.prog) : LaidA W := by
  have hL : laidMet Tryd.prog laidL W := hL0
  have hF : ("unicode/utf8.first", Lib.firstData) ∈ laidL := by rw [← firstEq]; simp [laidL, Rows.laid_unicode_utf8_first]
  have hA : ("unicode/utf8.acceptRanges", Lib.acceptData) ∈ laidL := by rw [← acceptEq]; simp [laidL]
  refine ⟨?_, ?_, ?_, ?_, ?_⟩
  · exact utf8Tabs_of_reads (ρ := Tryd.lays260_ren) Tryd.lays260 ⟨by kernel_rfl, by kernel_rfl, by kernel_rfl, by kernel_rfl, by kernel_rfl, by kernel_rfl, by kernel_rfl⟩ (Lib.laidMet.reads hL hF) (Lib.laidMet.reads hL hA)
  · obtain ⟨a, _, hv, _⟩ := laid_sentinel (g := 4) hL.tail.tail.tail.tail.tail (by kernel_rfl) (by kernel_rfl) Tryd.underlying81 rowStar Tryd.underlying112 Tryd.underlying114 rfl rfl Tryd.underlying9 (by kernel_rfl) (by kernel_rfl)
    exact ⟨_, _, hv⟩
  · obtain ⟨a, _, hv, _⟩ := laid_sentinel (g := 5) hL.tail.tail.tail.tail (by kernel_rfl) (by kernel_rfl) Tryd.underlying81 rowStar Tryd.underlying112 Tryd.underlying114 rfl rfl Tryd.underlying9 (by kernel_rfl) (by kernel_rfl)
    exact ⟨_, _, hv⟩
  · exact Lib.tabIs_of_head (g := 0) (zs := Lib.pow10Tab) (by kernel_rfl) (by kernel_rfl) Tryd.underlying72 Tryd.underlying27 (by kernel_rfl) (by kernel_rfl) hL.tail.tail
  · exact Tryd.laysM146.s1_3 W hsh

/-- A world for the witness: the settled one with two blocks more (the errors' texts), the listed variables holding what their initialisers lay. -/
noncomputable def laidWorld (os : Os) : World :=
  let N := (World.settled Tryd.prog os).heap.size
  let w0 := World.holding Tryd.prog os ⟨#[.cells #[.string ⟨#[105, 110, 118, 97, 108, 105, 100, 32, 115, 121, 110, 116, 97, 120]⟩] 114, .cells #[.string ⟨#[118, 97, 108, 117, 101, 32, 111, 117, 116, 32, 111, 102, 32, 114, 97, 110, 103, 101]⟩] 114], #[], []⟩
  let put (h : Array Obj) (g : Nat) (cs : Array Value) : Array Obj := h.modify g fun
    | .cells _ t frozen => .cells cs t frozen
    | o => o
  let h0 := put w0.heap 4 #[.iface 112 (.pointer (some ⟨N, 0, none⟩))]
  let h1 := put h0 5 #[.iface 112 (.pointer (some ⟨N + 1, 0, none⟩))]
  let h2 := put h1 6 (Lib.firstTab.map fun z => Value.int .u8 z).toArray
  let h3 := put h2 7 ((List.range 16).flatMap fun i => [Value.int .u8 (Lib.accLo i), Value.int .u8 (Lib.accHi i)]).toArray
  let h4 := put h3 0 (Lib.pow10Tab.map fun z => Value.int .u64 z).toArray
  let h5 := put h4 2 (([0, 1, 28, 2, 29, 14, 24, 3, 30, 22, 20, 15, 25, 17, 4, 8, 31, 27, 13, 23, 21, 19, 16, 7, 26, 12, 18, 6, 11, 5, 10, 9] : List Int).map fun z => Value.int .u8 z).toArray
  let h6 := put h5 3 (([0, 1, 56, 2, 57, 49, 28, 3, 61, 58, 42, 50, 38, 29, 17, 4, 62, 47, 59, 36, 45, 43, 51, 22, 53, 39, 33, 30, 24, 18, 12, 5, 63, 55, 48, 27, 60, 41, 37, 16, 46, 35, 44, 21, 52, 32, 23, 11, 54, 26, 40, 15, 34, 20, 31, 10, 25, 14, 19, 9, 13, 8, 7, 6] : List Int).map fun z => Value.int .u8 z).toArray
  { w0 with heap := h6 }
set_option maxRecDepth 1000000 in
theorem laid_met (os : Os) (args : Array Value) : laidMet Tryd.prog laidL ((laidWorld os).forCall (fun _ _ => 0) ⟨#[], args, []⟩).memory :=
  laidMet_of_run' 8 (by kernel_rfl) (by kernel_rfl)
end Go.Proofs.YtgopcfkofjipjaaDoor.R
