/-
  WordsKnown, plain: the examples of chapter 2 answer as told. Its condition: none.
-/
import Derived.Test.YtolbbhpcajepnaaDoorPA
import Derived.Test.YtolbbhpcajepnaaDoorHX15
namespace Go.Proofs.YtolbbhpcajepnaaDoor.Pure
open Go Go.RowKit Go.Proofs.YtolbbhpcajepnaaDoorW.PrintWords Go.Proofs.YtolbbhpcajepnaaDoor.H
set_option linter.unusedSimpArgs false
set_option linter.unusedVariables false
set_option maxRecDepth 100000
theorem WordsKnown : cellaretlaw2_WordsKnown.Pure := by
  refine ⟨50, ?_⟩
  unfold cellaretlaw2_WordsKnown.f
  rw [awake50]
  kernel_rfl
end Go.Proofs.YtolbbhpcajepnaaDoor.Pure
