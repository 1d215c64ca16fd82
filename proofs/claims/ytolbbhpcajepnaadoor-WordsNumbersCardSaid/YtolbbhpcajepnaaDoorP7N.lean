/-
  WordsNumbers, WordsBack and WordsSigns, plain. Their conditions: the statements' own.
-/
import Derived.Test.YtolbbhpcajepnaaDoorPA
import Derived.Test.YtolbbhpcajepnaaDoorP6
import Derived.Test.YtolbbhpcajepnaaDoorHX26
namespace Go.Proofs.YtolbbhpcajepnaaDoor.Pure
open Go Go.RowKit Go.Proofs.YtolbbhpcajepnaaDoorW.PrintWords Go.Proofs.YtolbbhpcajepnaaDoor.H Go.Proofs.YtolbbhpcajepnaaDoor.L
set_option linter.unusedSimpArgs false
set_option linter.unusedVariables false

theorem WordsNumbers : cellaretlaw2_WordsNumbers.Pure := by
  intro s hs
  apply Ev.rounds
  refine Ev.bind awakeEv ?_
  simp only [if_true, words_Number.f, Option.bind_some]
  refine Ev.bind (evRefNumber s) (Ev.bind (evSigned s) (Ev.bind (evRefSigned s) ?_))
  simpa using Ev.now _

end Go.Proofs.YtolbbhpcajepnaaDoor.Pure
