/-
  DERIVED. GIVEN WITH THE SEED: THE CARDS: each row of YtfbhlbchmenloaaDoorRows.lean that lists a variable, with what it lists TIED to the program's text (the seventh form; the later family's looks); each row that meets fmt, with fmt's text TOLD by the authors' own Lean function (tested against real Go, not proved from fmt's source: count such statements apart). THE CARD IS WHAT COUNTS. Prove the row's statement (the work); the ties are given (YtfbhlbchmenloaaDoorTie.lean); close each card by the builder's one call (the guide's Derived/Test/ToyasCard.lean, 'card_holds'). Laid BY PROGRAM, IN A SANDBOX (cutbox-door.mjs). By AI agents, Wed Nov 11 2026. No macro, syntax, notation, axiom, sorry.
-/
import Derived.Test.YtfbhlbchmenloaaDoorRows
import GoSem.ClaimSeven
namespace Go.Proofs.YtfbhlbchmenloaaDoor
namespace Rows

/-- THE TIED CARD OF 'cellaretlaw18.ParseKnown'. -/
def parseKnownCard : Claim7 := { stood := { row := parseKnownRow, standIns := [], harness := (true, "f46354902e209e8be53223655c2071f0645268d44d1c9b14bbd58090e517a8cb"), looks := true }, kinds := [], alts := [], laidByText := true, laidKinds := [.data, .data, .data, .data, .sentinel, .sentinel, .pinned], laidTests := true, laidLooks := .later }
def ParseKnownCardSaid : Prop := Claim7.holds Tryd.pinned (.plain (OpenSpec.ofChange parseKnownSpec)) parseKnownCard

/-- THE TIED CARD OF 'cellaretlaw18.ParsePieces'. -/
def parsePiecesCard : Claim7 := { stood := { row := parsePiecesRow, standIns := [], harness := (true, "f46354902e209e8be53223655c2071f0645268d44d1c9b14bbd58090e517a8cb"), looks := true }, kinds := [], alts := [], laidByText := true, laidKinds := [.data, .data, .data, .data, .sentinel, .sentinel, .pinned], laidTests := true, laidLooks := .later }
def ParsePiecesCardSaid : Prop := Claim7.holds Tryd.pinned (.plain (OpenSpec.ofChange parsePiecesSpec)) parsePiecesCard

/-- THE TIED CARD OF 'cellaretlaw18.ParseEdge'. -/
def parseEdgeCard : Claim7 := { stood := { row := parseEdgeRow, standIns := [], harness := (true, "f46354902e209e8be53223655c2071f0645268d44d1c9b14bbd58090e517a8cb"), looks := true }, kinds := [], alts := [], laidByText := true, laidKinds := [.data, .data, .data, .data, .sentinel, .sentinel, .pinned], laidTests := true, laidLooks := .later }
def ParseEdgeCardSaid : Prop := Claim7.holds Tryd.pinned (.plain (OpenSpec.ofChange parseEdgeSpec)) parseEdgeCard

/-- THE SECOND FORM's CARD OF 'cellaretlaw18.ParseKnown'. -/
def parseKnownUptoCard : Claim7 := { stood := { row := parseKnownUptoRow, standIns := [], harness := (true, "f46354902e209e8be53223655c2071f0645268d44d1c9b14bbd58090e517a8cb"), looks := true }, kinds := [], alts := [], laidByText := true, laidKinds := [.data, .data, .data, .data, .sentinel, .sentinel, .pinned], laidTests := true, laidLooks := .later }
def ParseKnownUptoCardSaid : Prop := Claim7.holds Tryd.pinned (.plain (OpenSpec.upto parseKnownSpec)) parseKnownUptoCard

/-- THE SECOND FORM's CARD OF 'cellaretlaw18.ParsePieces'. -/
def parsePiecesUptoCard : Claim7 := { stood := { row := parsePiecesUptoRow, standIns := [], harness := (true, "f46354902e209e8be53223655c2071f0645268d44d1c9b14bbd58090e517a8cb"), looks := true }, kinds := [], alts := [], laidByText := true, laidKinds := [.data, .data, .data, .data, .sentinel, .sentinel, .pinned], laidTests := true, laidLooks := .later }
def ParsePiecesUptoCardSaid : Prop := Claim7.holds Tryd.pinned (.plain (OpenSpec.upto parsePiecesSpec)) parsePiecesUptoCard

/-- THE SECOND FORM's CARD OF 'cellaretlaw18.ParseEdge'. -/
def parseEdgeUptoCard : Claim7 := { stood := { row := parseEdgeUptoRow, standIns := [], harness := (true, "f46354902e209e8be53223655c2071f0645268d44d1c9b14bbd58090e517a8cb"), looks := true }, kinds := [], alts := [], laidByText := true, laidKinds := [.data, .data, .data, .data, .sentinel, .sentinel, .pinned], laidTests := true, laidLooks := .later }
def ParseEdgeUptoCardSaid : Prop := Claim7.holds Tryd.pinned (.plain (OpenSpec.upto parseEdgeSpec)) parseEdgeUptoCard
end Rows
end Go.Proofs.YtfbhlbchmenloaaDoor
