/-
  DERIVED. GIVEN WITH THE SEED: THE CARDS: each row of YtfbhlbchmenloaaGreatDoorRows.lean that lists a variable, with what it lists TIED to the program's text (the seventh form; the later family's looks); each row that meets fmt, with fmt's text TOLD by the authors' own Lean function (tested against real Go, not proved from fmt's source: count such statements apart). THE CARD IS WHAT COUNTS. Prove the row's statement (the work); the ties are given (YtfbhlbchmenloaaGreatDoorTie.lean); close each card by the builder's one call (the guide's Derived/Test/ToyasCard.lean, 'card_holds'). Laid BY PROGRAM, IN A SANDBOX (cutbox-door.mjs). By AI agents, Wed Nov 11 2026. No macro, syntax, notation, axiom, sorry.
-/
import Derived.Test.YtfbhlbchmenloaaGreatDoorRows
import GoSem.ClaimSeven
namespace Go.Proofs.YtfbhlbchmenloaaGreatDoor
namespace Rows

/-- THE TIED CARD OF 'cellaretlaw18.ParseBack'. -/
def parseBackCard : Claim7 := { stood := { row := parseBackRow, standIns := [], harness := (true, "79c37b60b8f1565ce5b34fde2331099cfb12e55cffb588155f465a5fa61831b7"), looks := true }, kinds := [], alts := [], laidByText := true, laidKinds := [.data, .data, .data, .data, .sentinel, .sentinel, .pinned], laidTests := true, laidLooks := .later }
def ParseBackCardSaid : Prop := Claim7.holds Tryz.pinned (.plain (OpenSpec.ofChange parseBackSpec)) parseBackCard

/-- THE TIED CARD OF 'cellaretlaw18.ParseLong'. -/
def parseLongCard : Claim7 := { stood := { row := parseLongRow, standIns := [], harness := (true, "79c37b60b8f1565ce5b34fde2331099cfb12e55cffb588155f465a5fa61831b7"), looks := true }, kinds := [], alts := [], laidByText := true, laidKinds := [.data, .data, .data, .data, .sentinel, .sentinel, .pinned], laidTests := true, laidLooks := .later }
def ParseLongCardSaid : Prop := Claim7.holds Tryz.pinned (.plain (OpenSpec.ofChange parseLongSpec)) parseLongCard

/-- THE TIED CARD OF 'cellaretlaw18.ParseChunk'. -/
def parseChunkCard : Claim7 := { stood := { row := parseChunkRow, standIns := [], harness := (true, "79c37b60b8f1565ce5b34fde2331099cfb12e55cffb588155f465a5fa61831b7"), looks := true }, kinds := [], alts := [], laidByText := true, laidKinds := [.data, .data, .data, .data, .sentinel, .sentinel, .pinned], laidTests := true, laidLooks := .later }
def ParseChunkCardSaid : Prop := Claim7.holds Tryz.pinned (.plain (OpenSpec.ofChange parseChunkSpec)) parseChunkCard

/-- THE TIED CARD OF 'cellaretlaw18.ParseBig'. -/
def parseBigCard : Claim7 := { stood := { row := parseBigRow, standIns := [], harness := (true, "79c37b60b8f1565ce5b34fde2331099cfb12e55cffb588155f465a5fa61831b7"), looks := true }, kinds := [], alts := [], laidByText := true, laidKinds := [.data, .data, .data, .data, .sentinel, .sentinel, .pinned], laidTests := true, laidLooks := .later }
def ParseBigCardSaid : Prop := Claim7.holds Tryz.pinned (.plain (OpenSpec.ofChange parseBigSpec)) parseBigCard

/-- THE SECOND FORM's CARD OF 'cellaretlaw18.ParseBack'. -/
def parseBackUptoCard : Claim7 := { stood := { row := parseBackUptoRow, standIns := [], harness := (true, "79c37b60b8f1565ce5b34fde2331099cfb12e55cffb588155f465a5fa61831b7"), looks := true }, kinds := [], alts := [], laidByText := true, laidKinds := [.data, .data, .data, .data, .sentinel, .sentinel, .pinned], laidTests := true, laidLooks := .later }
def ParseBackUptoCardSaid : Prop := Claim7.holds Tryz.pinned (.plain (OpenSpec.upto parseBackSpec)) parseBackUptoCard

/-- THE SECOND FORM's CARD OF 'cellaretlaw18.ParseLong'. -/
def parseLongUptoCard : Claim7 := { stood := { row := parseLongUptoRow, standIns := [], harness := (true, "79c37b60b8f1565ce5b34fde2331099cfb12e55cffb588155f465a5fa61831b7"), looks := true }, kinds := [], alts := [], laidByText := true, laidKinds := [.data, .data, .data, .data, .sentinel, .sentinel, .pinned], laidTests := true, laidLooks := .later }
def ParseLongUptoCardSaid : Prop := Claim7.holds Tryz.pinned (.plain (OpenSpec.upto parseLongSpec)) parseLongUptoCard

/-- THE SECOND FORM's CARD OF 'cellaretlaw18.ParseChunk'. -/
def parseChunkUptoCard : Claim7 := { stood := { row := parseChunkUptoRow, standIns := [], harness := (true, "79c37b60b8f1565ce5b34fde2331099cfb12e55cffb588155f465a5fa61831b7"), looks := true }, kinds := [], alts := [], laidByText := true, laidKinds := [.data, .data, .data, .data, .sentinel, .sentinel, .pinned], laidTests := true, laidLooks := .later }
def ParseChunkUptoCardSaid : Prop := Claim7.holds Tryz.pinned (.plain (OpenSpec.upto parseChunkSpec)) parseChunkUptoCard

/-- THE SECOND FORM's CARD OF 'cellaretlaw18.ParseBig'. -/
def parseBigUptoCard : Claim7 := { stood := { row := parseBigUptoRow, standIns := [], harness := (true, "79c37b60b8f1565ce5b34fde2331099cfb12e55cffb588155f465a5fa61831b7"), looks := true }, kinds := [], alts := [], laidByText := true, laidKinds := [.data, .data, .data, .data, .sentinel, .sentinel, .pinned], laidTests := true, laidLooks := .later }
def ParseBigUptoCardSaid : Prop := Claim7.holds Tryz.pinned (.plain (OpenSpec.upto parseBigSpec)) parseBigUptoCard
end Rows
end Go.Proofs.YtfbhlbchmenloaaGreatDoor
