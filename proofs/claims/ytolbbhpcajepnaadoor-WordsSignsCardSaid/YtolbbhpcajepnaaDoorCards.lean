/-
  DERIVED. GIVEN WITH THE SEED: THE CARDS: each row of YtolbbhpcajepnaaDoorRows.lean that lists a variable, with what it lists TIED to the program's text (the seventh form; the later family's looks); each row that meets fmt, with fmt's text TOLD by the authors' own Lean function (tested against real Go, not proved from fmt's source: count such statements apart). THE CARD IS WHAT COUNTS. Prove the row's statement (the work); the ties are given (YtolbbhpcajepnaaDoorTie.lean); close each card by the builder's one call (the guide's Derived/Test/ToyasCard.lean, 'card_holds'). Laid BY PROGRAM, IN A SANDBOX (cutbox-door.mjs). By AI agents, Wed Nov 11 2026. No macro, syntax, notation, axiom, sorry.
-/
import Derived.Test.YtolbbhpcajepnaaDoorRows
import GoSem.ClaimSeven
namespace Go.Proofs.YtolbbhpcajepnaaDoor
namespace Rows

/-- THE TIED CARD OF 'cellaretlaw2.WordsKnown'. -/
def wordsKnownCard : Claim7 := { stood := { row := wordsKnownRow, standIns := [], harness := (true, "b2bf37223b418df1e0183fd9e8fc923c9e94b77164cda206cb642839a41128c6"), looks := true }, kinds := [], alts := [], laidByText := true, laidKinds := [.data, .data, .data, .data, .sentinel, .sentinel, .pinned], laidTests := true, laidLooks := .later }
def WordsKnownCardSaid : Prop := Claim7.holds Tryd.pinned (.plain (OpenSpec.ofChange wordsKnownSpec)) wordsKnownCard

/-- THE TIED CARD OF 'cellaretlaw2.WordsRunes'. -/
def wordsRunesCard : Claim7 := { stood := { row := wordsRunesRow, standIns := [], harness := (true, "b2bf37223b418df1e0183fd9e8fc923c9e94b77164cda206cb642839a41128c6"), looks := true }, kinds := [], alts := [], laidByText := true, laidKinds := [.data, .data, .data, .data, .sentinel, .sentinel, .pinned], laidTests := true, laidLooks := .later }
def WordsRunesCardSaid : Prop := Claim7.holds Tryd.pinned (.plain (OpenSpec.ofChange wordsRunesSpec)) wordsRunesCard

/-- THE TIED CARD OF 'cellaretlaw2.WordsSplits'. -/
def wordsSplitsCard : Claim7 := { stood := { row := wordsSplitsRow, standIns := [], harness := (true, "b2bf37223b418df1e0183fd9e8fc923c9e94b77164cda206cb642839a41128c6"), looks := true }, kinds := [], alts := [], laidByText := true, laidKinds := [.data, .data, .data, .data, .sentinel, .sentinel, .pinned], laidTests := true, laidLooks := .later }
def WordsSplitsCardSaid : Prop := Claim7.holds Tryd.pinned (.plain (OpenSpec.ofChange wordsSplitsSpec)) wordsSplitsCard

/-- THE TIED CARD OF 'cellaretlaw2.WordsNumbers'. -/
def wordsNumbersCard : Claim7 := { stood := { row := wordsNumbersRow, standIns := [], harness := (true, "b2bf37223b418df1e0183fd9e8fc923c9e94b77164cda206cb642839a41128c6"), looks := true }, kinds := [], alts := [], laidByText := true, laidKinds := [.data, .data, .data, .data, .sentinel, .sentinel, .pinned], laidTests := true, laidLooks := .later }
def WordsNumbersCardSaid : Prop := Claim7.holds Tryd.pinned (.plain (OpenSpec.ofChange wordsNumbersSpec)) wordsNumbersCard

/-- THE TIED CARD OF 'cellaretlaw2.WordsBack'. -/
def wordsBackCard : Claim7 := { stood := { row := wordsBackRow, standIns := [], harness := (true, "b2bf37223b418df1e0183fd9e8fc923c9e94b77164cda206cb642839a41128c6"), looks := true }, kinds := [], alts := [], laidByText := true, laidKinds := [.data, .data, .data, .data, .sentinel, .sentinel, .pinned], laidTests := true, laidLooks := .later }
def WordsBackCardSaid : Prop := Claim7.holds Tryd.pinned (.plain (OpenSpec.ofChange wordsBackSpec)) wordsBackCard

/-- THE TIED CARD OF 'cellaretlaw2.WordsShown'. -/
def wordsShownCard : Claim7 := { stood := { row := wordsShownRow, standIns := [], harness := (true, "b2bf37223b418df1e0183fd9e8fc923c9e94b77164cda206cb642839a41128c6"), looks := true }, kinds := [], alts := [], laidByText := true, laidKinds := [.data, .data, .data, .data, .sentinel, .sentinel, .pinned], laidTests := true, laidLooks := .later }
def WordsShownCardSaid : Prop := Claim7.holds Tryd.pinned (.plain (OpenSpec.ofChange wordsShownSpec)) wordsShownCard

/-- THE TIED CARD OF 'cellaretlaw2.WordsKeys'. -/
def wordsKeysCard : Claim7 := { stood := { row := wordsKeysRow, standIns := [], harness := (true, "b2bf37223b418df1e0183fd9e8fc923c9e94b77164cda206cb642839a41128c6"), looks := true }, kinds := [], alts := [], laidByText := true, laidKinds := [.data, .data, .data, .data, .sentinel, .sentinel, .pinned], laidTests := true, laidLooks := .later }
def WordsKeysCardSaid : Prop := Claim7.holds Tryd.pinned (.plain (OpenSpec.ofChange wordsKeysSpec)) wordsKeysCard

/-- THE TIED CARD OF 'cellaretlaw2.WordsJoined'. -/
def wordsJoinedCard : Claim7 := { stood := { row := wordsJoinedRow, standIns := [], harness := (true, "b2bf37223b418df1e0183fd9e8fc923c9e94b77164cda206cb642839a41128c6"), looks := true }, kinds := [], alts := [], laidByText := true, laidKinds := [.data, .data, .data, .data, .sentinel, .sentinel, .pinned], laidTests := true, laidLooks := .later }
def WordsJoinedCardSaid : Prop := Claim7.holds Tryd.pinned (.plain (OpenSpec.ofChange wordsJoinedSpec)) wordsJoinedCard

/-- THE TIED CARD OF 'cellaretlaw2.WordsCounted'. -/
def wordsCountedCard : Claim7 := { stood := { row := wordsCountedRow, standIns := [], harness := (true, "b2bf37223b418df1e0183fd9e8fc923c9e94b77164cda206cb642839a41128c6"), looks := true }, kinds := [], alts := [], laidByText := true, laidKinds := [.data, .data, .data, .data, .sentinel, .sentinel, .pinned], laidTests := true, laidLooks := .later }
def WordsCountedCardSaid : Prop := Claim7.holds Tryd.pinned (.plain (OpenSpec.ofChange wordsCountedSpec)) wordsCountedCard

/-- THE TIED CARD OF 'cellaretlaw2.WordsSigns'. -/
def wordsSignsCard : Claim7 := { stood := { row := wordsSignsRow, standIns := [], harness := (true, "b2bf37223b418df1e0183fd9e8fc923c9e94b77164cda206cb642839a41128c6"), looks := true }, kinds := [], alts := [], laidByText := true, laidKinds := [.data, .data, .data, .data, .sentinel, .sentinel, .pinned], laidTests := true, laidLooks := .later }
def WordsSignsCardSaid : Prop := Claim7.holds Tryd.pinned (.plain (OpenSpec.ofChange wordsSignsSpec)) wordsSignsCard

/-- THE SECOND FORM's CARD OF 'cellaretlaw2.WordsKnown'. -/
def wordsKnownUptoCard : Claim7 := { stood := { row := wordsKnownUptoRow, standIns := [], harness := (true, "b2bf37223b418df1e0183fd9e8fc923c9e94b77164cda206cb642839a41128c6"), looks := true }, kinds := [], alts := [], laidByText := true, laidKinds := [.data, .data, .data, .data, .sentinel, .sentinel, .pinned], laidTests := true, laidLooks := .later }
def WordsKnownUptoCardSaid : Prop := Claim7.holds Tryd.pinned (.plain (OpenSpec.upto wordsKnownSpec)) wordsKnownUptoCard

/-- THE SECOND FORM's CARD OF 'cellaretlaw2.WordsRunes'. -/
def wordsRunesUptoCard : Claim7 := { stood := { row := wordsRunesUptoRow, standIns := [], harness := (true, "b2bf37223b418df1e0183fd9e8fc923c9e94b77164cda206cb642839a41128c6"), looks := true }, kinds := [], alts := [], laidByText := true, laidKinds := [.data, .data, .data, .data, .sentinel, .sentinel, .pinned], laidTests := true, laidLooks := .later }
def WordsRunesUptoCardSaid : Prop := Claim7.holds Tryd.pinned (.plain (OpenSpec.upto wordsRunesSpec)) wordsRunesUptoCard

/-- THE SECOND FORM's CARD OF 'cellaretlaw2.WordsSplits'. -/
def wordsSplitsUptoCard : Claim7 := { stood := { row := wordsSplitsUptoRow, standIns := [], harness := (true, "b2bf37223b418df1e0183fd9e8fc923c9e94b77164cda206cb642839a41128c6"), looks := true }, kinds := [], alts := [], laidByText := true, laidKinds := [.data, .data, .data, .data, .sentinel, .sentinel, .pinned], laidTests := true, laidLooks := .later }
def WordsSplitsUptoCardSaid : Prop := Claim7.holds Tryd.pinned (.plain (OpenSpec.upto wordsSplitsSpec)) wordsSplitsUptoCard

/-- THE SECOND FORM's CARD OF 'cellaretlaw2.WordsNumbers'. -/
def wordsNumbersUptoCard : Claim7 := { stood := { row := wordsNumbersUptoRow, standIns := [], harness := (true, "b2bf37223b418df1e0183fd9e8fc923c9e94b77164cda206cb642839a41128c6"), looks := true }, kinds := [], alts := [], laidByText := true, laidKinds := [.data, .data, .data, .data, .sentinel, .sentinel, .pinned], laidTests := true, laidLooks := .later }
def WordsNumbersUptoCardSaid : Prop := Claim7.holds Tryd.pinned (.plain (OpenSpec.upto wordsNumbersSpec)) wordsNumbersUptoCard

/-- THE SECOND FORM's CARD OF 'cellaretlaw2.WordsBack'. -/
def wordsBackUptoCard : Claim7 := { stood := { row := wordsBackUptoRow, standIns := [], harness := (true, "b2bf37223b418df1e0183fd9e8fc923c9e94b77164cda206cb642839a41128c6"), looks := true }, kinds := [], alts := [], laidByText := true, laidKinds := [.data, .data, .data, .data, .sentinel, .sentinel, .pinned], laidTests := true, laidLooks := .later }
def WordsBackUptoCardSaid : Prop := Claim7.holds Tryd.pinned (.plain (OpenSpec.upto wordsBackSpec)) wordsBackUptoCard

/-- THE SECOND FORM's CARD OF 'cellaretlaw2.WordsShown'. -/
def wordsShownUptoCard : Claim7 := { stood := { row := wordsShownUptoRow, standIns := [], harness := (true, "b2bf37223b418df1e0183fd9e8fc923c9e94b77164cda206cb642839a41128c6"), looks := true }, kinds := [], alts := [], laidByText := true, laidKinds := [.data, .data, .data, .data, .sentinel, .sentinel, .pinned], laidTests := true, laidLooks := .later }
def WordsShownUptoCardSaid : Prop := Claim7.holds Tryd.pinned (.plain (OpenSpec.upto wordsShownSpec)) wordsShownUptoCard

/-- THE SECOND FORM's CARD OF 'cellaretlaw2.WordsKeys'. -/
def wordsKeysUptoCard : Claim7 := { stood := { row := wordsKeysUptoRow, standIns := [], harness := (true, "b2bf37223b418df1e0183fd9e8fc923c9e94b77164cda206cb642839a41128c6"), looks := true }, kinds := [], alts := [], laidByText := true, laidKinds := [.data, .data, .data, .data, .sentinel, .sentinel, .pinned], laidTests := true, laidLooks := .later }
def WordsKeysUptoCardSaid : Prop := Claim7.holds Tryd.pinned (.plain (OpenSpec.upto wordsKeysSpec)) wordsKeysUptoCard

/-- THE SECOND FORM's CARD OF 'cellaretlaw2.WordsJoined'. -/
def wordsJoinedUptoCard : Claim7 := { stood := { row := wordsJoinedUptoRow, standIns := [], harness := (true, "b2bf37223b418df1e0183fd9e8fc923c9e94b77164cda206cb642839a41128c6"), looks := true }, kinds := [], alts := [], laidByText := true, laidKinds := [.data, .data, .data, .data, .sentinel, .sentinel, .pinned], laidTests := true, laidLooks := .later }
def WordsJoinedUptoCardSaid : Prop := Claim7.holds Tryd.pinned (.plain (OpenSpec.upto wordsJoinedSpec)) wordsJoinedUptoCard

/-- THE SECOND FORM's CARD OF 'cellaretlaw2.WordsCounted'. -/
def wordsCountedUptoCard : Claim7 := { stood := { row := wordsCountedUptoRow, standIns := [], harness := (true, "b2bf37223b418df1e0183fd9e8fc923c9e94b77164cda206cb642839a41128c6"), looks := true }, kinds := [], alts := [], laidByText := true, laidKinds := [.data, .data, .data, .data, .sentinel, .sentinel, .pinned], laidTests := true, laidLooks := .later }
def WordsCountedUptoCardSaid : Prop := Claim7.holds Tryd.pinned (.plain (OpenSpec.upto wordsCountedSpec)) wordsCountedUptoCard

/-- THE SECOND FORM's CARD OF 'cellaretlaw2.WordsSigns'. -/
def wordsSignsUptoCard : Claim7 := { stood := { row := wordsSignsUptoRow, standIns := [], harness := (true, "b2bf37223b418df1e0183fd9e8fc923c9e94b77164cda206cb642839a41128c6"), looks := true }, kinds := [], alts := [], laidByText := true, laidKinds := [.data, .data, .data, .data, .sentinel, .sentinel, .pinned], laidTests := true, laidLooks := .later }
def WordsSignsUptoCardSaid : Prop := Claim7.holds Tryd.pinned (.plain (OpenSpec.upto wordsSignsSpec)) wordsSignsUptoCard
end Rows
end Go.Proofs.YtolbbhpcajepnaaDoor
