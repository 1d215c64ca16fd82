/-
  DERIVED. GIVEN WITH THE SEED: THE CARDS: each row of YtgopcfkofjipjaaDoorRows.lean that lists a variable, with what it lists TIED to the program's text (the seventh form; the later family's looks); each row that meets fmt, with fmt's text TOLD by the authors' own Lean function (tested against real Go, not proved from fmt's source: count such statements apart). THE CARD IS WHAT COUNTS. Prove the row's statement (the work); the ties are given (YtgopcfkofjipjaaDoorTie.lean); close each card by the builder's one call (the guide's Derived/Test/ToyasCard.lean, 'card_holds'). Laid BY PROGRAM, IN A SANDBOX (cutbox-door.mjs). By AI agents, Wed Nov 11 2026. No macro, syntax, notation, axiom, sorry.
-/
import Derived.Test.YtgopcfkofjipjaaDoorRows
import GoSem.ClaimSeven
namespace Go.Proofs.YtgopcfkofjipjaaDoor
namespace Rows

/-- THE TIED CARD OF 'cellaretlaw19.ReplyWrites'. -/
def replyWritesCard : Claim7 := { stood := { row := replyWritesRow, standIns := [], harness := (true, "cfdbc61475ae5af30275a41de74027aaea1ca63b9cd5e6ec8267027224f9c233"), looks := true }, kinds := [], alts := [], laidByText := true, laidKinds := [.data, .data, .data, .data, .sentinel, .sentinel, .pinned], laidTests := true, laidLooks := .later }
def ReplyWritesCardSaid : Prop := Claim7.holds Tryd.pinned (.plain (OpenSpec.ofChange replyWritesSpec)) replyWritesCard

/-- THE TIED CARD OF 'cellaretlaw19.ReplyBack'. -/
def replyBackCard : Claim7 := { stood := { row := replyBackRow, standIns := [], harness := (true, "cfdbc61475ae5af30275a41de74027aaea1ca63b9cd5e6ec8267027224f9c233"), looks := true }, kinds := [], alts := [], laidByText := true, laidKinds := [.data, .data, .data, .data, .sentinel, .sentinel, .pinned], laidTests := true, laidLooks := .later }
def ReplyBackCardSaid : Prop := Claim7.holds Tryd.pinned (.plain (OpenSpec.ofChange replyBackSpec)) replyBackCard

/-- THE TIED CARD OF 'cellaretlaw19.ReplyCut'. -/
def replyCutCard : Claim7 := { stood := { row := replyCutRow, standIns := [], harness := (true, "cfdbc61475ae5af30275a41de74027aaea1ca63b9cd5e6ec8267027224f9c233"), looks := true }, kinds := [], alts := [], laidByText := true, laidKinds := [.data, .data, .data, .data, .sentinel, .sentinel, .pinned], laidTests := true, laidLooks := .later }
def ReplyCutCardSaid : Prop := Claim7.holds Tryd.pinned (.plain (OpenSpec.ofChange replyCutSpec)) replyCutCard

/-- THE TIED CARD OF 'cellaretlaw19.ReplyOthers'. -/
def replyOthersCard : Claim7 := { stood := { row := replyOthersRow, standIns := [], harness := (true, "cfdbc61475ae5af30275a41de74027aaea1ca63b9cd5e6ec8267027224f9c233"), looks := true }, kinds := [], alts := [], laidByText := true, laidKinds := [.data, .data, .data, .data, .sentinel, .sentinel, .pinned], laidTests := true, laidLooks := .later }
def ReplyOthersCardSaid : Prop := Claim7.holds Tryd.pinned (.plain (OpenSpec.ofChange replyOthersSpec)) replyOthersCard

/-- THE SECOND FORM's CARD OF 'cellaretlaw19.ReplyWrites'. -/
def replyWritesUptoCard : Claim7 := { stood := { row := replyWritesUptoRow, standIns := [], harness := (true, "cfdbc61475ae5af30275a41de74027aaea1ca63b9cd5e6ec8267027224f9c233"), looks := true }, kinds := [], alts := [], laidByText := true, laidKinds := [.data, .data, .data, .data, .sentinel, .sentinel, .pinned], laidTests := true, laidLooks := .later }
def ReplyWritesUptoCardSaid : Prop := Claim7.holds Tryd.pinned (.plain (OpenSpec.upto replyWritesSpec)) replyWritesUptoCard

/-- THE SECOND FORM's CARD OF 'cellaretlaw19.ReplyBack'. -/
def replyBackUptoCard : Claim7 := { stood := { row := replyBackUptoRow, standIns := [], harness := (true, "cfdbc61475ae5af30275a41de74027aaea1ca63b9cd5e6ec8267027224f9c233"), looks := true }, kinds := [], alts := [], laidByText := true, laidKinds := [.data, .data, .data, .data, .sentinel, .sentinel, .pinned], laidTests := true, laidLooks := .later }
def ReplyBackUptoCardSaid : Prop := Claim7.holds Tryd.pinned (.plain (OpenSpec.upto replyBackSpec)) replyBackUptoCard

/-- THE SECOND FORM's CARD OF 'cellaretlaw19.ReplyCut'. -/
def replyCutUptoCard : Claim7 := { stood := { row := replyCutUptoRow, standIns := [], harness := (true, "cfdbc61475ae5af30275a41de74027aaea1ca63b9cd5e6ec8267027224f9c233"), looks := true }, kinds := [], alts := [], laidByText := true, laidKinds := [.data, .data, .data, .data, .sentinel, .sentinel, .pinned], laidTests := true, laidLooks := .later }
def ReplyCutUptoCardSaid : Prop := Claim7.holds Tryd.pinned (.plain (OpenSpec.upto replyCutSpec)) replyCutUptoCard

/-- THE SECOND FORM's CARD OF 'cellaretlaw19.ReplyOthers'. -/
def replyOthersUptoCard : Claim7 := { stood := { row := replyOthersUptoRow, standIns := [], harness := (true, "cfdbc61475ae5af30275a41de74027aaea1ca63b9cd5e6ec8267027224f9c233"), looks := true }, kinds := [], alts := [], laidByText := true, laidKinds := [.data, .data, .data, .data, .sentinel, .sentinel, .pinned], laidTests := true, laidLooks := .later }
def ReplyOthersUptoCardSaid : Prop := Claim7.holds Tryd.pinned (.plain (OpenSpec.upto replyOthersSpec)) replyOthersUptoCard
end Rows
end Go.Proofs.YtgopcfkofjipjaaDoor
