/-
  DERIVED. GIVEN WITH THE SEED: THE CARDS: each row of YtpljdbcifaeblaaDoorRows.lean that lists a variable, with what it lists TIED to the program's text (the seventh form; the later family's looks); each row that meets fmt, with fmt's text TOLD by the authors' own Lean function (tested against real Go, not proved from fmt's source: count such statements apart). THE CARD IS WHAT COUNTS. Prove the row's statement (the work); the ties are given (YtpljdbcifaeblaaDoorTie.lean); close each card by the builder's one call (the guide's Derived/Test/ToyasCard.lean, 'card_holds'). Laid BY PROGRAM, IN A SANDBOX (cutbox-door.mjs). By AI agents, Wed Nov 11 2026. No macro, syntax, notation, axiom, sorry.
-/
import Derived.Test.YtpljdbcifaeblaaDoorRows
import GoSem.ClaimSeven
namespace Go.Proofs.YtpljdbcifaeblaaDoor
namespace Rows

/-- THE TIED CARD OF 'assentlaw9.ProgRuns'. -/
def progRunsCard : Claim7 := { stood := { row := progRunsRow, standIns := [], harness := (true, "24cdbe69943aee8ab327940a27d03614e52fa274504b98a0da6b99861e0dae9d"), looks := true }, kinds := [], alts := [], laidByText := true, laidKinds := [.handle, .sentinel, .sentinel, .sentinel, .sentinel, .sentinel, .sentinel, .sentinel, .sentinel, .sentinel, .sentinel], laidTests := true, laidLooks := .later }
def ProgRunsCardSaid : Prop := Claim7.holds Tryd.pinned (.plain (OpenSpec.ofChange progRunsSpec)) progRunsCard

/-- THE TIED CARD OF 'assentlaw9.ProgWrites'. -/
def progWritesCard : Claim7 := { stood := { row := progWritesRow, standIns := [], harness := (true, "24cdbe69943aee8ab327940a27d03614e52fa274504b98a0da6b99861e0dae9d"), looks := true }, kinds := [], alts := [], laidByText := true, laidKinds := [.handle, .sentinel, .sentinel, .sentinel, .sentinel, .sentinel, .sentinel, .sentinel, .sentinel, .sentinel, .sentinel], laidTests := true, laidLooks := .later }
def ProgWritesCardSaid : Prop := Claim7.holds Tryd.pinned (.plain (OpenSpec.ofChange progWritesSpec)) progWritesCard

/-- THE TIED CARD OF 'assentlaw9.ProgBack'. -/
def progBackCard : Claim7 := { stood := { row := progBackRow, standIns := [], harness := (true, "24cdbe69943aee8ab327940a27d03614e52fa274504b98a0da6b99861e0dae9d"), looks := true }, kinds := [], alts := [], laidByText := true, laidKinds := [.handle, .sentinel, .sentinel, .sentinel, .sentinel, .sentinel, .sentinel, .sentinel, .sentinel, .sentinel, .sentinel], laidTests := true, laidLooks := .later }
def ProgBackCardSaid : Prop := Claim7.holds Tryd.pinned (.plain (OpenSpec.ofChange progBackSpec)) progBackCard

/-- THE TIED CARD OF 'assentlaw9.ProgNames'. -/
def progNamesCard : Claim7 := { stood := { row := progNamesRow, standIns := [], harness := (true, "24cdbe69943aee8ab327940a27d03614e52fa274504b98a0da6b99861e0dae9d"), looks := true }, kinds := [], alts := [], laidByText := true, laidKinds := [.handle, .sentinel, .sentinel, .sentinel, .sentinel, .sentinel, .sentinel, .sentinel, .sentinel, .sentinel, .sentinel], laidTests := true, laidLooks := .later }
def ProgNamesCardSaid : Prop := Claim7.holds Tryd.pinned (.plain (OpenSpec.ofChange progNamesSpec)) progNamesCard

/-- THE TIED CARD OF 'assentlaw9.ProgBytes'. -/
def progBytesCard : Claim7 := { stood := { row := progBytesRow, standIns := [], harness := (true, "24cdbe69943aee8ab327940a27d03614e52fa274504b98a0da6b99861e0dae9d"), looks := true }, kinds := [], alts := [], laidByText := true, laidKinds := [.handle, .sentinel, .sentinel, .sentinel, .sentinel, .sentinel, .sentinel, .sentinel, .sentinel, .sentinel, .sentinel], laidTests := true, laidLooks := .later }
def ProgBytesCardSaid : Prop := Claim7.holds Tryd.pinned (.plain (OpenSpec.ofChange progBytesSpec)) progBytesCard

/-- THE TIED CARD OF 'assentlaw9.ProgEmpty'. -/
def progEmptyCard : Claim7 := { stood := { row := progEmptyRow, standIns := [], harness := (true, "24cdbe69943aee8ab327940a27d03614e52fa274504b98a0da6b99861e0dae9d"), looks := true }, kinds := [], alts := [], laidByText := true, laidKinds := [.handle, .sentinel, .sentinel, .sentinel, .sentinel, .sentinel, .sentinel, .sentinel, .sentinel, .sentinel, .sentinel], laidTests := true, laidLooks := .later }
def ProgEmptyCardSaid : Prop := Claim7.holds Tryd.pinned (.plain (OpenSpec.ofChange progEmptySpec)) progEmptyCard

/-- THE TIED CARD OF 'assentlaw11.MsgRuns'. -/
def msgRunsCard : Claim7 := { stood := { row := msgRunsRow, standIns := [], harness := (true, "24cdbe69943aee8ab327940a27d03614e52fa274504b98a0da6b99861e0dae9d"), looks := true }, kinds := [], alts := [], laidByText := true, laidKinds := [.handle, .sentinel, .sentinel, .sentinel, .sentinel, .sentinel, .sentinel, .sentinel, .sentinel, .sentinel, .sentinel], laidTests := true, laidLooks := .later }
def MsgRunsCardSaid : Prop := Claim7.holds Tryd.pinned (.plain (OpenSpec.ofChange msgRunsSpec)) msgRunsCard

/-- THE TIED CARD OF 'assentlaw11.MsgTells'. -/
def msgTellsCard : Claim7 := { stood := { row := msgTellsRow, standIns := [], harness := (true, "24cdbe69943aee8ab327940a27d03614e52fa274504b98a0da6b99861e0dae9d"), looks := true }, kinds := [], alts := [], laidByText := true, laidKinds := [.handle, .sentinel, .sentinel, .sentinel, .sentinel, .sentinel, .sentinel, .sentinel, .sentinel, .sentinel, .sentinel], laidTests := true, laidLooks := .later }
def MsgTellsCardSaid : Prop := Claim7.holds Tryd.pinned (.plain (OpenSpec.ofChange msgTellsSpec)) msgTellsCard

/-- THE TIED CARD OF 'assentlaw11.MsgBack'. -/
def msgBackCard : Claim7 := { stood := { row := msgBackRow, standIns := [], harness := (true, "24cdbe69943aee8ab327940a27d03614e52fa274504b98a0da6b99861e0dae9d"), looks := true }, kinds := [], alts := [], laidByText := true, laidKinds := [.handle, .sentinel, .sentinel, .sentinel, .sentinel, .sentinel, .sentinel, .sentinel, .sentinel, .sentinel, .sentinel], laidTests := true, laidLooks := .later }
def MsgBackCardSaid : Prop := Claim7.holds Tryd.pinned (.plain (OpenSpec.ofChange msgBackSpec)) msgBackCard

/-- THE TIED CARD OF 'assentlaw11.MsgBare'. -/
def msgBareCard : Claim7 := { stood := { row := msgBareRow, standIns := [], harness := (true, "24cdbe69943aee8ab327940a27d03614e52fa274504b98a0da6b99861e0dae9d"), looks := true }, kinds := [], alts := [], laidByText := true, laidKinds := [.handle, .sentinel, .sentinel, .sentinel, .sentinel, .sentinel, .sentinel, .sentinel, .sentinel, .sentinel, .sentinel], laidTests := true, laidLooks := .later }
def MsgBareCardSaid : Prop := Claim7.holds Tryd.pinned (.plain (OpenSpec.ofChange msgBareSpec)) msgBareCard

/-- THE TIED CARD OF 'assentlaw11.MsgPools'. -/
def msgPoolsCard : Claim7 := { stood := { row := msgPoolsRow, standIns := [], harness := (true, "24cdbe69943aee8ab327940a27d03614e52fa274504b98a0da6b99861e0dae9d"), looks := true }, kinds := [], alts := [], laidByText := true, laidKinds := [.handle, .sentinel, .sentinel, .sentinel, .sentinel, .sentinel, .sentinel, .sentinel, .sentinel, .sentinel, .sentinel], laidTests := true, laidLooks := .later }
def MsgPoolsCardSaid : Prop := Claim7.holds Tryd.pinned (.plain (OpenSpec.ofChange msgPoolsSpec)) msgPoolsCard

/-- THE TIED CARD OF 'assentlaw11.MsgApart'. -/
def msgApartCard : Claim7 := { stood := { row := msgApartRow, standIns := [], harness := (true, "24cdbe69943aee8ab327940a27d03614e52fa274504b98a0da6b99861e0dae9d"), looks := true }, kinds := [], alts := [], laidByText := true, laidKinds := [.handle, .sentinel, .sentinel, .sentinel, .sentinel, .sentinel, .sentinel, .sentinel, .sentinel, .sentinel, .sentinel], laidTests := true, laidLooks := .later }
def MsgApartCardSaid : Prop := Claim7.holds Tryd.pinned (.plain (OpenSpec.ofChange msgApartSpec)) msgApartCard

/-- THE SECOND FORM's CARD OF 'assentlaw9.ProgRuns'. -/
def progRunsUptoCard : Claim7 := { stood := { row := progRunsUptoRow, standIns := [], harness := (true, "24cdbe69943aee8ab327940a27d03614e52fa274504b98a0da6b99861e0dae9d"), looks := true }, kinds := [], alts := [], laidByText := true, laidKinds := [.handle, .sentinel, .sentinel, .sentinel, .sentinel, .sentinel, .sentinel, .sentinel, .sentinel, .sentinel, .sentinel], laidTests := true, laidLooks := .later }
def ProgRunsUptoCardSaid : Prop := Claim7.holds Tryd.pinned (.plain (OpenSpec.upto progRunsSpec)) progRunsUptoCard

/-- THE SECOND FORM's CARD OF 'assentlaw9.ProgWrites'. -/
def progWritesUptoCard : Claim7 := { stood := { row := progWritesUptoRow, standIns := [], harness := (true, "24cdbe69943aee8ab327940a27d03614e52fa274504b98a0da6b99861e0dae9d"), looks := true }, kinds := [], alts := [], laidByText := true, laidKinds := [.handle, .sentinel, .sentinel, .sentinel, .sentinel, .sentinel, .sentinel, .sentinel, .sentinel, .sentinel, .sentinel], laidTests := true, laidLooks := .later }
def ProgWritesUptoCardSaid : Prop := Claim7.holds Tryd.pinned (.plain (OpenSpec.upto progWritesSpec)) progWritesUptoCard

/-- THE SECOND FORM's CARD OF 'assentlaw9.ProgBack'. -/
def progBackUptoCard : Claim7 := { stood := { row := progBackUptoRow, standIns := [], harness := (true, "24cdbe69943aee8ab327940a27d03614e52fa274504b98a0da6b99861e0dae9d"), looks := true }, kinds := [], alts := [], laidByText := true, laidKinds := [.handle, .sentinel, .sentinel, .sentinel, .sentinel, .sentinel, .sentinel, .sentinel, .sentinel, .sentinel, .sentinel], laidTests := true, laidLooks := .later }
def ProgBackUptoCardSaid : Prop := Claim7.holds Tryd.pinned (.plain (OpenSpec.upto progBackSpec)) progBackUptoCard

/-- THE SECOND FORM's CARD OF 'assentlaw9.ProgNames'. -/
def progNamesUptoCard : Claim7 := { stood := { row := progNamesUptoRow, standIns := [], harness := (true, "24cdbe69943aee8ab327940a27d03614e52fa274504b98a0da6b99861e0dae9d"), looks := true }, kinds := [], alts := [], laidByText := true, laidKinds := [.handle, .sentinel, .sentinel, .sentinel, .sentinel, .sentinel, .sentinel, .sentinel, .sentinel, .sentinel, .sentinel], laidTests := true, laidLooks := .later }
def ProgNamesUptoCardSaid : Prop := Claim7.holds Tryd.pinned (.plain (OpenSpec.upto progNamesSpec)) progNamesUptoCard

/-- THE SECOND FORM's CARD OF 'assentlaw9.ProgBytes'. -/
def progBytesUptoCard : Claim7 := { stood := { row := progBytesUptoRow, standIns := [], harness := (true, "24cdbe69943aee8ab327940a27d03614e52fa274504b98a0da6b99861e0dae9d"), looks := true }, kinds := [], alts := [], laidByText := true, laidKinds := [.handle, .sentinel, .sentinel, .sentinel, .sentinel, .sentinel, .sentinel, .sentinel, .sentinel, .sentinel, .sentinel], laidTests := true, laidLooks := .later }
def ProgBytesUptoCardSaid : Prop := Claim7.holds Tryd.pinned (.plain (OpenSpec.upto progBytesSpec)) progBytesUptoCard

/-- THE SECOND FORM's CARD OF 'assentlaw9.ProgEmpty'. -/
def progEmptyUptoCard : Claim7 := { stood := { row := progEmptyUptoRow, standIns := [], harness := (true, "24cdbe69943aee8ab327940a27d03614e52fa274504b98a0da6b99861e0dae9d"), looks := true }, kinds := [], alts := [], laidByText := true, laidKinds := [.handle, .sentinel, .sentinel, .sentinel, .sentinel, .sentinel, .sentinel, .sentinel, .sentinel, .sentinel, .sentinel], laidTests := true, laidLooks := .later }
def ProgEmptyUptoCardSaid : Prop := Claim7.holds Tryd.pinned (.plain (OpenSpec.upto progEmptySpec)) progEmptyUptoCard

/-- THE SECOND FORM's CARD OF 'assentlaw11.MsgRuns'. -/
def msgRunsUptoCard : Claim7 := { stood := { row := msgRunsUptoRow, standIns := [], harness := (true, "24cdbe69943aee8ab327940a27d03614e52fa274504b98a0da6b99861e0dae9d"), looks := true }, kinds := [], alts := [], laidByText := true, laidKinds := [.handle, .sentinel, .sentinel, .sentinel, .sentinel, .sentinel, .sentinel, .sentinel, .sentinel, .sentinel, .sentinel], laidTests := true, laidLooks := .later }
def MsgRunsUptoCardSaid : Prop := Claim7.holds Tryd.pinned (.plain (OpenSpec.upto msgRunsSpec)) msgRunsUptoCard

/-- THE SECOND FORM's CARD OF 'assentlaw11.MsgTells'. -/
def msgTellsUptoCard : Claim7 := { stood := { row := msgTellsUptoRow, standIns := [], harness := (true, "24cdbe69943aee8ab327940a27d03614e52fa274504b98a0da6b99861e0dae9d"), looks := true }, kinds := [], alts := [], laidByText := true, laidKinds := [.handle, .sentinel, .sentinel, .sentinel, .sentinel, .sentinel, .sentinel, .sentinel, .sentinel, .sentinel, .sentinel], laidTests := true, laidLooks := .later }
def MsgTellsUptoCardSaid : Prop := Claim7.holds Tryd.pinned (.plain (OpenSpec.upto msgTellsSpec)) msgTellsUptoCard

/-- THE SECOND FORM's CARD OF 'assentlaw11.MsgBack'. -/
def msgBackUptoCard : Claim7 := { stood := { row := msgBackUptoRow, standIns := [], harness := (true, "24cdbe69943aee8ab327940a27d03614e52fa274504b98a0da6b99861e0dae9d"), looks := true }, kinds := [], alts := [], laidByText := true, laidKinds := [.handle, .sentinel, .sentinel, .sentinel, .sentinel, .sentinel, .sentinel, .sentinel, .sentinel, .sentinel, .sentinel], laidTests := true, laidLooks := .later }
def MsgBackUptoCardSaid : Prop := Claim7.holds Tryd.pinned (.plain (OpenSpec.upto msgBackSpec)) msgBackUptoCard

/-- THE SECOND FORM's CARD OF 'assentlaw11.MsgBare'. -/
def msgBareUptoCard : Claim7 := { stood := { row := msgBareUptoRow, standIns := [], harness := (true, "24cdbe69943aee8ab327940a27d03614e52fa274504b98a0da6b99861e0dae9d"), looks := true }, kinds := [], alts := [], laidByText := true, laidKinds := [.handle, .sentinel, .sentinel, .sentinel, .sentinel, .sentinel, .sentinel, .sentinel, .sentinel, .sentinel, .sentinel], laidTests := true, laidLooks := .later }
def MsgBareUptoCardSaid : Prop := Claim7.holds Tryd.pinned (.plain (OpenSpec.upto msgBareSpec)) msgBareUptoCard

/-- THE SECOND FORM's CARD OF 'assentlaw11.MsgPools'. -/
def msgPoolsUptoCard : Claim7 := { stood := { row := msgPoolsUptoRow, standIns := [], harness := (true, "24cdbe69943aee8ab327940a27d03614e52fa274504b98a0da6b99861e0dae9d"), looks := true }, kinds := [], alts := [], laidByText := true, laidKinds := [.handle, .sentinel, .sentinel, .sentinel, .sentinel, .sentinel, .sentinel, .sentinel, .sentinel, .sentinel, .sentinel], laidTests := true, laidLooks := .later }
def MsgPoolsUptoCardSaid : Prop := Claim7.holds Tryd.pinned (.plain (OpenSpec.upto msgPoolsSpec)) msgPoolsUptoCard

/-- THE SECOND FORM's CARD OF 'assentlaw11.MsgApart'. -/
def msgApartUptoCard : Claim7 := { stood := { row := msgApartUptoRow, standIns := [], harness := (true, "24cdbe69943aee8ab327940a27d03614e52fa274504b98a0da6b99861e0dae9d"), looks := true }, kinds := [], alts := [], laidByText := true, laidKinds := [.handle, .sentinel, .sentinel, .sentinel, .sentinel, .sentinel, .sentinel, .sentinel, .sentinel, .sentinel, .sentinel], laidTests := true, laidLooks := .later }
def MsgApartUptoCardSaid : Prop := Claim7.holds Tryd.pinned (.plain (OpenSpec.upto msgApartSpec)) msgApartUptoCard
end Rows
end Go.Proofs.YtpljdbcifaeblaaDoor
