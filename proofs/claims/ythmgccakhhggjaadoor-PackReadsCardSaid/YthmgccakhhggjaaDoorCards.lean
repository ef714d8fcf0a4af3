/-
  DERIVED. GIVEN WITH THE SEED: THE CARDS: each row of YthmgccakhhggjaaDoorRows.lean that lists a variable, with what it lists TIED to the program's text (the seventh form; the later family's looks); each row that meets fmt, with fmt's text TOLD by the authors' own Lean function (tested against real Go, not proved from fmt's source: count such statements apart). THE CARD IS WHAT COUNTS. Prove the row's statement (the work); the ties are given (YthmgccakhhggjaaDoorTie.lean); close each card by the builder's one call (the guide's Derived/Test/ToyasCard.lean, 'card_holds'). Laid BY PROGRAM, IN A SANDBOX (cutbox-door.mjs). By AI agents, Wed Nov 11 2026. No macro, syntax, notation, axiom, sorry.
-/
import Derived.Test.YthmgccakhhggjaaDoorRows
import GoSem.ClaimSeven
namespace Go.Proofs.YthmgccakhhggjaaDoor
namespace Rows

/-- THE TIED CARD OF 'assentlaw3.PackRuns'. -/
def packRunsCard : Claim7 := { stood := { row := packRunsRow, standIns := [], harness := (true, "1a14bb27bb0d5f5911cafbc09ccadc4b24652d418397de3ef26ebce9b657ff07"), looks := true }, kinds := [], alts := [], laidByText := true, laidKinds := [.handle, .sentinel, .sentinel, .sentinel, .sentinel, .sentinel, .sentinel, .sentinel, .sentinel, .sentinel, .sentinel], laidTests := true, laidLooks := .later }
def PackRunsCardSaid : Prop := Claim7.holds Tryd.pinned (.plain (OpenSpec.ofChange packRunsSpec)) packRunsCard

/-- THE TIED CARD OF 'assentlaw3.PackWrites'. -/
def packWritesCard : Claim7 := { stood := { row := packWritesRow, standIns := [], harness := (true, "1a14bb27bb0d5f5911cafbc09ccadc4b24652d418397de3ef26ebce9b657ff07"), looks := true }, kinds := [], alts := [], laidByText := true, laidKinds := [.handle, .sentinel, .sentinel, .sentinel, .sentinel, .sentinel, .sentinel, .sentinel, .sentinel, .sentinel, .sentinel], laidTests := true, laidLooks := .later }
def PackWritesCardSaid : Prop := Claim7.holds Tryd.pinned (.plain (OpenSpec.ofChange packWritesSpec)) packWritesCard

/-- THE TIED CARD OF 'assentlaw3.PackSizes'. -/
def packSizesCard : Claim7 := { stood := { row := packSizesRow, standIns := [], harness := (true, "1a14bb27bb0d5f5911cafbc09ccadc4b24652d418397de3ef26ebce9b657ff07"), looks := true }, kinds := [], alts := [], laidByText := true, laidKinds := [.handle, .sentinel, .sentinel, .sentinel, .sentinel, .sentinel, .sentinel, .sentinel, .sentinel, .sentinel, .sentinel], laidTests := true, laidLooks := .later }
def PackSizesCardSaid : Prop := Claim7.holds Tryd.pinned (.plain (OpenSpec.ofChange packSizesSpec)) packSizesCard

/-- THE TIED CARD OF 'assentlaw3.PackReads'. -/
def packReadsCard : Claim7 := { stood := { row := packReadsRow, standIns := [], harness := (true, "1a14bb27bb0d5f5911cafbc09ccadc4b24652d418397de3ef26ebce9b657ff07"), looks := true }, kinds := [], alts := [], laidByText := true, laidKinds := [.handle, .sentinel, .sentinel, .sentinel, .sentinel, .sentinel, .sentinel, .sentinel, .sentinel, .sentinel, .sentinel], laidTests := true, laidLooks := .later }
def PackReadsCardSaid : Prop := Claim7.holds Tryd.pinned (.plain (OpenSpec.ofChange packReadsSpec)) packReadsCard

/-- THE TIED CARD OF 'assentlaw3.PackBack'. -/
def packBackCard : Claim7 := { stood := { row := packBackRow, standIns := [], harness := (true, "1a14bb27bb0d5f5911cafbc09ccadc4b24652d418397de3ef26ebce9b657ff07"), looks := true }, kinds := [], alts := [], laidByText := true, laidKinds := [.handle, .sentinel, .sentinel, .sentinel, .sentinel, .sentinel, .sentinel, .sentinel, .sentinel, .sentinel, .sentinel], laidTests := true, laidLooks := .later }
def PackBackCardSaid : Prop := Claim7.holds Tryd.pinned (.plain (OpenSpec.ofChange packBackSpec)) packBackCard

/-- THE TIED CARD OF 'assentlaw3.PackOne'. -/
def packOneCard : Claim7 := { stood := { row := packOneRow, standIns := [], harness := (true, "1a14bb27bb0d5f5911cafbc09ccadc4b24652d418397de3ef26ebce9b657ff07"), looks := true }, kinds := [], alts := [], laidByText := true, laidKinds := [.handle, .sentinel, .sentinel, .sentinel, .sentinel, .sentinel, .sentinel, .sentinel, .sentinel, .sentinel, .sentinel], laidTests := true, laidLooks := .later }
def PackOneCardSaid : Prop := Claim7.holds Tryd.pinned (.plain (OpenSpec.ofChange packOneSpec)) packOneCard

/-- THE TIED CARD OF 'assentlaw3.PackStays'. -/
def packStaysCard : Claim7 := { stood := { row := packStaysRow, standIns := [], harness := (true, "1a14bb27bb0d5f5911cafbc09ccadc4b24652d418397de3ef26ebce9b657ff07"), looks := true }, kinds := [], alts := [], laidByText := true, laidKinds := [.handle, .sentinel, .sentinel, .sentinel, .sentinel, .sentinel, .sentinel, .sentinel, .sentinel, .sentinel, .sentinel], laidTests := true, laidLooks := .later }
def PackStaysCardSaid : Prop := Claim7.holds Tryd.pinned (.plain (OpenSpec.ofChange packStaysSpec)) packStaysCard

/-- THE TIED CARD OF 'assentlaw3.PackIn'. -/
def packInCard : Claim7 := { stood := { row := packInRow, standIns := [], harness := (true, "1a14bb27bb0d5f5911cafbc09ccadc4b24652d418397de3ef26ebce9b657ff07"), looks := true }, kinds := [], alts := [], laidByText := true, laidKinds := [.handle, .sentinel, .sentinel, .sentinel, .sentinel, .sentinel, .sentinel, .sentinel, .sentinel, .sentinel, .sentinel], laidTests := true, laidLooks := .later }
def PackInCardSaid : Prop := Claim7.holds Tryd.pinned (.plain (OpenSpec.ofChange packInSpec)) packInCard

/-- THE SECOND FORM's CARD OF 'assentlaw3.PackRuns'. -/
def packRunsUptoCard : Claim7 := { stood := { row := packRunsUptoRow, standIns := [], harness := (true, "1a14bb27bb0d5f5911cafbc09ccadc4b24652d418397de3ef26ebce9b657ff07"), looks := true }, kinds := [], alts := [], laidByText := true, laidKinds := [.handle, .sentinel, .sentinel, .sentinel, .sentinel, .sentinel, .sentinel, .sentinel, .sentinel, .sentinel, .sentinel], laidTests := true, laidLooks := .later }
def PackRunsUptoCardSaid : Prop := Claim7.holds Tryd.pinned (.plain (OpenSpec.upto packRunsSpec)) packRunsUptoCard

/-- THE SECOND FORM's CARD OF 'assentlaw3.PackWrites'. -/
def packWritesUptoCard : Claim7 := { stood := { row := packWritesUptoRow, standIns := [], harness := (true, "1a14bb27bb0d5f5911cafbc09ccadc4b24652d418397de3ef26ebce9b657ff07"), looks := true }, kinds := [], alts := [], laidByText := true, laidKinds := [.handle, .sentinel, .sentinel, .sentinel, .sentinel, .sentinel, .sentinel, .sentinel, .sentinel, .sentinel, .sentinel], laidTests := true, laidLooks := .later }
def PackWritesUptoCardSaid : Prop := Claim7.holds Tryd.pinned (.plain (OpenSpec.upto packWritesSpec)) packWritesUptoCard

/-- THE SECOND FORM's CARD OF 'assentlaw3.PackSizes'. -/
def packSizesUptoCard : Claim7 := { stood := { row := packSizesUptoRow, standIns := [], harness := (true, "1a14bb27bb0d5f5911cafbc09ccadc4b24652d418397de3ef26ebce9b657ff07"), looks := true }, kinds := [], alts := [], laidByText := true, laidKinds := [.handle, .sentinel, .sentinel, .sentinel, .sentinel, .sentinel, .sentinel, .sentinel, .sentinel, .sentinel, .sentinel], laidTests := true, laidLooks := .later }
def PackSizesUptoCardSaid : Prop := Claim7.holds Tryd.pinned (.plain (OpenSpec.upto packSizesSpec)) packSizesUptoCard

/-- THE SECOND FORM's CARD OF 'assentlaw3.PackReads'. -/
def packReadsUptoCard : Claim7 := { stood := { row := packReadsUptoRow, standIns := [], harness := (true, "1a14bb27bb0d5f5911cafbc09ccadc4b24652d418397de3ef26ebce9b657ff07"), looks := true }, kinds := [], alts := [], laidByText := true, laidKinds := [.handle, .sentinel, .sentinel, .sentinel, .sentinel, .sentinel, .sentinel, .sentinel, .sentinel, .sentinel, .sentinel], laidTests := true, laidLooks := .later }
def PackReadsUptoCardSaid : Prop := Claim7.holds Tryd.pinned (.plain (OpenSpec.upto packReadsSpec)) packReadsUptoCard

/-- THE SECOND FORM's CARD OF 'assentlaw3.PackBack'. -/
def packBackUptoCard : Claim7 := { stood := { row := packBackUptoRow, standIns := [], harness := (true, "1a14bb27bb0d5f5911cafbc09ccadc4b24652d418397de3ef26ebce9b657ff07"), looks := true }, kinds := [], alts := [], laidByText := true, laidKinds := [.handle, .sentinel, .sentinel, .sentinel, .sentinel, .sentinel, .sentinel, .sentinel, .sentinel, .sentinel, .sentinel], laidTests := true, laidLooks := .later }
def PackBackUptoCardSaid : Prop := Claim7.holds Tryd.pinned (.plain (OpenSpec.upto packBackSpec)) packBackUptoCard

/-- THE SECOND FORM's CARD OF 'assentlaw3.PackOne'. -/
def packOneUptoCard : Claim7 := { stood := { row := packOneUptoRow, standIns := [], harness := (true, "1a14bb27bb0d5f5911cafbc09ccadc4b24652d418397de3ef26ebce9b657ff07"), looks := true }, kinds := [], alts := [], laidByText := true, laidKinds := [.handle, .sentinel, .sentinel, .sentinel, .sentinel, .sentinel, .sentinel, .sentinel, .sentinel, .sentinel, .sentinel], laidTests := true, laidLooks := .later }
def PackOneUptoCardSaid : Prop := Claim7.holds Tryd.pinned (.plain (OpenSpec.upto packOneSpec)) packOneUptoCard

/-- THE SECOND FORM's CARD OF 'assentlaw3.PackStays'. -/
def packStaysUptoCard : Claim7 := { stood := { row := packStaysUptoRow, standIns := [], harness := (true, "1a14bb27bb0d5f5911cafbc09ccadc4b24652d418397de3ef26ebce9b657ff07"), looks := true }, kinds := [], alts := [], laidByText := true, laidKinds := [.handle, .sentinel, .sentinel, .sentinel, .sentinel, .sentinel, .sentinel, .sentinel, .sentinel, .sentinel, .sentinel], laidTests := true, laidLooks := .later }
def PackStaysUptoCardSaid : Prop := Claim7.holds Tryd.pinned (.plain (OpenSpec.upto packStaysSpec)) packStaysUptoCard

/-- THE SECOND FORM's CARD OF 'assentlaw3.PackIn'. -/
def packInUptoCard : Claim7 := { stood := { row := packInUptoRow, standIns := [], harness := (true, "1a14bb27bb0d5f5911cafbc09ccadc4b24652d418397de3ef26ebce9b657ff07"), looks := true }, kinds := [], alts := [], laidByText := true, laidKinds := [.handle, .sentinel, .sentinel, .sentinel, .sentinel, .sentinel, .sentinel, .sentinel, .sentinel, .sentinel, .sentinel], laidTests := true, laidLooks := .later }
def PackInUptoCardSaid : Prop := Claim7.holds Tryd.pinned (.plain (OpenSpec.upto packInSpec)) packInUptoCard
end Rows
end Go.Proofs.YthmgccakhhggjaaDoor
