/-
  DERIVED. GIVEN WITH THE SEED: THE CARDS: each row of YteljpfbfkpdchaaDoorRows.lean that lists a variable, with what it lists TIED to the program's text (the seventh form; the later family's looks); each row that meets fmt, with fmt's text TOLD by the authors' own Lean function (tested against real Go, not proved from fmt's source: count such statements apart). THE CARD IS WHAT COUNTS. Prove the row's statement (the work); the ties are given (YteljpfbfkpdchaaDoorTie.lean); close each card by the builder's one call (the guide's Derived/Test/ToyasCard.lean, 'card_holds'). Laid BY PROGRAM, IN A SANDBOX (cutbox-door.mjs). By AI agents, Wed Nov 11 2026. No macro, syntax, notation, axiom, sorry.
-/
import Derived.Test.YteljpfbfkpdchaaDoorRows
import GoSem.ClaimSeven
namespace Go.Proofs.YteljpfbfkpdchaaDoor
namespace Rows

/-- THE TIED CARD OF 'assentlaw8.BufferRuns'. -/
def bufferRunsCard : Claim7 := { stood := { row := bufferRunsRow, standIns := [], harness := (true, "01ad874cf5a1ea09e81f61688f514a0469103649653ab4b3e071956a2728a442"), looks := true }, kinds := [], alts := [], laidByText := true, laidKinds := [.handle, .sentinel, .sentinel, .sentinel, .sentinel, .sentinel, .sentinel, .sentinel, .sentinel, .sentinel, .sentinel], laidTests := true, laidLooks := .later }
def BufferRunsCardSaid : Prop := Claim7.holds Tryd.pinned (.plain (OpenSpec.ofChange bufferRunsSpec)) bufferRunsCard

/-- THE TIED CARD OF 'assentlaw8.BufferPlays'. -/
def bufferPlaysCard : Claim7 := { stood := { row := bufferPlaysRow, standIns := [], harness := (true, "01ad874cf5a1ea09e81f61688f514a0469103649653ab4b3e071956a2728a442"), looks := true }, kinds := [], alts := [], laidByText := true, laidKinds := [.handle, .sentinel, .sentinel, .sentinel, .sentinel, .sentinel, .sentinel, .sentinel, .sentinel, .sentinel, .sentinel], laidTests := true, laidLooks := .later }
def BufferPlaysCardSaid : Prop := Claim7.holds Tryd.pinned (.plain (OpenSpec.ofChange bufferPlaysSpec)) bufferPlaysCard

/-- THE TIED CARD OF 'assentlaw8.BufferOrder'. -/
def bufferOrderCard : Claim7 := { stood := { row := bufferOrderRow, standIns := [], harness := (true, "01ad874cf5a1ea09e81f61688f514a0469103649653ab4b3e071956a2728a442"), looks := true }, kinds := [], alts := [], laidByText := true, laidKinds := [.handle, .sentinel, .sentinel, .sentinel, .sentinel, .sentinel, .sentinel, .sentinel, .sentinel, .sentinel, .sentinel], laidTests := true, laidLooks := .later }
def BufferOrderCardSaid : Prop := Claim7.holds Tryd.pinned (.plain (OpenSpec.ofChange bufferOrderSpec)) bufferOrderCard

/-- THE TIED CARD OF 'assentlaw8.BufferBound'. -/
def bufferBoundCard : Claim7 := { stood := { row := bufferBoundRow, standIns := [], harness := (true, "01ad874cf5a1ea09e81f61688f514a0469103649653ab4b3e071956a2728a442"), looks := true }, kinds := [], alts := [], laidByText := true, laidKinds := [.handle, .sentinel, .sentinel, .sentinel, .sentinel, .sentinel, .sentinel, .sentinel, .sentinel, .sentinel, .sentinel], laidTests := true, laidLooks := .later }
def BufferBoundCardSaid : Prop := Claim7.holds Tryd.pinned (.plain (OpenSpec.ofChange bufferBoundSpec)) bufferBoundCard

/-- THE TIED CARD OF 'assentlaw8.BufferNew'. -/
def bufferNewCard : Claim7 := { stood := { row := bufferNewRow, standIns := [], harness := (true, "01ad874cf5a1ea09e81f61688f514a0469103649653ab4b3e071956a2728a442"), looks := true }, kinds := [], alts := [], laidByText := true, laidKinds := [.handle, .sentinel, .sentinel, .sentinel, .sentinel, .sentinel, .sentinel, .sentinel, .sentinel, .sentinel, .sentinel], laidTests := true, laidLooks := .later }
def BufferNewCardSaid : Prop := Claim7.holds Tryd.pinned (.plain (OpenSpec.ofChange bufferNewSpec)) bufferNewCard

/-- THE TIED CARD OF 'assentlaw1.FaultRuns'. -/
def faultRunsCard : Claim7 := { stood := { row := faultRunsRow, standIns := [], harness := (true, "01ad874cf5a1ea09e81f61688f514a0469103649653ab4b3e071956a2728a442"), looks := true }, kinds := [], alts := [], laidByText := true, laidKinds := [.handle, .sentinel, .sentinel], laidTests := true, laidLooks := .later }
def FaultRunsCardSaid : Prop := Claim7.holds Tryd.pinned (.plain (OpenSpec.ofChange faultRunsSpec)) faultRunsCard

/-- THE TIED CARD OF 'assentlaw1.FaultTells'. -/
def faultTellsCard : Claim7 := { stood := { row := faultTellsRow, standIns := [], harness := (true, "01ad874cf5a1ea09e81f61688f514a0469103649653ab4b3e071956a2728a442"), looks := true }, kinds := [], alts := [], laidByText := true, laidKinds := [.handle, .sentinel, .sentinel, .sentinel, .sentinel, .sentinel, .sentinel, .sentinel, .sentinel, .sentinel, .sentinel], laidTests := true, laidLooks := .later }
def FaultTellsCardSaid : Prop := Claim7.holds Tryd.pinned (.plain (OpenSpec.ofChange faultTellsSpec)) faultTellsCard

/-- THE TIED CARD OF 'assentlaw1.FaultHides'. -/
def faultHidesCard : Claim7 := { stood := { row := faultHidesRow, standIns := [], harness := (true, "01ad874cf5a1ea09e81f61688f514a0469103649653ab4b3e071956a2728a442"), looks := true }, kinds := [], alts := [], laidByText := true, laidKinds := [.handle, .sentinel, .sentinel, .sentinel, .sentinel, .sentinel, .sentinel, .sentinel, .sentinel, .sentinel, .sentinel], laidTests := true, laidLooks := .later }
def FaultHidesCardSaid : Prop := Claim7.holds Tryd.pinned (.plain (OpenSpec.ofChange faultHidesSpec)) faultHidesCard

/-- THE TIED CARD OF 'assentlaw1.FaultAny'. -/
def faultAnyCard : Claim7 := { stood := { row := faultAnyRow, standIns := [], harness := (true, "01ad874cf5a1ea09e81f61688f514a0469103649653ab4b3e071956a2728a442"), looks := true }, kinds := [], alts := [], laidByText := true, laidKinds := [.handle, .sentinel, .sentinel, .sentinel, .sentinel, .sentinel, .sentinel, .sentinel, .sentinel, .sentinel, .sentinel], laidTests := true, laidLooks := .later }
def FaultAnyCardSaid : Prop := Claim7.holds Tryd.pinned (.plain (OpenSpec.ofChange faultAnySpec)) faultAnyCard

/-- THE TIED CARD OF 'assentlaw1.FaultFinds'. -/
def faultFindsCard : Claim7 := { stood := { row := faultFindsRow, standIns := [], harness := (true, "01ad874cf5a1ea09e81f61688f514a0469103649653ab4b3e071956a2728a442"), looks := true }, kinds := [], alts := [], laidByText := true, laidKinds := [.handle, .sentinel, .sentinel, .sentinel, .sentinel, .sentinel, .sentinel, .sentinel, .sentinel, .sentinel, .sentinel], laidTests := true, laidLooks := .later }
def FaultFindsCardSaid : Prop := Claim7.holds Tryd.pinned (.plain (OpenSpec.ofChange faultFindsSpec)) faultFindsCard

/-- THE TIED CARD OF 'assentlaw1.FaultNil'. -/
def faultNilCard : Claim7 := { stood := { row := faultNilRow, standIns := [], harness := (true, "01ad874cf5a1ea09e81f61688f514a0469103649653ab4b3e071956a2728a442"), looks := true }, kinds := [], alts := [], laidByText := true, laidKinds := [.handle, .sentinel, .sentinel], laidTests := true, laidLooks := .later }
def FaultNilCardSaid : Prop := Claim7.holds Tryd.pinned (.plain (OpenSpec.ofChange faultNilSpec)) faultNilCard

/-- THE SECOND FORM's CARD OF 'assentlaw8.BufferRuns'. -/
def bufferRunsUptoCard : Claim7 := { stood := { row := bufferRunsUptoRow, standIns := [], harness := (true, "01ad874cf5a1ea09e81f61688f514a0469103649653ab4b3e071956a2728a442"), looks := true }, kinds := [], alts := [], laidByText := true, laidKinds := [.handle, .sentinel, .sentinel, .sentinel, .sentinel, .sentinel, .sentinel, .sentinel, .sentinel, .sentinel, .sentinel], laidTests := true, laidLooks := .later }
def BufferRunsUptoCardSaid : Prop := Claim7.holds Tryd.pinned (.plain (OpenSpec.upto bufferRunsSpec)) bufferRunsUptoCard

/-- THE SECOND FORM's CARD OF 'assentlaw8.BufferPlays'. -/
def bufferPlaysUptoCard : Claim7 := { stood := { row := bufferPlaysUptoRow, standIns := [], harness := (true, "01ad874cf5a1ea09e81f61688f514a0469103649653ab4b3e071956a2728a442"), looks := true }, kinds := [], alts := [], laidByText := true, laidKinds := [.handle, .sentinel, .sentinel, .sentinel, .sentinel, .sentinel, .sentinel, .sentinel, .sentinel, .sentinel, .sentinel], laidTests := true, laidLooks := .later }
def BufferPlaysUptoCardSaid : Prop := Claim7.holds Tryd.pinned (.plain (OpenSpec.upto bufferPlaysSpec)) bufferPlaysUptoCard

/-- THE SECOND FORM's CARD OF 'assentlaw8.BufferOrder'. -/
def bufferOrderUptoCard : Claim7 := { stood := { row := bufferOrderUptoRow, standIns := [], harness := (true, "01ad874cf5a1ea09e81f61688f514a0469103649653ab4b3e071956a2728a442"), looks := true }, kinds := [], alts := [], laidByText := true, laidKinds := [.handle, .sentinel, .sentinel, .sentinel, .sentinel, .sentinel, .sentinel, .sentinel, .sentinel, .sentinel, .sentinel], laidTests := true, laidLooks := .later }
def BufferOrderUptoCardSaid : Prop := Claim7.holds Tryd.pinned (.plain (OpenSpec.upto bufferOrderSpec)) bufferOrderUptoCard

/-- THE SECOND FORM's CARD OF 'assentlaw8.BufferBound'. -/
def bufferBoundUptoCard : Claim7 := { stood := { row := bufferBoundUptoRow, standIns := [], harness := (true, "01ad874cf5a1ea09e81f61688f514a0469103649653ab4b3e071956a2728a442"), looks := true }, kinds := [], alts := [], laidByText := true, laidKinds := [.handle, .sentinel, .sentinel, .sentinel, .sentinel, .sentinel, .sentinel, .sentinel, .sentinel, .sentinel, .sentinel], laidTests := true, laidLooks := .later }
def BufferBoundUptoCardSaid : Prop := Claim7.holds Tryd.pinned (.plain (OpenSpec.upto bufferBoundSpec)) bufferBoundUptoCard

/-- THE SECOND FORM's CARD OF 'assentlaw8.BufferNew'. -/
def bufferNewUptoCard : Claim7 := { stood := { row := bufferNewUptoRow, standIns := [], harness := (true, "01ad874cf5a1ea09e81f61688f514a0469103649653ab4b3e071956a2728a442"), looks := true }, kinds := [], alts := [], laidByText := true, laidKinds := [.handle, .sentinel, .sentinel, .sentinel, .sentinel, .sentinel, .sentinel, .sentinel, .sentinel, .sentinel, .sentinel], laidTests := true, laidLooks := .later }
def BufferNewUptoCardSaid : Prop := Claim7.holds Tryd.pinned (.plain (OpenSpec.upto bufferNewSpec)) bufferNewUptoCard

/-- THE SECOND FORM's CARD OF 'assentlaw1.FaultRuns'. -/
def faultRunsUptoCard : Claim7 := { stood := { row := faultRunsUptoRow, standIns := [], harness := (true, "01ad874cf5a1ea09e81f61688f514a0469103649653ab4b3e071956a2728a442"), looks := true }, kinds := [], alts := [], laidByText := true, laidKinds := [.handle, .sentinel, .sentinel], laidTests := true, laidLooks := .later }
def FaultRunsUptoCardSaid : Prop := Claim7.holds Tryd.pinned (.plain (OpenSpec.upto faultRunsSpec)) faultRunsUptoCard

/-- THE SECOND FORM's CARD OF 'assentlaw1.FaultTells'. -/
def faultTellsUptoCard : Claim7 := { stood := { row := faultTellsUptoRow, standIns := [], harness := (true, "01ad874cf5a1ea09e81f61688f514a0469103649653ab4b3e071956a2728a442"), looks := true }, kinds := [], alts := [], laidByText := true, laidKinds := [.handle, .sentinel, .sentinel, .sentinel, .sentinel, .sentinel, .sentinel, .sentinel, .sentinel, .sentinel, .sentinel], laidTests := true, laidLooks := .later }
def FaultTellsUptoCardSaid : Prop := Claim7.holds Tryd.pinned (.plain (OpenSpec.upto faultTellsSpec)) faultTellsUptoCard

/-- THE SECOND FORM's CARD OF 'assentlaw1.FaultHides'. -/
def faultHidesUptoCard : Claim7 := { stood := { row := faultHidesUptoRow, standIns := [], harness := (true, "01ad874cf5a1ea09e81f61688f514a0469103649653ab4b3e071956a2728a442"), looks := true }, kinds := [], alts := [], laidByText := true, laidKinds := [.handle, .sentinel, .sentinel, .sentinel, .sentinel, .sentinel, .sentinel, .sentinel, .sentinel, .sentinel, .sentinel], laidTests := true, laidLooks := .later }
def FaultHidesUptoCardSaid : Prop := Claim7.holds Tryd.pinned (.plain (OpenSpec.upto faultHidesSpec)) faultHidesUptoCard

/-- THE SECOND FORM's CARD OF 'assentlaw1.FaultAny'. -/
def faultAnyUptoCard : Claim7 := { stood := { row := faultAnyUptoRow, standIns := [], harness := (true, "01ad874cf5a1ea09e81f61688f514a0469103649653ab4b3e071956a2728a442"), looks := true }, kinds := [], alts := [], laidByText := true, laidKinds := [.handle, .sentinel, .sentinel, .sentinel, .sentinel, .sentinel, .sentinel, .sentinel, .sentinel, .sentinel, .sentinel], laidTests := true, laidLooks := .later }
def FaultAnyUptoCardSaid : Prop := Claim7.holds Tryd.pinned (.plain (OpenSpec.upto faultAnySpec)) faultAnyUptoCard

/-- THE SECOND FORM's CARD OF 'assentlaw1.FaultFinds'. -/
def faultFindsUptoCard : Claim7 := { stood := { row := faultFindsUptoRow, standIns := [], harness := (true, "01ad874cf5a1ea09e81f61688f514a0469103649653ab4b3e071956a2728a442"), looks := true }, kinds := [], alts := [], laidByText := true, laidKinds := [.handle, .sentinel, .sentinel, .sentinel, .sentinel, .sentinel, .sentinel, .sentinel, .sentinel, .sentinel, .sentinel], laidTests := true, laidLooks := .later }
def FaultFindsUptoCardSaid : Prop := Claim7.holds Tryd.pinned (.plain (OpenSpec.upto faultFindsSpec)) faultFindsUptoCard

/-- THE SECOND FORM's CARD OF 'assentlaw1.FaultNil'. -/
def faultNilUptoCard : Claim7 := { stood := { row := faultNilUptoRow, standIns := [], harness := (true, "01ad874cf5a1ea09e81f61688f514a0469103649653ab4b3e071956a2728a442"), looks := true }, kinds := [], alts := [], laidByText := true, laidKinds := [.handle, .sentinel, .sentinel], laidTests := true, laidLooks := .later }
def FaultNilUptoCardSaid : Prop := Claim7.holds Tryd.pinned (.plain (OpenSpec.upto faultNilSpec)) faultNilUptoCard
end Rows
end Go.Proofs.YteljpfbfkpdchaaDoor
