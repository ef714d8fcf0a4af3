/-
  DERIVED. GIVEN WITH THE SEED: THE CARDS: each row of YtbefkkefglkleaaDoorRows.lean that lists a variable, with what it lists TIED to the program's text (the seventh form; the later family's looks); each row that meets fmt, with fmt's text TOLD by the authors' own Lean function (tested against real Go, not proved from fmt's source: count such statements apart). THE CARD IS WHAT COUNTS. Prove the row's statement (the work); the ties are given (YtbefkkefglkleaaDoorTie.lean); close each card by the builder's one call (the guide's Derived/Test/ToyasCard.lean, 'card_holds'). Laid BY PROGRAM, IN A SANDBOX (cutbox-door.mjs). By AI agents, Wed Nov 11 2026. No macro, syntax, notation, axiom, sorry.
-/
import Derived.Test.YtbefkkefglkleaaDoorRows
import GoSem.ClaimSeven
namespace Go.Proofs.YtbefkkefglkleaaDoor
namespace Rows

/-- THE TIED CARD OF 'assentlaw12.FabricRuns'. -/
def fabricRunsCard : Claim7 := { stood := { row := fabricRunsRow, standIns := [], harness := (true, "ee3cc3c2a75c92604184b9a35a8a51d7db3b46dba5197c34ca35c12cb10fc8e9"), looks := true }, kinds := [], alts := [], laidByText := true, laidKinds := [.handle, .sentinel, .sentinel, .sentinel, .sentinel, .sentinel, .sentinel, .sentinel, .sentinel, .sentinel, .sentinel], laidTests := true, laidLooks := .later }
def FabricRunsCardSaid : Prop := Claim7.holds Tryd.pinned (.plain (OpenSpec.ofChange fabricRunsSpec)) fabricRunsCard

/-- THE TIED CARD OF 'assentlaw12.FabricPlays'. -/
def fabricPlaysCard : Claim7 := { stood := { row := fabricPlaysRow, standIns := [], harness := (true, "ee3cc3c2a75c92604184b9a35a8a51d7db3b46dba5197c34ca35c12cb10fc8e9"), looks := true }, kinds := [], alts := [], laidByText := true, laidKinds := [.handle, .sentinel, .sentinel, .sentinel, .sentinel, .sentinel, .sentinel, .sentinel, .sentinel, .sentinel, .sentinel], laidTests := true, laidLooks := .later }
def FabricPlaysCardSaid : Prop := Claim7.holds Tryd.pinned (.plain (OpenSpec.ofChange fabricPlaysSpec)) fabricPlaysCard

/-- THE TIED CARD OF 'assentlaw12.FabricHolds'. -/
def fabricHoldsCard : Claim7 := { stood := { row := fabricHoldsRow, standIns := [], harness := (true, "ee3cc3c2a75c92604184b9a35a8a51d7db3b46dba5197c34ca35c12cb10fc8e9"), looks := true }, kinds := [], alts := [], laidByText := true, laidKinds := [.handle, .sentinel, .sentinel, .sentinel, .sentinel, .sentinel, .sentinel, .sentinel, .sentinel, .sentinel, .sentinel], laidTests := true, laidLooks := .later }
def FabricHoldsCardSaid : Prop := Claim7.holds Tryd.pinned (.plain (OpenSpec.ofChange fabricHoldsSpec)) fabricHoldsCard

/-- THE TIED CARD OF 'assentlaw12.FabricWhole'. -/
def fabricWholeCard : Claim7 := { stood := { row := fabricWholeRow, standIns := [], harness := (true, "ee3cc3c2a75c92604184b9a35a8a51d7db3b46dba5197c34ca35c12cb10fc8e9"), looks := true }, kinds := [], alts := [], laidByText := true, laidKinds := [.handle, .sentinel, .sentinel, .sentinel, .sentinel, .sentinel, .sentinel, .sentinel, .sentinel, .sentinel, .sentinel], laidTests := true, laidLooks := .later }
def FabricWholeCardSaid : Prop := Claim7.holds Tryd.pinned (.plain (OpenSpec.ofChange fabricWholeSpec)) fabricWholeCard

/-- THE TIED CARD OF 'assentlaw12.FabricTakes'. -/
def fabricTakesCard : Claim7 := { stood := { row := fabricTakesRow, standIns := [], harness := (true, "ee3cc3c2a75c92604184b9a35a8a51d7db3b46dba5197c34ca35c12cb10fc8e9"), looks := true }, kinds := [], alts := [], laidByText := true, laidKinds := [.handle, .sentinel, .sentinel, .sentinel, .sentinel, .sentinel, .sentinel, .sentinel, .sentinel, .sentinel, .sentinel], laidTests := true, laidLooks := .later }
def FabricTakesCardSaid : Prop := Claim7.holds Tryd.pinned (.plain (OpenSpec.ofChange fabricTakesSpec)) fabricTakesCard

/-- THE TIED CARD OF 'assentlaw12.FabricShared'. -/
def fabricSharedCard : Claim7 := { stood := { row := fabricSharedRow, standIns := [], harness := (true, "ee3cc3c2a75c92604184b9a35a8a51d7db3b46dba5197c34ca35c12cb10fc8e9"), looks := true }, kinds := [], alts := [], laidByText := true, laidKinds := [.handle, .sentinel, .sentinel, .sentinel, .sentinel, .sentinel, .sentinel, .sentinel, .sentinel, .sentinel, .sentinel], laidTests := true, laidLooks := .later }
def FabricSharedCardSaid : Prop := Claim7.holds Tryd.pinned (.plain (OpenSpec.ofChange fabricSharedSpec)) fabricSharedCard

/-- THE TIED CARD OF 'assentlaw12.FabricRoom'. -/
def fabricRoomCard : Claim7 := { stood := { row := fabricRoomRow, standIns := [], harness := (true, "ee3cc3c2a75c92604184b9a35a8a51d7db3b46dba5197c34ca35c12cb10fc8e9"), looks := true }, kinds := [], alts := [], laidByText := true, laidKinds := [.handle, .sentinel, .sentinel, .sentinel, .sentinel, .sentinel, .sentinel, .sentinel, .sentinel, .sentinel, .sentinel], laidTests := true, laidLooks := .later }
def FabricRoomCardSaid : Prop := Claim7.holds Tryd.pinned (.plain (OpenSpec.ofChange fabricRoomSpec)) fabricRoomCard

/-- THE SECOND FORM's CARD OF 'assentlaw12.FabricRuns'. -/
def fabricRunsUptoCard : Claim7 := { stood := { row := fabricRunsUptoRow, standIns := [], harness := (true, "ee3cc3c2a75c92604184b9a35a8a51d7db3b46dba5197c34ca35c12cb10fc8e9"), looks := true }, kinds := [], alts := [], laidByText := true, laidKinds := [.handle, .sentinel, .sentinel, .sentinel, .sentinel, .sentinel, .sentinel, .sentinel, .sentinel, .sentinel, .sentinel], laidTests := true, laidLooks := .later }
def FabricRunsUptoCardSaid : Prop := Claim7.holds Tryd.pinned (.plain (OpenSpec.upto fabricRunsSpec)) fabricRunsUptoCard

/-- THE SECOND FORM's CARD OF 'assentlaw12.FabricPlays'. -/
def fabricPlaysUptoCard : Claim7 := { stood := { row := fabricPlaysUptoRow, standIns := [], harness := (true, "ee3cc3c2a75c92604184b9a35a8a51d7db3b46dba5197c34ca35c12cb10fc8e9"), looks := true }, kinds := [], alts := [], laidByText := true, laidKinds := [.handle, .sentinel, .sentinel, .sentinel, .sentinel, .sentinel, .sentinel, .sentinel, .sentinel, .sentinel, .sentinel], laidTests := true, laidLooks := .later }
def FabricPlaysUptoCardSaid : Prop := Claim7.holds Tryd.pinned (.plain (OpenSpec.upto fabricPlaysSpec)) fabricPlaysUptoCard

/-- THE SECOND FORM's CARD OF 'assentlaw12.FabricHolds'. -/
def fabricHoldsUptoCard : Claim7 := { stood := { row := fabricHoldsUptoRow, standIns := [], harness := (true, "ee3cc3c2a75c92604184b9a35a8a51d7db3b46dba5197c34ca35c12cb10fc8e9"), looks := true }, kinds := [], alts := [], laidByText := true, laidKinds := [.handle, .sentinel, .sentinel, .sentinel, .sentinel, .sentinel, .sentinel, .sentinel, .sentinel, .sentinel, .sentinel], laidTests := true, laidLooks := .later }
def FabricHoldsUptoCardSaid : Prop := Claim7.holds Tryd.pinned (.plain (OpenSpec.upto fabricHoldsSpec)) fabricHoldsUptoCard

/-- THE SECOND FORM's CARD OF 'assentlaw12.FabricWhole'. -/
def fabricWholeUptoCard : Claim7 := { stood := { row := fabricWholeUptoRow, standIns := [], harness := (true, "ee3cc3c2a75c92604184b9a35a8a51d7db3b46dba5197c34ca35c12cb10fc8e9"), looks := true }, kinds := [], alts := [], laidByText := true, laidKinds := [.handle, .sentinel, .sentinel, .sentinel, .sentinel, .sentinel, .sentinel, .sentinel, .sentinel, .sentinel, .sentinel], laidTests := true, laidLooks := .later }
def FabricWholeUptoCardSaid : Prop := Claim7.holds Tryd.pinned (.plain (OpenSpec.upto fabricWholeSpec)) fabricWholeUptoCard

/-- THE SECOND FORM's CARD OF 'assentlaw12.FabricTakes'. -/
def fabricTakesUptoCard : Claim7 := { stood := { row := fabricTakesUptoRow, standIns := [], harness := (true, "ee3cc3c2a75c92604184b9a35a8a51d7db3b46dba5197c34ca35c12cb10fc8e9"), looks := true }, kinds := [], alts := [], laidByText := true, laidKinds := [.handle, .sentinel, .sentinel, .sentinel, .sentinel, .sentinel, .sentinel, .sentinel, .sentinel, .sentinel, .sentinel], laidTests := true, laidLooks := .later }
def FabricTakesUptoCardSaid : Prop := Claim7.holds Tryd.pinned (.plain (OpenSpec.upto fabricTakesSpec)) fabricTakesUptoCard

/-- THE SECOND FORM's CARD OF 'assentlaw12.FabricShared'. -/
def fabricSharedUptoCard : Claim7 := { stood := { row := fabricSharedUptoRow, standIns := [], harness := (true, "ee3cc3c2a75c92604184b9a35a8a51d7db3b46dba5197c34ca35c12cb10fc8e9"), looks := true }, kinds := [], alts := [], laidByText := true, laidKinds := [.handle, .sentinel, .sentinel, .sentinel, .sentinel, .sentinel, .sentinel, .sentinel, .sentinel, .sentinel, .sentinel], laidTests := true, laidLooks := .later }
def FabricSharedUptoCardSaid : Prop := Claim7.holds Tryd.pinned (.plain (OpenSpec.upto fabricSharedSpec)) fabricSharedUptoCard

/-- THE SECOND FORM's CARD OF 'assentlaw12.FabricRoom'. -/
def fabricRoomUptoCard : Claim7 := { stood := { row := fabricRoomUptoRow, standIns := [], harness := (true, "ee3cc3c2a75c92604184b9a35a8a51d7db3b46dba5197c34ca35c12cb10fc8e9"), looks := true }, kinds := [], alts := [], laidByText := true, laidKinds := [.handle, .sentinel, .sentinel, .sentinel, .sentinel, .sentinel, .sentinel, .sentinel, .sentinel, .sentinel, .sentinel], laidTests := true, laidLooks := .later }
def FabricRoomUptoCardSaid : Prop := Claim7.holds Tryd.pinned (.plain (OpenSpec.upto fabricRoomSpec)) fabricRoomUptoCard
end Rows
end Go.Proofs.YtbefkkefglkleaaDoor
