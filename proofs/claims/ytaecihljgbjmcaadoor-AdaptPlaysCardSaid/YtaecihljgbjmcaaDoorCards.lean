/-
  DERIVED. GIVEN WITH THE SEED: THE CARDS: each row of YtaecihljgbjmcaaDoorRows.lean that lists a variable, with what it lists TIED to the program's text (the seventh form; the later family's looks); each row that meets fmt, with fmt's text TOLD by the authors' own Lean function (tested against real Go, not proved from fmt's source: count such statements apart). THE CARD IS WHAT COUNTS. Prove the row's statement (the work); the ties are given (YtaecihljgbjmcaaDoorTie.lean); close each card by the builder's one call (the guide's Derived/Test/ToyasCard.lean, 'card_holds'). Laid BY PROGRAM, IN A SANDBOX (cutbox-door.mjs). By AI agents, Wed Nov 11 2026. No macro, syntax, notation, axiom, sorry.
-/
import Derived.Test.YtaecihljgbjmcaaDoorRows
import GoSem.ClaimSeven
namespace Go.Proofs.YtaecihljgbjmcaaDoor
namespace Rows

/-- THE TIED CARD OF 'assentlaw16.AdaptRuns'. -/
def adaptRunsCard : Claim7 := { stood := { row := adaptRunsRow, standIns := [], harness := (true, "9bcdd9f0526d5ab53480db179193ebb34197b6abc9d113d7f416d48da255e25e"), looks := true }, kinds := [], alts := [], laidByText := true, laidKinds := [.sentinel], laidTests := true, laidLooks := .later }
def AdaptRunsCardSaid : Prop := Claim7.holds Tryd.pinned (.plain (OpenSpec.ofChange adaptRunsSpec)) adaptRunsCard

/-- THE TIED CARD OF 'assentlaw16.AdaptStays'. -/
def adaptStaysCard : Claim7 := { stood := { row := adaptStaysRow, standIns := [], harness := (true, "9bcdd9f0526d5ab53480db179193ebb34197b6abc9d113d7f416d48da255e25e"), looks := true }, kinds := [], alts := [], laidByText := true, laidKinds := [.sentinel], laidTests := true, laidLooks := .later }
def AdaptStaysCardSaid : Prop := Claim7.holds Tryd.pinned (.plain (OpenSpec.ofChange adaptStaysSpec)) adaptStaysCard

/-- THE TIED CARD OF 'assentlaw16.AdaptHolds'. -/
def adaptHoldsCard : Claim7 := { stood := { row := adaptHoldsRow, standIns := [], harness := (true, "9bcdd9f0526d5ab53480db179193ebb34197b6abc9d113d7f416d48da255e25e"), looks := true }, kinds := [], alts := [], laidByText := true, laidKinds := [.sentinel], laidTests := true, laidLooks := .later }
def AdaptHoldsCardSaid : Prop := Claim7.holds Tryd.pinned (.plain (OpenSpec.ofChange adaptHoldsSpec)) adaptHoldsCard

/-- THE TIED CARD OF 'assentlaw16.AdaptApart'. -/
def adaptApartCard : Claim7 := { stood := { row := adaptApartRow, standIns := [], harness := (true, "9bcdd9f0526d5ab53480db179193ebb34197b6abc9d113d7f416d48da255e25e"), looks := true }, kinds := [], alts := [], laidByText := true, laidKinds := [.sentinel], laidTests := true, laidLooks := .later }
def AdaptApartCardSaid : Prop := Claim7.holds Tryd.pinned (.plain (OpenSpec.ofChange adaptApartSpec)) adaptApartCard

/-- THE TIED CARD OF 'assentlaw16.AdaptRefuses'. -/
def adaptRefusesCard : Claim7 := { stood := { row := adaptRefusesRow, standIns := [], harness := (true, "9bcdd9f0526d5ab53480db179193ebb34197b6abc9d113d7f416d48da255e25e"), looks := true }, kinds := [], alts := [], laidByText := true, laidKinds := [.sentinel], laidTests := true, laidLooks := .later }
def AdaptRefusesCardSaid : Prop := Claim7.holds Tryd.pinned (.plain (OpenSpec.ofChange adaptRefusesSpec)) adaptRefusesCard

/-- THE TIED CARD OF 'assentlaw16.AdaptStops'. -/
def adaptStopsCard : Claim7 := { stood := { row := adaptStopsRow, standIns := [], harness := (true, "9bcdd9f0526d5ab53480db179193ebb34197b6abc9d113d7f416d48da255e25e"), looks := true }, kinds := [], alts := [], laidByText := true, laidKinds := [.sentinel], laidTests := true, laidLooks := .later }
def AdaptStopsCardSaid : Prop := Claim7.holds Tryd.pinned (.plain (OpenSpec.ofChange adaptStopsSpec)) adaptStopsCard

/-- THE TIED CARD OF 'assentlaw2.GeomRuns'. -/
def geomRunsCard : Claim7 := { stood := { row := geomRunsRow, standIns := [], harness := (true, "9bcdd9f0526d5ab53480db179193ebb34197b6abc9d113d7f416d48da255e25e"), looks := true }, kinds := [], alts := [], laidByText := true, laidKinds := [.handle, .sentinel, .sentinel, .sentinel, .sentinel, .sentinel, .sentinel, .sentinel, .sentinel, .sentinel, .sentinel], laidTests := true, laidLooks := .later }
def GeomRunsCardSaid : Prop := Claim7.holds Tryd.pinned (.plain (OpenSpec.ofChange geomRunsSpec)) geomRunsCard

/-- THE TIED CARD OF 'assentlaw2.GeomBack'. -/
def geomBackCard : Claim7 := { stood := { row := geomBackRow, standIns := [], harness := (true, "9bcdd9f0526d5ab53480db179193ebb34197b6abc9d113d7f416d48da255e25e"), looks := true }, kinds := [], alts := [], laidByText := true, laidKinds := [.handle, .sentinel, .sentinel, .sentinel, .sentinel, .sentinel, .sentinel, .sentinel, .sentinel, .sentinel, .sentinel], laidTests := true, laidLooks := .later }
def GeomBackCardSaid : Prop := Claim7.holds Tryd.pinned (.plain (OpenSpec.ofChange geomBackSpec)) geomBackCard

/-- THE TIED CARD OF 'assentlaw2.GeomTells'. -/
def geomTellsCard : Claim7 := { stood := { row := geomTellsRow, standIns := [], harness := (true, "9bcdd9f0526d5ab53480db179193ebb34197b6abc9d113d7f416d48da255e25e"), looks := true }, kinds := [], alts := [], laidByText := true, laidKinds := [.handle, .sentinel, .sentinel, .sentinel, .sentinel, .sentinel, .sentinel, .sentinel, .sentinel, .sentinel, .sentinel], laidTests := true, laidLooks := .later }
def GeomTellsCardSaid : Prop := Claim7.holds Tryd.pinned (.plain (OpenSpec.ofChange geomTellsSpec)) geomTellsCard

/-- THE TIED CARD OF 'assentlaw2.GeomWhole'. -/
def geomWholeCard : Claim7 := { stood := { row := geomWholeRow, standIns := [], harness := (true, "9bcdd9f0526d5ab53480db179193ebb34197b6abc9d113d7f416d48da255e25e"), looks := true }, kinds := [], alts := [], laidByText := true, laidKinds := [.handle, .sentinel, .sentinel, .sentinel, .sentinel, .sentinel, .sentinel, .sentinel, .sentinel, .sentinel, .sentinel], laidTests := true, laidLooks := .later }
def GeomWholeCardSaid : Prop := Claim7.holds Tryd.pinned (.plain (OpenSpec.ofChange geomWholeSpec)) geomWholeCard

/-- THE TIED CARD OF 'assentlaw2.GeomRefuses'. -/
def geomRefusesCard : Claim7 := { stood := { row := geomRefusesRow, standIns := [], harness := (true, "9bcdd9f0526d5ab53480db179193ebb34197b6abc9d113d7f416d48da255e25e"), looks := true }, kinds := [], alts := [], laidByText := true, laidKinds := [.handle, .sentinel, .sentinel, .sentinel, .sentinel, .sentinel, .sentinel, .sentinel, .sentinel, .sentinel, .sentinel], laidTests := true, laidLooks := .later }
def GeomRefusesCardSaid : Prop := Claim7.holds Tryd.pinned (.plain (OpenSpec.ofChange geomRefusesSpec)) geomRefusesCard

/-- THE TIED CARD OF 'assentlaw16.AdaptPlays'. -/
def adaptPlaysCard : Claim7 := { stood := { row := adaptPlaysRow, standIns := [], harness := (true, "9bcdd9f0526d5ab53480db179193ebb34197b6abc9d113d7f416d48da255e25e"), looks := true }, kinds := [], alts := [], laidByText := true, laidKinds := [.handle, .sentinel, .sentinel, .sentinel, .sentinel, .sentinel, .sentinel, .sentinel, .sentinel, .sentinel, .sentinel], laidTests := true, laidLooks := .later }
def AdaptPlaysCardSaid : Prop := Claim7.holds Tryd.pinned (.plain (OpenSpec.ofChange adaptPlaysSpec)) adaptPlaysCard

/-- THE SECOND FORM's CARD OF 'assentlaw16.AdaptRuns'. -/
def adaptRunsUptoCard : Claim7 := { stood := { row := adaptRunsUptoRow, standIns := [], harness := (true, "9bcdd9f0526d5ab53480db179193ebb34197b6abc9d113d7f416d48da255e25e"), looks := true }, kinds := [], alts := [], laidByText := true, laidKinds := [.sentinel], laidTests := true, laidLooks := .later }
def AdaptRunsUptoCardSaid : Prop := Claim7.holds Tryd.pinned (.plain (OpenSpec.upto adaptRunsSpec)) adaptRunsUptoCard

/-- THE SECOND FORM's CARD OF 'assentlaw16.AdaptStays'. -/
def adaptStaysUptoCard : Claim7 := { stood := { row := adaptStaysUptoRow, standIns := [], harness := (true, "9bcdd9f0526d5ab53480db179193ebb34197b6abc9d113d7f416d48da255e25e"), looks := true }, kinds := [], alts := [], laidByText := true, laidKinds := [.sentinel], laidTests := true, laidLooks := .later }
def AdaptStaysUptoCardSaid : Prop := Claim7.holds Tryd.pinned (.plain (OpenSpec.upto adaptStaysSpec)) adaptStaysUptoCard

/-- THE SECOND FORM's CARD OF 'assentlaw16.AdaptHolds'. -/
def adaptHoldsUptoCard : Claim7 := { stood := { row := adaptHoldsUptoRow, standIns := [], harness := (true, "9bcdd9f0526d5ab53480db179193ebb34197b6abc9d113d7f416d48da255e25e"), looks := true }, kinds := [], alts := [], laidByText := true, laidKinds := [.sentinel], laidTests := true, laidLooks := .later }
def AdaptHoldsUptoCardSaid : Prop := Claim7.holds Tryd.pinned (.plain (OpenSpec.upto adaptHoldsSpec)) adaptHoldsUptoCard

/-- THE SECOND FORM's CARD OF 'assentlaw16.AdaptApart'. -/
def adaptApartUptoCard : Claim7 := { stood := { row := adaptApartUptoRow, standIns := [], harness := (true, "9bcdd9f0526d5ab53480db179193ebb34197b6abc9d113d7f416d48da255e25e"), looks := true }, kinds := [], alts := [], laidByText := true, laidKinds := [.sentinel], laidTests := true, laidLooks := .later }
def AdaptApartUptoCardSaid : Prop := Claim7.holds Tryd.pinned (.plain (OpenSpec.upto adaptApartSpec)) adaptApartUptoCard

/-- THE SECOND FORM's CARD OF 'assentlaw16.AdaptRefuses'. -/
def adaptRefusesUptoCard : Claim7 := { stood := { row := adaptRefusesUptoRow, standIns := [], harness := (true, "9bcdd9f0526d5ab53480db179193ebb34197b6abc9d113d7f416d48da255e25e"), looks := true }, kinds := [], alts := [], laidByText := true, laidKinds := [.sentinel], laidTests := true, laidLooks := .later }
def AdaptRefusesUptoCardSaid : Prop := Claim7.holds Tryd.pinned (.plain (OpenSpec.upto adaptRefusesSpec)) adaptRefusesUptoCard

/-- THE SECOND FORM's CARD OF 'assentlaw16.AdaptStops'. -/
def adaptStopsUptoCard : Claim7 := { stood := { row := adaptStopsUptoRow, standIns := [], harness := (true, "9bcdd9f0526d5ab53480db179193ebb34197b6abc9d113d7f416d48da255e25e"), looks := true }, kinds := [], alts := [], laidByText := true, laidKinds := [.sentinel], laidTests := true, laidLooks := .later }
def AdaptStopsUptoCardSaid : Prop := Claim7.holds Tryd.pinned (.plain (OpenSpec.upto adaptStopsSpec)) adaptStopsUptoCard

/-- THE SECOND FORM's CARD OF 'assentlaw2.GeomRuns'. -/
def geomRunsUptoCard : Claim7 := { stood := { row := geomRunsUptoRow, standIns := [], harness := (true, "9bcdd9f0526d5ab53480db179193ebb34197b6abc9d113d7f416d48da255e25e"), looks := true }, kinds := [], alts := [], laidByText := true, laidKinds := [.handle, .sentinel, .sentinel, .sentinel, .sentinel, .sentinel, .sentinel, .sentinel, .sentinel, .sentinel, .sentinel], laidTests := true, laidLooks := .later }
def GeomRunsUptoCardSaid : Prop := Claim7.holds Tryd.pinned (.plain (OpenSpec.upto geomRunsSpec)) geomRunsUptoCard

/-- THE SECOND FORM's CARD OF 'assentlaw2.GeomBack'. -/
def geomBackUptoCard : Claim7 := { stood := { row := geomBackUptoRow, standIns := [], harness := (true, "9bcdd9f0526d5ab53480db179193ebb34197b6abc9d113d7f416d48da255e25e"), looks := true }, kinds := [], alts := [], laidByText := true, laidKinds := [.handle, .sentinel, .sentinel, .sentinel, .sentinel, .sentinel, .sentinel, .sentinel, .sentinel, .sentinel, .sentinel], laidTests := true, laidLooks := .later }
def GeomBackUptoCardSaid : Prop := Claim7.holds Tryd.pinned (.plain (OpenSpec.upto geomBackSpec)) geomBackUptoCard

/-- THE SECOND FORM's CARD OF 'assentlaw2.GeomTells'. -/
def geomTellsUptoCard : Claim7 := { stood := { row := geomTellsUptoRow, standIns := [], harness := (true, "9bcdd9f0526d5ab53480db179193ebb34197b6abc9d113d7f416d48da255e25e"), looks := true }, kinds := [], alts := [], laidByText := true, laidKinds := [.handle, .sentinel, .sentinel, .sentinel, .sentinel, .sentinel, .sentinel, .sentinel, .sentinel, .sentinel, .sentinel], laidTests := true, laidLooks := .later }
def GeomTellsUptoCardSaid : Prop := Claim7.holds Tryd.pinned (.plain (OpenSpec.upto geomTellsSpec)) geomTellsUptoCard

/-- THE SECOND FORM's CARD OF 'assentlaw2.GeomWhole'. -/
def geomWholeUptoCard : Claim7 := { stood := { row := geomWholeUptoRow, standIns := [], harness := (true, "9bcdd9f0526d5ab53480db179193ebb34197b6abc9d113d7f416d48da255e25e"), looks := true }, kinds := [], alts := [], laidByText := true, laidKinds := [.handle, .sentinel, .sentinel, .sentinel, .sentinel, .sentinel, .sentinel, .sentinel, .sentinel, .sentinel, .sentinel], laidTests := true, laidLooks := .later }
def GeomWholeUptoCardSaid : Prop := Claim7.holds Tryd.pinned (.plain (OpenSpec.upto geomWholeSpec)) geomWholeUptoCard

/-- THE SECOND FORM's CARD OF 'assentlaw2.GeomRefuses'. -/
def geomRefusesUptoCard : Claim7 := { stood := { row := geomRefusesUptoRow, standIns := [], harness := (true, "9bcdd9f0526d5ab53480db179193ebb34197b6abc9d113d7f416d48da255e25e"), looks := true }, kinds := [], alts := [], laidByText := true, laidKinds := [.handle, .sentinel, .sentinel, .sentinel, .sentinel, .sentinel, .sentinel, .sentinel, .sentinel, .sentinel, .sentinel], laidTests := true, laidLooks := .later }
def GeomRefusesUptoCardSaid : Prop := Claim7.holds Tryd.pinned (.plain (OpenSpec.upto geomRefusesSpec)) geomRefusesUptoCard

/-- THE SECOND FORM's CARD OF 'assentlaw16.AdaptPlays'. -/
def adaptPlaysUptoCard : Claim7 := { stood := { row := adaptPlaysUptoRow, standIns := [], harness := (true, "9bcdd9f0526d5ab53480db179193ebb34197b6abc9d113d7f416d48da255e25e"), looks := true }, kinds := [], alts := [], laidByText := true, laidKinds := [.handle, .sentinel, .sentinel, .sentinel, .sentinel, .sentinel, .sentinel, .sentinel, .sentinel, .sentinel, .sentinel], laidTests := true, laidLooks := .later }
def AdaptPlaysUptoCardSaid : Prop := Claim7.holds Tryd.pinned (.plain (OpenSpec.upto adaptPlaysSpec)) adaptPlaysUptoCard
end Rows
end Go.Proofs.YtaecihljgbjmcaaDoor
