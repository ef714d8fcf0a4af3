/-
  DERIVED. GIVEN WITH THE SEED: THE CARDS: each row of YtamklohnmbgklaaDoorRows.lean that lists a variable, with what it lists TIED to the program's text (the seventh form; the later family's looks); each row that meets fmt, with fmt's text TOLD by the authors' own Lean function (tested against real Go, not proved from fmt's source: count such statements apart). THE CARD IS WHAT COUNTS. Prove the row's statement (the work); the ties are given (YtamklohnmbgklaaDoorTie.lean); close each card by the builder's one call (the guide's Derived/Test/ToyasCard.lean, 'card_holds'). Laid BY PROGRAM, IN A SANDBOX (cutbox-door.mjs). By AI agents, Wed Nov 11 2026. No macro, syntax, notation, axiom, sorry.
-/
import Derived.Test.YtamklohnmbgklaaDoorRows
import GoSem.ClaimSeven
namespace Go.Proofs.YtamklohnmbgklaaDoor
namespace Rows

/-- THE TIED CARD OF 'assentlaw10.TsoRuns'. -/
def tsoRunsCard : Claim7 := { stood := { row := tsoRunsRow, standIns := [], harness := (true, "46b050468120548a5141646416eedabdf45be1fdd311d4df5a089b9500364f85"), looks := true }, kinds := [], alts := [], laidByText := true, laidKinds := [.handle, .sentinel, .sentinel, .sentinel, .sentinel, .sentinel, .sentinel, .sentinel, .sentinel, .sentinel, .sentinel], laidTests := true, laidLooks := .later }
def TsoRunsCardSaid : Prop := Claim7.holds Tryd.pinned (.plain (OpenSpec.ofChange tsoRunsSpec)) tsoRunsCard

/-- THE TIED CARD OF 'assentlaw10.TsoReplays'. -/
def tsoReplaysCard : Claim7 := { stood := { row := tsoReplaysRow, standIns := [], harness := (true, "46b050468120548a5141646416eedabdf45be1fdd311d4df5a089b9500364f85"), looks := true }, kinds := [], alts := [], laidByText := true, laidKinds := [.handle, .sentinel, .sentinel, .sentinel, .sentinel, .sentinel, .sentinel, .sentinel, .sentinel, .sentinel, .sentinel], laidTests := true, laidLooks := .later }
def TsoReplaysCardSaid : Prop := Claim7.holds Tryd.pinned (.plain (OpenSpec.ofChange tsoReplaysSpec)) tsoReplaysCard

/-- THE TIED CARD OF 'assentlaw10.TsoCas'. -/
def tsoCasCard : Claim7 := { stood := { row := tsoCasRow, standIns := [], harness := (true, "46b050468120548a5141646416eedabdf45be1fdd311d4df5a089b9500364f85"), looks := true }, kinds := [], alts := [], laidByText := true, laidKinds := [.handle, .sentinel, .sentinel, .sentinel, .sentinel, .sentinel, .sentinel, .sentinel, .sentinel, .sentinel, .sentinel], laidTests := true, laidLooks := .later }
def TsoCasCardSaid : Prop := Claim7.holds Tryd.pinned (.plain (OpenSpec.ofChange tsoCasSpec)) tsoCasCard

/-- THE TIED CARD OF 'assentlaw10.TsoCommutes'. -/
def tsoCommutesCard : Claim7 := { stood := { row := tsoCommutesRow, standIns := [], harness := (true, "46b050468120548a5141646416eedabdf45be1fdd311d4df5a089b9500364f85"), looks := true }, kinds := [], alts := [], laidByText := true, laidKinds := [.handle, .sentinel, .sentinel, .sentinel, .sentinel, .sentinel, .sentinel, .sentinel, .sentinel, .sentinel, .sentinel], laidTests := true, laidLooks := .later }
def TsoCommutesCardSaid : Prop := Claim7.holds Tryd.pinned (.plain (OpenSpec.ofChange tsoCommutesSpec)) tsoCommutesCard

/-- THE TIED CARD OF 'assentlaw10.TsoOrder'. -/
def tsoOrderCard : Claim7 := { stood := { row := tsoOrderRow, standIns := [], harness := (true, "46b050468120548a5141646416eedabdf45be1fdd311d4df5a089b9500364f85"), looks := true }, kinds := [], alts := [], laidByText := true, laidKinds := [.handle, .sentinel, .sentinel, .sentinel, .sentinel, .sentinel, .sentinel, .sentinel, .sentinel, .sentinel, .sentinel], laidTests := true, laidLooks := .later }
def TsoOrderCardSaid : Prop := Claim7.holds Tryd.pinned (.plain (OpenSpec.ofChange tsoOrderSpec)) tsoOrderCard

/-- THE TIED CARD OF 'assentlaw10.TsoFences'. -/
def tsoFencesCard : Claim7 := { stood := { row := tsoFencesRow, standIns := [], harness := (true, "46b050468120548a5141646416eedabdf45be1fdd311d4df5a089b9500364f85"), looks := true }, kinds := [], alts := [], laidByText := true, laidKinds := [.handle, .sentinel, .sentinel, .sentinel, .sentinel, .sentinel, .sentinel, .sentinel, .sentinel, .sentinel, .sentinel], laidTests := true, laidLooks := .later }
def TsoFencesCardSaid : Prop := Claim7.holds Tryd.pinned (.plain (OpenSpec.ofChange tsoFencesSpec)) tsoFencesCard

/-- THE TIED CARD OF 'assentlaw10.TsoHides'. -/
def tsoHidesCard : Claim7 := { stood := { row := tsoHidesRow, standIns := [], harness := (true, "46b050468120548a5141646416eedabdf45be1fdd311d4df5a089b9500364f85"), looks := true }, kinds := [], alts := [], laidByText := true, laidKinds := [.handle, .sentinel, .sentinel, .sentinel, .sentinel, .sentinel, .sentinel, .sentinel, .sentinel, .sentinel, .sentinel], laidTests := true, laidLooks := .later }
def TsoHidesCardSaid : Prop := Claim7.holds Tryd.pinned (.plain (OpenSpec.ofChange tsoHidesSpec)) tsoHidesCard

/-- THE TIED CARD OF 'assentlaw10.TsoTwins'. -/
def tsoTwinsCard : Claim7 := { stood := { row := tsoTwinsRow, standIns := [], harness := (true, "46b050468120548a5141646416eedabdf45be1fdd311d4df5a089b9500364f85"), looks := true }, kinds := [], alts := [], laidByText := true, laidKinds := [.handle, .sentinel, .sentinel, .sentinel, .sentinel, .sentinel, .sentinel, .sentinel, .sentinel, .sentinel, .sentinel], laidTests := true, laidLooks := .later }
def TsoTwinsCardSaid : Prop := Claim7.holds Tryd.pinned (.plain (OpenSpec.ofChange tsoTwinsSpec)) tsoTwinsCard

/-- THE TIED CARD OF 'assentlaw10.TsoPlays'. -/
def tsoPlaysCard : Claim7 := { stood := { row := tsoPlaysRow, standIns := [], harness := (true, "46b050468120548a5141646416eedabdf45be1fdd311d4df5a089b9500364f85"), looks := true }, kinds := [], alts := [], laidByText := true, laidKinds := [.handle, .sentinel, .sentinel, .sentinel, .sentinel, .sentinel, .sentinel, .sentinel, .sentinel, .sentinel, .sentinel], laidTests := true, laidLooks := .later }
def TsoPlaysCardSaid : Prop := Claim7.holds Tryd.pinned (.plain (OpenSpec.ofChange tsoPlaysSpec)) tsoPlaysCard

/-- THE TIED CARD OF 'assentlaw10.TsoRefuses'. -/
def tsoRefusesCard : Claim7 := { stood := { row := tsoRefusesRow, standIns := [], harness := (true, "46b050468120548a5141646416eedabdf45be1fdd311d4df5a089b9500364f85"), looks := true }, kinds := [], alts := [], laidByText := true, laidKinds := [.handle, .sentinel, .sentinel, .sentinel, .sentinel, .sentinel, .sentinel, .sentinel, .sentinel, .sentinel, .sentinel], laidTests := true, laidLooks := .later }
def TsoRefusesCardSaid : Prop := Claim7.holds Tryd.pinned (.plain (OpenSpec.ofChange tsoRefusesSpec)) tsoRefusesCard

/-- THE SECOND FORM's CARD OF 'assentlaw10.TsoRuns'. -/
def tsoRunsUptoCard : Claim7 := { stood := { row := tsoRunsUptoRow, standIns := [], harness := (true, "46b050468120548a5141646416eedabdf45be1fdd311d4df5a089b9500364f85"), looks := true }, kinds := [], alts := [], laidByText := true, laidKinds := [.handle, .sentinel, .sentinel, .sentinel, .sentinel, .sentinel, .sentinel, .sentinel, .sentinel, .sentinel, .sentinel], laidTests := true, laidLooks := .later }
def TsoRunsUptoCardSaid : Prop := Claim7.holds Tryd.pinned (.plain (OpenSpec.upto tsoRunsSpec)) tsoRunsUptoCard

/-- THE SECOND FORM's CARD OF 'assentlaw10.TsoReplays'. -/
def tsoReplaysUptoCard : Claim7 := { stood := { row := tsoReplaysUptoRow, standIns := [], harness := (true, "46b050468120548a5141646416eedabdf45be1fdd311d4df5a089b9500364f85"), looks := true }, kinds := [], alts := [], laidByText := true, laidKinds := [.handle, .sentinel, .sentinel, .sentinel, .sentinel, .sentinel, .sentinel, .sentinel, .sentinel, .sentinel, .sentinel], laidTests := true, laidLooks := .later }
def TsoReplaysUptoCardSaid : Prop := Claim7.holds Tryd.pinned (.plain (OpenSpec.upto tsoReplaysSpec)) tsoReplaysUptoCard

/-- THE SECOND FORM's CARD OF 'assentlaw10.TsoCas'. -/
def tsoCasUptoCard : Claim7 := { stood := { row := tsoCasUptoRow, standIns := [], harness := (true, "46b050468120548a5141646416eedabdf45be1fdd311d4df5a089b9500364f85"), looks := true }, kinds := [], alts := [], laidByText := true, laidKinds := [.handle, .sentinel, .sentinel, .sentinel, .sentinel, .sentinel, .sentinel, .sentinel, .sentinel, .sentinel, .sentinel], laidTests := true, laidLooks := .later }
def TsoCasUptoCardSaid : Prop := Claim7.holds Tryd.pinned (.plain (OpenSpec.upto tsoCasSpec)) tsoCasUptoCard

/-- THE SECOND FORM's CARD OF 'assentlaw10.TsoCommutes'. -/
def tsoCommutesUptoCard : Claim7 := { stood := { row := tsoCommutesUptoRow, standIns := [], harness := (true, "46b050468120548a5141646416eedabdf45be1fdd311d4df5a089b9500364f85"), looks := true }, kinds := [], alts := [], laidByText := true, laidKinds := [.handle, .sentinel, .sentinel, .sentinel, .sentinel, .sentinel, .sentinel, .sentinel, .sentinel, .sentinel, .sentinel], laidTests := true, laidLooks := .later }
def TsoCommutesUptoCardSaid : Prop := Claim7.holds Tryd.pinned (.plain (OpenSpec.upto tsoCommutesSpec)) tsoCommutesUptoCard

/-- THE SECOND FORM's CARD OF 'assentlaw10.TsoOrder'. -/
def tsoOrderUptoCard : Claim7 := { stood := { row := tsoOrderUptoRow, standIns := [], harness := (true, "46b050468120548a5141646416eedabdf45be1fdd311d4df5a089b9500364f85"), looks := true }, kinds := [], alts := [], laidByText := true, laidKinds := [.handle, .sentinel, .sentinel, .sentinel, .sentinel, .sentinel, .sentinel, .sentinel, .sentinel, .sentinel, .sentinel], laidTests := true, laidLooks := .later }
def TsoOrderUptoCardSaid : Prop := Claim7.holds Tryd.pinned (.plain (OpenSpec.upto tsoOrderSpec)) tsoOrderUptoCard

/-- THE SECOND FORM's CARD OF 'assentlaw10.TsoFences'. -/
def tsoFencesUptoCard : Claim7 := { stood := { row := tsoFencesUptoRow, standIns := [], harness := (true, "46b050468120548a5141646416eedabdf45be1fdd311d4df5a089b9500364f85"), looks := true }, kinds := [], alts := [], laidByText := true, laidKinds := [.handle, .sentinel, .sentinel, .sentinel, .sentinel, .sentinel, .sentinel, .sentinel, .sentinel, .sentinel, .sentinel], laidTests := true, laidLooks := .later }
def TsoFencesUptoCardSaid : Prop := Claim7.holds Tryd.pinned (.plain (OpenSpec.upto tsoFencesSpec)) tsoFencesUptoCard

/-- THE SECOND FORM's CARD OF 'assentlaw10.TsoHides'. -/
def tsoHidesUptoCard : Claim7 := { stood := { row := tsoHidesUptoRow, standIns := [], harness := (true, "46b050468120548a5141646416eedabdf45be1fdd311d4df5a089b9500364f85"), looks := true }, kinds := [], alts := [], laidByText := true, laidKinds := [.handle, .sentinel, .sentinel, .sentinel, .sentinel, .sentinel, .sentinel, .sentinel, .sentinel, .sentinel, .sentinel], laidTests := true, laidLooks := .later }
def TsoHidesUptoCardSaid : Prop := Claim7.holds Tryd.pinned (.plain (OpenSpec.upto tsoHidesSpec)) tsoHidesUptoCard

/-- THE SECOND FORM's CARD OF 'assentlaw10.TsoTwins'. -/
def tsoTwinsUptoCard : Claim7 := { stood := { row := tsoTwinsUptoRow, standIns := [], harness := (true, "46b050468120548a5141646416eedabdf45be1fdd311d4df5a089b9500364f85"), looks := true }, kinds := [], alts := [], laidByText := true, laidKinds := [.handle, .sentinel, .sentinel, .sentinel, .sentinel, .sentinel, .sentinel, .sentinel, .sentinel, .sentinel, .sentinel], laidTests := true, laidLooks := .later }
def TsoTwinsUptoCardSaid : Prop := Claim7.holds Tryd.pinned (.plain (OpenSpec.upto tsoTwinsSpec)) tsoTwinsUptoCard

/-- THE SECOND FORM's CARD OF 'assentlaw10.TsoPlays'. -/
def tsoPlaysUptoCard : Claim7 := { stood := { row := tsoPlaysUptoRow, standIns := [], harness := (true, "46b050468120548a5141646416eedabdf45be1fdd311d4df5a089b9500364f85"), looks := true }, kinds := [], alts := [], laidByText := true, laidKinds := [.handle, .sentinel, .sentinel, .sentinel, .sentinel, .sentinel, .sentinel, .sentinel, .sentinel, .sentinel, .sentinel], laidTests := true, laidLooks := .later }
def TsoPlaysUptoCardSaid : Prop := Claim7.holds Tryd.pinned (.plain (OpenSpec.upto tsoPlaysSpec)) tsoPlaysUptoCard

/-- THE SECOND FORM's CARD OF 'assentlaw10.TsoRefuses'. -/
def tsoRefusesUptoCard : Claim7 := { stood := { row := tsoRefusesUptoRow, standIns := [], harness := (true, "46b050468120548a5141646416eedabdf45be1fdd311d4df5a089b9500364f85"), looks := true }, kinds := [], alts := [], laidByText := true, laidKinds := [.handle, .sentinel, .sentinel, .sentinel, .sentinel, .sentinel, .sentinel, .sentinel, .sentinel, .sentinel, .sentinel], laidTests := true, laidLooks := .later }
def TsoRefusesUptoCardSaid : Prop := Claim7.holds Tryd.pinned (.plain (OpenSpec.upto tsoRefusesSpec)) tsoRefusesUptoCard
end Rows
end Go.Proofs.YtamklohnmbgklaaDoor
