/-
  NARROWER THAN 'FOR EVERY INPUT', by the rows' own cells (each row's printed sentence says how): AdaptRuns: laid · AdaptStays: laid · AdaptHolds: laid · AdaptApart: laid · AdaptRefuses: laid · AdaptStops: laid · GeomRuns: laid · GeomBack: laid · GeomTells: laid · GeomWhole: laid · GeomRefuses: laid · AdaptPlays: laid.
  DERIVED. THE GIVEN ROWS OF THIS SEAT. 12 by the template 'for every input the law returns true; each argument reads behind the call as it read before'; 0 by the template 'total and deterministic' (their statements: YtaecihljgbjmcaaDoorTotals.lean).
  GIVEN WITH THE SEED: the statements are not yours to turn. If you find one false, say at which input.
  Laid BY PROGRAM, IN A SANDBOX (cutbox-rows.mjs): the forced cells as the released guide's own fill.sh prints them over the translation d359f7a90be97081… (all of the seat's roots in one cut). By AI agents, Wed Nov 11 2026. No macro, syntax, notation, axiom, sorry.
-/
import Derived.Test.YtaecihljgbjmcaaDoorChecked
import GoSem.Claim
import GoSem.ClaimJoined
import GoSem.ClaimMapViews
import Derived.JoinedTies
import Derived.KernelRfl
namespace Go.Proofs.YtaecihljgbjmcaaDoor
/- THE CELL 'sum', in the pinned program and in every row, IS THE sha256 OF THE DUMP (.gsa) THAT YtaecihljgbjmcaaDoorProg.lean LOADS. Nothing in Lean hashes anything: it is a label: what it is worth is what the hold of that sum in a sandbox is worth. -/
noncomputable def Tryd.pinned : Pinned := { name := "ytaecihljgbjmcaadoor", sum := "d359f7a90be970814fb27d39c9b2d011cbeb0f6943f17b5b825bb8bc542bd98f", checked := Tryd.checked }
namespace Rows
def none {H : Type} : Left H := { results := [], args := [] }

/- WHAT THE LISTED PACKAGE-LEVEL VARIABLES READ AS WHEN THE CALL BEGINS. Each datum BY PROGRAM (the guide's laid-datum.mjs) off the statement by which the dump's own 'gosem.cut.vars' lays the variable. In a bare row this is a premise. The card (YtaecihljgbjmcaaDoorCards.lean) ties it to the program's text. -/
def laid_assent_api_ErrArg {H : Type} : DataW H := .iface "*errors.errorString" (.ptr (.agg [.lit (.string [97, 110, 32, 97, 114, 103, 117, 109, 101, 110, 116, 32, 116, 104, 97, 116, 32, 99, 97, 110, 39, 116, 32, 98, 101])]))
def laid_errors_errorType {H : Type} : DataW H := .iface "internal/reflectlite.rtype" (.agg [.ptr (.lit (.string [101, 114, 114, 111, 114]))])
def laid_assent_api_ErrLong {H : Type} : DataW H := .iface "*errors.errorString" (.ptr (.agg [.lit (.string [116, 111, 111, 32, 108, 111, 110, 103])]))
def laid_assent_api_ErrShort {H : Type} : DataW H := .iface "*errors.errorString" (.ptr (.agg [.lit (.string [116, 111, 111, 32, 115, 104, 111, 114, 116])]))
def laid_assent_api_ErrForm {H : Type} : DataW H := .iface "*errors.errorString" (.ptr (.agg [.lit (.string [110, 111, 116, 32, 105, 110, 32, 102, 111, 114, 109])]))
def laid_assent_api_ErrTail {H : Type} : DataW H := .iface "*errors.errorString" (.ptr (.agg [.lit (.string [115, 111, 109, 101, 116, 104, 105, 110, 103, 32, 108, 101, 102, 116, 32, 111, 118, 101, 114])]))
def laid_assent_api_ErrFull {H : Type} : DataW H := .iface "*errors.errorString" (.ptr (.agg [.lit (.string [110, 111, 32, 114, 111, 111, 109])]))
def laid_assent_api_ErrBusy {H : Type} : DataW H := .iface "*errors.errorString" (.ptr (.agg [.lit (.string [117, 110, 100, 101, 114, 32, 119, 97, 121])]))
def laid_assent_api_ErrNone {H : Type} : DataW H := .iface "*errors.errorString" (.ptr (.agg [.lit (.string [116, 104, 101, 114, 101, 32, 105, 115, 32, 110, 111, 110, 101])]))
def laid_assent_api_ErrOrder {H : Type} : DataW H := .iface "*errors.errorString" (.ptr (.agg [.lit (.string [110, 111, 116, 32, 105, 110, 32, 111, 114, 100, 101, 114])]))
def laid_assent_api_ErrValue {H : Type} : DataW H := .iface "*errors.errorString" (.ptr (.agg [.lit (.string [97, 110, 111, 116, 104, 101, 114, 32, 118, 97, 108, 117, 101])]))

/-- 'assentlaw16.AdaptRuns': WHATEVER THE INPUT: true; the input reads as it did. -/
def adaptRunsSpec : ChangeSpec := { name := "adaptRuns", fn := fun _ => fun
  | [] => { results := [.lit (.bool true)], args := [] }
  | _ => none }
def adaptRunsRow : OpenClaim := { program := "ytaecihljgbjmcaadoor", sum := "d359f7a90be970814fb27d39c9b2d011cbeb0f6943f17b5b825bb8bc542bd98f", func := "assent/assentlaw16.AdaptRuns", spec := "adaptRuns", named := ["assent/api.ErrArg"], apart := false, laid := [("assent/api.ErrArg", laid_assent_api_ErrArg)] }
def AdaptRunsSaid : Prop := adaptRunsRow.holds Tryd.pinned (OpenSpec.ofChange adaptRunsSpec)

/-- ITS FALSE NEIGHBOUR: 'it returns false'. Refute it at one input. -/
def adaptRunsWrong : ChangeSpec := { name := "adaptRuns", fn := fun _ => fun
  | [] => { results := [.lit (.bool false)], args := [] }
  | _ => none }
def AdaptRunsWrongFalsely : Prop := adaptRunsRow.holds Tryd.pinned (OpenSpec.ofChange adaptRunsWrong)

/-- 'assentlaw16.AdaptStays': WHATEVER THE INPUT: true; the input reads as it did. -/
def adaptStaysSpec : ChangeSpec := { name := "adaptStays", fn := fun _ => fun
  | [d1, d2, d3, d4] => { results := [.lit (.bool true)], args := [d1, d2, d3, d4] }
  | _ => none }
def adaptStaysRow : OpenClaim := { program := "ytaecihljgbjmcaadoor", sum := "d359f7a90be970814fb27d39c9b2d011cbeb0f6943f17b5b825bb8bc542bd98f", func := "assent/assentlaw16.AdaptStays", spec := "adaptStays", named := ["assent/api.ErrArg"], apart := false, laid := [("assent/api.ErrArg", laid_assent_api_ErrArg)] }
def AdaptStaysSaid : Prop := adaptStaysRow.holds Tryd.pinned (OpenSpec.ofChange adaptStaysSpec)

/-- ITS FALSE NEIGHBOUR: 'it returns false'. Refute it at one input. -/
def adaptStaysWrong : ChangeSpec := { name := "adaptStays", fn := fun _ => fun
  | [d1, d2, d3, d4] => { results := [.lit (.bool false)], args := [d1, d2, d3, d4] }
  | _ => none }
def AdaptStaysWrongFalsely : Prop := adaptStaysRow.holds Tryd.pinned (OpenSpec.ofChange adaptStaysWrong)

/-- 'assentlaw16.AdaptHolds': WHATEVER THE INPUT: true; the input reads as it did. -/
def adaptHoldsSpec : ChangeSpec := { name := "adaptHolds", fn := fun _ => fun
  | [d1, d2, d3, d4] => { results := [.lit (.bool true)], args := [d1, d2, d3, d4] }
  | _ => none }
def adaptHoldsRow : OpenClaim := { program := "ytaecihljgbjmcaadoor", sum := "d359f7a90be970814fb27d39c9b2d011cbeb0f6943f17b5b825bb8bc542bd98f", func := "assent/assentlaw16.AdaptHolds", spec := "adaptHolds", named := ["assent/api.ErrArg"], apart := false, laid := [("assent/api.ErrArg", laid_assent_api_ErrArg)] }
def AdaptHoldsSaid : Prop := adaptHoldsRow.holds Tryd.pinned (OpenSpec.ofChange adaptHoldsSpec)

/-- ITS FALSE NEIGHBOUR: 'it returns false'. Refute it at one input. -/
def adaptHoldsWrong : ChangeSpec := { name := "adaptHolds", fn := fun _ => fun
  | [d1, d2, d3, d4] => { results := [.lit (.bool false)], args := [d1, d2, d3, d4] }
  | _ => none }
def AdaptHoldsWrongFalsely : Prop := adaptHoldsRow.holds Tryd.pinned (OpenSpec.ofChange adaptHoldsWrong)

/-- 'assentlaw16.AdaptApart': WHATEVER THE INPUT: true; the input reads as it did. -/
def adaptApartSpec : ChangeSpec := { name := "adaptApart", fn := fun _ => fun
  | [d1, d2, d3, d4] => { results := [.lit (.bool true)], args := [d1, d2, d3, d4] }
  | _ => none }
def adaptApartRow : OpenClaim := { program := "ytaecihljgbjmcaadoor", sum := "d359f7a90be970814fb27d39c9b2d011cbeb0f6943f17b5b825bb8bc542bd98f", func := "assent/assentlaw16.AdaptApart", spec := "adaptApart", named := ["assent/api.ErrArg"], apart := false, laid := [("assent/api.ErrArg", laid_assent_api_ErrArg)] }
def AdaptApartSaid : Prop := adaptApartRow.holds Tryd.pinned (OpenSpec.ofChange adaptApartSpec)

/-- ITS FALSE NEIGHBOUR: 'it returns false'. Refute it at one input. -/
def adaptApartWrong : ChangeSpec := { name := "adaptApart", fn := fun _ => fun
  | [d1, d2, d3, d4] => { results := [.lit (.bool false)], args := [d1, d2, d3, d4] }
  | _ => none }
def AdaptApartWrongFalsely : Prop := adaptApartRow.holds Tryd.pinned (OpenSpec.ofChange adaptApartWrong)

/-- 'assentlaw16.AdaptRefuses': WHATEVER THE INPUT: true; the input reads as it did. -/
def adaptRefusesSpec : ChangeSpec := { name := "adaptRefuses", fn := fun _ => fun
  | [d1, d2, d3, d4] => { results := [.lit (.bool true)], args := [d1, d2, d3, d4] }
  | _ => none }
def adaptRefusesRow : OpenClaim := { program := "ytaecihljgbjmcaadoor", sum := "d359f7a90be970814fb27d39c9b2d011cbeb0f6943f17b5b825bb8bc542bd98f", func := "assent/assentlaw16.AdaptRefuses", spec := "adaptRefuses", named := ["assent/api.ErrArg"], apart := false, laid := [("assent/api.ErrArg", laid_assent_api_ErrArg)] }
def AdaptRefusesSaid : Prop := adaptRefusesRow.holds Tryd.pinned (OpenSpec.ofChange adaptRefusesSpec)

/-- ITS FALSE NEIGHBOUR: 'it returns false'. Refute it at one input. -/
def adaptRefusesWrong : ChangeSpec := { name := "adaptRefuses", fn := fun _ => fun
  | [d1, d2, d3, d4] => { results := [.lit (.bool false)], args := [d1, d2, d3, d4] }
  | _ => none }
def AdaptRefusesWrongFalsely : Prop := adaptRefusesRow.holds Tryd.pinned (OpenSpec.ofChange adaptRefusesWrong)

/-- 'assentlaw16.AdaptStops': WHATEVER THE INPUT: true; the input reads as it did. -/
def adaptStopsSpec : ChangeSpec := { name := "adaptStops", fn := fun _ => fun
  | [d1, d2] => { results := [.lit (.bool true)], args := [d1, d2] }
  | _ => none }
def adaptStopsRow : OpenClaim := { program := "ytaecihljgbjmcaadoor", sum := "d359f7a90be970814fb27d39c9b2d011cbeb0f6943f17b5b825bb8bc542bd98f", func := "assent/assentlaw16.AdaptStops", spec := "adaptStops", named := ["assent/api.ErrArg"], apart := false, laid := [("assent/api.ErrArg", laid_assent_api_ErrArg)] }
def AdaptStopsSaid : Prop := adaptStopsRow.holds Tryd.pinned (OpenSpec.ofChange adaptStopsSpec)

/-- ITS FALSE NEIGHBOUR: 'it returns false'. Refute it at one input. -/
def adaptStopsWrong : ChangeSpec := { name := "adaptStops", fn := fun _ => fun
  | [d1, d2] => { results := [.lit (.bool false)], args := [d1, d2] }
  | _ => none }
def AdaptStopsWrongFalsely : Prop := adaptStopsRow.holds Tryd.pinned (OpenSpec.ofChange adaptStopsWrong)

/-- 'assentlaw2.GeomRuns': WHATEVER THE INPUT: true; the input reads as it did. -/
def geomRunsSpec : ChangeSpec := { name := "geomRuns", fn := fun _ => fun
  | [] => { results := [.lit (.bool true)], args := [] }
  | _ => none }
def geomRunsRow : OpenClaim := { program := "ytaecihljgbjmcaadoor", sum := "d359f7a90be970814fb27d39c9b2d011cbeb0f6943f17b5b825bb8bc542bd98f", func := "assent/assentlaw2.GeomRuns", spec := "geomRuns", inPlace := ["internal/reflectlite.TypeOf", "internal/reflectlite.ValueOf", "(internal/reflectlite.Value).Type", "(internal/reflectlite.Value).IsNil", "(internal/reflectlite.Value).Elem", "(internal/reflectlite.Value).Set"], unfollowed := true, recurses := true, named := ["assent/api.ErrArg", "assent/api.ErrLong", "assent/api.ErrShort", "assent/api.ErrForm", "assent/api.ErrTail", "assent/api.ErrFull", "assent/api.ErrBusy", "assent/api.ErrNone", "assent/api.ErrOrder", "assent/api.ErrValue", "errors.errorType"], apart := false, laid := [("errors.errorType", laid_errors_errorType), ("assent/api.ErrArg", laid_assent_api_ErrArg), ("assent/api.ErrLong", laid_assent_api_ErrLong), ("assent/api.ErrShort", laid_assent_api_ErrShort), ("assent/api.ErrForm", laid_assent_api_ErrForm), ("assent/api.ErrTail", laid_assent_api_ErrTail), ("assent/api.ErrFull", laid_assent_api_ErrFull), ("assent/api.ErrBusy", laid_assent_api_ErrBusy), ("assent/api.ErrNone", laid_assent_api_ErrNone), ("assent/api.ErrOrder", laid_assent_api_ErrOrder), ("assent/api.ErrValue", laid_assent_api_ErrValue)] }
def GeomRunsSaid : Prop := geomRunsRow.holds Tryd.pinned (OpenSpec.ofChange geomRunsSpec)

/-- ITS FALSE NEIGHBOUR: 'it returns false'. Refute it at one input. -/
def geomRunsWrong : ChangeSpec := { name := "geomRuns", fn := fun _ => fun
  | [] => { results := [.lit (.bool false)], args := [] }
  | _ => none }
def GeomRunsWrongFalsely : Prop := geomRunsRow.holds Tryd.pinned (OpenSpec.ofChange geomRunsWrong)

/-- 'assentlaw2.GeomBack': WHATEVER THE INPUT: true; the input reads as it did. -/
def geomBackSpec : ChangeSpec := { name := "geomBack", fn := fun _ => fun
  | [d1, d2, d3] => { results := [.lit (.bool true)], args := [d1, d2, d3] }
  | _ => none }
def geomBackRow : OpenClaim := { program := "ytaecihljgbjmcaadoor", sum := "d359f7a90be970814fb27d39c9b2d011cbeb0f6943f17b5b825bb8bc542bd98f", func := "assent/assentlaw2.GeomBack", spec := "geomBack", inPlace := ["internal/reflectlite.TypeOf", "internal/reflectlite.ValueOf", "(internal/reflectlite.Value).Type", "(internal/reflectlite.Value).IsNil", "(internal/reflectlite.Value).Elem", "(internal/reflectlite.Value).Set"], unfollowed := true, recurses := true, named := ["assent/api.ErrArg", "assent/api.ErrLong", "assent/api.ErrShort", "assent/api.ErrForm", "assent/api.ErrTail", "assent/api.ErrFull", "assent/api.ErrBusy", "assent/api.ErrNone", "assent/api.ErrOrder", "assent/api.ErrValue", "errors.errorType"], apart := false, laid := [("errors.errorType", laid_errors_errorType), ("assent/api.ErrArg", laid_assent_api_ErrArg), ("assent/api.ErrLong", laid_assent_api_ErrLong), ("assent/api.ErrShort", laid_assent_api_ErrShort), ("assent/api.ErrForm", laid_assent_api_ErrForm), ("assent/api.ErrTail", laid_assent_api_ErrTail), ("assent/api.ErrFull", laid_assent_api_ErrFull), ("assent/api.ErrBusy", laid_assent_api_ErrBusy), ("assent/api.ErrNone", laid_assent_api_ErrNone), ("assent/api.ErrOrder", laid_assent_api_ErrOrder), ("assent/api.ErrValue", laid_assent_api_ErrValue)] }
def GeomBackSaid : Prop := geomBackRow.holds Tryd.pinned (OpenSpec.ofChange geomBackSpec)

/-- ITS FALSE NEIGHBOUR: 'it returns false'. Refute it at one input. -/
def geomBackWrong : ChangeSpec := { name := "geomBack", fn := fun _ => fun
  | [d1, d2, d3] => { results := [.lit (.bool false)], args := [d1, d2, d3] }
  | _ => none }
def GeomBackWrongFalsely : Prop := geomBackRow.holds Tryd.pinned (OpenSpec.ofChange geomBackWrong)

/-- 'assentlaw2.GeomTells': WHATEVER THE INPUT: true; the input reads as it did. -/
def geomTellsSpec : ChangeSpec := { name := "geomTells", fn := fun _ => fun
  | [d1, d2, d3, d4, d5] => { results := [.lit (.bool true)], args := [d1, d2, d3, d4, d5] }
  | _ => none }
def geomTellsRow : OpenClaim := { program := "ytaecihljgbjmcaadoor", sum := "d359f7a90be970814fb27d39c9b2d011cbeb0f6943f17b5b825bb8bc542bd98f", func := "assent/assentlaw2.GeomTells", spec := "geomTells", inPlace := ["internal/reflectlite.TypeOf", "internal/reflectlite.ValueOf", "(internal/reflectlite.Value).Type", "(internal/reflectlite.Value).IsNil", "(internal/reflectlite.Value).Elem", "(internal/reflectlite.Value).Set"], unfollowed := true, recurses := true, named := ["assent/api.ErrArg", "assent/api.ErrLong", "assent/api.ErrShort", "assent/api.ErrForm", "assent/api.ErrTail", "assent/api.ErrFull", "assent/api.ErrBusy", "assent/api.ErrNone", "assent/api.ErrOrder", "assent/api.ErrValue", "errors.errorType"], apart := false, laid := [("errors.errorType", laid_errors_errorType), ("assent/api.ErrArg", laid_assent_api_ErrArg), ("assent/api.ErrLong", laid_assent_api_ErrLong), ("assent/api.ErrShort", laid_assent_api_ErrShort), ("assent/api.ErrForm", laid_assent_api_ErrForm), ("assent/api.ErrTail", laid_assent_api_ErrTail), ("assent/api.ErrFull", laid_assent_api_ErrFull), ("assent/api.ErrBusy", laid_assent_api_ErrBusy), ("assent/api.ErrNone", laid_assent_api_ErrNone), ("assent/api.ErrOrder", laid_assent_api_ErrOrder), ("assent/api.ErrValue", laid_assent_api_ErrValue)] }
def GeomTellsSaid : Prop := geomTellsRow.holds Tryd.pinned (OpenSpec.ofChange geomTellsSpec)

/-- ITS FALSE NEIGHBOUR: 'it returns false'. Refute it at one input. -/
def geomTellsWrong : ChangeSpec := { name := "geomTells", fn := fun _ => fun
  | [d1, d2, d3, d4, d5] => { results := [.lit (.bool false)], args := [d1, d2, d3, d4, d5] }
  | _ => none }
def GeomTellsWrongFalsely : Prop := geomTellsRow.holds Tryd.pinned (OpenSpec.ofChange geomTellsWrong)

/-- 'assentlaw2.GeomWhole': WHATEVER THE INPUT: true; the input reads as it did. -/
def geomWholeSpec : ChangeSpec := { name := "geomWhole", fn := fun _ => fun
  | [d1, d2] => { results := [.lit (.bool true)], args := [d1, d2] }
  | _ => none }
def geomWholeRow : OpenClaim := { program := "ytaecihljgbjmcaadoor", sum := "d359f7a90be970814fb27d39c9b2d011cbeb0f6943f17b5b825bb8bc542bd98f", func := "assent/assentlaw2.GeomWhole", spec := "geomWhole", inPlace := ["internal/reflectlite.TypeOf", "internal/reflectlite.ValueOf", "(internal/reflectlite.Value).Type", "(internal/reflectlite.Value).IsNil", "(internal/reflectlite.Value).Elem", "(internal/reflectlite.Value).Set"], unfollowed := true, recurses := true, named := ["assent/api.ErrArg", "assent/api.ErrLong", "assent/api.ErrShort", "assent/api.ErrForm", "assent/api.ErrTail", "assent/api.ErrFull", "assent/api.ErrBusy", "assent/api.ErrNone", "assent/api.ErrOrder", "assent/api.ErrValue", "errors.errorType"], apart := false, laid := [("errors.errorType", laid_errors_errorType), ("assent/api.ErrArg", laid_assent_api_ErrArg), ("assent/api.ErrLong", laid_assent_api_ErrLong), ("assent/api.ErrShort", laid_assent_api_ErrShort), ("assent/api.ErrForm", laid_assent_api_ErrForm), ("assent/api.ErrTail", laid_assent_api_ErrTail), ("assent/api.ErrFull", laid_assent_api_ErrFull), ("assent/api.ErrBusy", laid_assent_api_ErrBusy), ("assent/api.ErrNone", laid_assent_api_ErrNone), ("assent/api.ErrOrder", laid_assent_api_ErrOrder), ("assent/api.ErrValue", laid_assent_api_ErrValue)] }
def GeomWholeSaid : Prop := geomWholeRow.holds Tryd.pinned (OpenSpec.ofChange geomWholeSpec)

/-- ITS FALSE NEIGHBOUR: 'it returns false'. Refute it at one input. -/
def geomWholeWrong : ChangeSpec := { name := "geomWhole", fn := fun _ => fun
  | [d1, d2] => { results := [.lit (.bool false)], args := [d1, d2] }
  | _ => none }
def GeomWholeWrongFalsely : Prop := geomWholeRow.holds Tryd.pinned (OpenSpec.ofChange geomWholeWrong)

/-- 'assentlaw2.GeomRefuses': WHATEVER THE INPUT: true; the input reads as it did. -/
def geomRefusesSpec : ChangeSpec := { name := "geomRefuses", fn := fun _ => fun
  | [d1, d2, d3] => { results := [.lit (.bool true)], args := [d1, d2, d3] }
  | _ => none }
def geomRefusesRow : OpenClaim := { program := "ytaecihljgbjmcaadoor", sum := "d359f7a90be970814fb27d39c9b2d011cbeb0f6943f17b5b825bb8bc542bd98f", func := "assent/assentlaw2.GeomRefuses", spec := "geomRefuses", inPlace := ["internal/reflectlite.TypeOf", "internal/reflectlite.ValueOf", "(internal/reflectlite.Value).Type", "(internal/reflectlite.Value).IsNil", "(internal/reflectlite.Value).Elem", "(internal/reflectlite.Value).Set"], unfollowed := true, recurses := true, named := ["assent/api.ErrArg", "assent/api.ErrLong", "assent/api.ErrShort", "assent/api.ErrForm", "assent/api.ErrTail", "assent/api.ErrFull", "assent/api.ErrBusy", "assent/api.ErrNone", "assent/api.ErrOrder", "assent/api.ErrValue", "errors.errorType"], apart := false, laid := [("errors.errorType", laid_errors_errorType), ("assent/api.ErrArg", laid_assent_api_ErrArg), ("assent/api.ErrLong", laid_assent_api_ErrLong), ("assent/api.ErrShort", laid_assent_api_ErrShort), ("assent/api.ErrForm", laid_assent_api_ErrForm), ("assent/api.ErrTail", laid_assent_api_ErrTail), ("assent/api.ErrFull", laid_assent_api_ErrFull), ("assent/api.ErrBusy", laid_assent_api_ErrBusy), ("assent/api.ErrNone", laid_assent_api_ErrNone), ("assent/api.ErrOrder", laid_assent_api_ErrOrder), ("assent/api.ErrValue", laid_assent_api_ErrValue)] }
def GeomRefusesSaid : Prop := geomRefusesRow.holds Tryd.pinned (OpenSpec.ofChange geomRefusesSpec)

/-- ITS FALSE NEIGHBOUR: 'it returns false'. Refute it at one input. -/
def geomRefusesWrong : ChangeSpec := { name := "geomRefuses", fn := fun _ => fun
  | [d1, d2, d3] => { results := [.lit (.bool false)], args := [d1, d2, d3] }
  | _ => none }
def GeomRefusesWrongFalsely : Prop := geomRefusesRow.holds Tryd.pinned (OpenSpec.ofChange geomRefusesWrong)

/-- 'assentlaw16.AdaptPlays': WHATEVER THE INPUT: true; the input reads as it did. -/
def adaptPlaysSpec : ChangeSpec := { name := "adaptPlays", fn := fun _ => fun
  | [d1, d2, d3, d4, d5] => { results := [.lit (.bool true)], args := [d1, d2, d3, d4, d5] }
  | _ => none }
def adaptPlaysRow : OpenClaim := { program := "ytaecihljgbjmcaadoor", sum := "d359f7a90be970814fb27d39c9b2d011cbeb0f6943f17b5b825bb8bc542bd98f", func := "assent/assentlaw16.AdaptPlays", spec := "adaptPlays", inPlace := ["internal/reflectlite.TypeOf", "internal/reflectlite.ValueOf", "(internal/reflectlite.Value).Type", "(internal/reflectlite.Value).IsNil", "(internal/reflectlite.Value).Elem", "(internal/reflectlite.Value).Set"], unfollowed := true, recurses := true, named := ["assent/api.ErrArg", "assent/api.ErrLong", "assent/api.ErrShort", "assent/api.ErrForm", "assent/api.ErrTail", "assent/api.ErrFull", "assent/api.ErrBusy", "assent/api.ErrNone", "assent/api.ErrOrder", "assent/api.ErrValue", "errors.errorType"], apart := false, laid := [("errors.errorType", laid_errors_errorType), ("assent/api.ErrArg", laid_assent_api_ErrArg), ("assent/api.ErrLong", laid_assent_api_ErrLong), ("assent/api.ErrShort", laid_assent_api_ErrShort), ("assent/api.ErrForm", laid_assent_api_ErrForm), ("assent/api.ErrTail", laid_assent_api_ErrTail), ("assent/api.ErrFull", laid_assent_api_ErrFull), ("assent/api.ErrBusy", laid_assent_api_ErrBusy), ("assent/api.ErrNone", laid_assent_api_ErrNone), ("assent/api.ErrOrder", laid_assent_api_ErrOrder), ("assent/api.ErrValue", laid_assent_api_ErrValue)] }
def AdaptPlaysSaid : Prop := adaptPlaysRow.holds Tryd.pinned (OpenSpec.ofChange adaptPlaysSpec)

/-- ITS FALSE NEIGHBOUR: 'it returns false'. Refute it at one input. -/
def adaptPlaysWrong : ChangeSpec := { name := "adaptPlays", fn := fun _ => fun
  | [d1, d2, d3, d4, d5] => { results := [.lit (.bool false)], args := [d1, d2, d3, d4, d5] }
  | _ => none }
def AdaptPlaysWrongFalsely : Prop := adaptPlaysRow.holds Tryd.pinned (OpenSpec.ofChange adaptPlaysWrong)

/- THE SECOND FORM. 'bulk': how many values and letters a reading holds, each counted each time it is reached (what is shared counts as often as it is met; a slice's spare places count too). A statement '..UptoSaid' is the law's where the arguments, and the package variables that the reading takes, are together of bulk at most 1048576: NARROWER than '..Said'. Prove '..Said' where nothing that the law and all that it calls make is longer than what came in: it says more and counts as full. Else prove '..UptoSaid'. A law counts once. -/
mutual
def uptoBulk {H : Type} : DataW H → Nat
  | .lit (.string bytes) => bytes.length + 1
  | .lit _ => 1
  | .nil => 1
  | .ptr d => uptoBulk d + 1
  | .slice elems spare => uptoBulkAll elems + uptoBulkAll spare + 1
  | .agg parts => uptoBulkAll parts + 1
  | .iface _ d => uptoBulk d + 1
  | .map entries => uptoBulkEntries entries + 1
  | .held _ => 1
def uptoBulkAll {H : Type} : List (DataW H) → Nat
  | [] => 0
  | d :: r => uptoBulk d + uptoBulkAll r
def uptoBulkEntries {H : Type} : List (Lit × DataW H) → Nat
  | [] => 0
  | x :: r => uptoBulkEntry x + uptoBulkEntries r
def uptoBulkEntry {H : Type} : Lit × DataW H → Nat
  | (.string bytes, d) => bytes.length + uptoBulk d + 1
  | (_, d) => uptoBulk d + 1
 end
def uptoSmall : (H : Type) → List (DataW H) → Bool := fun _ ds => decide (uptoBulkAll ds ≤ 1048576)
def OpenSpec.upto (s : _root_.Go.ChangeSpec) : _root_.Go.OpenSpec := { _root_.Go.OpenSpec.ofChange s with cond := some uptoSmall }

/-- 'assentlaw16.AdaptRuns', WHERE WHAT IT READS IS OF BULK AT MOST 1048576: true; the input reads as it did. -/
def adaptRunsUptoRow : OpenClaim := { program := "ytaecihljgbjmcaadoor", sum := "d359f7a90be970814fb27d39c9b2d011cbeb0f6943f17b5b825bb8bc542bd98f", func := "assent/assentlaw16.AdaptRuns", spec := "adaptRuns", named := ["assent/api.ErrArg"], apart := false, laid := [("assent/api.ErrArg", laid_assent_api_ErrArg)], narrowed := true }
def AdaptRunsUptoSaid : Prop := adaptRunsUptoRow.holds Tryd.pinned (OpenSpec.upto adaptRunsSpec)

/-- 'assentlaw16.AdaptStays', WHERE WHAT IT READS IS OF BULK AT MOST 1048576: true; the input reads as it did. -/
def adaptStaysUptoRow : OpenClaim := { program := "ytaecihljgbjmcaadoor", sum := "d359f7a90be970814fb27d39c9b2d011cbeb0f6943f17b5b825bb8bc542bd98f", func := "assent/assentlaw16.AdaptStays", spec := "adaptStays", named := ["assent/api.ErrArg"], apart := false, laid := [("assent/api.ErrArg", laid_assent_api_ErrArg)], narrowed := true }
def AdaptStaysUptoSaid : Prop := adaptStaysUptoRow.holds Tryd.pinned (OpenSpec.upto adaptStaysSpec)

/-- 'assentlaw16.AdaptHolds', WHERE WHAT IT READS IS OF BULK AT MOST 1048576: true; the input reads as it did. -/
def adaptHoldsUptoRow : OpenClaim := { program := "ytaecihljgbjmcaadoor", sum := "d359f7a90be970814fb27d39c9b2d011cbeb0f6943f17b5b825bb8bc542bd98f", func := "assent/assentlaw16.AdaptHolds", spec := "adaptHolds", named := ["assent/api.ErrArg"], apart := false, laid := [("assent/api.ErrArg", laid_assent_api_ErrArg)], narrowed := true }
def AdaptHoldsUptoSaid : Prop := adaptHoldsUptoRow.holds Tryd.pinned (OpenSpec.upto adaptHoldsSpec)

/-- 'assentlaw16.AdaptApart', WHERE WHAT IT READS IS OF BULK AT MOST 1048576: true; the input reads as it did. -/
def adaptApartUptoRow : OpenClaim := { program := "ytaecihljgbjmcaadoor", sum := "d359f7a90be970814fb27d39c9b2d011cbeb0f6943f17b5b825bb8bc542bd98f", func := "assent/assentlaw16.AdaptApart", spec := "adaptApart", named := ["assent/api.ErrArg"], apart := false, laid := [("assent/api.ErrArg", laid_assent_api_ErrArg)], narrowed := true }
def AdaptApartUptoSaid : Prop := adaptApartUptoRow.holds Tryd.pinned (OpenSpec.upto adaptApartSpec)

/-- 'assentlaw16.AdaptRefuses', WHERE WHAT IT READS IS OF BULK AT MOST 1048576: true; the input reads as it did. -/
def adaptRefusesUptoRow : OpenClaim := { program := "ytaecihljgbjmcaadoor", sum := "d359f7a90be970814fb27d39c9b2d011cbeb0f6943f17b5b825bb8bc542bd98f", func := "assent/assentlaw16.AdaptRefuses", spec := "adaptRefuses", named := ["assent/api.ErrArg"], apart := false, laid := [("assent/api.ErrArg", laid_assent_api_ErrArg)], narrowed := true }
def AdaptRefusesUptoSaid : Prop := adaptRefusesUptoRow.holds Tryd.pinned (OpenSpec.upto adaptRefusesSpec)

/-- 'assentlaw16.AdaptStops', WHERE WHAT IT READS IS OF BULK AT MOST 1048576: true; the input reads as it did. -/
def adaptStopsUptoRow : OpenClaim := { program := "ytaecihljgbjmcaadoor", sum := "d359f7a90be970814fb27d39c9b2d011cbeb0f6943f17b5b825bb8bc542bd98f", func := "assent/assentlaw16.AdaptStops", spec := "adaptStops", named := ["assent/api.ErrArg"], apart := false, laid := [("assent/api.ErrArg", laid_assent_api_ErrArg)], narrowed := true }
def AdaptStopsUptoSaid : Prop := adaptStopsUptoRow.holds Tryd.pinned (OpenSpec.upto adaptStopsSpec)

/-- 'assentlaw2.GeomRuns', WHERE WHAT IT READS IS OF BULK AT MOST 1048576: true; the input reads as it did. -/
def geomRunsUptoRow : OpenClaim := { program := "ytaecihljgbjmcaadoor", sum := "d359f7a90be970814fb27d39c9b2d011cbeb0f6943f17b5b825bb8bc542bd98f", func := "assent/assentlaw2.GeomRuns", spec := "geomRuns", inPlace := ["internal/reflectlite.TypeOf", "internal/reflectlite.ValueOf", "(internal/reflectlite.Value).Type", "(internal/reflectlite.Value).IsNil", "(internal/reflectlite.Value).Elem", "(internal/reflectlite.Value).Set"], unfollowed := true, recurses := true, named := ["assent/api.ErrArg", "assent/api.ErrLong", "assent/api.ErrShort", "assent/api.ErrForm", "assent/api.ErrTail", "assent/api.ErrFull", "assent/api.ErrBusy", "assent/api.ErrNone", "assent/api.ErrOrder", "assent/api.ErrValue", "errors.errorType"], apart := false, laid := [("errors.errorType", laid_errors_errorType), ("assent/api.ErrArg", laid_assent_api_ErrArg), ("assent/api.ErrLong", laid_assent_api_ErrLong), ("assent/api.ErrShort", laid_assent_api_ErrShort), ("assent/api.ErrForm", laid_assent_api_ErrForm), ("assent/api.ErrTail", laid_assent_api_ErrTail), ("assent/api.ErrFull", laid_assent_api_ErrFull), ("assent/api.ErrBusy", laid_assent_api_ErrBusy), ("assent/api.ErrNone", laid_assent_api_ErrNone), ("assent/api.ErrOrder", laid_assent_api_ErrOrder), ("assent/api.ErrValue", laid_assent_api_ErrValue)], narrowed := true }
def GeomRunsUptoSaid : Prop := geomRunsUptoRow.holds Tryd.pinned (OpenSpec.upto geomRunsSpec)

/-- 'assentlaw2.GeomBack', WHERE WHAT IT READS IS OF BULK AT MOST 1048576: true; the input reads as it did. -/
def geomBackUptoRow : OpenClaim := { program := "ytaecihljgbjmcaadoor", sum := "d359f7a90be970814fb27d39c9b2d011cbeb0f6943f17b5b825bb8bc542bd98f", func := "assent/assentlaw2.GeomBack", spec := "geomBack", inPlace := ["internal/reflectlite.TypeOf", "internal/reflectlite.ValueOf", "(internal/reflectlite.Value).Type", "(internal/reflectlite.Value).IsNil", "(internal/reflectlite.Value).Elem", "(internal/reflectlite.Value).Set"], unfollowed := true, recurses := true, named := ["assent/api.ErrArg", "assent/api.ErrLong", "assent/api.ErrShort", "assent/api.ErrForm", "assent/api.ErrTail", "assent/api.ErrFull", "assent/api.ErrBusy", "assent/api.ErrNone", "assent/api.ErrOrder", "assent/api.ErrValue", "errors.errorType"], apart := false, laid := [("errors.errorType", laid_errors_errorType), ("assent/api.ErrArg", laid_assent_api_ErrArg), ("assent/api.ErrLong", laid_assent_api_ErrLong), ("assent/api.ErrShort", laid_assent_api_ErrShort), ("assent/api.ErrForm", laid_assent_api_ErrForm), ("assent/api.ErrTail", laid_assent_api_ErrTail), ("assent/api.ErrFull", laid_assent_api_ErrFull), ("assent/api.ErrBusy", laid_assent_api_ErrBusy), ("assent/api.ErrNone", laid_assent_api_ErrNone), ("assent/api.ErrOrder", laid_assent_api_ErrOrder), ("assent/api.ErrValue", laid_assent_api_ErrValue)], narrowed := true }
def GeomBackUptoSaid : Prop := geomBackUptoRow.holds Tryd.pinned (OpenSpec.upto geomBackSpec)

/-- 'assentlaw2.GeomTells', WHERE WHAT IT READS IS OF BULK AT MOST 1048576: true; the input reads as it did. -/
def geomTellsUptoRow : OpenClaim := { program := "ytaecihljgbjmcaadoor", sum := "d359f7a90be970814fb27d39c9b2d011cbeb0f6943f17b5b825bb8bc542bd98f", func := "assent/assentlaw2.GeomTells", spec := "geomTells", inPlace := ["internal/reflectlite.TypeOf", "internal/reflectlite.ValueOf", "(internal/reflectlite.Value).Type", "(internal/reflectlite.Value).IsNil", "(internal/reflectlite.Value).Elem", "(internal/reflectlite.Value).Set"], unfollowed := true, recurses := true, named := ["assent/api.ErrArg", "assent/api.ErrLong", "assent/api.ErrShort", "assent/api.ErrForm", "assent/api.ErrTail", "assent/api.ErrFull", "assent/api.ErrBusy", "assent/api.ErrNone", "assent/api.ErrOrder", "assent/api.ErrValue", "errors.errorType"], apart := false, laid := [("errors.errorType", laid_errors_errorType), ("assent/api.ErrArg", laid_assent_api_ErrArg), ("assent/api.ErrLong", laid_assent_api_ErrLong), ("assent/api.ErrShort", laid_assent_api_ErrShort), ("assent/api.ErrForm", laid_assent_api_ErrForm), ("assent/api.ErrTail", laid_assent_api_ErrTail), ("assent/api.ErrFull", laid_assent_api_ErrFull), ("assent/api.ErrBusy", laid_assent_api_ErrBusy), ("assent/api.ErrNone", laid_assent_api_ErrNone), ("assent/api.ErrOrder", laid_assent_api_ErrOrder), ("assent/api.ErrValue", laid_assent_api_ErrValue)], narrowed := true }
def GeomTellsUptoSaid : Prop := geomTellsUptoRow.holds Tryd.pinned (OpenSpec.upto geomTellsSpec)

/-- 'assentlaw2.GeomWhole', WHERE WHAT IT READS IS OF BULK AT MOST 1048576: true; the input reads as it did. -/
def geomWholeUptoRow : OpenClaim := { program := "ytaecihljgbjmcaadoor", sum := "d359f7a90be970814fb27d39c9b2d011cbeb0f6943f17b5b825bb8bc542bd98f", func := "assent/assentlaw2.GeomWhole", spec := "geomWhole", inPlace := ["internal/reflectlite.TypeOf", "internal/reflectlite.ValueOf", "(internal/reflectlite.Value).Type", "(internal/reflectlite.Value).IsNil", "(internal/reflectlite.Value).Elem", "(internal/reflectlite.Value).Set"], unfollowed := true, recurses := true, named := ["assent/api.ErrArg", "assent/api.ErrLong", "assent/api.ErrShort", "assent/api.ErrForm", "assent/api.ErrTail", "assent/api.ErrFull", "assent/api.ErrBusy", "assent/api.ErrNone", "assent/api.ErrOrder", "assent/api.ErrValue", "errors.errorType"], apart := false, laid := [("errors.errorType", laid_errors_errorType), ("assent/api.ErrArg", laid_assent_api_ErrArg), ("assent/api.ErrLong", laid_assent_api_ErrLong), ("assent/api.ErrShort", laid_assent_api_ErrShort), ("assent/api.ErrForm", laid_assent_api_ErrForm), ("assent/api.ErrTail", laid_assent_api_ErrTail), ("assent/api.ErrFull", laid_assent_api_ErrFull), ("assent/api.ErrBusy", laid_assent_api_ErrBusy), ("assent/api.ErrNone", laid_assent_api_ErrNone), ("assent/api.ErrOrder", laid_assent_api_ErrOrder), ("assent/api.ErrValue", laid_assent_api_ErrValue)], narrowed := true }
def GeomWholeUptoSaid : Prop := geomWholeUptoRow.holds Tryd.pinned (OpenSpec.upto geomWholeSpec)

/-- 'assentlaw2.GeomRefuses', WHERE WHAT IT READS IS OF BULK AT MOST 1048576: true; the input reads as it did. -/
def geomRefusesUptoRow : OpenClaim := { program := "ytaecihljgbjmcaadoor", sum := "d359f7a90be970814fb27d39c9b2d011cbeb0f6943f17b5b825bb8bc542bd98f", func := "assent/assentlaw2.GeomRefuses", spec := "geomRefuses", inPlace := ["internal/reflectlite.TypeOf", "internal/reflectlite.ValueOf", "(internal/reflectlite.Value).Type", "(internal/reflectlite.Value).IsNil", "(internal/reflectlite.Value).Elem", "(internal/reflectlite.Value).Set"], unfollowed := true, recurses := true, named := ["assent/api.ErrArg", "assent/api.ErrLong", "assent/api.ErrShort", "assent/api.ErrForm", "assent/api.ErrTail", "assent/api.ErrFull", "assent/api.ErrBusy", "assent/api.ErrNone", "assent/api.ErrOrder", "assent/api.ErrValue", "errors.errorType"], apart := false, laid := [("errors.errorType", laid_errors_errorType), ("assent/api.ErrArg", laid_assent_api_ErrArg), ("assent/api.ErrLong", laid_assent_api_ErrLong), ("assent/api.ErrShort", laid_assent_api_ErrShort), ("assent/api.ErrForm", laid_assent_api_ErrForm), ("assent/api.ErrTail", laid_assent_api_ErrTail), ("assent/api.ErrFull", laid_assent_api_ErrFull), ("assent/api.ErrBusy", laid_assent_api_ErrBusy), ("assent/api.ErrNone", laid_assent_api_ErrNone), ("assent/api.ErrOrder", laid_assent_api_ErrOrder), ("assent/api.ErrValue", laid_assent_api_ErrValue)], narrowed := true }
def GeomRefusesUptoSaid : Prop := geomRefusesUptoRow.holds Tryd.pinned (OpenSpec.upto geomRefusesSpec)

/-- 'assentlaw16.AdaptPlays', WHERE WHAT IT READS IS OF BULK AT MOST 1048576: true; the input reads as it did. -/
def adaptPlaysUptoRow : OpenClaim := { program := "ytaecihljgbjmcaadoor", sum := "d359f7a90be970814fb27d39c9b2d011cbeb0f6943f17b5b825bb8bc542bd98f", func := "assent/assentlaw16.AdaptPlays", spec := "adaptPlays", inPlace := ["internal/reflectlite.TypeOf", "internal/reflectlite.ValueOf", "(internal/reflectlite.Value).Type", "(internal/reflectlite.Value).IsNil", "(internal/reflectlite.Value).Elem", "(internal/reflectlite.Value).Set"], unfollowed := true, recurses := true, named := ["assent/api.ErrArg", "assent/api.ErrLong", "assent/api.ErrShort", "assent/api.ErrForm", "assent/api.ErrTail", "assent/api.ErrFull", "assent/api.ErrBusy", "assent/api.ErrNone", "assent/api.ErrOrder", "assent/api.ErrValue", "errors.errorType"], apart := false, laid := [("errors.errorType", laid_errors_errorType), ("assent/api.ErrArg", laid_assent_api_ErrArg), ("assent/api.ErrLong", laid_assent_api_ErrLong), ("assent/api.ErrShort", laid_assent_api_ErrShort), ("assent/api.ErrForm", laid_assent_api_ErrForm), ("assent/api.ErrTail", laid_assent_api_ErrTail), ("assent/api.ErrFull", laid_assent_api_ErrFull), ("assent/api.ErrBusy", laid_assent_api_ErrBusy), ("assent/api.ErrNone", laid_assent_api_ErrNone), ("assent/api.ErrOrder", laid_assent_api_ErrOrder), ("assent/api.ErrValue", laid_assent_api_ErrValue)], narrowed := true }
def AdaptPlaysUptoSaid : Prop := adaptPlaysUptoRow.holds Tryd.pinned (OpenSpec.upto adaptPlaysSpec)

end Rows
end Go.Proofs.YtaecihljgbjmcaaDoor
