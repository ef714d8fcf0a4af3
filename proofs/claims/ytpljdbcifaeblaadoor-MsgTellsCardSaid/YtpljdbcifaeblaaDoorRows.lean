/-
  NARROWER THAN 'FOR EVERY INPUT', by the rows' own cells (each row's printed sentence says how): ProgRuns: laid · ProgWrites: laid · ProgBack: laid · ProgNames: laid · ProgBytes: laid · ProgEmpty: laid · MsgRuns: laid · MsgTells: laid · MsgBack: laid · MsgBare: laid · MsgPools: laid · MsgApart: laid.
  DERIVED. THE GIVEN ROWS OF THIS SEAT. 12 by the template 'for every input the law returns true; each argument reads behind the call as it read before'; 0 by the template 'total and deterministic' (their statements: YtpljdbcifaeblaaDoorTotals.lean).
  GIVEN WITH THE SEED: the statements are not yours to turn. If you find one false, say at which input.
  Laid BY PROGRAM, IN A SANDBOX (cutbox-rows.mjs): the forced cells as the released guide's own fill.sh prints them over the translation 5d7255a8194fc648… (all of the seat's roots in one cut). By AI agents, Wed Nov 11 2026. No macro, syntax, notation, axiom, sorry.
-/
import Derived.Test.YtpljdbcifaeblaaDoorChecked
import GoSem.Claim
import GoSem.ClaimJoined
import GoSem.ClaimMapViews
import Derived.JoinedTies
import Derived.KernelRfl
namespace Go.Proofs.YtpljdbcifaeblaaDoor
/- THE CELL 'sum', in the pinned program and in every row, IS THE sha256 OF THE DUMP (.gsa) THAT YtpljdbcifaeblaaDoorProg.lean LOADS. Nothing in Lean hashes anything: it is a label: what it is worth is what the hold of that sum in a sandbox is worth. -/
noncomputable def Tryd.pinned : Pinned := { name := "ytpljdbcifaeblaadoor", sum := "5d7255a8194fc648562ac4e446e6aca5cd80038d4045e895500ea6941d22d605", checked := Tryd.checked }
namespace Rows
def none {H : Type} : Left H := { results := [], args := [] }

/- WHAT THE LISTED PACKAGE-LEVEL VARIABLES READ AS WHEN THE CALL BEGINS. Each datum BY PROGRAM (the guide's laid-datum.mjs) off the statement by which the dump's own 'gosem.cut.vars' lays the variable. In a bare row this is a premise. The card (YtpljdbcifaeblaaDoorCards.lean) ties it to the program's text. -/
def laid_errors_errorType {H : Type} : DataW H := .iface "internal/reflectlite.rtype" (.agg [.ptr (.lit (.string [101, 114, 114, 111, 114]))])
def laid_assent_api_ErrArg {H : Type} : DataW H := .iface "*errors.errorString" (.ptr (.agg [.lit (.string [97, 110, 32, 97, 114, 103, 117, 109, 101, 110, 116, 32, 116, 104, 97, 116, 32, 99, 97, 110, 39, 116, 32, 98, 101])]))
def laid_assent_api_ErrLong {H : Type} : DataW H := .iface "*errors.errorString" (.ptr (.agg [.lit (.string [116, 111, 111, 32, 108, 111, 110, 103])]))
def laid_assent_api_ErrShort {H : Type} : DataW H := .iface "*errors.errorString" (.ptr (.agg [.lit (.string [116, 111, 111, 32, 115, 104, 111, 114, 116])]))
def laid_assent_api_ErrForm {H : Type} : DataW H := .iface "*errors.errorString" (.ptr (.agg [.lit (.string [110, 111, 116, 32, 105, 110, 32, 102, 111, 114, 109])]))
def laid_assent_api_ErrTail {H : Type} : DataW H := .iface "*errors.errorString" (.ptr (.agg [.lit (.string [115, 111, 109, 101, 116, 104, 105, 110, 103, 32, 108, 101, 102, 116, 32, 111, 118, 101, 114])]))
def laid_assent_api_ErrFull {H : Type} : DataW H := .iface "*errors.errorString" (.ptr (.agg [.lit (.string [110, 111, 32, 114, 111, 111, 109])]))
def laid_assent_api_ErrBusy {H : Type} : DataW H := .iface "*errors.errorString" (.ptr (.agg [.lit (.string [117, 110, 100, 101, 114, 32, 119, 97, 121])]))
def laid_assent_api_ErrNone {H : Type} : DataW H := .iface "*errors.errorString" (.ptr (.agg [.lit (.string [116, 104, 101, 114, 101, 32, 105, 115, 32, 110, 111, 110, 101])]))
def laid_assent_api_ErrOrder {H : Type} : DataW H := .iface "*errors.errorString" (.ptr (.agg [.lit (.string [110, 111, 116, 32, 105, 110, 32, 111, 114, 100, 101, 114])]))
def laid_assent_api_ErrValue {H : Type} : DataW H := .iface "*errors.errorString" (.ptr (.agg [.lit (.string [97, 110, 111, 116, 104, 101, 114, 32, 118, 97, 108, 117, 101])]))

/-- 'assentlaw9.ProgRuns': WHATEVER THE INPUT: true; the input reads as it did. -/
def progRunsSpec : ChangeSpec := { name := "progRuns", fn := fun _ => fun
  | [] => { results := [.lit (.bool true)], args := [] }
  | _ => none }
def progRunsRow : OpenClaim := { program := "ytpljdbcifaeblaadoor", sum := "5d7255a8194fc648562ac4e446e6aca5cd80038d4045e895500ea6941d22d605", func := "assent/assentlaw9.ProgRuns", spec := "progRuns", inPlace := ["internal/reflectlite.TypeOf", "internal/reflectlite.ValueOf", "(internal/reflectlite.Value).Type", "(internal/reflectlite.Value).IsNil", "(internal/reflectlite.Value).Elem", "(internal/reflectlite.Value).Set"], unfollowed := true, recurses := true, named := ["assent/api.ErrLong", "assent/api.ErrArg", "assent/api.ErrForm", "assent/api.ErrShort", "assent/api.ErrTail", "assent/api.ErrFull", "assent/api.ErrBusy", "assent/api.ErrNone", "assent/api.ErrOrder", "assent/api.ErrValue", "errors.errorType"], apart := false, laid := [("errors.errorType", laid_errors_errorType), ("assent/api.ErrArg", laid_assent_api_ErrArg), ("assent/api.ErrLong", laid_assent_api_ErrLong), ("assent/api.ErrShort", laid_assent_api_ErrShort), ("assent/api.ErrForm", laid_assent_api_ErrForm), ("assent/api.ErrTail", laid_assent_api_ErrTail), ("assent/api.ErrFull", laid_assent_api_ErrFull), ("assent/api.ErrBusy", laid_assent_api_ErrBusy), ("assent/api.ErrNone", laid_assent_api_ErrNone), ("assent/api.ErrOrder", laid_assent_api_ErrOrder), ("assent/api.ErrValue", laid_assent_api_ErrValue)] }
def ProgRunsSaid : Prop := progRunsRow.holds Tryd.pinned (OpenSpec.ofChange progRunsSpec)

/-- ITS FALSE NEIGHBOUR: 'it returns false'. Refute it at one input. -/
def progRunsWrong : ChangeSpec := { name := "progRuns", fn := fun _ => fun
  | [] => { results := [.lit (.bool false)], args := [] }
  | _ => none }
def ProgRunsWrongFalsely : Prop := progRunsRow.holds Tryd.pinned (OpenSpec.ofChange progRunsWrong)

/-- 'assentlaw9.ProgWrites': WHATEVER THE INPUT: true; the input reads as it did. -/
def progWritesSpec : ChangeSpec := { name := "progWrites", fn := fun _ => fun
  | [d1, d2] => { results := [.lit (.bool true)], args := [d1, d2] }
  | _ => none }
def progWritesRow : OpenClaim := { program := "ytpljdbcifaeblaadoor", sum := "5d7255a8194fc648562ac4e446e6aca5cd80038d4045e895500ea6941d22d605", func := "assent/assentlaw9.ProgWrites", spec := "progWrites", inPlace := ["internal/reflectlite.TypeOf", "internal/reflectlite.ValueOf", "(internal/reflectlite.Value).Type", "(internal/reflectlite.Value).IsNil", "(internal/reflectlite.Value).Elem", "(internal/reflectlite.Value).Set"], unfollowed := true, recurses := true, named := ["assent/api.ErrLong", "assent/api.ErrArg", "assent/api.ErrShort", "assent/api.ErrForm", "assent/api.ErrTail", "assent/api.ErrFull", "assent/api.ErrBusy", "assent/api.ErrNone", "assent/api.ErrOrder", "assent/api.ErrValue", "errors.errorType"], apart := false, laid := [("errors.errorType", laid_errors_errorType), ("assent/api.ErrArg", laid_assent_api_ErrArg), ("assent/api.ErrLong", laid_assent_api_ErrLong), ("assent/api.ErrShort", laid_assent_api_ErrShort), ("assent/api.ErrForm", laid_assent_api_ErrForm), ("assent/api.ErrTail", laid_assent_api_ErrTail), ("assent/api.ErrFull", laid_assent_api_ErrFull), ("assent/api.ErrBusy", laid_assent_api_ErrBusy), ("assent/api.ErrNone", laid_assent_api_ErrNone), ("assent/api.ErrOrder", laid_assent_api_ErrOrder), ("assent/api.ErrValue", laid_assent_api_ErrValue)] }
def ProgWritesSaid : Prop := progWritesRow.holds Tryd.pinned (OpenSpec.ofChange progWritesSpec)

/-- ITS FALSE NEIGHBOUR: 'it returns false'. Refute it at one input. -/
def progWritesWrong : ChangeSpec := { name := "progWrites", fn := fun _ => fun
  | [d1, d2] => { results := [.lit (.bool false)], args := [d1, d2] }
  | _ => none }
def ProgWritesWrongFalsely : Prop := progWritesRow.holds Tryd.pinned (OpenSpec.ofChange progWritesWrong)

/-- 'assentlaw9.ProgBack': WHATEVER THE INPUT: true; the input reads as it did. -/
def progBackSpec : ChangeSpec := { name := "progBack", fn := fun _ => fun
  | [d1, d2, d3, d4] => { results := [.lit (.bool true)], args := [d1, d2, d3, d4] }
  | _ => none }
def progBackRow : OpenClaim := { program := "ytpljdbcifaeblaadoor", sum := "5d7255a8194fc648562ac4e446e6aca5cd80038d4045e895500ea6941d22d605", func := "assent/assentlaw9.ProgBack", spec := "progBack", inPlace := ["internal/reflectlite.TypeOf", "internal/reflectlite.ValueOf", "(internal/reflectlite.Value).Type", "(internal/reflectlite.Value).IsNil", "(internal/reflectlite.Value).Elem", "(internal/reflectlite.Value).Set"], unfollowed := true, recurses := true, named := ["assent/api.ErrLong", "assent/api.ErrArg", "assent/api.ErrForm", "assent/api.ErrShort", "assent/api.ErrTail", "assent/api.ErrFull", "assent/api.ErrBusy", "assent/api.ErrNone", "assent/api.ErrOrder", "assent/api.ErrValue", "errors.errorType"], apart := false, laid := [("errors.errorType", laid_errors_errorType), ("assent/api.ErrArg", laid_assent_api_ErrArg), ("assent/api.ErrLong", laid_assent_api_ErrLong), ("assent/api.ErrShort", laid_assent_api_ErrShort), ("assent/api.ErrForm", laid_assent_api_ErrForm), ("assent/api.ErrTail", laid_assent_api_ErrTail), ("assent/api.ErrFull", laid_assent_api_ErrFull), ("assent/api.ErrBusy", laid_assent_api_ErrBusy), ("assent/api.ErrNone", laid_assent_api_ErrNone), ("assent/api.ErrOrder", laid_assent_api_ErrOrder), ("assent/api.ErrValue", laid_assent_api_ErrValue)] }
def ProgBackSaid : Prop := progBackRow.holds Tryd.pinned (OpenSpec.ofChange progBackSpec)

/-- ITS FALSE NEIGHBOUR: 'it returns false'. Refute it at one input. -/
def progBackWrong : ChangeSpec := { name := "progBack", fn := fun _ => fun
  | [d1, d2, d3, d4] => { results := [.lit (.bool false)], args := [d1, d2, d3, d4] }
  | _ => none }
def ProgBackWrongFalsely : Prop := progBackRow.holds Tryd.pinned (OpenSpec.ofChange progBackWrong)

/-- 'assentlaw9.ProgNames': WHATEVER THE INPUT: true; the input reads as it did. -/
def progNamesSpec : ChangeSpec := { name := "progNames", fn := fun _ => fun
  | [d1, d2, d3] => { results := [.lit (.bool true)], args := [d1, d2, d3] }
  | _ => none }
def progNamesRow : OpenClaim := { program := "ytpljdbcifaeblaadoor", sum := "5d7255a8194fc648562ac4e446e6aca5cd80038d4045e895500ea6941d22d605", func := "assent/assentlaw9.ProgNames", spec := "progNames", inPlace := ["internal/reflectlite.TypeOf", "internal/reflectlite.ValueOf", "(internal/reflectlite.Value).Type", "(internal/reflectlite.Value).IsNil", "(internal/reflectlite.Value).Elem", "(internal/reflectlite.Value).Set"], unfollowed := true, recurses := true, named := ["assent/api.ErrLong", "assent/api.ErrArg", "assent/api.ErrForm", "assent/api.ErrShort", "assent/api.ErrTail", "assent/api.ErrFull", "assent/api.ErrBusy", "assent/api.ErrNone", "assent/api.ErrOrder", "assent/api.ErrValue", "errors.errorType"], apart := false, laid := [("errors.errorType", laid_errors_errorType), ("assent/api.ErrArg", laid_assent_api_ErrArg), ("assent/api.ErrLong", laid_assent_api_ErrLong), ("assent/api.ErrShort", laid_assent_api_ErrShort), ("assent/api.ErrForm", laid_assent_api_ErrForm), ("assent/api.ErrTail", laid_assent_api_ErrTail), ("assent/api.ErrFull", laid_assent_api_ErrFull), ("assent/api.ErrBusy", laid_assent_api_ErrBusy), ("assent/api.ErrNone", laid_assent_api_ErrNone), ("assent/api.ErrOrder", laid_assent_api_ErrOrder), ("assent/api.ErrValue", laid_assent_api_ErrValue)] }
def ProgNamesSaid : Prop := progNamesRow.holds Tryd.pinned (OpenSpec.ofChange progNamesSpec)

/-- ITS FALSE NEIGHBOUR: 'it returns false'. Refute it at one input. -/
def progNamesWrong : ChangeSpec := { name := "progNames", fn := fun _ => fun
  | [d1, d2, d3] => { results := [.lit (.bool false)], args := [d1, d2, d3] }
  | _ => none }
def ProgNamesWrongFalsely : Prop := progNamesRow.holds Tryd.pinned (OpenSpec.ofChange progNamesWrong)

/-- 'assentlaw9.ProgBytes': WHATEVER THE INPUT: true; the input reads as it did. -/
def progBytesSpec : ChangeSpec := { name := "progBytes", fn := fun _ => fun
  | [d1, d2, d3] => { results := [.lit (.bool true)], args := [d1, d2, d3] }
  | _ => none }
def progBytesRow : OpenClaim := { program := "ytpljdbcifaeblaadoor", sum := "5d7255a8194fc648562ac4e446e6aca5cd80038d4045e895500ea6941d22d605", func := "assent/assentlaw9.ProgBytes", spec := "progBytes", inPlace := ["internal/reflectlite.TypeOf", "internal/reflectlite.ValueOf", "(internal/reflectlite.Value).Type", "(internal/reflectlite.Value).IsNil", "(internal/reflectlite.Value).Elem", "(internal/reflectlite.Value).Set"], unfollowed := true, recurses := true, named := ["assent/api.ErrLong", "assent/api.ErrArg", "assent/api.ErrForm", "assent/api.ErrShort", "assent/api.ErrTail", "assent/api.ErrFull", "assent/api.ErrBusy", "assent/api.ErrNone", "assent/api.ErrOrder", "assent/api.ErrValue", "errors.errorType"], apart := false, laid := [("errors.errorType", laid_errors_errorType), ("assent/api.ErrArg", laid_assent_api_ErrArg), ("assent/api.ErrLong", laid_assent_api_ErrLong), ("assent/api.ErrShort", laid_assent_api_ErrShort), ("assent/api.ErrForm", laid_assent_api_ErrForm), ("assent/api.ErrTail", laid_assent_api_ErrTail), ("assent/api.ErrFull", laid_assent_api_ErrFull), ("assent/api.ErrBusy", laid_assent_api_ErrBusy), ("assent/api.ErrNone", laid_assent_api_ErrNone), ("assent/api.ErrOrder", laid_assent_api_ErrOrder), ("assent/api.ErrValue", laid_assent_api_ErrValue)] }
def ProgBytesSaid : Prop := progBytesRow.holds Tryd.pinned (OpenSpec.ofChange progBytesSpec)

/-- ITS FALSE NEIGHBOUR: 'it returns false'. Refute it at one input. -/
def progBytesWrong : ChangeSpec := { name := "progBytes", fn := fun _ => fun
  | [d1, d2, d3] => { results := [.lit (.bool false)], args := [d1, d2, d3] }
  | _ => none }
def ProgBytesWrongFalsely : Prop := progBytesRow.holds Tryd.pinned (OpenSpec.ofChange progBytesWrong)

/-- 'assentlaw9.ProgEmpty': WHATEVER THE INPUT: true; the input reads as it did. -/
def progEmptySpec : ChangeSpec := { name := "progEmpty", fn := fun _ => fun
  | [d1, d2] => { results := [.lit (.bool true)], args := [d1, d2] }
  | _ => none }
def progEmptyRow : OpenClaim := { program := "ytpljdbcifaeblaadoor", sum := "5d7255a8194fc648562ac4e446e6aca5cd80038d4045e895500ea6941d22d605", func := "assent/assentlaw9.ProgEmpty", spec := "progEmpty", inPlace := ["internal/reflectlite.TypeOf", "internal/reflectlite.ValueOf", "(internal/reflectlite.Value).Type", "(internal/reflectlite.Value).IsNil", "(internal/reflectlite.Value).Elem", "(internal/reflectlite.Value).Set"], unfollowed := true, recurses := true, named := ["assent/api.ErrLong", "assent/api.ErrArg", "assent/api.ErrForm", "assent/api.ErrShort", "assent/api.ErrTail", "assent/api.ErrFull", "assent/api.ErrBusy", "assent/api.ErrNone", "assent/api.ErrOrder", "assent/api.ErrValue", "errors.errorType"], apart := false, laid := [("errors.errorType", laid_errors_errorType), ("assent/api.ErrArg", laid_assent_api_ErrArg), ("assent/api.ErrLong", laid_assent_api_ErrLong), ("assent/api.ErrShort", laid_assent_api_ErrShort), ("assent/api.ErrForm", laid_assent_api_ErrForm), ("assent/api.ErrTail", laid_assent_api_ErrTail), ("assent/api.ErrFull", laid_assent_api_ErrFull), ("assent/api.ErrBusy", laid_assent_api_ErrBusy), ("assent/api.ErrNone", laid_assent_api_ErrNone), ("assent/api.ErrOrder", laid_assent_api_ErrOrder), ("assent/api.ErrValue", laid_assent_api_ErrValue)] }
def ProgEmptySaid : Prop := progEmptyRow.holds Tryd.pinned (OpenSpec.ofChange progEmptySpec)

/-- ITS FALSE NEIGHBOUR: 'it returns false'. Refute it at one input. -/
def progEmptyWrong : ChangeSpec := { name := "progEmpty", fn := fun _ => fun
  | [d1, d2] => { results := [.lit (.bool false)], args := [d1, d2] }
  | _ => none }
def ProgEmptyWrongFalsely : Prop := progEmptyRow.holds Tryd.pinned (OpenSpec.ofChange progEmptyWrong)

/-- 'assentlaw11.MsgRuns': WHATEVER THE INPUT: true; the input reads as it did. -/
def msgRunsSpec : ChangeSpec := { name := "msgRuns", fn := fun _ => fun
  | [] => { results := [.lit (.bool true)], args := [] }
  | _ => none }
def msgRunsRow : OpenClaim := { program := "ytpljdbcifaeblaadoor", sum := "5d7255a8194fc648562ac4e446e6aca5cd80038d4045e895500ea6941d22d605", func := "assent/assentlaw11.MsgRuns", spec := "msgRuns", inPlace := ["internal/reflectlite.TypeOf", "internal/reflectlite.ValueOf", "(internal/reflectlite.Value).Type", "(internal/reflectlite.Value).IsNil", "(internal/reflectlite.Value).Elem", "(internal/reflectlite.Value).Set"], unfollowed := true, recurses := true, named := ["assent/api.ErrForm", "assent/api.ErrShort", "assent/api.ErrTail", "assent/api.ErrArg", "assent/api.ErrLong", "assent/api.ErrFull", "assent/api.ErrBusy", "assent/api.ErrNone", "assent/api.ErrOrder", "assent/api.ErrValue", "errors.errorType"], apart := false, laid := [("errors.errorType", laid_errors_errorType), ("assent/api.ErrArg", laid_assent_api_ErrArg), ("assent/api.ErrLong", laid_assent_api_ErrLong), ("assent/api.ErrShort", laid_assent_api_ErrShort), ("assent/api.ErrForm", laid_assent_api_ErrForm), ("assent/api.ErrTail", laid_assent_api_ErrTail), ("assent/api.ErrFull", laid_assent_api_ErrFull), ("assent/api.ErrBusy", laid_assent_api_ErrBusy), ("assent/api.ErrNone", laid_assent_api_ErrNone), ("assent/api.ErrOrder", laid_assent_api_ErrOrder), ("assent/api.ErrValue", laid_assent_api_ErrValue)] }
def MsgRunsSaid : Prop := msgRunsRow.holds Tryd.pinned (OpenSpec.ofChange msgRunsSpec)

/-- ITS FALSE NEIGHBOUR: 'it returns false'. Refute it at one input. -/
def msgRunsWrong : ChangeSpec := { name := "msgRuns", fn := fun _ => fun
  | [] => { results := [.lit (.bool false)], args := [] }
  | _ => none }
def MsgRunsWrongFalsely : Prop := msgRunsRow.holds Tryd.pinned (OpenSpec.ofChange msgRunsWrong)

/-- 'assentlaw11.MsgTells': WHATEVER THE INPUT: true; the input reads as it did. -/
def msgTellsSpec : ChangeSpec := { name := "msgTells", fn := fun _ => fun
  | [d1, d2, d3, d4, d5] => { results := [.lit (.bool true)], args := [d1, d2, d3, d4, d5] }
  | _ => none }
def msgTellsRow : OpenClaim := { program := "ytpljdbcifaeblaadoor", sum := "5d7255a8194fc648562ac4e446e6aca5cd80038d4045e895500ea6941d22d605", func := "assent/assentlaw11.MsgTells", spec := "msgTells", inPlace := ["internal/reflectlite.TypeOf", "internal/reflectlite.ValueOf", "(internal/reflectlite.Value).Type", "(internal/reflectlite.Value).IsNil", "(internal/reflectlite.Value).Elem", "(internal/reflectlite.Value).Set"], unfollowed := true, recurses := true, named := ["assent/api.ErrForm", "assent/api.ErrShort", "assent/api.ErrTail", "assent/api.ErrArg", "assent/api.ErrLong", "assent/api.ErrFull", "assent/api.ErrBusy", "assent/api.ErrNone", "assent/api.ErrOrder", "assent/api.ErrValue", "errors.errorType"], apart := false, laid := [("errors.errorType", laid_errors_errorType), ("assent/api.ErrArg", laid_assent_api_ErrArg), ("assent/api.ErrLong", laid_assent_api_ErrLong), ("assent/api.ErrShort", laid_assent_api_ErrShort), ("assent/api.ErrForm", laid_assent_api_ErrForm), ("assent/api.ErrTail", laid_assent_api_ErrTail), ("assent/api.ErrFull", laid_assent_api_ErrFull), ("assent/api.ErrBusy", laid_assent_api_ErrBusy), ("assent/api.ErrNone", laid_assent_api_ErrNone), ("assent/api.ErrOrder", laid_assent_api_ErrOrder), ("assent/api.ErrValue", laid_assent_api_ErrValue)] }
def MsgTellsSaid : Prop := msgTellsRow.holds Tryd.pinned (OpenSpec.ofChange msgTellsSpec)

/-- ITS FALSE NEIGHBOUR: 'it returns false'. Refute it at one input. -/
def msgTellsWrong : ChangeSpec := { name := "msgTells", fn := fun _ => fun
  | [d1, d2, d3, d4, d5] => { results := [.lit (.bool false)], args := [d1, d2, d3, d4, d5] }
  | _ => none }
def MsgTellsWrongFalsely : Prop := msgTellsRow.holds Tryd.pinned (OpenSpec.ofChange msgTellsWrong)

/-- 'assentlaw11.MsgBack': WHATEVER THE INPUT: true; the input reads as it did. -/
def msgBackSpec : ChangeSpec := { name := "msgBack", fn := fun _ => fun
  | [d1, d2, d3, d4] => { results := [.lit (.bool true)], args := [d1, d2, d3, d4] }
  | _ => none }
def msgBackRow : OpenClaim := { program := "ytpljdbcifaeblaadoor", sum := "5d7255a8194fc648562ac4e446e6aca5cd80038d4045e895500ea6941d22d605", func := "assent/assentlaw11.MsgBack", spec := "msgBack", inPlace := ["internal/reflectlite.TypeOf", "internal/reflectlite.ValueOf", "(internal/reflectlite.Value).Type", "(internal/reflectlite.Value).IsNil", "(internal/reflectlite.Value).Elem", "(internal/reflectlite.Value).Set"], unfollowed := true, recurses := true, named := ["assent/api.ErrForm", "assent/api.ErrShort", "assent/api.ErrTail", "assent/api.ErrArg", "assent/api.ErrLong", "assent/api.ErrFull", "assent/api.ErrBusy", "assent/api.ErrNone", "assent/api.ErrOrder", "assent/api.ErrValue", "errors.errorType"], apart := false, laid := [("errors.errorType", laid_errors_errorType), ("assent/api.ErrArg", laid_assent_api_ErrArg), ("assent/api.ErrLong", laid_assent_api_ErrLong), ("assent/api.ErrShort", laid_assent_api_ErrShort), ("assent/api.ErrForm", laid_assent_api_ErrForm), ("assent/api.ErrTail", laid_assent_api_ErrTail), ("assent/api.ErrFull", laid_assent_api_ErrFull), ("assent/api.ErrBusy", laid_assent_api_ErrBusy), ("assent/api.ErrNone", laid_assent_api_ErrNone), ("assent/api.ErrOrder", laid_assent_api_ErrOrder), ("assent/api.ErrValue", laid_assent_api_ErrValue)] }
def MsgBackSaid : Prop := msgBackRow.holds Tryd.pinned (OpenSpec.ofChange msgBackSpec)

/-- ITS FALSE NEIGHBOUR: 'it returns false'. Refute it at one input. -/
def msgBackWrong : ChangeSpec := { name := "msgBack", fn := fun _ => fun
  | [d1, d2, d3, d4] => { results := [.lit (.bool false)], args := [d1, d2, d3, d4] }
  | _ => none }
def MsgBackWrongFalsely : Prop := msgBackRow.holds Tryd.pinned (OpenSpec.ofChange msgBackWrong)

/-- 'assentlaw11.MsgBare': WHATEVER THE INPUT: true; the input reads as it did. -/
def msgBareSpec : ChangeSpec := { name := "msgBare", fn := fun _ => fun
  | [d1, d2, d3, d4, d5] => { results := [.lit (.bool true)], args := [d1, d2, d3, d4, d5] }
  | _ => none }
def msgBareRow : OpenClaim := { program := "ytpljdbcifaeblaadoor", sum := "5d7255a8194fc648562ac4e446e6aca5cd80038d4045e895500ea6941d22d605", func := "assent/assentlaw11.MsgBare", spec := "msgBare", inPlace := ["internal/reflectlite.TypeOf", "internal/reflectlite.ValueOf", "(internal/reflectlite.Value).Type", "(internal/reflectlite.Value).IsNil", "(internal/reflectlite.Value).Elem", "(internal/reflectlite.Value).Set"], unfollowed := true, recurses := true, named := ["assent/api.ErrForm", "assent/api.ErrShort", "assent/api.ErrTail", "assent/api.ErrArg", "assent/api.ErrLong", "assent/api.ErrFull", "assent/api.ErrBusy", "assent/api.ErrNone", "assent/api.ErrOrder", "assent/api.ErrValue", "errors.errorType"], apart := false, laid := [("errors.errorType", laid_errors_errorType), ("assent/api.ErrArg", laid_assent_api_ErrArg), ("assent/api.ErrLong", laid_assent_api_ErrLong), ("assent/api.ErrShort", laid_assent_api_ErrShort), ("assent/api.ErrForm", laid_assent_api_ErrForm), ("assent/api.ErrTail", laid_assent_api_ErrTail), ("assent/api.ErrFull", laid_assent_api_ErrFull), ("assent/api.ErrBusy", laid_assent_api_ErrBusy), ("assent/api.ErrNone", laid_assent_api_ErrNone), ("assent/api.ErrOrder", laid_assent_api_ErrOrder), ("assent/api.ErrValue", laid_assent_api_ErrValue)] }
def MsgBareSaid : Prop := msgBareRow.holds Tryd.pinned (OpenSpec.ofChange msgBareSpec)

/-- ITS FALSE NEIGHBOUR: 'it returns false'. Refute it at one input. -/
def msgBareWrong : ChangeSpec := { name := "msgBare", fn := fun _ => fun
  | [d1, d2, d3, d4, d5] => { results := [.lit (.bool false)], args := [d1, d2, d3, d4, d5] }
  | _ => none }
def MsgBareWrongFalsely : Prop := msgBareRow.holds Tryd.pinned (OpenSpec.ofChange msgBareWrong)

/-- 'assentlaw11.MsgPools': WHATEVER THE INPUT: true; the input reads as it did. -/
def msgPoolsSpec : ChangeSpec := { name := "msgPools", fn := fun _ => fun
  | [d1, d2] => { results := [.lit (.bool true)], args := [d1, d2] }
  | _ => none }
def msgPoolsRow : OpenClaim := { program := "ytpljdbcifaeblaadoor", sum := "5d7255a8194fc648562ac4e446e6aca5cd80038d4045e895500ea6941d22d605", func := "assent/assentlaw11.MsgPools", spec := "msgPools", inPlace := ["internal/reflectlite.TypeOf", "internal/reflectlite.ValueOf", "(internal/reflectlite.Value).Type", "(internal/reflectlite.Value).IsNil", "(internal/reflectlite.Value).Elem", "(internal/reflectlite.Value).Set"], unfollowed := true, recurses := true, named := ["assent/api.ErrForm", "assent/api.ErrShort", "assent/api.ErrTail", "assent/api.ErrArg", "assent/api.ErrLong", "assent/api.ErrFull", "assent/api.ErrBusy", "assent/api.ErrNone", "assent/api.ErrOrder", "assent/api.ErrValue", "errors.errorType"], apart := false, laid := [("errors.errorType", laid_errors_errorType), ("assent/api.ErrArg", laid_assent_api_ErrArg), ("assent/api.ErrLong", laid_assent_api_ErrLong), ("assent/api.ErrShort", laid_assent_api_ErrShort), ("assent/api.ErrForm", laid_assent_api_ErrForm), ("assent/api.ErrTail", laid_assent_api_ErrTail), ("assent/api.ErrFull", laid_assent_api_ErrFull), ("assent/api.ErrBusy", laid_assent_api_ErrBusy), ("assent/api.ErrNone", laid_assent_api_ErrNone), ("assent/api.ErrOrder", laid_assent_api_ErrOrder), ("assent/api.ErrValue", laid_assent_api_ErrValue)] }
def MsgPoolsSaid : Prop := msgPoolsRow.holds Tryd.pinned (OpenSpec.ofChange msgPoolsSpec)

/-- ITS FALSE NEIGHBOUR: 'it returns false'. Refute it at one input. -/
def msgPoolsWrong : ChangeSpec := { name := "msgPools", fn := fun _ => fun
  | [d1, d2] => { results := [.lit (.bool false)], args := [d1, d2] }
  | _ => none }
def MsgPoolsWrongFalsely : Prop := msgPoolsRow.holds Tryd.pinned (OpenSpec.ofChange msgPoolsWrong)

/-- 'assentlaw11.MsgApart': WHATEVER THE INPUT: true; the input reads as it did. -/
def msgApartSpec : ChangeSpec := { name := "msgApart", fn := fun _ => fun
  | [d1, d2] => { results := [.lit (.bool true)], args := [d1, d2] }
  | _ => none }
def msgApartRow : OpenClaim := { program := "ytpljdbcifaeblaadoor", sum := "5d7255a8194fc648562ac4e446e6aca5cd80038d4045e895500ea6941d22d605", func := "assent/assentlaw11.MsgApart", spec := "msgApart", inPlace := ["internal/reflectlite.TypeOf", "internal/reflectlite.ValueOf", "(internal/reflectlite.Value).Type", "(internal/reflectlite.Value).IsNil", "(internal/reflectlite.Value).Elem", "(internal/reflectlite.Value).Set"], unfollowed := true, recurses := true, named := ["assent/api.ErrForm", "assent/api.ErrShort", "assent/api.ErrTail", "assent/api.ErrArg", "assent/api.ErrLong", "assent/api.ErrFull", "assent/api.ErrBusy", "assent/api.ErrNone", "assent/api.ErrOrder", "assent/api.ErrValue", "errors.errorType"], apart := false, laid := [("errors.errorType", laid_errors_errorType), ("assent/api.ErrArg", laid_assent_api_ErrArg), ("assent/api.ErrLong", laid_assent_api_ErrLong), ("assent/api.ErrShort", laid_assent_api_ErrShort), ("assent/api.ErrForm", laid_assent_api_ErrForm), ("assent/api.ErrTail", laid_assent_api_ErrTail), ("assent/api.ErrFull", laid_assent_api_ErrFull), ("assent/api.ErrBusy", laid_assent_api_ErrBusy), ("assent/api.ErrNone", laid_assent_api_ErrNone), ("assent/api.ErrOrder", laid_assent_api_ErrOrder), ("assent/api.ErrValue", laid_assent_api_ErrValue)] }
def MsgApartSaid : Prop := msgApartRow.holds Tryd.pinned (OpenSpec.ofChange msgApartSpec)

/-- ITS FALSE NEIGHBOUR: 'it returns false'. Refute it at one input. -/
def msgApartWrong : ChangeSpec := { name := "msgApart", fn := fun _ => fun
  | [d1, d2] => { results := [.lit (.bool false)], args := [d1, d2] }
  | _ => none }
def MsgApartWrongFalsely : Prop := msgApartRow.holds Tryd.pinned (OpenSpec.ofChange msgApartWrong)

/- THE SECOND FORM. 'bulk': how many values and letters a reading holds, each counted each time it is reached (what is shared counts as often as it is met; a slice's spare places count too). A statement '..UptoSaid' is the law's where the arguments, and the package variables that the reading takes, are together of bulk at most 1048576: NARROWER than '..Said'. Prove '..Said' where nothing that the law and all that it calls make is longer than what came in: it says more and counts as full. Else prove '..UptoSaid'. A law counts once. -/
mutual
def uptoBulk {H : Type} : DataW H → Nat
  | .lit (.string bytes) => bytes.length + 1
  | .lit _ => 1
  | .nil => 1
  | .ptr d => uptoBulk d + 1
  | .slice elems spare => uptoBulkAll elems + uptoBulkAll spare + 1
  | .agg parts => uptoBulkAll parts + 1
  | .iface _ d => uptoBulk d + 1
  | .map entries => uptoBulkEntries entries + 1
  | .held _ => 1
def uptoBulkAll {H : Type} : List (DataW H) → Nat
  | [] => 0
  | d :: r => uptoBulk d + uptoBulkAll r
def uptoBulkEntries {H : Type} : List (Lit × DataW H) → Nat
  | [] => 0
  | x :: r => uptoBulkEntry x + uptoBulkEntries r
def uptoBulkEntry {H : Type} : Lit × DataW H → Nat
  | (.string bytes, d) => bytes.length + uptoBulk d + 1
  | (_, d) => uptoBulk d + 1
 end
def uptoSmall : (H : Type) → List (DataW H) → Bool := fun _ ds => decide (uptoBulkAll ds ≤ 1048576)
def OpenSpec.upto (s : _root_.Go.ChangeSpec) : _root_.Go.OpenSpec := { _root_.Go.OpenSpec.ofChange s with cond := some uptoSmall }

/-- 'assentlaw9.ProgRuns', WHERE WHAT IT READS IS OF BULK AT MOST 1048576: true; the input reads as it did. -/
def progRunsUptoRow : OpenClaim := { program := "ytpljdbcifaeblaadoor", sum := "5d7255a8194fc648562ac4e446e6aca5cd80038d4045e895500ea6941d22d605", func := "assent/assentlaw9.ProgRuns", spec := "progRuns", inPlace := ["internal/reflectlite.TypeOf", "internal/reflectlite.ValueOf", "(internal/reflectlite.Value).Type", "(internal/reflectlite.Value).IsNil", "(internal/reflectlite.Value).Elem", "(internal/reflectlite.Value).Set"], unfollowed := true, recurses := true, named := ["assent/api.ErrLong", "assent/api.ErrArg", "assent/api.ErrForm", "assent/api.ErrShort", "assent/api.ErrTail", "assent/api.ErrFull", "assent/api.ErrBusy", "assent/api.ErrNone", "assent/api.ErrOrder", "assent/api.ErrValue", "errors.errorType"], apart := false, laid := [("errors.errorType", laid_errors_errorType), ("assent/api.ErrArg", laid_assent_api_ErrArg), ("assent/api.ErrLong", laid_assent_api_ErrLong), ("assent/api.ErrShort", laid_assent_api_ErrShort), ("assent/api.ErrForm", laid_assent_api_ErrForm), ("assent/api.ErrTail", laid_assent_api_ErrTail), ("assent/api.ErrFull", laid_assent_api_ErrFull), ("assent/api.ErrBusy", laid_assent_api_ErrBusy), ("assent/api.ErrNone", laid_assent_api_ErrNone), ("assent/api.ErrOrder", laid_assent_api_ErrOrder), ("assent/api.ErrValue", laid_assent_api_ErrValue)], narrowed := true }
def ProgRunsUptoSaid : Prop := progRunsUptoRow.holds Tryd.pinned (OpenSpec.upto progRunsSpec)

/-- 'assentlaw9.ProgWrites', WHERE WHAT IT READS IS OF BULK AT MOST 1048576: true; the input reads as it did. -/
def progWritesUptoRow : OpenClaim := { program := "ytpljdbcifaeblaadoor", sum := "5d7255a8194fc648562ac4e446e6aca5cd80038d4045e895500ea6941d22d605", func := "assent/assentlaw9.ProgWrites", spec := "progWrites", inPlace := ["internal/reflectlite.TypeOf", "internal/reflectlite.ValueOf", "(internal/reflectlite.Value).Type", "(internal/reflectlite.Value).IsNil", "(internal/reflectlite.Value).Elem", "(internal/reflectlite.Value).Set"], unfollowed := true, recurses := true, named := ["assent/api.ErrLong", "assent/api.ErrArg", "assent/api.ErrShort", "assent/api.ErrForm", "assent/api.ErrTail", "assent/api.ErrFull", "assent/api.ErrBusy", "assent/api.ErrNone", "assent/api.ErrOrder", "assent/api.ErrValue", "errors.errorType"], apart := false, laid := [("errors.errorType", laid_errors_errorType), ("assent/api.ErrArg", laid_assent_api_ErrArg), ("assent/api.ErrLong", laid_assent_api_ErrLong), ("assent/api.ErrShort", laid_assent_api_ErrShort), ("assent/api.ErrForm", laid_assent_api_ErrForm), ("assent/api.ErrTail", laid_assent_api_ErrTail), ("assent/api.ErrFull", laid_assent_api_ErrFull), ("assent/api.ErrBusy", laid_assent_api_ErrBusy), ("assent/api.ErrNone", laid_assent_api_ErrNone), ("assent/api.ErrOrder", laid_assent_api_ErrOrder), ("assent/api.ErrValue", laid_assent_api_ErrValue)], narrowed := true }
def ProgWritesUptoSaid : Prop := progWritesUptoRow.holds Tryd.pinned (OpenSpec.upto progWritesSpec)

/-- 'assentlaw9.ProgBack', WHERE WHAT IT READS IS OF BULK AT MOST 1048576: true; the input reads as it did. -/
def progBackUptoRow : OpenClaim := { program := "ytpljdbcifaeblaadoor", sum := "5d7255a8194fc648562ac4e446e6aca5cd80038d4045e895500ea6941d22d605", func := "assent/assentlaw9.ProgBack", spec := "progBack", inPlace := ["internal/reflectlite.TypeOf", "internal/reflectlite.ValueOf", "(internal/reflectlite.Value).Type", "(internal/reflectlite.Value).IsNil", "(internal/reflectlite.Value).Elem", "(internal/reflectlite.Value).Set"], unfollowed := true, recurses := true, named := ["assent/api.ErrLong", "assent/api.ErrArg", "assent/api.ErrForm", "assent/api.ErrShort", "assent/api.ErrTail", "assent/api.ErrFull", "assent/api.ErrBusy", "assent/api.ErrNone", "assent/api.ErrOrder", "assent/api.ErrValue", "errors.errorType"], apart := false, laid := [("errors.errorType", laid_errors_errorType), ("assent/api.ErrArg", laid_assent_api_ErrArg), ("assent/api.ErrLong", laid_assent_api_ErrLong), ("assent/api.ErrShort", laid_assent_api_ErrShort), ("assent/api.ErrForm", laid_assent_api_ErrForm), ("assent/api.ErrTail", laid_assent_api_ErrTail), ("assent/api.ErrFull", laid_assent_api_ErrFull), ("assent/api.ErrBusy", laid_assent_api_ErrBusy), ("assent/api.ErrNone", laid_assent_api_ErrNone), ("assent/api.ErrOrder", laid_assent_api_ErrOrder), ("assent/api.ErrValue", laid_assent_api_ErrValue)], narrowed := true }
def ProgBackUptoSaid : Prop := progBackUptoRow.holds Tryd.pinned (OpenSpec.upto progBackSpec)

/-- 'assentlaw9.ProgNames', WHERE WHAT IT READS IS OF BULK AT MOST 1048576: true; the input reads as it did. -/
def progNamesUptoRow : OpenClaim := { program := "ytpljdbcifaeblaadoor", sum := "5d7255a8194fc648562ac4e446e6aca5cd80038d4045e895500ea6941d22d605", func := "assent/assentlaw9.ProgNames", spec := "progNames", inPlace := ["internal/reflectlite.TypeOf", "internal/reflectlite.ValueOf", "(internal/reflectlite.Value).Type", "(internal/reflectlite.Value).IsNil", "(internal/reflectlite.Value).Elem", "(internal/reflectlite.Value).Set"], unfollowed := true, recurses := true, named := ["assent/api.ErrLong", "assent/api.ErrArg", "assent/api.ErrForm", "assent/api.ErrShort", "assent/api.ErrTail", "assent/api.ErrFull", "assent/api.ErrBusy", "assent/api.ErrNone", "assent/api.ErrOrder", "assent/api.ErrValue", "errors.errorType"], apart := false, laid := [("errors.errorType", laid_errors_errorType), ("assent/api.ErrArg", laid_assent_api_ErrArg), ("assent/api.ErrLong", laid_assent_api_ErrLong), ("assent/api.ErrShort", laid_assent_api_ErrShort), ("assent/api.ErrForm", laid_assent_api_ErrForm), ("assent/api.ErrTail", laid_assent_api_ErrTail), ("assent/api.ErrFull", laid_assent_api_ErrFull), ("assent/api.ErrBusy", laid_assent_api_ErrBusy), ("assent/api.ErrNone", laid_assent_api_ErrNone), ("assent/api.ErrOrder", laid_assent_api_ErrOrder), ("assent/api.ErrValue", laid_assent_api_ErrValue)], narrowed := true }
def ProgNamesUptoSaid : Prop := progNamesUptoRow.holds Tryd.pinned (OpenSpec.upto progNamesSpec)

/-- 'assentlaw9.ProgBytes', WHERE WHAT IT READS IS OF BULK AT MOST 1048576: true; the input reads as it did. -/
def progBytesUptoRow : OpenClaim := { program := "ytpljdbcifaeblaadoor", sum := "5d7255a8194fc648562ac4e446e6aca5cd80038d4045e895500ea6941d22d605", func := "assent/assentlaw9.ProgBytes", spec := "progBytes", inPlace := ["internal/reflectlite.TypeOf", "internal/reflectlite.ValueOf", "(internal/reflectlite.Value).Type", "(internal/reflectlite.Value).IsNil", "(internal/reflectlite.Value).Elem", "(internal/reflectlite.Value).Set"], unfollowed := true, recurses := true, named := ["assent/api.ErrLong", "assent/api.ErrArg", "assent/api.ErrForm", "assent/api.ErrShort", "assent/api.ErrTail", "assent/api.ErrFull", "assent/api.ErrBusy", "assent/api.ErrNone", "assent/api.ErrOrder", "assent/api.ErrValue", "errors.errorType"], apart := false, laid := [("errors.errorType", laid_errors_errorType), ("assent/api.ErrArg", laid_assent_api_ErrArg), ("assent/api.ErrLong", laid_assent_api_ErrLong), ("assent/api.ErrShort", laid_assent_api_ErrShort), ("assent/api.ErrForm", laid_assent_api_ErrForm), ("assent/api.ErrTail", laid_assent_api_ErrTail), ("assent/api.ErrFull", laid_assent_api_ErrFull), ("assent/api.ErrBusy", laid_assent_api_ErrBusy), ("assent/api.ErrNone", laid_assent_api_ErrNone), ("assent/api.ErrOrder", laid_assent_api_ErrOrder), ("assent/api.ErrValue", laid_assent_api_ErrValue)], narrowed := true }
def ProgBytesUptoSaid : Prop := progBytesUptoRow.holds Tryd.pinned (OpenSpec.upto progBytesSpec)

/-- 'assentlaw9.ProgEmpty', WHERE WHAT IT READS IS OF BULK AT MOST 1048576: true; the input reads as it did. -/
def progEmptyUptoRow : OpenClaim := { program := "ytpljdbcifaeblaadoor", sum := "5d7255a8194fc648562ac4e446e6aca5cd80038d4045e895500ea6941d22d605", func := "assent/assentlaw9.ProgEmpty", spec := "progEmpty", inPlace := ["internal/reflectlite.TypeOf", "internal/reflectlite.ValueOf", "(internal/reflectlite.Value).Type", "(internal/reflectlite.Value).IsNil", "(internal/reflectlite.Value).Elem", "(internal/reflectlite.Value).Set"], unfollowed := true, recurses := true, named := ["assent/api.ErrLong", "assent/api.ErrArg", "assent/api.ErrForm", "assent/api.ErrShort", "assent/api.ErrTail", "assent/api.ErrFull", "assent/api.ErrBusy", "assent/api.ErrNone", "assent/api.ErrOrder", "assent/api.ErrValue", "errors.errorType"], apart := false, laid := [("errors.errorType", laid_errors_errorType), ("assent/api.ErrArg", laid_assent_api_ErrArg), ("assent/api.ErrLong", laid_assent_api_ErrLong), ("assent/api.ErrShort", laid_assent_api_ErrShort), ("assent/api.ErrForm", laid_assent_api_ErrForm), ("assent/api.ErrTail", laid_assent_api_ErrTail), ("assent/api.ErrFull", laid_assent_api_ErrFull), ("assent/api.ErrBusy", laid_assent_api_ErrBusy), ("assent/api.ErrNone", laid_assent_api_ErrNone), ("assent/api.ErrOrder", laid_assent_api_ErrOrder), ("assent/api.ErrValue", laid_assent_api_ErrValue)], narrowed := true }
def ProgEmptyUptoSaid : Prop := progEmptyUptoRow.holds Tryd.pinned (OpenSpec.upto progEmptySpec)

/-- 'assentlaw11.MsgRuns', WHERE WHAT IT READS IS OF BULK AT MOST 1048576: true; the input reads as it did. -/
def msgRunsUptoRow : OpenClaim := { program := "ytpljdbcifaeblaadoor", sum := "5d7255a8194fc648562ac4e446e6aca5cd80038d4045e895500ea6941d22d605", func := "assent/assentlaw11.MsgRuns", spec := "msgRuns", inPlace := ["internal/reflectlite.TypeOf", "internal/reflectlite.ValueOf", "(internal/reflectlite.Value).Type", "(internal/reflectlite.Value).IsNil", "(internal/reflectlite.Value).Elem", "(internal/reflectlite.Value).Set"], unfollowed := true, recurses := true, named := ["assent/api.ErrForm", "assent/api.ErrShort", "assent/api.ErrTail", "assent/api.ErrArg", "assent/api.ErrLong", "assent/api.ErrFull", "assent/api.ErrBusy", "assent/api.ErrNone", "assent/api.ErrOrder", "assent/api.ErrValue", "errors.errorType"], apart := false, laid := [("errors.errorType", laid_errors_errorType), ("assent/api.ErrArg", laid_assent_api_ErrArg), ("assent/api.ErrLong", laid_assent_api_ErrLong), ("assent/api.ErrShort", laid_assent_api_ErrShort), ("assent/api.ErrForm", laid_assent_api_ErrForm), ("assent/api.ErrTail", laid_assent_api_ErrTail), ("assent/api.ErrFull", laid_assent_api_ErrFull), ("assent/api.ErrBusy", laid_assent_api_ErrBusy), ("assent/api.ErrNone", laid_assent_api_ErrNone), ("assent/api.ErrOrder", laid_assent_api_ErrOrder), ("assent/api.ErrValue", laid_assent_api_ErrValue)], narrowed := true }
def MsgRunsUptoSaid : Prop := msgRunsUptoRow.holds Tryd.pinned (OpenSpec.upto msgRunsSpec)

/-- 'assentlaw11.MsgTells', WHERE WHAT IT READS IS OF BULK AT MOST 1048576: true; the input reads as it did. -/
def msgTellsUptoRow : OpenClaim := { program := "ytpljdbcifaeblaadoor", sum := "5d7255a8194fc648562ac4e446e6aca5cd80038d4045e895500ea6941d22d605", func := "assent/assentlaw11.MsgTells", spec := "msgTells", inPlace := ["internal/reflectlite.TypeOf", "internal/reflectlite.ValueOf", "(internal/reflectlite.Value).Type", "(internal/reflectlite.Value).IsNil", "(internal/reflectlite.Value).Elem", "(internal/reflectlite.Value).Set"], unfollowed := true, recurses := true, named := ["assent/api.ErrForm", "assent/api.ErrShort", "assent/api.ErrTail", "assent/api.ErrArg", "assent/api.ErrLong", "assent/api.ErrFull", "assent/api.ErrBusy", "assent/api.ErrNone", "assent/api.ErrOrder", "assent/api.ErrValue", "errors.errorType"], apart := false, laid := [("errors.errorType", laid_errors_errorType), ("assent/api.ErrArg", laid_assent_api_ErrArg), ("assent/api.ErrLong", laid_assent_api_ErrLong), ("assent/api.ErrShort", laid_assent_api_ErrShort), ("assent/api.ErrForm", laid_assent_api_ErrForm), ("assent/api.ErrTail", laid_assent_api_ErrTail), ("assent/api.ErrFull", laid_assent_api_ErrFull), ("assent/api.ErrBusy", laid_assent_api_ErrBusy), ("assent/api.ErrNone", laid_assent_api_ErrNone), ("assent/api.ErrOrder", laid_assent_api_ErrOrder), ("assent/api.ErrValue", laid_assent_api_ErrValue)], narrowed := true }
def MsgTellsUptoSaid : Prop := msgTellsUptoRow.holds Tryd.pinned (OpenSpec.upto msgTellsSpec)

/-- 'assentlaw11.MsgBack', WHERE WHAT IT READS IS OF BULK AT MOST 1048576: true; the input reads as it did. -/
def msgBackUptoRow : OpenClaim := { program := "ytpljdbcifaeblaadoor", sum := "5d7255a8194fc648562ac4e446e6aca5cd80038d4045e895500ea6941d22d605", func := "assent/assentlaw11.MsgBack", spec := "msgBack", inPlace := ["internal/reflectlite.TypeOf", "internal/reflectlite.ValueOf", "(internal/reflectlite.Value).Type", "(internal/reflectlite.Value).IsNil", "(internal/reflectlite.Value).Elem", "(internal/reflectlite.Value).Set"], unfollowed := true, recurses := true, named := ["assent/api.ErrForm", "assent/api.ErrShort", "assent/api.ErrTail", "assent/api.ErrArg", "assent/api.ErrLong", "assent/api.ErrFull", "assent/api.ErrBusy", "assent/api.ErrNone", "assent/api.ErrOrder", "assent/api.ErrValue", "errors.errorType"], apart := false, laid := [("errors.errorType", laid_errors_errorType), ("assent/api.ErrArg", laid_assent_api_ErrArg), ("assent/api.ErrLong", laid_assent_api_ErrLong), ("assent/api.ErrShort", laid_assent_api_ErrShort), ("assent/api.ErrForm", laid_assent_api_ErrForm), ("assent/api.ErrTail", laid_assent_api_ErrTail), ("assent/api.ErrFull", laid_assent_api_ErrFull), ("assent/api.ErrBusy", laid_assent_api_ErrBusy), ("assent/api.ErrNone", laid_assent_api_ErrNone), ("assent/api.ErrOrder", laid_assent_api_ErrOrder), ("assent/api.ErrValue", laid_assent_api_ErrValue)], narrowed := true }
def MsgBackUptoSaid : Prop := msgBackUptoRow.holds Tryd.pinned (OpenSpec.upto msgBackSpec)

/-- 'assentlaw11.MsgBare', WHERE WHAT IT READS IS OF BULK AT MOST 1048576: true; the input reads as it did. -/
def msgBareUptoRow : OpenClaim := { program := "ytpljdbcifaeblaadoor", sum := "5d7255a8194fc648562ac4e446e6aca5cd80038d4045e895500ea6941d22d605", func := "assent/assentlaw11.MsgBare", spec := "msgBare", inPlace := ["internal/reflectlite.TypeOf", "internal/reflectlite.ValueOf", "(internal/reflectlite.Value).Type", "(internal/reflectlite.Value).IsNil", "(internal/reflectlite.Value).Elem", "(internal/reflectlite.Value).Set"], unfollowed := true, recurses := true, named := ["assent/api.ErrForm", "assent/api.ErrShort", "assent/api.ErrTail", "assent/api.ErrArg", "assent/api.ErrLong", "assent/api.ErrFull", "assent/api.ErrBusy", "assent/api.ErrNone", "assent/api.ErrOrder", "assent/api.ErrValue", "errors.errorType"], apart := false, laid := [("errors.errorType", laid_errors_errorType), ("assent/api.ErrArg", laid_assent_api_ErrArg), ("assent/api.ErrLong", laid_assent_api_ErrLong), ("assent/api.ErrShort", laid_assent_api_ErrShort), ("assent/api.ErrForm", laid_assent_api_ErrForm), ("assent/api.ErrTail", laid_assent_api_ErrTail), ("assent/api.ErrFull", laid_assent_api_ErrFull), ("assent/api.ErrBusy", laid_assent_api_ErrBusy), ("assent/api.ErrNone", laid_assent_api_ErrNone), ("assent/api.ErrOrder", laid_assent_api_ErrOrder), ("assent/api.ErrValue", laid_assent_api_ErrValue)], narrowed := true }
def MsgBareUptoSaid : Prop := msgBareUptoRow.holds Tryd.pinned (OpenSpec.upto msgBareSpec)

/-- 'assentlaw11.MsgPools', WHERE WHAT IT READS IS OF BULK AT MOST 1048576: true; the input reads as it did. -/
def msgPoolsUptoRow : OpenClaim := { program := "ytpljdbcifaeblaadoor", sum := "5d7255a8194fc648562ac4e446e6aca5cd80038d4045e895500ea6941d22d605", func := "assent/assentlaw11.MsgPools", spec := "msgPools", inPlace := ["internal/reflectlite.TypeOf", "internal/reflectlite.ValueOf", "(internal/reflectlite.Value).Type", "(internal/reflectlite.Value).IsNil", "(internal/reflectlite.Value).Elem", "(internal/reflectlite.Value).Set"], unfollowed := true, recurses := true, named := ["assent/api.ErrForm", "assent/api.ErrShort", "assent/api.ErrTail", "assent/api.ErrArg", "assent/api.ErrLong", "assent/api.ErrFull", "assent/api.ErrBusy", "assent/api.ErrNone", "assent/api.ErrOrder", "assent/api.ErrValue", "errors.errorType"], apart := false, laid := [("errors.errorType", laid_errors_errorType), ("assent/api.ErrArg", laid_assent_api_ErrArg), ("assent/api.ErrLong", laid_assent_api_ErrLong), ("assent/api.ErrShort", laid_assent_api_ErrShort), ("assent/api.ErrForm", laid_assent_api_ErrForm), ("assent/api.ErrTail", laid_assent_api_ErrTail), ("assent/api.ErrFull", laid_assent_api_ErrFull), ("assent/api.ErrBusy", laid_assent_api_ErrBusy), ("assent/api.ErrNone", laid_assent_api_ErrNone), ("assent/api.ErrOrder", laid_assent_api_ErrOrder), ("assent/api.ErrValue", laid_assent_api_ErrValue)], narrowed := true }
def MsgPoolsUptoSaid : Prop := msgPoolsUptoRow.holds Tryd.pinned (OpenSpec.upto msgPoolsSpec)

/-- 'assentlaw11.MsgApart', WHERE WHAT IT READS IS OF BULK AT MOST 1048576: true; the input reads as it did. -/
def msgApartUptoRow : OpenClaim := { program := "ytpljdbcifaeblaadoor", sum := "5d7255a8194fc648562ac4e446e6aca5cd80038d4045e895500ea6941d22d605", func := "assent/assentlaw11.MsgApart", spec := "msgApart", inPlace := ["internal/reflectlite.TypeOf", "internal/reflectlite.ValueOf", "(internal/reflectlite.Value).Type", "(internal/reflectlite.Value).IsNil", "(internal/reflectlite.Value).Elem", "(internal/reflectlite.Value).Set"], unfollowed := true, recurses := true, named := ["assent/api.ErrForm", "assent/api.ErrShort", "assent/api.ErrTail", "assent/api.ErrArg", "assent/api.ErrLong", "assent/api.ErrFull", "assent/api.ErrBusy", "assent/api.ErrNone", "assent/api.ErrOrder", "assent/api.ErrValue", "errors.errorType"], apart := false, laid := [("errors.errorType", laid_errors_errorType), ("assent/api.ErrArg", laid_assent_api_ErrArg), ("assent/api.ErrLong", laid_assent_api_ErrLong), ("assent/api.ErrShort", laid_assent_api_ErrShort), ("assent/api.ErrForm", laid_assent_api_ErrForm), ("assent/api.ErrTail", laid_assent_api_ErrTail), ("assent/api.ErrFull", laid_assent_api_ErrFull), ("assent/api.ErrBusy", laid_assent_api_ErrBusy), ("assent/api.ErrNone", laid_assent_api_ErrNone), ("assent/api.ErrOrder", laid_assent_api_ErrOrder), ("assent/api.ErrValue", laid_assent_api_ErrValue)], narrowed := true }
def MsgApartUptoSaid : Prop := msgApartUptoRow.holds Tryd.pinned (OpenSpec.upto msgApartSpec)

end Rows
end Go.Proofs.YtpljdbcifaeblaaDoor
