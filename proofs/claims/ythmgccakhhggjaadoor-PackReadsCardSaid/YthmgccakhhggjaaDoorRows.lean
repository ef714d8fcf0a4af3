/-
  NARROWER THAN 'FOR EVERY INPUT', by the rows' own cells (each row's printed sentence says how): PackRuns: laid · PackWrites: laid · PackSizes: laid · PackReads: laid · PackBack: laid · PackOne: laid · PackStays: laid · PackIn: laid.
  DERIVED. THE GIVEN ROWS OF THIS SEAT. 8 by the template 'for every input the law returns true; each argument reads behind the call as it read before'; 0 by the template 'total and deterministic' (their statements: YthmgccakhhggjaaDoorTotals.lean).
  GIVEN WITH THE SEED: the statements are not yours to turn. If you find one false, say at which input.
  Laid BY PROGRAM, IN A SANDBOX (cutbox-rows.mjs): the forced cells as the released guide's own fill.sh prints them over the translation 53bf229d41bacda1… (all of the seat's roots in one cut). By AI agents, Wed Nov 11 2026. No macro, syntax, notation, axiom, sorry.
-/
import Derived.Test.YthmgccakhhggjaaDoorChecked
import GoSem.Claim
import GoSem.ClaimJoined
import GoSem.ClaimMapViews
import Derived.JoinedTies
import Derived.KernelRfl
namespace Go.Proofs.YthmgccakhhggjaaDoor
/- THE CELL 'sum', in the pinned program and in every row, IS THE sha256 OF THE DUMP (.gsa) THAT YthmgccakhhggjaaDoorProg.lean LOADS. Nothing in Lean hashes anything: it is a label: what it is worth is what the hold of that sum in a sandbox is worth. -/
noncomputable def Tryd.pinned : Pinned := { name := "ythmgccakhhggjaadoor", sum := "53bf229d41bacda14f255f12f1c195a4a8e1e7159e1f15c9343cf3fe3c5e9013", checked := Tryd.checked }
namespace Rows
def none {H : Type} : Left H := { results := [], args := [] }

/- WHAT THE LISTED PACKAGE-LEVEL VARIABLES READ AS WHEN THE CALL BEGINS. Each datum BY PROGRAM (the guide's laid-datum.mjs) off the statement by which the dump's own 'gosem.cut.vars' lays the variable. In a bare row this is a premise. The card (YthmgccakhhggjaaDoorCards.lean) ties it to the program's text. -/
def laid_errors_errorType {H : Type} : DataW H := .iface "internal/reflectlite.rtype" (.agg [.ptr (.lit (.string [101, 114, 114, 111, 114]))])
def laid_assent_api_ErrArg {H : Type} : DataW H := .iface "*errors.errorString" (.ptr (.agg [.lit (.string [97, 110, 32, 97, 114, 103, 117, 109, 101, 110, 116, 32, 116, 104, 97, 116, 32, 99, 97, 110, 39, 116, 32, 98, 101])]))
def laid_assent_api_ErrLong {H : Type} : DataW H := .iface "*errors.errorString" (.ptr (.agg [.lit (.string [116, 111, 111, 32, 108, 111, 110, 103])]))
def laid_assent_api_ErrShort {H : Type} : DataW H := .iface "*errors.errorString" (.ptr (.agg [.lit (.string [116, 111, 111, 32, 115, 104, 111, 114, 116])]))
def laid_assent_api_ErrForm {H : Type} : DataW H := .iface "*errors.errorString" (.ptr (.agg [.lit (.string [110, 111, 116, 32, 105, 110, 32, 102, 111, 114, 109])]))
def laid_assent_api_ErrTail {H : Type} : DataW H := .iface "*errors.errorString" (.ptr (.agg [.lit (.string [115, 111, 109, 101, 116, 104, 105, 110, 103, 32, 108, 101, 102, 116, 32, 111, 118, 101, 114])]))
def laid_assent_api_ErrFull {H : Type} : DataW H := .iface "*errors.errorString" (.ptr (.agg [.lit (.string [110, 111, 32, 114, 111, 111, 109])]))
def laid_assent_api_ErrBusy {H : Type} : DataW H := .iface "*errors.errorString" (.ptr (.agg [.lit (.string [117, 110, 100, 101, 114, 32, 119, 97, 121])]))
def laid_assent_api_ErrNone {H : Type} : DataW H := .iface "*errors.errorString" (.ptr (.agg [.lit (.string [116, 104, 101, 114, 101, 32, 105, 115, 32, 110, 111, 110, 101])]))
def laid_assent_api_ErrOrder {H : Type} : DataW H := .iface "*errors.errorString" (.ptr (.agg [.lit (.string [110, 111, 116, 32, 105, 110, 32, 111, 114, 100, 101, 114])]))
def laid_assent_api_ErrValue {H : Type} : DataW H := .iface "*errors.errorString" (.ptr (.agg [.lit (.string [97, 110, 111, 116, 104, 101, 114, 32, 118, 97, 108, 117, 101])]))

/-- 'assentlaw3.PackRuns': WHATEVER THE INPUT: true; the input reads as it did. -/
def packRunsSpec : ChangeSpec := { name := "packRuns", fn := fun _ => fun
  | [] => { results := [.lit (.bool true)], args := [] }
  | _ => none }
def packRunsRow : OpenClaim := { program := "ythmgccakhhggjaadoor", sum := "53bf229d41bacda14f255f12f1c195a4a8e1e7159e1f15c9343cf3fe3c5e9013", func := "assent/assentlaw3.PackRuns", spec := "packRuns", inPlace := ["internal/reflectlite.TypeOf", "internal/reflectlite.ValueOf", "(internal/reflectlite.Value).Type", "(internal/reflectlite.Value).IsNil", "(internal/reflectlite.Value).Elem", "(internal/reflectlite.Value).Set"], unfollowed := true, recurses := true, named := ["assent/api.ErrForm", "assent/api.ErrShort", "assent/api.ErrArg", "assent/api.ErrLong", "assent/api.ErrTail", "assent/api.ErrFull", "assent/api.ErrBusy", "assent/api.ErrNone", "assent/api.ErrOrder", "assent/api.ErrValue", "errors.errorType"], apart := false, laid := [("errors.errorType", laid_errors_errorType), ("assent/api.ErrArg", laid_assent_api_ErrArg), ("assent/api.ErrLong", laid_assent_api_ErrLong), ("assent/api.ErrShort", laid_assent_api_ErrShort), ("assent/api.ErrForm", laid_assent_api_ErrForm), ("assent/api.ErrTail", laid_assent_api_ErrTail), ("assent/api.ErrFull", laid_assent_api_ErrFull), ("assent/api.ErrBusy", laid_assent_api_ErrBusy), ("assent/api.ErrNone", laid_assent_api_ErrNone), ("assent/api.ErrOrder", laid_assent_api_ErrOrder), ("assent/api.ErrValue", laid_assent_api_ErrValue)] }
def PackRunsSaid : Prop := packRunsRow.holds Tryd.pinned (OpenSpec.ofChange packRunsSpec)

/-- ITS FALSE NEIGHBOUR: 'it returns false'. Refute it at one input. -/
def packRunsWrong : ChangeSpec := { name := "packRuns", fn := fun _ => fun
  | [] => { results := [.lit (.bool false)], args := [] }
  | _ => none }
def PackRunsWrongFalsely : Prop := packRunsRow.holds Tryd.pinned (OpenSpec.ofChange packRunsWrong)

/-- 'assentlaw3.PackWrites': WHATEVER THE INPUT: true; the input reads as it did. -/
def packWritesSpec : ChangeSpec := { name := "packWrites", fn := fun _ => fun
  | [d1, d2] => { results := [.lit (.bool true)], args := [d1, d2] }
  | _ => none }
def packWritesRow : OpenClaim := { program := "ythmgccakhhggjaadoor", sum := "53bf229d41bacda14f255f12f1c195a4a8e1e7159e1f15c9343cf3fe3c5e9013", func := "assent/assentlaw3.PackWrites", spec := "packWrites", inPlace := ["internal/reflectlite.TypeOf", "internal/reflectlite.ValueOf", "(internal/reflectlite.Value).Type", "(internal/reflectlite.Value).IsNil", "(internal/reflectlite.Value).Elem", "(internal/reflectlite.Value).Set"], unfollowed := true, recurses := true, named := ["assent/api.ErrForm", "assent/api.ErrShort", "assent/api.ErrArg", "assent/api.ErrLong", "assent/api.ErrTail", "assent/api.ErrFull", "assent/api.ErrBusy", "assent/api.ErrNone", "assent/api.ErrOrder", "assent/api.ErrValue", "errors.errorType"], apart := false, laid := [("errors.errorType", laid_errors_errorType), ("assent/api.ErrArg", laid_assent_api_ErrArg), ("assent/api.ErrLong", laid_assent_api_ErrLong), ("assent/api.ErrShort", laid_assent_api_ErrShort), ("assent/api.ErrForm", laid_assent_api_ErrForm), ("assent/api.ErrTail", laid_assent_api_ErrTail), ("assent/api.ErrFull", laid_assent_api_ErrFull), ("assent/api.ErrBusy", laid_assent_api_ErrBusy), ("assent/api.ErrNone", laid_assent_api_ErrNone), ("assent/api.ErrOrder", laid_assent_api_ErrOrder), ("assent/api.ErrValue", laid_assent_api_ErrValue)] }
def PackWritesSaid : Prop := packWritesRow.holds Tryd.pinned (OpenSpec.ofChange packWritesSpec)

/-- ITS FALSE NEIGHBOUR: 'it returns false'. Refute it at one input. -/
def packWritesWrong : ChangeSpec := { name := "packWrites", fn := fun _ => fun
  | [d1, d2] => { results := [.lit (.bool false)], args := [d1, d2] }
  | _ => none }
def PackWritesWrongFalsely : Prop := packWritesRow.holds Tryd.pinned (OpenSpec.ofChange packWritesWrong)

/-- 'assentlaw3.PackSizes': WHATEVER THE INPUT: true; the input reads as it did. -/
def packSizesSpec : ChangeSpec := { name := "packSizes", fn := fun _ => fun
  | [d1, d2] => { results := [.lit (.bool true)], args := [d1, d2] }
  | _ => none }
def packSizesRow : OpenClaim := { program := "ythmgccakhhggjaadoor", sum := "53bf229d41bacda14f255f12f1c195a4a8e1e7159e1f15c9343cf3fe3c5e9013", func := "assent/assentlaw3.PackSizes", spec := "packSizes", inPlace := ["internal/reflectlite.TypeOf", "internal/reflectlite.ValueOf", "(internal/reflectlite.Value).Type", "(internal/reflectlite.Value).IsNil", "(internal/reflectlite.Value).Elem", "(internal/reflectlite.Value).Set"], unfollowed := true, recurses := true, named := ["assent/api.ErrForm", "assent/api.ErrShort", "assent/api.ErrArg", "assent/api.ErrLong", "assent/api.ErrTail", "assent/api.ErrFull", "assent/api.ErrBusy", "assent/api.ErrNone", "assent/api.ErrOrder", "assent/api.ErrValue", "errors.errorType"], apart := false, laid := [("errors.errorType", laid_errors_errorType), ("assent/api.ErrArg", laid_assent_api_ErrArg), ("assent/api.ErrLong", laid_assent_api_ErrLong), ("assent/api.ErrShort", laid_assent_api_ErrShort), ("assent/api.ErrForm", laid_assent_api_ErrForm), ("assent/api.ErrTail", laid_assent_api_ErrTail), ("assent/api.ErrFull", laid_assent_api_ErrFull), ("assent/api.ErrBusy", laid_assent_api_ErrBusy), ("assent/api.ErrNone", laid_assent_api_ErrNone), ("assent/api.ErrOrder", laid_assent_api_ErrOrder), ("assent/api.ErrValue", laid_assent_api_ErrValue)] }
def PackSizesSaid : Prop := packSizesRow.holds Tryd.pinned (OpenSpec.ofChange packSizesSpec)

/-- ITS FALSE NEIGHBOUR: 'it returns false'. Refute it at one input. -/
def packSizesWrong : ChangeSpec := { name := "packSizes", fn := fun _ => fun
  | [d1, d2] => { results := [.lit (.bool false)], args := [d1, d2] }
  | _ => none }
def PackSizesWrongFalsely : Prop := packSizesRow.holds Tryd.pinned (OpenSpec.ofChange packSizesWrong)

/-- 'assentlaw3.PackReads': WHATEVER THE INPUT: true; the input reads as it did. -/
def packReadsSpec : ChangeSpec := { name := "packReads", fn := fun _ => fun
  | [d1, d2] => { results := [.lit (.bool true)], args := [d1, d2] }
  | _ => none }
def packReadsRow : OpenClaim := { program := "ythmgccakhhggjaadoor", sum := "53bf229d41bacda14f255f12f1c195a4a8e1e7159e1f15c9343cf3fe3c5e9013", func := "assent/assentlaw3.PackReads", spec := "packReads", inPlace := ["internal/reflectlite.TypeOf", "internal/reflectlite.ValueOf", "(internal/reflectlite.Value).Type", "(internal/reflectlite.Value).IsNil", "(internal/reflectlite.Value).Elem", "(internal/reflectlite.Value).Set"], unfollowed := true, recurses := true, named := ["assent/api.ErrForm", "assent/api.ErrShort", "assent/api.ErrTail", "assent/api.ErrArg", "assent/api.ErrLong", "assent/api.ErrFull", "assent/api.ErrBusy", "assent/api.ErrNone", "assent/api.ErrOrder", "assent/api.ErrValue", "errors.errorType"], apart := false, laid := [("errors.errorType", laid_errors_errorType), ("assent/api.ErrArg", laid_assent_api_ErrArg), ("assent/api.ErrLong", laid_assent_api_ErrLong), ("assent/api.ErrShort", laid_assent_api_ErrShort), ("assent/api.ErrForm", laid_assent_api_ErrForm), ("assent/api.ErrTail", laid_assent_api_ErrTail), ("assent/api.ErrFull", laid_assent_api_ErrFull), ("assent/api.ErrBusy", laid_assent_api_ErrBusy), ("assent/api.ErrNone", laid_assent_api_ErrNone), ("assent/api.ErrOrder", laid_assent_api_ErrOrder), ("assent/api.ErrValue", laid_assent_api_ErrValue)] }
def PackReadsSaid : Prop := packReadsRow.holds Tryd.pinned (OpenSpec.ofChange packReadsSpec)

/-- ITS FALSE NEIGHBOUR: 'it returns false'. Refute it at one input. -/
def packReadsWrong : ChangeSpec := { name := "packReads", fn := fun _ => fun
  | [d1, d2] => { results := [.lit (.bool false)], args := [d1, d2] }
  | _ => none }
def PackReadsWrongFalsely : Prop := packReadsRow.holds Tryd.pinned (OpenSpec.ofChange packReadsWrong)

/-- 'assentlaw3.PackBack': WHATEVER THE INPUT: true; the input reads as it did. -/
def packBackSpec : ChangeSpec := { name := "packBack", fn := fun _ => fun
  | [d1, d2, d3] => { results := [.lit (.bool true)], args := [d1, d2, d3] }
  | _ => none }
def packBackRow : OpenClaim := { program := "ythmgccakhhggjaadoor", sum := "53bf229d41bacda14f255f12f1c195a4a8e1e7159e1f15c9343cf3fe3c5e9013", func := "assent/assentlaw3.PackBack", spec := "packBack", inPlace := ["internal/reflectlite.TypeOf", "internal/reflectlite.ValueOf", "(internal/reflectlite.Value).Type", "(internal/reflectlite.Value).IsNil", "(internal/reflectlite.Value).Elem", "(internal/reflectlite.Value).Set"], unfollowed := true, recurses := true, named := ["assent/api.ErrValue", "assent/api.ErrForm", "assent/api.ErrShort", "assent/api.ErrTail", "assent/api.ErrArg", "assent/api.ErrLong", "assent/api.ErrFull", "assent/api.ErrBusy", "assent/api.ErrNone", "assent/api.ErrOrder", "errors.errorType"], apart := false, laid := [("errors.errorType", laid_errors_errorType), ("assent/api.ErrArg", laid_assent_api_ErrArg), ("assent/api.ErrLong", laid_assent_api_ErrLong), ("assent/api.ErrShort", laid_assent_api_ErrShort), ("assent/api.ErrForm", laid_assent_api_ErrForm), ("assent/api.ErrTail", laid_assent_api_ErrTail), ("assent/api.ErrFull", laid_assent_api_ErrFull), ("assent/api.ErrBusy", laid_assent_api_ErrBusy), ("assent/api.ErrNone", laid_assent_api_ErrNone), ("assent/api.ErrOrder", laid_assent_api_ErrOrder), ("assent/api.ErrValue", laid_assent_api_ErrValue)] }
def PackBackSaid : Prop := packBackRow.holds Tryd.pinned (OpenSpec.ofChange packBackSpec)

/-- ITS FALSE NEIGHBOUR: 'it returns false'. Refute it at one input. -/
def packBackWrong : ChangeSpec := { name := "packBack", fn := fun _ => fun
  | [d1, d2, d3] => { results := [.lit (.bool false)], args := [d1, d2, d3] }
  | _ => none }
def PackBackWrongFalsely : Prop := packBackRow.holds Tryd.pinned (OpenSpec.ofChange packBackWrong)

/-- 'assentlaw3.PackOne': WHATEVER THE INPUT: true; the input reads as it did. -/
def packOneSpec : ChangeSpec := { name := "packOne", fn := fun _ => fun
  | [d1, d2, d3, d4] => { results := [.lit (.bool true)], args := [d1, d2, d3, d4] }
  | _ => none }
def packOneRow : OpenClaim := { program := "ythmgccakhhggjaadoor", sum := "53bf229d41bacda14f255f12f1c195a4a8e1e7159e1f15c9343cf3fe3c5e9013", func := "assent/assentlaw3.PackOne", spec := "packOne", inPlace := ["internal/reflectlite.TypeOf", "internal/reflectlite.ValueOf", "(internal/reflectlite.Value).Type", "(internal/reflectlite.Value).IsNil", "(internal/reflectlite.Value).Elem", "(internal/reflectlite.Value).Set"], unfollowed := true, recurses := true, named := ["assent/api.ErrForm", "assent/api.ErrShort", "assent/api.ErrArg", "assent/api.ErrLong", "assent/api.ErrTail", "assent/api.ErrFull", "assent/api.ErrBusy", "assent/api.ErrNone", "assent/api.ErrOrder", "assent/api.ErrValue", "errors.errorType"], apart := false, laid := [("errors.errorType", laid_errors_errorType), ("assent/api.ErrArg", laid_assent_api_ErrArg), ("assent/api.ErrLong", laid_assent_api_ErrLong), ("assent/api.ErrShort", laid_assent_api_ErrShort), ("assent/api.ErrForm", laid_assent_api_ErrForm), ("assent/api.ErrTail", laid_assent_api_ErrTail), ("assent/api.ErrFull", laid_assent_api_ErrFull), ("assent/api.ErrBusy", laid_assent_api_ErrBusy), ("assent/api.ErrNone", laid_assent_api_ErrNone), ("assent/api.ErrOrder", laid_assent_api_ErrOrder), ("assent/api.ErrValue", laid_assent_api_ErrValue)] }
def PackOneSaid : Prop := packOneRow.holds Tryd.pinned (OpenSpec.ofChange packOneSpec)

/-- ITS FALSE NEIGHBOUR: 'it returns false'. Refute it at one input. -/
def packOneWrong : ChangeSpec := { name := "packOne", fn := fun _ => fun
  | [d1, d2, d3, d4] => { results := [.lit (.bool false)], args := [d1, d2, d3, d4] }
  | _ => none }
def PackOneWrongFalsely : Prop := packOneRow.holds Tryd.pinned (OpenSpec.ofChange packOneWrong)

/-- 'assentlaw3.PackStays': WHATEVER THE INPUT: true; the input reads as it did. -/
def packStaysSpec : ChangeSpec := { name := "packStays", fn := fun _ => fun
  | [d1, d2] => { results := [.lit (.bool true)], args := [d1, d2] }
  | _ => none }
def packStaysRow : OpenClaim := { program := "ythmgccakhhggjaadoor", sum := "53bf229d41bacda14f255f12f1c195a4a8e1e7159e1f15c9343cf3fe3c5e9013", func := "assent/assentlaw3.PackStays", spec := "packStays", inPlace := ["internal/reflectlite.TypeOf", "internal/reflectlite.ValueOf", "(internal/reflectlite.Value).Type", "(internal/reflectlite.Value).IsNil", "(internal/reflectlite.Value).Elem", "(internal/reflectlite.Value).Set"], unfollowed := true, recurses := true, named := ["assent/api.ErrForm", "assent/api.ErrShort", "assent/api.ErrTail", "assent/api.ErrArg", "assent/api.ErrLong", "assent/api.ErrFull", "assent/api.ErrBusy", "assent/api.ErrNone", "assent/api.ErrOrder", "assent/api.ErrValue", "errors.errorType"], apart := false, laid := [("errors.errorType", laid_errors_errorType), ("assent/api.ErrArg", laid_assent_api_ErrArg), ("assent/api.ErrLong", laid_assent_api_ErrLong), ("assent/api.ErrShort", laid_assent_api_ErrShort), ("assent/api.ErrForm", laid_assent_api_ErrForm), ("assent/api.ErrTail", laid_assent_api_ErrTail), ("assent/api.ErrFull", laid_assent_api_ErrFull), ("assent/api.ErrBusy", laid_assent_api_ErrBusy), ("assent/api.ErrNone", laid_assent_api_ErrNone), ("assent/api.ErrOrder", laid_assent_api_ErrOrder), ("assent/api.ErrValue", laid_assent_api_ErrValue)] }
def PackStaysSaid : Prop := packStaysRow.holds Tryd.pinned (OpenSpec.ofChange packStaysSpec)

/-- ITS FALSE NEIGHBOUR: 'it returns false'. Refute it at one input. -/
def packStaysWrong : ChangeSpec := { name := "packStays", fn := fun _ => fun
  | [d1, d2] => { results := [.lit (.bool false)], args := [d1, d2] }
  | _ => none }
def PackStaysWrongFalsely : Prop := packStaysRow.holds Tryd.pinned (OpenSpec.ofChange packStaysWrong)

/-- 'assentlaw3.PackIn': WHATEVER THE INPUT: true; the input reads as it did. -/
def packInSpec : ChangeSpec := { name := "packIn", fn := fun _ => fun
  | [d1, d2, d3] => { results := [.lit (.bool true)], args := [d1, d2, d3] }
  | _ => none }
def packInRow : OpenClaim := { program := "ythmgccakhhggjaadoor", sum := "53bf229d41bacda14f255f12f1c195a4a8e1e7159e1f15c9343cf3fe3c5e9013", func := "assent/assentlaw3.PackIn", spec := "packIn", inPlace := ["internal/reflectlite.TypeOf", "internal/reflectlite.ValueOf", "(internal/reflectlite.Value).Type", "(internal/reflectlite.Value).IsNil", "(internal/reflectlite.Value).Elem", "(internal/reflectlite.Value).Set"], unfollowed := true, recurses := true, named := ["assent/api.ErrForm", "assent/api.ErrShort", "assent/api.ErrArg", "assent/api.ErrLong", "assent/api.ErrTail", "assent/api.ErrFull", "assent/api.ErrBusy", "assent/api.ErrNone", "assent/api.ErrOrder", "assent/api.ErrValue", "errors.errorType"], apart := false, laid := [("errors.errorType", laid_errors_errorType), ("assent/api.ErrArg", laid_assent_api_ErrArg), ("assent/api.ErrLong", laid_assent_api_ErrLong), ("assent/api.ErrShort", laid_assent_api_ErrShort), ("assent/api.ErrForm", laid_assent_api_ErrForm), ("assent/api.ErrTail", laid_assent_api_ErrTail), ("assent/api.ErrFull", laid_assent_api_ErrFull), ("assent/api.ErrBusy", laid_assent_api_ErrBusy), ("assent/api.ErrNone", laid_assent_api_ErrNone), ("assent/api.ErrOrder", laid_assent_api_ErrOrder), ("assent/api.ErrValue", laid_assent_api_ErrValue)] }
def PackInSaid : Prop := packInRow.holds Tryd.pinned (OpenSpec.ofChange packInSpec)

/-- ITS FALSE NEIGHBOUR: 'it returns false'. Refute it at one input. -/
def packInWrong : ChangeSpec := { name := "packIn", fn := fun _ => fun
  | [d1, d2, d3] => { results := [.lit (.bool false)], args := [d1, d2, d3] }
  | _ => none }
def PackInWrongFalsely : Prop := packInRow.holds Tryd.pinned (OpenSpec.ofChange packInWrong)

/- THE SECOND FORM. 'bulk': how many values and letters a reading holds, each counted each time it is reached (what is shared counts as often as it is met; a slice's spare places count too). A statement '..UptoSaid' is the law's where the arguments, and the package variables that the reading takes, are together of bulk at most 1048576: NARROWER than '..Said'. Prove '..Said' where nothing that the law and all that it calls make is longer than what came in: it says more and counts as full. Else prove '..UptoSaid'. A law counts once. -/
mutual
def uptoBulk {H : Type} : DataW H → Nat
  | .lit (.string bytes) => bytes.length + 1
  | .lit _ => 1
  | .nil => 1
  | .ptr d => uptoBulk d + 1
  | .slice elems spare => uptoBulkAll elems + uptoBulkAll spare + 1
  | .agg parts => uptoBulkAll parts + 1
  | .iface _ d => uptoBulk d + 1
  | .map entries => uptoBulkEntries entries + 1
  | .held _ => 1
def uptoBulkAll {H : Type} : List (DataW H) → Nat
  | [] => 0
  | d :: r => uptoBulk d + uptoBulkAll r
def uptoBulkEntries {H : Type} : List (Lit × DataW H) → Nat
  | [] => 0
  | x :: r => uptoBulkEntry x + uptoBulkEntries r
def uptoBulkEntry {H : Type} : Lit × DataW H → Nat
  | (.string bytes, d) => bytes.length + uptoBulk d + 1
  | (_, d) => uptoBulk d + 1
 end
def uptoSmall : (H : Type) → List (DataW H) → Bool := fun _ ds => decide (uptoBulkAll ds ≤ 1048576)
def OpenSpec.upto (s : _root_.Go.ChangeSpec) : _root_.Go.OpenSpec := { _root_.Go.OpenSpec.ofChange s with cond := some uptoSmall }

/-- 'assentlaw3.PackRuns', WHERE WHAT IT READS IS OF BULK AT MOST 1048576: true; the input reads as it did. -/
def packRunsUptoRow : OpenClaim := { program := "ythmgccakhhggjaadoor", sum := "53bf229d41bacda14f255f12f1c195a4a8e1e7159e1f15c9343cf3fe3c5e9013", func := "assent/assentlaw3.PackRuns", spec := "packRuns", inPlace := ["internal/reflectlite.TypeOf", "internal/reflectlite.ValueOf", "(internal/reflectlite.Value).Type", "(internal/reflectlite.Value).IsNil", "(internal/reflectlite.Value).Elem", "(internal/reflectlite.Value).Set"], unfollowed := true, recurses := true, named := ["assent/api.ErrForm", "assent/api.ErrShort", "assent/api.ErrArg", "assent/api.ErrLong", "assent/api.ErrTail", "assent/api.ErrFull", "assent/api.ErrBusy", "assent/api.ErrNone", "assent/api.ErrOrder", "assent/api.ErrValue", "errors.errorType"], apart := false, laid := [("errors.errorType", laid_errors_errorType), ("assent/api.ErrArg", laid_assent_api_ErrArg), ("assent/api.ErrLong", laid_assent_api_ErrLong), ("assent/api.ErrShort", laid_assent_api_ErrShort), ("assent/api.ErrForm", laid_assent_api_ErrForm), ("assent/api.ErrTail", laid_assent_api_ErrTail), ("assent/api.ErrFull", laid_assent_api_ErrFull), ("assent/api.ErrBusy", laid_assent_api_ErrBusy), ("assent/api.ErrNone", laid_assent_api_ErrNone), ("assent/api.ErrOrder", laid_assent_api_ErrOrder), ("assent/api.ErrValue", laid_assent_api_ErrValue)], narrowed := true }
def PackRunsUptoSaid : Prop := packRunsUptoRow.holds Tryd.pinned (OpenSpec.upto packRunsSpec)

/-- 'assentlaw3.PackWrites', WHERE WHAT IT READS IS OF BULK AT MOST 1048576: true; the input reads as it did. -/
def packWritesUptoRow : OpenClaim := { program := "ythmgccakhhggjaadoor", sum := "53bf229d41bacda14f255f12f1c195a4a8e1e7159e1f15c9343cf3fe3c5e9013", func := "assent/assentlaw3.PackWrites", spec := "packWrites", inPlace := ["internal/reflectlite.TypeOf", "internal/reflectlite.ValueOf", "(internal/reflectlite.Value).Type", "(internal/reflectlite.Value).IsNil", "(internal/reflectlite.Value).Elem", "(internal/reflectlite.Value).Set"], unfollowed := true, recurses := true, named := ["assent/api.ErrForm", "assent/api.ErrShort", "assent/api.ErrArg", "assent/api.ErrLong", "assent/api.ErrTail", "assent/api.ErrFull", "assent/api.ErrBusy", "assent/api.ErrNone", "assent/api.ErrOrder", "assent/api.ErrValue", "errors.errorType"], apart := false, laid := [("errors.errorType", laid_errors_errorType), ("assent/api.ErrArg", laid_assent_api_ErrArg), ("assent/api.ErrLong", laid_assent_api_ErrLong), ("assent/api.ErrShort", laid_assent_api_ErrShort), ("assent/api.ErrForm", laid_assent_api_ErrForm), ("assent/api.ErrTail", laid_assent_api_ErrTail), ("assent/api.ErrFull", laid_assent_api_ErrFull), ("assent/api.ErrBusy", laid_assent_api_ErrBusy), ("assent/api.ErrNone", laid_assent_api_ErrNone), ("assent/api.ErrOrder", laid_assent_api_ErrOrder), ("assent/api.ErrValue", laid_assent_api_ErrValue)], narrowed := true }
def PackWritesUptoSaid : Prop := packWritesUptoRow.holds Tryd.pinned (OpenSpec.upto packWritesSpec)

/-- 'assentlaw3.PackSizes', WHERE WHAT IT READS IS OF BULK AT MOST 1048576: true; the input reads as it did. -/
def packSizesUptoRow : OpenClaim := { program := "ythmgccakhhggjaadoor", sum := "53bf229d41bacda14f255f12f1c195a4a8e1e7159e1f15c9343cf3fe3c5e9013", func := "assent/assentlaw3.PackSizes", spec := "packSizes", inPlace := ["internal/reflectlite.TypeOf", "internal/reflectlite.ValueOf", "(internal/reflectlite.Value).Type", "(internal/reflectlite.Value).IsNil", "(internal/reflectlite.Value).Elem", "(internal/reflectlite.Value).Set"], unfollowed := true, recurses := true, named := ["assent/api.ErrForm", "assent/api.ErrShort", "assent/api.ErrArg", "assent/api.ErrLong", "assent/api.ErrTail", "assent/api.ErrFull", "assent/api.ErrBusy", "assent/api.ErrNone", "assent/api.ErrOrder", "assent/api.ErrValue", "errors.errorType"], apart := false, laid := [("errors.errorType", laid_errors_errorType), ("assent/api.ErrArg", laid_assent_api_ErrArg), ("assent/api.ErrLong", laid_assent_api_ErrLong), ("assent/api.ErrShort", laid_assent_api_ErrShort), ("assent/api.ErrForm", laid_assent_api_ErrForm), ("assent/api.ErrTail", laid_assent_api_ErrTail), ("assent/api.ErrFull", laid_assent_api_ErrFull), ("assent/api.ErrBusy", laid_assent_api_ErrBusy), ("assent/api.ErrNone", laid_assent_api_ErrNone), ("assent/api.ErrOrder", laid_assent_api_ErrOrder), ("assent/api.ErrValue", laid_assent_api_ErrValue)], narrowed := true }
def PackSizesUptoSaid : Prop := packSizesUptoRow.holds Tryd.pinned (OpenSpec.upto packSizesSpec)

/-- 'assentlaw3.PackReads', WHERE WHAT IT READS IS OF BULK AT MOST 1048576: true; the input reads as it did. -/
def packReadsUptoRow : OpenClaim := { program := "ythmgccakhhggjaadoor", sum := "53bf229d41bacda14f255f12f1c195a4a8e1e7159e1f15c9343cf3fe3c5e9013", func := "assent/assentlaw3.PackReads", spec := "packReads", inPlace := ["internal/reflectlite.TypeOf", "internal/reflectlite.ValueOf", "(internal/reflectlite.Value).Type", "(internal/reflectlite.Value).IsNil", "(internal/reflectlite.Value).Elem", "(internal/reflectlite.Value).Set"], unfollowed := true, recurses := true, named := ["assent/api.ErrForm", "assent/api.ErrShort", "assent/api.ErrTail", "assent/api.ErrArg", "assent/api.ErrLong", "assent/api.ErrFull", "assent/api.ErrBusy", "assent/api.ErrNone", "assent/api.ErrOrder", "assent/api.ErrValue", "errors.errorType"], apart := false, laid := [("errors.errorType", laid_errors_errorType), ("assent/api.ErrArg", laid_assent_api_ErrArg), ("assent/api.ErrLong", laid_assent_api_ErrLong), ("assent/api.ErrShort", laid_assent_api_ErrShort), ("assent/api.ErrForm", laid_assent_api_ErrForm), ("assent/api.ErrTail", laid_assent_api_ErrTail), ("assent/api.ErrFull", laid_assent_api_ErrFull), ("assent/api.ErrBusy", laid_assent_api_ErrBusy), ("assent/api.ErrNone", laid_assent_api_ErrNone), ("assent/api.ErrOrder", laid_assent_api_ErrOrder), ("assent/api.ErrValue", laid_assent_api_ErrValue)], narrowed := true }
def PackReadsUptoSaid : Prop := packReadsUptoRow.holds Tryd.pinned (OpenSpec.upto packReadsSpec)

/-- 'assentlaw3.PackBack', WHERE WHAT IT READS IS OF BULK AT MOST 1048576: true; the input reads as it did. -/
def packBackUptoRow : OpenClaim := { program := "ythmgccakhhggjaadoor", sum := "53bf229d41bacda14f255f12f1c195a4a8e1e7159e1f15c9343cf3fe3c5e9013", func := "assent/assentlaw3.PackBack", spec := "packBack", inPlace := ["internal/reflectlite.TypeOf", "internal/reflectlite.ValueOf", "(internal/reflectlite.Value).Type", "(internal/reflectlite.Value).IsNil", "(internal/reflectlite.Value).Elem", "(internal/reflectlite.Value).Set"], unfollowed := true, recurses := true, named := ["assent/api.ErrValue", "assent/api.ErrForm", "assent/api.ErrShort", "assent/api.ErrTail", "assent/api.ErrArg", "assent/api.ErrLong", "assent/api.ErrFull", "assent/api.ErrBusy", "assent/api.ErrNone", "assent/api.ErrOrder", "errors.errorType"], apart := false, laid := [("errors.errorType", laid_errors_errorType), ("assent/api.ErrArg", laid_assent_api_ErrArg), ("assent/api.ErrLong", laid_assent_api_ErrLong), ("assent/api.ErrShort", laid_assent_api_ErrShort), ("assent/api.ErrForm", laid_assent_api_ErrForm), ("assent/api.ErrTail", laid_assent_api_ErrTail), ("assent/api.ErrFull", laid_assent_api_ErrFull), ("assent/api.ErrBusy", laid_assent_api_ErrBusy), ("assent/api.ErrNone", laid_assent_api_ErrNone), ("assent/api.ErrOrder", laid_assent_api_ErrOrder), ("assent/api.ErrValue", laid_assent_api_ErrValue)], narrowed := true }
def PackBackUptoSaid : Prop := packBackUptoRow.holds Tryd.pinned (OpenSpec.upto packBackSpec)

/-- 'assentlaw3.PackOne', WHERE WHAT IT READS IS OF BULK AT MOST 1048576: true; the input reads as it did. -/
def packOneUptoRow : OpenClaim := { program := "ythmgccakhhggjaadoor", sum := "53bf229d41bacda14f255f12f1c195a4a8e1e7159e1f15c9343cf3fe3c5e9013", func := "assent/assentlaw3.PackOne", spec := "packOne", inPlace := ["internal/reflectlite.TypeOf", "internal/reflectlite.ValueOf", "(internal/reflectlite.Value).Type", "(internal/reflectlite.Value).IsNil", "(internal/reflectlite.Value).Elem", "(internal/reflectlite.Value).Set"], unfollowed := true, recurses := true, named := ["assent/api.ErrForm", "assent/api.ErrShort", "assent/api.ErrArg", "assent/api.ErrLong", "assent/api.ErrTail", "assent/api.ErrFull", "assent/api.ErrBusy", "assent/api.ErrNone", "assent/api.ErrOrder", "assent/api.ErrValue", "errors.errorType"], apart := false, laid := [("errors.errorType", laid_errors_errorType), ("assent/api.ErrArg", laid_assent_api_ErrArg), ("assent/api.ErrLong", laid_assent_api_ErrLong), ("assent/api.ErrShort", laid_assent_api_ErrShort), ("assent/api.ErrForm", laid_assent_api_ErrForm), ("assent/api.ErrTail", laid_assent_api_ErrTail), ("assent/api.ErrFull", laid_assent_api_ErrFull), ("assent/api.ErrBusy", laid_assent_api_ErrBusy), ("assent/api.ErrNone", laid_assent_api_ErrNone), ("assent/api.ErrOrder", laid_assent_api_ErrOrder), ("assent/api.ErrValue", laid_assent_api_ErrValue)], narrowed := true }
def PackOneUptoSaid : Prop := packOneUptoRow.holds Tryd.pinned (OpenSpec.upto packOneSpec)

/-- 'assentlaw3.PackStays', WHERE WHAT IT READS IS OF BULK AT MOST 1048576: true; the input reads as it did. -/
def packStaysUptoRow : OpenClaim := { program := "ythmgccakhhggjaadoor", sum := "53bf229d41bacda14f255f12f1c195a4a8e1e7159e1f15c9343cf3fe3c5e9013", func := "assent/assentlaw3.PackStays", spec := "packStays", inPlace := ["internal/reflectlite.TypeOf", "internal/reflectlite.ValueOf", "(internal/reflectlite.Value).Type", "(internal/reflectlite.Value).IsNil", "(internal/reflectlite.Value).Elem", "(internal/reflectlite.Value).Set"], unfollowed := true, recurses := true, named := ["assent/api.ErrForm", "assent/api.ErrShort", "assent/api.ErrTail", "assent/api.ErrArg", "assent/api.ErrLong", "assent/api.ErrFull", "assent/api.ErrBusy", "assent/api.ErrNone", "assent/api.ErrOrder", "assent/api.ErrValue", "errors.errorType"], apart := false, laid := [("errors.errorType", laid_errors_errorType), ("assent/api.ErrArg", laid_assent_api_ErrArg), ("assent/api.ErrLong", laid_assent_api_ErrLong), ("assent/api.ErrShort", laid_assent_api_ErrShort), ("assent/api.ErrForm", laid_assent_api_ErrForm), ("assent/api.ErrTail", laid_assent_api_ErrTail), ("assent/api.ErrFull", laid_assent_api_ErrFull), ("assent/api.ErrBusy", laid_assent_api_ErrBusy), ("assent/api.ErrNone", laid_assent_api_ErrNone), ("assent/api.ErrOrder", laid_assent_api_ErrOrder), ("assent/api.ErrValue", laid_assent_api_ErrValue)], narrowed := true }
def PackStaysUptoSaid : Prop := packStaysUptoRow.holds Tryd.pinned (OpenSpec.upto packStaysSpec)

/-- 'assentlaw3.PackIn', WHERE WHAT IT READS IS OF BULK AT MOST 1048576: true; the input reads as it did. -/
def packInUptoRow : OpenClaim := { program := "ythmgccakhhggjaadoor", sum := "53bf229d41bacda14f255f12f1c195a4a8e1e7159e1f15c9343cf3fe3c5e9013", func := "assent/assentlaw3.PackIn", spec := "packIn", inPlace := ["internal/reflectlite.TypeOf", "internal/reflectlite.ValueOf", "(internal/reflectlite.Value).Type", "(internal/reflectlite.Value).IsNil", "(internal/reflectlite.Value).Elem", "(internal/reflectlite.Value).Set"], unfollowed := true, recurses := true, named := ["assent/api.ErrForm", "assent/api.ErrShort", "assent/api.ErrArg", "assent/api.ErrLong", "assent/api.ErrTail", "assent/api.ErrFull", "assent/api.ErrBusy", "assent/api.ErrNone", "assent/api.ErrOrder", "assent/api.ErrValue", "errors.errorType"], apart := false, laid := [("errors.errorType", laid_errors_errorType), ("assent/api.ErrArg", laid_assent_api_ErrArg), ("assent/api.ErrLong", laid_assent_api_ErrLong), ("assent/api.ErrShort", laid_assent_api_ErrShort), ("assent/api.ErrForm", laid_assent_api_ErrForm), ("assent/api.ErrTail", laid_assent_api_ErrTail), ("assent/api.ErrFull", laid_assent_api_ErrFull), ("assent/api.ErrBusy", laid_assent_api_ErrBusy), ("assent/api.ErrNone", laid_assent_api_ErrNone), ("assent/api.ErrOrder", laid_assent_api_ErrOrder), ("assent/api.ErrValue", laid_assent_api_ErrValue)], narrowed := true }
def PackInUptoSaid : Prop := packInUptoRow.holds Tryd.pinned (OpenSpec.upto packInSpec)

end Rows
end Go.Proofs.YthmgccakhhggjaaDoor
