/-
  NARROWER THAN 'FOR EVERY INPUT', by the rows' own cells (each row's printed sentence says how): EpochLays: laid · EpochMarks: laid · EpochChains: laid.
  DERIVED. THE GIVEN ROWS OF THIS SEAT. 3 by the template 'for every input the law returns true; each argument reads behind the call as it read before'; 0 by the template 'total and deterministic' (their statements: YtjekfpnpfllaoaaGreatDoorTotals.lean).
  GIVEN WITH THE SEED: the statements are not yours to turn. If you find one false, say at which input.
  Laid BY PROGRAM, IN A SANDBOX (cutbox-rows.mjs): the forced cells as the released guide's own fill.sh prints them over the translation 08deacbe2cbcbf85… (all of the seat's roots in one cut). By AI agents, Wed Nov 11 2026. No macro, syntax, notation, axiom, sorry.
-/
import Derived.Test.YtjekfpnpfllaoaaGreatDoorChecked
import GoSem.Claim
import GoSem.ClaimJoined
import GoSem.ClaimMapViews
import Derived.JoinedTies
import Derived.KernelRfl
namespace Go.Proofs.YtjekfpnpfllaoaaGreatDoor
/- THE CELL 'sum', in the pinned program and in every row, IS THE sha256 OF THE DUMP (.gsa) THAT YtjekfpnpfllaoaaGreatDoorProg.lean LOADS. Nothing in Lean hashes anything: it is a label: what it is worth is what the hold of that sum in a sandbox is worth. -/
noncomputable def Tryz.pinned : Pinned := { name := "ytjekfpnpfllaoaagreatdoor", sum := "08deacbe2cbcbf853cc978e9432f995f92880586f2c7b03d44202be71e55c9dc", checked := Tryz.checked }
namespace Rows
def none {H : Type} : Left H := { results := [], args := [] }

/- WHAT THE LISTED PACKAGE-LEVEL VARIABLES READ AS WHEN THE CALL BEGINS. Each datum BY PROGRAM (the guide's laid-datum.mjs) off the statement by which the dump's own 'gosem.cut.vars' lays the variable. In a bare row this is a premise. The card (YtjekfpnpfllaoaaGreatDoorCards.lean) ties it to the program's text. -/
def laid_errors_errorType {H : Type} : DataW H := .iface "internal/reflectlite.rtype" (.agg [.ptr (.lit (.string [101, 114, 114, 111, 114]))])
def laid_ferry_api_ErrShort {H : Type} : DataW H := .iface "*errors.errorString" (.ptr (.agg [.lit (.string [116, 104, 101, 32, 98, 121, 116, 101, 115, 32, 101, 110, 100, 32, 116, 111, 111, 32, 101, 97, 114, 108, 121])]))
def laid_ferry_api_ErrRest {H : Type} : DataW H := .iface "*errors.errorString" (.ptr (.agg [.lit (.string [115, 111, 109, 101, 116, 104, 105, 110, 103, 32, 105, 115, 32, 108, 101, 102, 116, 32, 111, 118, 101, 114])]))
def laid_ferry_api_ErrTag {H : Type} : DataW H := .iface "*errors.errorString" (.ptr (.agg [.lit (.string [97, 110, 111, 116, 104, 101, 114, 32, 116, 97, 103, 32, 105, 115, 32, 119, 97, 110, 116, 101, 100])]))
def laid_ferry_api_ErrRange {H : Type} : DataW H := .iface "*errors.errorString" (.ptr (.agg [.lit (.string [97, 32, 110, 117, 109, 98, 101, 114, 32, 111, 117, 116, 32, 111, 102, 32, 105, 116, 115, 32, 114, 97, 110, 103, 101])]))
def laid_ferry_api_ErrLength {H : Type} : DataW H := .iface "*errors.errorString" (.ptr (.agg [.lit (.string [97, 32, 108, 101, 110, 103, 116, 104, 32, 116, 104, 97, 116, 32, 105, 115, 110, 39, 116, 32, 116, 104, 101, 32, 116, 104, 105, 110, 103, 39, 115])]))
def laid_ferry_api_ErrSum {H : Type} : DataW H := .iface "*errors.errorString" (.ptr (.agg [.lit (.string [116, 104, 101, 32, 99, 104, 101, 99, 107, 32, 115, 117, 109, 32, 105, 115, 32, 119, 114, 111, 110, 103])]))
def laid_ferry_api_ErrKind {H : Type} : DataW H := .iface "*errors.errorString" (.ptr (.agg [.lit (.string [110, 111, 32, 115, 117, 99, 104, 32, 107, 105, 110, 100])]))
def laid_ferry_api_ErrPlan {H : Type} : DataW H := .iface "*errors.errorString" (.ptr (.agg [.lit (.string [110, 111, 116, 32, 111, 102, 32, 116, 104, 105, 115, 32, 112, 108, 97, 110])]))
def laid_ferry_api_ErrState {H : Type} : DataW H := .iface "*errors.errorString" (.ptr (.agg [.lit (.string [116, 104, 101, 32, 115, 116, 97, 116, 101, 32, 98, 114, 101, 97, 107, 115, 32, 97, 32, 114, 117, 108, 101])]))
def laid_ferry_api_ErrBase {H : Type} : DataW H := .iface "*errors.errorString" (.ptr (.agg [.lit (.string [110, 111, 116, 32, 111, 118, 101, 114, 32, 116, 104, 105, 115, 32, 98, 97, 115, 101])]))
def laid_ferry_api_ErrSize {H : Type} : DataW H := .iface "*errors.errorString" (.ptr (.agg [.lit (.string [116, 111, 111, 32, 108, 97, 114, 103, 101])]))
def laid_ferry_api_ErrArg {H : Type} : DataW H := .iface "*errors.errorString" (.ptr (.agg [.lit (.string [97, 32, 119, 114, 111, 110, 103, 32, 97, 114, 103, 117, 109, 101, 110, 116])]))
def laid_ferry_api_ErrEnd {H : Type} : DataW H := .iface "*errors.errorString" (.ptr (.agg [.lit (.string [97, 32, 99, 111, 117, 110, 116, 101, 114, 32, 105, 115, 32, 97, 116, 32, 105, 116, 115, 32, 101, 110, 100])]))
def laid_ferry_api_ErrBusy {H : Type} : DataW H := .iface "*errors.errorString" (.ptr (.agg [.lit (.string [115, 111, 109, 101, 116, 104, 105, 110, 103, 32, 105, 115, 32, 117, 110, 100, 101, 114, 32, 119, 97, 121])]))
def laid_ferry_api_ErrDown {H : Type} : DataW H := .iface "*errors.errorString" (.ptr (.agg [.lit (.string [116, 104, 101, 32, 109, 111, 100, 117, 108, 101, 32, 105, 115, 32, 100, 111, 119, 110])]))
def laid_ferry_api_ErrLost {H : Type} : DataW H := .iface "*errors.errorString" (.ptr (.agg [.lit (.string [116, 104, 101, 32, 112, 97, 114, 116, 105, 116, 105, 111, 110, 32, 105, 115, 32, 108, 111, 115, 116])]))
def laid_ferry_api_ErrNone {H : Type} : DataW H := .iface "*errors.errorString" (.ptr (.agg [.lit (.string [116, 104, 101, 114, 101, 32, 105, 115, 32, 110, 111, 110, 101])]))
def laid_ferry_api_ErrText {H : Type} : DataW H := .iface "*errors.errorString" (.ptr (.agg [.lit (.string [97, 32, 116, 101, 120, 116, 32, 116, 104, 97, 116, 32, 105, 115, 110, 39, 116, 32, 111, 102, 32, 116, 104, 101, 32, 108, 97, 110, 103, 117, 97, 103, 101])]))
def laid_ferry_api_ErrStop {H : Type} : DataW H := .iface "*errors.errorString" (.ptr (.agg [.lit (.string [99, 97, 110, 99, 101, 108, 108, 101, 100])]))
def laid_ferry_api_ErrDivide {H : Type} : DataW H := .iface "*errors.errorString" (.ptr (.agg [.lit (.string [100, 105, 118, 105, 115, 105, 111, 110, 32, 98, 121, 32, 122, 101, 114, 111])]))

/-- 'ferrylaw17.EpochLays': WHATEVER THE INPUT: true; the input reads as it did. -/
def epochLaysSpec : ChangeSpec := { name := "epochLays", fn := fun _ => fun
  | [d] => { results := [.lit (.bool true)], args := [d] }
  | _ => none }
def epochLaysRow : OpenClaim := { program := "ytjekfpnpfllaoaagreatdoor", sum := "08deacbe2cbcbf853cc978e9432f995f92880586f2c7b03d44202be71e55c9dc", func := "ferry/ferrylaw17.EpochLays", spec := "epochLays", inPlace := ["internal/reflectlite.TypeOf", "internal/reflectlite.ValueOf", "(internal/reflectlite.Value).Type", "(internal/reflectlite.Value).IsNil", "(internal/reflectlite.Value).Elem", "(internal/reflectlite.Value).Set"], unfollowed := true, recurses := true, named := ["ferry/api.ErrEnd", "ferry/api.ErrPlan", "ferry/api.ErrState", "ferry/api.ErrRange", "ferry/api.ErrSize", "ferry/api.ErrLength", "ferry/api.ErrKind", "ferry/api.ErrBase", "ferry/api.ErrArg", "ferry/api.ErrShort", "ferry/api.ErrRest", "ferry/api.ErrTag", "ferry/api.ErrSum", "ferry/api.ErrBusy", "ferry/api.ErrDown", "ferry/api.ErrLost", "ferry/api.ErrNone", "ferry/api.ErrText", "ferry/api.ErrStop", "ferry/api.ErrDivide", "errors.errorType"], apart := false, laid := [("errors.errorType", laid_errors_errorType), ("ferry/api.ErrShort", laid_ferry_api_ErrShort), ("ferry/api.ErrRest", laid_ferry_api_ErrRest), ("ferry/api.ErrTag", laid_ferry_api_ErrTag), ("ferry/api.ErrRange", laid_ferry_api_ErrRange), ("ferry/api.ErrLength", laid_ferry_api_ErrLength), ("ferry/api.ErrSum", laid_ferry_api_ErrSum), ("ferry/api.ErrKind", laid_ferry_api_ErrKind), ("ferry/api.ErrPlan", laid_ferry_api_ErrPlan), ("ferry/api.ErrState", laid_ferry_api_ErrState), ("ferry/api.ErrBase", laid_ferry_api_ErrBase), ("ferry/api.ErrSize", laid_ferry_api_ErrSize), ("ferry/api.ErrArg", laid_ferry_api_ErrArg), ("ferry/api.ErrEnd", laid_ferry_api_ErrEnd), ("ferry/api.ErrBusy", laid_ferry_api_ErrBusy), ("ferry/api.ErrDown", laid_ferry_api_ErrDown), ("ferry/api.ErrLost", laid_ferry_api_ErrLost), ("ferry/api.ErrNone", laid_ferry_api_ErrNone), ("ferry/api.ErrText", laid_ferry_api_ErrText), ("ferry/api.ErrStop", laid_ferry_api_ErrStop), ("ferry/api.ErrDivide", laid_ferry_api_ErrDivide)] }
def EpochLaysSaid : Prop := epochLaysRow.holds Tryz.pinned (OpenSpec.ofChange epochLaysSpec)

/-- ITS FALSE NEIGHBOUR: 'it returns false'. Refute it at one input. -/
def epochLaysWrong : ChangeSpec := { name := "epochLays", fn := fun _ => fun
  | [d] => { results := [.lit (.bool false)], args := [d] }
  | _ => none }
def EpochLaysWrongFalsely : Prop := epochLaysRow.holds Tryz.pinned (OpenSpec.ofChange epochLaysWrong)

/-- 'ferrylaw17.EpochMarks': WHATEVER THE INPUT: true; the input reads as it did. -/
def epochMarksSpec : ChangeSpec := { name := "epochMarks", fn := fun _ => fun
  | [d] => { results := [.lit (.bool true)], args := [d] }
  | _ => none }
def epochMarksRow : OpenClaim := { program := "ytjekfpnpfllaoaagreatdoor", sum := "08deacbe2cbcbf853cc978e9432f995f92880586f2c7b03d44202be71e55c9dc", func := "ferry/ferrylaw17.EpochMarks", spec := "epochMarks", inPlace := ["internal/reflectlite.TypeOf", "internal/reflectlite.ValueOf", "(internal/reflectlite.Value).Type", "(internal/reflectlite.Value).IsNil", "(internal/reflectlite.Value).Elem", "(internal/reflectlite.Value).Set"], unfollowed := true, recurses := true, named := ["ferry/api.ErrEnd", "ferry/api.ErrPlan", "ferry/api.ErrState", "ferry/api.ErrRange", "ferry/api.ErrSize", "ferry/api.ErrLength", "ferry/api.ErrKind", "ferry/api.ErrBase", "ferry/api.ErrArg", "ferry/api.ErrShort", "ferry/api.ErrRest", "ferry/api.ErrTag", "ferry/api.ErrSum", "ferry/api.ErrBusy", "ferry/api.ErrDown", "ferry/api.ErrLost", "ferry/api.ErrNone", "ferry/api.ErrText", "ferry/api.ErrStop", "ferry/api.ErrDivide", "errors.errorType"], apart := false, laid := [("errors.errorType", laid_errors_errorType), ("ferry/api.ErrShort", laid_ferry_api_ErrShort), ("ferry/api.ErrRest", laid_ferry_api_ErrRest), ("ferry/api.ErrTag", laid_ferry_api_ErrTag), ("ferry/api.ErrRange", laid_ferry_api_ErrRange), ("ferry/api.ErrLength", laid_ferry_api_ErrLength), ("ferry/api.ErrSum", laid_ferry_api_ErrSum), ("ferry/api.ErrKind", laid_ferry_api_ErrKind), ("ferry/api.ErrPlan", laid_ferry_api_ErrPlan), ("ferry/api.ErrState", laid_ferry_api_ErrState), ("ferry/api.ErrBase", laid_ferry_api_ErrBase), ("ferry/api.ErrSize", laid_ferry_api_ErrSize), ("ferry/api.ErrArg", laid_ferry_api_ErrArg), ("ferry/api.ErrEnd", laid_ferry_api_ErrEnd), ("ferry/api.ErrBusy", laid_ferry_api_ErrBusy), ("ferry/api.ErrDown", laid_ferry_api_ErrDown), ("ferry/api.ErrLost", laid_ferry_api_ErrLost), ("ferry/api.ErrNone", laid_ferry_api_ErrNone), ("ferry/api.ErrText", laid_ferry_api_ErrText), ("ferry/api.ErrStop", laid_ferry_api_ErrStop), ("ferry/api.ErrDivide", laid_ferry_api_ErrDivide)] }
def EpochMarksSaid : Prop := epochMarksRow.holds Tryz.pinned (OpenSpec.ofChange epochMarksSpec)

/-- ITS FALSE NEIGHBOUR: 'it returns false'. Refute it at one input. -/
def epochMarksWrong : ChangeSpec := { name := "epochMarks", fn := fun _ => fun
  | [d] => { results := [.lit (.bool false)], args := [d] }
  | _ => none }
def EpochMarksWrongFalsely : Prop := epochMarksRow.holds Tryz.pinned (OpenSpec.ofChange epochMarksWrong)

/-- 'ferrylaw17.EpochChains': WHATEVER THE INPUT: true; the input reads as it did. -/
def epochChainsSpec : ChangeSpec := { name := "epochChains", fn := fun _ => fun
  | [d1, d2, d3] => { results := [.lit (.bool true)], args := [d1, d2, d3] }
  | _ => none }
def epochChainsRow : OpenClaim := { program := "ytjekfpnpfllaoaagreatdoor", sum := "08deacbe2cbcbf853cc978e9432f995f92880586f2c7b03d44202be71e55c9dc", func := "ferry/ferrylaw17.EpochChains", spec := "epochChains", inPlace := ["internal/reflectlite.TypeOf", "internal/reflectlite.ValueOf", "(internal/reflectlite.Value).Type", "(internal/reflectlite.Value).IsNil", "(internal/reflectlite.Value).Elem", "(internal/reflectlite.Value).Set"], unfollowed := true, recurses := true, named := ["ferry/api.ErrEnd", "ferry/api.ErrPlan", "ferry/api.ErrState", "ferry/api.ErrRange", "ferry/api.ErrSize", "ferry/api.ErrLength", "ferry/api.ErrKind", "ferry/api.ErrBase", "ferry/api.ErrArg", "ferry/api.ErrShort", "ferry/api.ErrRest", "ferry/api.ErrTag", "ferry/api.ErrSum", "ferry/api.ErrBusy", "ferry/api.ErrDown", "ferry/api.ErrLost", "ferry/api.ErrNone", "ferry/api.ErrText", "ferry/api.ErrStop", "ferry/api.ErrDivide", "errors.errorType"], apart := false, laid := [("errors.errorType", laid_errors_errorType), ("ferry/api.ErrShort", laid_ferry_api_ErrShort), ("ferry/api.ErrRest", laid_ferry_api_ErrRest), ("ferry/api.ErrTag", laid_ferry_api_ErrTag), ("ferry/api.ErrRange", laid_ferry_api_ErrRange), ("ferry/api.ErrLength", laid_ferry_api_ErrLength), ("ferry/api.ErrSum", laid_ferry_api_ErrSum), ("ferry/api.ErrKind", laid_ferry_api_ErrKind), ("ferry/api.ErrPlan", laid_ferry_api_ErrPlan), ("ferry/api.ErrState", laid_ferry_api_ErrState), ("ferry/api.ErrBase", laid_ferry_api_ErrBase), ("ferry/api.ErrSize", laid_ferry_api_ErrSize), ("ferry/api.ErrArg", laid_ferry_api_ErrArg), ("ferry/api.ErrEnd", laid_ferry_api_ErrEnd), ("ferry/api.ErrBusy", laid_ferry_api_ErrBusy), ("ferry/api.ErrDown", laid_ferry_api_ErrDown), ("ferry/api.ErrLost", laid_ferry_api_ErrLost), ("ferry/api.ErrNone", laid_ferry_api_ErrNone), ("ferry/api.ErrText", laid_ferry_api_ErrText), ("ferry/api.ErrStop", laid_ferry_api_ErrStop), ("ferry/api.ErrDivide", laid_ferry_api_ErrDivide)] }
def EpochChainsSaid : Prop := epochChainsRow.holds Tryz.pinned (OpenSpec.ofChange epochChainsSpec)

/-- ITS FALSE NEIGHBOUR: 'it returns false'. Refute it at one input. -/
def epochChainsWrong : ChangeSpec := { name := "epochChains", fn := fun _ => fun
  | [d1, d2, d3] => { results := [.lit (.bool false)], args := [d1, d2, d3] }
  | _ => none }
def EpochChainsWrongFalsely : Prop := epochChainsRow.holds Tryz.pinned (OpenSpec.ofChange epochChainsWrong)

/- THE SECOND FORM. 'bulk': how many values and letters a reading holds, each counted each time it is reached (what is shared counts as often as it is met; a slice's spare places count too). A statement '..UptoSaid' is the law's where the arguments, and the package variables that the reading takes, are together of bulk at most 1048576: NARROWER than '..Said'. Prove '..Said' where nothing that the law and all that it calls make is longer than what came in: it says more and counts as full. Else prove '..UptoSaid'. A law counts once. -/
mutual
def uptoBulk {H : Type} : DataW H → Nat
  | .lit (.string bytes) => bytes.length + 1
  | .lit _ => 1
  | .nil => 1
  | .ptr d => uptoBulk d + 1
  | .slice elems spare => uptoBulkAll elems + uptoBulkAll spare + 1
  | .agg parts => uptoBulkAll parts + 1
  | .iface _ d => uptoBulk d + 1
  | .map entries => uptoBulkEntries entries + 1
  | .held _ => 1
def uptoBulkAll {H : Type} : List (DataW H) → Nat
  | [] => 0
  | d :: r => uptoBulk d + uptoBulkAll r
def uptoBulkEntries {H : Type} : List (Lit × DataW H) → Nat
  | [] => 0
  | x :: r => uptoBulkEntry x + uptoBulkEntries r
def uptoBulkEntry {H : Type} : Lit × DataW H → Nat
  | (.string bytes, d) => bytes.length + uptoBulk d + 1
  | (_, d) => uptoBulk d + 1
 end
def uptoSmall : (H : Type) → List (DataW H) → Bool := fun _ ds => decide (uptoBulkAll ds ≤ 1048576)
def OpenSpec.upto (s : _root_.Go.ChangeSpec) : _root_.Go.OpenSpec := { _root_.Go.OpenSpec.ofChange s with cond := some uptoSmall }

/-- 'ferrylaw17.EpochLays', WHERE WHAT IT READS IS OF BULK AT MOST 1048576: true; the input reads as it did. -/
def epochLaysUptoRow : OpenClaim := { program := "ytjekfpnpfllaoaagreatdoor", sum := "08deacbe2cbcbf853cc978e9432f995f92880586f2c7b03d44202be71e55c9dc", func := "ferry/ferrylaw17.EpochLays", spec := "epochLays", inPlace := ["internal/reflectlite.TypeOf", "internal/reflectlite.ValueOf", "(internal/reflectlite.Value).Type", "(internal/reflectlite.Value).IsNil", "(internal/reflectlite.Value).Elem", "(internal/reflectlite.Value).Set"], unfollowed := true, recurses := true, named := ["ferry/api.ErrEnd", "ferry/api.ErrPlan", "ferry/api.ErrState", "ferry/api.ErrRange", "ferry/api.ErrSize", "ferry/api.ErrLength", "ferry/api.ErrKind", "ferry/api.ErrBase", "ferry/api.ErrArg", "ferry/api.ErrShort", "ferry/api.ErrRest", "ferry/api.ErrTag", "ferry/api.ErrSum", "ferry/api.ErrBusy", "ferry/api.ErrDown", "ferry/api.ErrLost", "ferry/api.ErrNone", "ferry/api.ErrText", "ferry/api.ErrStop", "ferry/api.ErrDivide", "errors.errorType"], apart := false, laid := [("errors.errorType", laid_errors_errorType), ("ferry/api.ErrShort", laid_ferry_api_ErrShort), ("ferry/api.ErrRest", laid_ferry_api_ErrRest), ("ferry/api.ErrTag", laid_ferry_api_ErrTag), ("ferry/api.ErrRange", laid_ferry_api_ErrRange), ("ferry/api.ErrLength", laid_ferry_api_ErrLength), ("ferry/api.ErrSum", laid_ferry_api_ErrSum), ("ferry/api.ErrKind", laid_ferry_api_ErrKind), ("ferry/api.ErrPlan", laid_ferry_api_ErrPlan), ("ferry/api.ErrState", laid_ferry_api_ErrState), ("ferry/api.ErrBase", laid_ferry_api_ErrBase), ("ferry/api.ErrSize", laid_ferry_api_ErrSize), ("ferry/api.ErrArg", laid_ferry_api_ErrArg), ("ferry/api.ErrEnd", laid_ferry_api_ErrEnd), ("ferry/api.ErrBusy", laid_ferry_api_ErrBusy), ("ferry/api.ErrDown", laid_ferry_api_ErrDown), ("ferry/api.ErrLost", laid_ferry_api_ErrLost), ("ferry/api.ErrNone", laid_ferry_api_ErrNone), ("ferry/api.ErrText", laid_ferry_api_ErrText), ("ferry/api.ErrStop", laid_ferry_api_ErrStop), ("ferry/api.ErrDivide", laid_ferry_api_ErrDivide)], narrowed := true }
def EpochLaysUptoSaid : Prop := epochLaysUptoRow.holds Tryz.pinned (OpenSpec.upto epochLaysSpec)

/-- 'ferrylaw17.EpochMarks', WHERE WHAT IT READS IS OF BULK AT MOST 1048576: true; the input reads as it did. -/
def epochMarksUptoRow : OpenClaim := { program := "ytjekfpnpfllaoaagreatdoor", sum := "08deacbe2cbcbf853cc978e9432f995f92880586f2c7b03d44202be71e55c9dc", func := "ferry/ferrylaw17.EpochMarks", spec := "epochMarks", inPlace := ["internal/reflectlite.TypeOf", "internal/reflectlite.ValueOf", "(internal/reflectlite.Value).Type", "(internal/reflectlite.Value).IsNil", "(internal/reflectlite.Value).Elem", "(internal/reflectlite.Value).Set"], unfollowed := true, recurses := true, named := ["ferry/api.ErrEnd", "ferry/api.ErrPlan", "ferry/api.ErrState", "ferry/api.ErrRange", "ferry/api.ErrSize", "ferry/api.ErrLength", "ferry/api.ErrKind", "ferry/api.ErrBase", "ferry/api.ErrArg", "ferry/api.ErrShort", "ferry/api.ErrRest", "ferry/api.ErrTag", "ferry/api.ErrSum", "ferry/api.ErrBusy", "ferry/api.ErrDown", "ferry/api.ErrLost", "ferry/api.ErrNone", "ferry/api.ErrText", "ferry/api.ErrStop", "ferry/api.ErrDivide", "errors.errorType"], apart := false, laid := [("errors.errorType", laid_errors_errorType), ("ferry/api.ErrShort", laid_ferry_api_ErrShort), ("ferry/api.ErrRest", laid_ferry_api_ErrRest), ("ferry/api.ErrTag", laid_ferry_api_ErrTag), ("ferry/api.ErrRange", laid_ferry_api_ErrRange), ("ferry/api.ErrLength", laid_ferry_api_ErrLength), ("ferry/api.ErrSum", laid_ferry_api_ErrSum), ("ferry/api.ErrKind", laid_ferry_api_ErrKind), ("ferry/api.ErrPlan", laid_ferry_api_ErrPlan), ("ferry/api.ErrState", laid_ferry_api_ErrState), ("ferry/api.ErrBase", laid_ferry_api_ErrBase), ("ferry/api.ErrSize", laid_ferry_api_ErrSize), ("ferry/api.ErrArg", laid_ferry_api_ErrArg), ("ferry/api.ErrEnd", laid_ferry_api_ErrEnd), ("ferry/api.ErrBusy", laid_ferry_api_ErrBusy), ("ferry/api.ErrDown", laid_ferry_api_ErrDown), ("ferry/api.ErrLost", laid_ferry_api_ErrLost), ("ferry/api.ErrNone", laid_ferry_api_ErrNone), ("ferry/api.ErrText", laid_ferry_api_ErrText), ("ferry/api.ErrStop", laid_ferry_api_ErrStop), ("ferry/api.ErrDivide", laid_ferry_api_ErrDivide)], narrowed := true }
def EpochMarksUptoSaid : Prop := epochMarksUptoRow.holds Tryz.pinned (OpenSpec.upto epochMarksSpec)

/-- 'ferrylaw17.EpochChains', WHERE WHAT IT READS IS OF BULK AT MOST 1048576: true; the input reads as it did. -/
def epochChainsUptoRow : OpenClaim := { program := "ytjekfpnpfllaoaagreatdoor", sum := "08deacbe2cbcbf853cc978e9432f995f92880586f2c7b03d44202be71e55c9dc", func := "ferry/ferrylaw17.EpochChains", spec := "epochChains", inPlace := ["internal/reflectlite.TypeOf", "internal/reflectlite.ValueOf", "(internal/reflectlite.Value).Type", "(internal/reflectlite.Value).IsNil", "(internal/reflectlite.Value).Elem", "(internal/reflectlite.Value).Set"], unfollowed := true, recurses := true, named := ["ferry/api.ErrEnd", "ferry/api.ErrPlan", "ferry/api.ErrState", "ferry/api.ErrRange", "ferry/api.ErrSize", "ferry/api.ErrLength", "ferry/api.ErrKind", "ferry/api.ErrBase", "ferry/api.ErrArg", "ferry/api.ErrShort", "ferry/api.ErrRest", "ferry/api.ErrTag", "ferry/api.ErrSum", "ferry/api.ErrBusy", "ferry/api.ErrDown", "ferry/api.ErrLost", "ferry/api.ErrNone", "ferry/api.ErrText", "ferry/api.ErrStop", "ferry/api.ErrDivide", "errors.errorType"], apart := false, laid := [("errors.errorType", laid_errors_errorType), ("ferry/api.ErrShort", laid_ferry_api_ErrShort), ("ferry/api.ErrRest", laid_ferry_api_ErrRest), ("ferry/api.ErrTag", laid_ferry_api_ErrTag), ("ferry/api.ErrRange", laid_ferry_api_ErrRange), ("ferry/api.ErrLength", laid_ferry_api_ErrLength), ("ferry/api.ErrSum", laid_ferry_api_ErrSum), ("ferry/api.ErrKind", laid_ferry_api_ErrKind), ("ferry/api.ErrPlan", laid_ferry_api_ErrPlan), ("ferry/api.ErrState", laid_ferry_api_ErrState), ("ferry/api.ErrBase", laid_ferry_api_ErrBase), ("ferry/api.ErrSize", laid_ferry_api_ErrSize), ("ferry/api.ErrArg", laid_ferry_api_ErrArg), ("ferry/api.ErrEnd", laid_ferry_api_ErrEnd), ("ferry/api.ErrBusy", laid_ferry_api_ErrBusy), ("ferry/api.ErrDown", laid_ferry_api_ErrDown), ("ferry/api.ErrLost", laid_ferry_api_ErrLost), ("ferry/api.ErrNone", laid_ferry_api_ErrNone), ("ferry/api.ErrText", laid_ferry_api_ErrText), ("ferry/api.ErrStop", laid_ferry_api_ErrStop), ("ferry/api.ErrDivide", laid_ferry_api_ErrDivide)], narrowed := true }
def EpochChainsUptoSaid : Prop := epochChainsUptoRow.holds Tryz.pinned (OpenSpec.upto epochChainsSpec)

end Rows
end Go.Proofs.YtjekfpnpfllaoaaGreatDoor
