/-
  NARROWER THAN 'FOR EVERY INPUT', by the rows' own cells (each row's printed sentence says how): WholeEden: laid.
  DERIVED. THE GIVEN ROWS OF THIS SEAT. 1 by the template 'for every input the law returns true; each argument reads behind the call as it read before'; 0 by the template 'total and deterministic' (their statements: YtiglilecmieelaaGreatDoorTotals.lean).
  GIVEN WITH THE SEED: the statements are not yours to turn. If you find one false, say at which input.
  Laid BY PROGRAM, IN A SANDBOX (cutbox-rows.mjs): the forced cells as the released guide's own fill.sh prints them over the translation 524c733a912fc474… (all of the seat's roots in one cut). By AI agents, Wed Nov 11 2026. No macro, syntax, notation, axiom, sorry.
-/
import Derived.Test.YtiglilecmieelaaGreatDoorChecked
import GoSem.Claim
import GoSem.ClaimJoined
import GoSem.ClaimMapViews
import Derived.JoinedTies
import Derived.KernelRfl
namespace Go.Proofs.YtiglilecmieelaaGreatDoor
/- THE CELL 'sum', in the pinned program and in every row, IS THE sha256 OF THE DUMP (.gsa) THAT YtiglilecmieelaaGreatDoorProg.lean LOADS. Nothing in Lean hashes anything: it is a label: what it is worth is what the hold of that sum in a sandbox is worth. -/
noncomputable def Tryz.pinned : Pinned := { name := "ytiglilecmieelaagreatdoor", sum := "524c733a912fc4748c082ade9b5bab2039a70648be12fad042b3e04794978198", checked := Tryz.checked }
namespace Rows
def none {H : Type} : Left H := { results := [], args := [] }

/- WHAT THE LISTED PACKAGE-LEVEL VARIABLES READ AS WHEN THE CALL BEGINS. Each datum BY PROGRAM (the guide's laid-datum.mjs) off the statement by which the dump's own 'gosem.cut.vars' lays the variable. In a bare row this is a premise. The card (YtiglilecmieelaaGreatDoorCards.lean) ties it to the program's text. -/
def laid_errors_errorType {H : Type} : DataW H := .iface "internal/reflectlite.rtype" (.agg [.ptr (.lit (.string [101, 114, 114, 111, 114]))])
def laid_eden_api_BadRule {H : Type} : DataW H := .iface "*errors.errorString" (.ptr (.agg [.lit (.string [98, 97, 100, 32, 114, 117, 108, 101])]))
def laid_eden_api_BadWord {H : Type} : DataW H := .iface "*errors.errorString" (.ptr (.agg [.lit (.string [98, 97, 100, 32, 119, 111, 114, 100])]))
def laid_eden_api_BadArg {H : Type} : DataW H := .iface "*errors.errorString" (.ptr (.agg [.lit (.string [98, 97, 100, 32, 97, 114, 103, 117, 109, 101, 110, 116])]))
def laid_eden_api_TooBig {H : Type} : DataW H := .iface "*errors.errorString" (.ptr (.agg [.lit (.string [116, 111, 111, 32, 98, 105, 103])]))
def laid_eden_api_NoBudget {H : Type} : DataW H := .iface "*errors.errorString" (.ptr (.agg [.lit (.string [110, 111, 32, 98, 117, 100, 103, 101, 116])]))
def laid_eden_api_BadText {H : Type} : DataW H := .iface "*errors.errorString" (.ptr (.agg [.lit (.string [98, 97, 100, 32, 116, 101, 120, 116])]))
def laid_eden_api_BadPatch {H : Type} : DataW H := .iface "*errors.errorString" (.ptr (.agg [.lit (.string [98, 97, 100, 32, 112, 97, 116, 99, 104])]))
def laid_eden_api_BadCert {H : Type} : DataW H := .iface "*errors.errorString" (.ptr (.agg [.lit (.string [98, 97, 100, 32, 99, 101, 114, 116, 105, 102, 105, 99, 97, 116, 101])]))
def laid_eden_api_NoInverse {H : Type} : DataW H := .iface "*errors.errorString" (.ptr (.agg [.lit (.string [110, 111, 32, 105, 110, 118, 101, 114, 115, 101])]))
def laid_eden_api_BadLine {H : Type} : DataW H := .iface "*errors.errorString" (.ptr (.agg [.lit (.string [98, 97, 100, 32, 108, 105, 110, 101])]))
def laid_eden_api_BadState {H : Type} : DataW H := .iface "*errors.errorString" (.ptr (.agg [.lit (.string [98, 97, 100, 32, 115, 116, 97, 116, 101])]))
def laid_eden_api_Unknown {H : Type} : DataW H := .iface "*errors.errorString" (.ptr (.agg [.lit (.string [117, 110, 107, 110, 111, 119, 110])]))

/-- 'edentop.WholeEden': WHATEVER THE INPUT: true; the input reads as it did. -/
def wholeEdenSpec : ChangeSpec := { name := "wholeEden", fn := fun _ => fun
  | [d] => { results := [.lit (.bool true)], args := [d] }
  | _ => none }
def wholeEdenRow : OpenClaim := { program := "ytiglilecmieelaagreatdoor", sum := "524c733a912fc4748c082ade9b5bab2039a70648be12fad042b3e04794978198", func := "eden/edentop.WholeEden", spec := "wholeEden", inPlace := ["internal/reflectlite.ValueOf", "(internal/reflectlite.Value).Type", "(internal/reflectlite.Value).IsNil", "internal/reflectlite.TypeOf", "(internal/reflectlite.Value).Elem", "(internal/reflectlite.Value).Set"], unfollowed := true, recurses := true, named := ["eden/api.BadRule", "eden/api.BadWord", "eden/api.BadArg", "eden/api.TooBig", "eden/api.NoBudget", "eden/api.BadText", "eden/api.BadPatch", "eden/api.BadCert", "eden/api.NoInverse", "eden/api.BadLine", "eden/api.BadState", "eden/api.Unknown", "errors.errorType"], apart := false, laid := [("errors.errorType", laid_errors_errorType), ("eden/api.BadRule", laid_eden_api_BadRule), ("eden/api.BadWord", laid_eden_api_BadWord), ("eden/api.BadArg", laid_eden_api_BadArg), ("eden/api.TooBig", laid_eden_api_TooBig), ("eden/api.NoBudget", laid_eden_api_NoBudget), ("eden/api.BadText", laid_eden_api_BadText), ("eden/api.BadPatch", laid_eden_api_BadPatch), ("eden/api.BadCert", laid_eden_api_BadCert), ("eden/api.NoInverse", laid_eden_api_NoInverse), ("eden/api.BadLine", laid_eden_api_BadLine), ("eden/api.BadState", laid_eden_api_BadState), ("eden/api.Unknown", laid_eden_api_Unknown)] }
def WholeEdenSaid : Prop := wholeEdenRow.holds Tryz.pinned (OpenSpec.ofChange wholeEdenSpec)

/-- ITS FALSE NEIGHBOUR: 'it returns false'. Refute it at one input. -/
def wholeEdenWrong : ChangeSpec := { name := "wholeEden", fn := fun _ => fun
  | [d] => { results := [.lit (.bool false)], args := [d] }
  | _ => none }
def WholeEdenWrongFalsely : Prop := wholeEdenRow.holds Tryz.pinned (OpenSpec.ofChange wholeEdenWrong)

/- THE SECOND FORM. 'bulk': how many values and letters a reading holds, each counted each time it is reached (what is shared counts as often as it is met; a slice's spare places count too). A statement '..UptoSaid' is the law's where the arguments, and the package variables that the reading takes, are together of bulk at most 1048576: NARROWER than '..Said'. Prove '..Said' where nothing that the law and all that it calls make is longer than what came in: it says more and counts as full. Else prove '..UptoSaid'. A law counts once. -/
mutual
def uptoBulk {H : Type} : DataW H → Nat
  | .lit (.string bytes) => bytes.length + 1
  | .lit _ => 1
  | .nil => 1
  | .ptr d => uptoBulk d + 1
  | .slice elems spare => uptoBulkAll elems + uptoBulkAll spare + 1
  | .agg parts => uptoBulkAll parts + 1
  | .iface _ d => uptoBulk d + 1
  | .map entries => uptoBulkEntries entries + 1
  | .held _ => 1
def uptoBulkAll {H : Type} : List (DataW H) → Nat
  | [] => 0
  | d :: r => uptoBulk d + uptoBulkAll r
def uptoBulkEntries {H : Type} : List (Lit × DataW H) → Nat
  | [] => 0
  | x :: r => uptoBulkEntry x + uptoBulkEntries r
def uptoBulkEntry {H : Type} : Lit × DataW H → Nat
  | (.string bytes, d) => bytes.length + uptoBulk d + 1
  | (_, d) => uptoBulk d + 1
 end
def uptoSmall : (H : Type) → List (DataW H) → Bool := fun _ ds => decide (uptoBulkAll ds ≤ 1048576)
def OpenSpec.upto (s : _root_.Go.ChangeSpec) : _root_.Go.OpenSpec := { _root_.Go.OpenSpec.ofChange s with cond := some uptoSmall }

/-- 'edentop.WholeEden', WHERE WHAT IT READS IS OF BULK AT MOST 1048576: true; the input reads as it did. -/
def wholeEdenUptoRow : OpenClaim := { program := "ytiglilecmieelaagreatdoor", sum := "524c733a912fc4748c082ade9b5bab2039a70648be12fad042b3e04794978198", func := "eden/edentop.WholeEden", spec := "wholeEden", inPlace := ["internal/reflectlite.ValueOf", "(internal/reflectlite.Value).Type", "(internal/reflectlite.Value).IsNil", "internal/reflectlite.TypeOf", "(internal/reflectlite.Value).Elem", "(internal/reflectlite.Value).Set"], unfollowed := true, recurses := true, named := ["eden/api.BadRule", "eden/api.BadWord", "eden/api.BadArg", "eden/api.TooBig", "eden/api.NoBudget", "eden/api.BadText", "eden/api.BadPatch", "eden/api.BadCert", "eden/api.NoInverse", "eden/api.BadLine", "eden/api.BadState", "eden/api.Unknown", "errors.errorType"], apart := false, laid := [("errors.errorType", laid_errors_errorType), ("eden/api.BadRule", laid_eden_api_BadRule), ("eden/api.BadWord", laid_eden_api_BadWord), ("eden/api.BadArg", laid_eden_api_BadArg), ("eden/api.TooBig", laid_eden_api_TooBig), ("eden/api.NoBudget", laid_eden_api_NoBudget), ("eden/api.BadText", laid_eden_api_BadText), ("eden/api.BadPatch", laid_eden_api_BadPatch), ("eden/api.BadCert", laid_eden_api_BadCert), ("eden/api.NoInverse", laid_eden_api_NoInverse), ("eden/api.BadLine", laid_eden_api_BadLine), ("eden/api.BadState", laid_eden_api_BadState), ("eden/api.Unknown", laid_eden_api_Unknown)], narrowed := true }
def WholeEdenUptoSaid : Prop := wholeEdenUptoRow.holds Tryz.pinned (OpenSpec.upto wholeEdenSpec)

end Rows
end Go.Proofs.YtiglilecmieelaaGreatDoor
