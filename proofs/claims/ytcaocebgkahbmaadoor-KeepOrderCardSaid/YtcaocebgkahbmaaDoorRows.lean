/-
  NARROWER THAN 'FOR EVERY INPUT', by the rows' own cells (each row's printed sentence says how): KeepOrder: laid.
  DERIVED. THE GIVEN ROWS OF THIS SEAT. 1 by the template 'for every input the law returns true; each argument reads behind the call as it read before'; 0 by the template 'total and deterministic' (their statements: YtcaocebgkahbmaaDoorTotals.lean).
  GIVEN WITH THE SEED: the statements are not yours to turn. If you find one false, say at which input.
  Laid BY PROGRAM, IN A SANDBOX (cutbox-rows.mjs): the forced cells as the released guide's own fill.sh prints them over the translation a1ffac108ea4dfc3… (all of the seat's roots in one cut). By AI agents, Wed Nov 11 2026. No macro, syntax, notation, axiom, sorry.
-/
import Derived.Test.YtcaocebgkahbmaaDoorChecked
import GoSem.Claim
import GoSem.ClaimJoined
import GoSem.ClaimMapViews
import Derived.JoinedTies
import Derived.KernelRfl
namespace Go.Proofs.YtcaocebgkahbmaaDoor
/- THE CELL 'sum', in the pinned program and in every row, IS THE sha256 OF THE DUMP (.gsa) THAT YtcaocebgkahbmaaDoorProg.lean LOADS. Nothing in Lean hashes anything: it is a label: what it is worth is what the hold of that sum in a sandbox is worth. -/
noncomputable def Tryd.pinned : Pinned := { name := "ytcaocebgkahbmaadoor", sum := "a1ffac108ea4dfc394cb05d3abf37683eff51d87889ef3b3e40c3ccb7e924929", checked := Tryd.checked }
namespace Rows
def none {H : Type} : Left H := { results := [], args := [] }

/- WHAT THE LISTED PACKAGE-LEVEL VARIABLES READ AS WHEN THE CALL BEGINS. Each datum BY PROGRAM (the guide's laid-datum.mjs) off the statement by which the dump's own 'gosem.cut.vars' lays the variable. In a bare row this is a premise. The card (YtcaocebgkahbmaaDoorCards.lean) ties it to the program's text. -/
def laid_breviary_api_ErrShape {H : Type} : DataW H := .iface "*errors.errorString" (.ptr (.agg [.lit (.string [110, 111, 116, 32, 97, 115, 32, 105, 116, 32, 104, 97, 115, 32, 116, 111, 32, 98, 101])]))
def laid_breviary_api_ErrRange {H : Type} : DataW H := .iface "*errors.errorString" (.ptr (.agg [.lit (.string [97, 32, 110, 117, 109, 98, 101, 114, 32, 111, 117, 116, 32, 111, 102, 32, 105, 116, 115, 32, 114, 97, 110, 103, 101])]))
def laid_breviary_api_ErrMany {H : Type} : DataW H := .iface "*errors.errorString" (.ptr (.agg [.lit (.string [116, 111, 111, 32, 109, 97, 110, 121])]))
def laid_breviary_api_ErrFull {H : Type} : DataW H := .iface "*errors.errorString" (.ptr (.agg [.lit (.string [116, 104, 101, 114, 101, 32, 105, 115, 32, 110, 111, 32, 114, 111, 111, 109])]))
def laid_breviary_api_ErrCrash {H : Type} : DataW H := .iface "*errors.errorString" (.ptr (.agg [.lit (.string [105, 116, 32, 105, 115, 32, 100, 111, 119, 110])]))
def laid_breviary_api_ErrIO {H : Type} : DataW H := .iface "*errors.errorString" (.ptr (.agg [.lit (.string [105, 116, 32, 99, 97, 110, 39, 116, 32, 98, 101, 32, 114, 101, 97, 100])]))
def laid_breviary_api_ErrNoEnt {H : Type} : DataW H := .iface "*errors.errorString" (.ptr (.agg [.lit (.string [110, 111, 32, 115, 117, 99, 104, 32, 102, 105, 108, 101])]))

/-- 'breviarylaw8.KeepOrder': WHATEVER THE INPUT: true; the input reads as it did. -/
def keepOrderSpec : ChangeSpec := { name := "keepOrder", fn := fun _ => fun
  | [d1, d2] => { results := [.lit (.bool true)], args := [d1, d2] }
  | _ => none }
def keepOrderRow : OpenClaim := { program := "ytcaocebgkahbmaadoor", sum := "a1ffac108ea4dfc394cb05d3abf37683eff51d87889ef3b3e40c3ccb7e924929", func := "breviary/breviarylaw8.KeepOrder", spec := "keepOrder", inPlace := ["maps.clone"], unfollowed := true, recurses := true, named := ["breviary/api.ErrRange", "breviary/api.ErrIO", "breviary/api.ErrCrash", "breviary/api.ErrFull", "breviary/api.ErrMany", "breviary/api.ErrShape", "breviary/api.ErrNoEnt"], apart := false, laid := [("breviary/api.ErrShape", laid_breviary_api_ErrShape), ("breviary/api.ErrRange", laid_breviary_api_ErrRange), ("breviary/api.ErrMany", laid_breviary_api_ErrMany), ("breviary/api.ErrFull", laid_breviary_api_ErrFull), ("breviary/api.ErrCrash", laid_breviary_api_ErrCrash), ("breviary/api.ErrIO", laid_breviary_api_ErrIO), ("breviary/api.ErrNoEnt", laid_breviary_api_ErrNoEnt)] }
def KeepOrderSaid : Prop := keepOrderRow.holds Tryd.pinned (OpenSpec.ofChange keepOrderSpec)

/-- ITS FALSE NEIGHBOUR: 'it returns false'. Refute it at one input. -/
def keepOrderWrong : ChangeSpec := { name := "keepOrder", fn := fun _ => fun
  | [d1, d2] => { results := [.lit (.bool false)], args := [d1, d2] }
  | _ => none }
def KeepOrderWrongFalsely : Prop := keepOrderRow.holds Tryd.pinned (OpenSpec.ofChange keepOrderWrong)

/- THE SECOND FORM. 'bulk': how many values and letters a reading holds, each counted each time it is reached (what is shared counts as often as it is met; a slice's spare places count too). A statement '..UptoSaid' is the law's where the arguments, and the package variables that the reading takes, are together of bulk at most 1048576: NARROWER than '..Said'. Prove '..Said' where nothing that the law and all that it calls make is longer than what came in: it says more and counts as full. Else prove '..UptoSaid'. A law counts once. -/
mutual
def uptoBulk {H : Type} : DataW H → Nat
  | .lit (.string bytes) => bytes.length + 1
  | .lit _ => 1
  | .nil => 1
  | .ptr d => uptoBulk d + 1
  | .slice elems spare => uptoBulkAll elems + uptoBulkAll spare + 1
  | .agg parts => uptoBulkAll parts + 1
  | .iface _ d => uptoBulk d + 1
  | .map entries => uptoBulkEntries entries + 1
  | .held _ => 1
def uptoBulkAll {H : Type} : List (DataW H) → Nat
  | [] => 0
  | d :: r => uptoBulk d + uptoBulkAll r
def uptoBulkEntries {H : Type} : List (Lit × DataW H) → Nat
  | [] => 0
  | x :: r => uptoBulkEntry x + uptoBulkEntries r
def uptoBulkEntry {H : Type} : Lit × DataW H → Nat
  | (.string bytes, d) => bytes.length + uptoBulk d + 1
  | (_, d) => uptoBulk d + 1
 end
def uptoSmall : (H : Type) → List (DataW H) → Bool := fun _ ds => decide (uptoBulkAll ds ≤ 1048576)
def OpenSpec.upto (s : _root_.Go.ChangeSpec) : _root_.Go.OpenSpec := { _root_.Go.OpenSpec.ofChange s with cond := some uptoSmall }

/-- 'breviarylaw8.KeepOrder', WHERE WHAT IT READS IS OF BULK AT MOST 1048576: true; the input reads as it did. -/
def keepOrderUptoRow : OpenClaim := { program := "ytcaocebgkahbmaadoor", sum := "a1ffac108ea4dfc394cb05d3abf37683eff51d87889ef3b3e40c3ccb7e924929", func := "breviary/breviarylaw8.KeepOrder", spec := "keepOrder", inPlace := ["maps.clone"], unfollowed := true, recurses := true, named := ["breviary/api.ErrRange", "breviary/api.ErrIO", "breviary/api.ErrCrash", "breviary/api.ErrFull", "breviary/api.ErrMany", "breviary/api.ErrShape", "breviary/api.ErrNoEnt"], apart := false, laid := [("breviary/api.ErrShape", laid_breviary_api_ErrShape), ("breviary/api.ErrRange", laid_breviary_api_ErrRange), ("breviary/api.ErrMany", laid_breviary_api_ErrMany), ("breviary/api.ErrFull", laid_breviary_api_ErrFull), ("breviary/api.ErrCrash", laid_breviary_api_ErrCrash), ("breviary/api.ErrIO", laid_breviary_api_ErrIO), ("breviary/api.ErrNoEnt", laid_breviary_api_ErrNoEnt)], narrowed := true }
def KeepOrderUptoSaid : Prop := keepOrderUptoRow.holds Tryd.pinned (OpenSpec.upto keepOrderSpec)

end Rows
end Go.Proofs.YtcaocebgkahbmaaDoor
