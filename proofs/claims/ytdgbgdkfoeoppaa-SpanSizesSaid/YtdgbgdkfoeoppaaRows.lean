/-
  No cell of these rows narrows 'for every input' (looked for: loops, veiled, ifaces, maps, wideKeys, modest, calm, conditions, laid).
  DERIVED. THE GIVEN ROWS OF THIS SEAT. 9 by the template 'for every input the law returns true; each argument reads behind the call as it read before'; 0 by the template 'total and deterministic' (their statements: YtdgbgdkfoeoppaaTotals.lean).
  GIVEN WITH THE SEED: the statements are not yours to turn. If you find one false, say at which input.
  Laid BY PROGRAM, IN A SANDBOX (cutbox-rows.mjs): the forced cells as the released guide's own fill.sh prints them over the translation 25038c3af55a1ac8… (all of the seat's roots in one cut). By AI agents, Wed Nov 11 2026. No macro, syntax, notation, axiom, sorry.
-/
import Derived.Test.YtdgbgdkfoeoppaaChecked
import GoSem.Claim
import GoSem.ClaimJoined
import GoSem.ClaimMapViews
import Derived.JoinedTies
import Derived.KernelRfl
namespace Go.Proofs.Ytdgbgdkfoeoppaa
/- THE CELL 'sum', in the pinned program and in every row, IS THE sha256 OF THE DUMP (.gsa) THAT YtdgbgdkfoeoppaaProg.lean LOADS. Nothing in Lean hashes anything: it is a label: what it is worth is what the hold of that sum in a sandbox is worth. -/
noncomputable def Try.pinned : Pinned := { name := "ytdgbgdkfoeoppaa", sum := "25038c3af55a1ac890272555b63cd2464b059efe3e1da2f48eaa2ea0838ac063", checked := Try.checked }
namespace Rows
def none {H : Type} : Left H := { results := [], args := [] }

/-- 'breviarylaw13.SpanAll': WHATEVER THE INPUT: true; the input reads as it did. -/
def spanAllSpec : ChangeSpec := { name := "spanAll", fn := fun _ => fun
  | [d1, d2] => { results := [.lit (.bool true)], args := [d1, d2] }
  | _ => none }
def spanAllRow : OpenClaim := { program := "ytdgbgdkfoeoppaa", sum := "25038c3af55a1ac890272555b63cd2464b059efe3e1da2f48eaa2ea0838ac063", func := "breviary/breviarylaw13.SpanAll", spec := "spanAll", apart := false }
def SpanAllSaid : Prop := spanAllRow.holds Try.pinned (OpenSpec.ofChange spanAllSpec)

/-- ITS FALSE NEIGHBOUR: 'it returns false'. Refute it at one input. -/
def spanAllWrong : ChangeSpec := { name := "spanAll", fn := fun _ => fun
  | [d1, d2] => { results := [.lit (.bool false)], args := [d1, d2] }
  | _ => none }
def SpanAllWrongFalsely : Prop := spanAllRow.holds Try.pinned (OpenSpec.ofChange spanAllWrong)

/-- 'breviarylaw2.CrcAdds': WHATEVER THE INPUT: true; the input reads as it did. -/
def crcAddsSpec : ChangeSpec := { name := "crcAdds", fn := fun _ => fun
  | [d1, d2, d3, d4] => { results := [.lit (.bool true)], args := [d1, d2, d3, d4] }
  | _ => none }
def crcAddsRow : OpenClaim := { program := "ytdgbgdkfoeoppaa", sum := "25038c3af55a1ac890272555b63cd2464b059efe3e1da2f48eaa2ea0838ac063", func := "breviary/breviarylaw2.CrcAdds", spec := "crcAdds", apart := false }
def CrcAddsSaid : Prop := crcAddsRow.holds Try.pinned (OpenSpec.ofChange crcAddsSpec)

/-- ITS FALSE NEIGHBOUR: 'it returns false'. Refute it at one input. -/
def crcAddsWrong : ChangeSpec := { name := "crcAdds", fn := fun _ => fun
  | [d1, d2, d3, d4] => { results := [.lit (.bool false)], args := [d1, d2, d3, d4] }
  | _ => none }
def CrcAddsWrongFalsely : Prop := crcAddsRow.holds Try.pinned (OpenSpec.ofChange crcAddsWrong)

/-- 'breviarylaw13.SpanLays': WHATEVER THE INPUT: true; the input reads as it did. -/
def spanLaysSpec : ChangeSpec := { name := "spanLays", fn := fun _ => fun
  | [d1, d2, d3] => { results := [.lit (.bool true)], args := [d1, d2, d3] }
  | _ => none }
def spanLaysRow : OpenClaim := { program := "ytdgbgdkfoeoppaa", sum := "25038c3af55a1ac890272555b63cd2464b059efe3e1da2f48eaa2ea0838ac063", func := "breviary/breviarylaw13.SpanLays", spec := "spanLays", apart := false }
def SpanLaysSaid : Prop := spanLaysRow.holds Try.pinned (OpenSpec.ofChange spanLaysSpec)

/-- ITS FALSE NEIGHBOUR: 'it returns false'. Refute it at one input. -/
def spanLaysWrong : ChangeSpec := { name := "spanLays", fn := fun _ => fun
  | [d1, d2, d3] => { results := [.lit (.bool false)], args := [d1, d2, d3] }
  | _ => none }
def SpanLaysWrongFalsely : Prop := spanLaysRow.holds Try.pinned (OpenSpec.ofChange spanLaysWrong)

/-- 'breviarylaw2.CrcTable': WHATEVER THE INPUT: true; the input reads as it did. -/
def crcTableSpec : ChangeSpec := { name := "crcTable", fn := fun _ => fun
  | [d1, d2] => { results := [.lit (.bool true)], args := [d1, d2] }
  | _ => none }
def crcTableRow : OpenClaim := { program := "ytdgbgdkfoeoppaa", sum := "25038c3af55a1ac890272555b63cd2464b059efe3e1da2f48eaa2ea0838ac063", func := "breviary/breviarylaw2.CrcTable", spec := "crcTable", apart := false }
def CrcTableSaid : Prop := crcTableRow.holds Try.pinned (OpenSpec.ofChange crcTableSpec)

/-- ITS FALSE NEIGHBOUR: 'it returns false'. Refute it at one input. -/
def crcTableWrong : ChangeSpec := { name := "crcTable", fn := fun _ => fun
  | [d1, d2] => { results := [.lit (.bool false)], args := [d1, d2] }
  | _ => none }
def CrcTableWrongFalsely : Prop := crcTableRow.holds Try.pinned (OpenSpec.ofChange crcTableWrong)

/-- 'breviarylaw2.CrcTells': WHATEVER THE INPUT: true; the input reads as it did. -/
def crcTellsSpec : ChangeSpec := { name := "crcTells", fn := fun _ => fun
  | [d1, d2, d3] => { results := [.lit (.bool true)], args := [d1, d2, d3] }
  | _ => none }
def crcTellsRow : OpenClaim := { program := "ytdgbgdkfoeoppaa", sum := "25038c3af55a1ac890272555b63cd2464b059efe3e1da2f48eaa2ea0838ac063", func := "breviary/breviarylaw2.CrcTells", spec := "crcTells", apart := false }
def CrcTellsSaid : Prop := crcTellsRow.holds Try.pinned (OpenSpec.ofChange crcTellsSpec)

/-- ITS FALSE NEIGHBOUR: 'it returns false'. Refute it at one input. -/
def crcTellsWrong : ChangeSpec := { name := "crcTells", fn := fun _ => fun
  | [d1, d2, d3] => { results := [.lit (.bool false)], args := [d1, d2, d3] }
  | _ => none }
def CrcTellsWrongFalsely : Prop := crcTellsRow.holds Try.pinned (OpenSpec.ofChange crcTellsWrong)

/-- 'breviarylaw2.CrcXors': WHATEVER THE INPUT: true; the input reads as it did. -/
def crcXorsSpec : ChangeSpec := { name := "crcXors", fn := fun _ => fun
  | [d1, d2, d3] => { results := [.lit (.bool true)], args := [d1, d2, d3] }
  | _ => none }
def crcXorsRow : OpenClaim := { program := "ytdgbgdkfoeoppaa", sum := "25038c3af55a1ac890272555b63cd2464b059efe3e1da2f48eaa2ea0838ac063", func := "breviary/breviarylaw2.CrcXors", spec := "crcXors", apart := false }
def CrcXorsSaid : Prop := crcXorsRow.holds Try.pinned (OpenSpec.ofChange crcXorsSpec)

/-- ITS FALSE NEIGHBOUR: 'it returns false'. Refute it at one input. -/
def crcXorsWrong : ChangeSpec := { name := "crcXors", fn := fun _ => fun
  | [d1, d2, d3] => { results := [.lit (.bool false)], args := [d1, d2, d3] }
  | _ => none }
def CrcXorsWrongFalsely : Prop := crcXorsRow.holds Try.pinned (OpenSpec.ofChange crcXorsWrong)

/-- 'breviarylaw2.CrcSums': WHATEVER THE INPUT: true; the input reads as it did. -/
def crcSumsSpec : ChangeSpec := { name := "crcSums", fn := fun _ => fun
  | [d1, d2, d3] => { results := [.lit (.bool true)], args := [d1, d2, d3] }
  | _ => none }
def crcSumsRow : OpenClaim := { program := "ytdgbgdkfoeoppaa", sum := "25038c3af55a1ac890272555b63cd2464b059efe3e1da2f48eaa2ea0838ac063", func := "breviary/breviarylaw2.CrcSums", spec := "crcSums", apart := false }
def CrcSumsSaid : Prop := crcSumsRow.holds Try.pinned (OpenSpec.ofChange crcSumsSpec)

/-- ITS FALSE NEIGHBOUR: 'it returns false'. Refute it at one input. -/
def crcSumsWrong : ChangeSpec := { name := "crcSums", fn := fun _ => fun
  | [d1, d2, d3] => { results := [.lit (.bool false)], args := [d1, d2, d3] }
  | _ => none }
def CrcSumsWrongFalsely : Prop := crcSumsRow.holds Try.pinned (OpenSpec.ofChange crcSumsWrong)

/-- 'breviarylaw2.CrcOwn': WHATEVER THE INPUT: true; the input reads as it did. -/
def crcOwnSpec : ChangeSpec := { name := "crcOwn", fn := fun _ => fun
  | [d1, d2, d3] => { results := [.lit (.bool true)], args := [d1, d2, d3] }
  | _ => none }
def crcOwnRow : OpenClaim := { program := "ytdgbgdkfoeoppaa", sum := "25038c3af55a1ac890272555b63cd2464b059efe3e1da2f48eaa2ea0838ac063", func := "breviary/breviarylaw2.CrcOwn", spec := "crcOwn", apart := false }
def CrcOwnSaid : Prop := crcOwnRow.holds Try.pinned (OpenSpec.ofChange crcOwnSpec)

/-- ITS FALSE NEIGHBOUR: 'it returns false'. Refute it at one input. -/
def crcOwnWrong : ChangeSpec := { name := "crcOwn", fn := fun _ => fun
  | [d1, d2, d3] => { results := [.lit (.bool false)], args := [d1, d2, d3] }
  | _ => none }
def CrcOwnWrongFalsely : Prop := crcOwnRow.holds Try.pinned (OpenSpec.ofChange crcOwnWrong)

/-- 'breviarylaw13.SpanSizes': WHATEVER THE INPUT: true; the input reads as it did. -/
def spanSizesSpec : ChangeSpec := { name := "spanSizes", fn := fun _ => fun
  | [d1, d2, d3] => { results := [.lit (.bool true)], args := [d1, d2, d3] }
  | _ => none }
def spanSizesRow : OpenClaim := { program := "ytdgbgdkfoeoppaa", sum := "25038c3af55a1ac890272555b63cd2464b059efe3e1da2f48eaa2ea0838ac063", func := "breviary/breviarylaw13.SpanSizes", spec := "spanSizes", apart := false }
def SpanSizesSaid : Prop := spanSizesRow.holds Try.pinned (OpenSpec.ofChange spanSizesSpec)

/-- ITS FALSE NEIGHBOUR: 'it returns false'. Refute it at one input. -/
def spanSizesWrong : ChangeSpec := { name := "spanSizes", fn := fun _ => fun
  | [d1, d2, d3] => { results := [.lit (.bool false)], args := [d1, d2, d3] }
  | _ => none }
def SpanSizesWrongFalsely : Prop := spanSizesRow.holds Try.pinned (OpenSpec.ofChange spanSizesWrong)

/- THE SECOND FORM. 'bulk': how many values and letters a reading holds, each counted each time it is reached (what is shared counts as often as it is met; a slice's spare places count too). A statement '..UptoSaid' is the law's where the arguments, and the package variables that the reading takes, are together of bulk at most 1048576: NARROWER than '..Said'. Prove '..Said' where nothing that the law and all that it calls make is longer than what came in: it says more and counts as full. Else prove '..UptoSaid'. A law counts once. -/
mutual
def uptoBulk {H : Type} : DataW H → Nat
  | .lit (.string bytes) => bytes.length + 1
  | .lit _ => 1
  | .nil => 1
  | .ptr d => uptoBulk d + 1
  | .slice elems spare => uptoBulkAll elems + uptoBulkAll spare + 1
  | .agg parts => uptoBulkAll parts + 1
  | .iface _ d => uptoBulk d + 1
  | .map entries => uptoBulkEntries entries + 1
  | .held _ => 1
def uptoBulkAll {H : Type} : List (DataW H) → Nat
  | [] => 0
  | d :: r => uptoBulk d + uptoBulkAll r
def uptoBulkEntries {H : Type} : List (Lit × DataW H) → Nat
  | [] => 0
  | x :: r => uptoBulkEntry x + uptoBulkEntries r
def uptoBulkEntry {H : Type} : Lit × DataW H → Nat
  | (.string bytes, d) => bytes.length + uptoBulk d + 1
  | (_, d) => uptoBulk d + 1
 end
def uptoSmall : (H : Type) → List (DataW H) → Bool := fun _ ds => decide (uptoBulkAll ds ≤ 1048576)
def OpenSpec.upto (s : _root_.Go.ChangeSpec) : _root_.Go.OpenSpec := { _root_.Go.OpenSpec.ofChange s with cond := some uptoSmall }

/-- 'breviarylaw13.SpanAll', WHERE WHAT IT READS IS OF BULK AT MOST 1048576: true; the input reads as it did. -/
def spanAllUptoRow : OpenClaim := { program := "ytdgbgdkfoeoppaa", sum := "25038c3af55a1ac890272555b63cd2464b059efe3e1da2f48eaa2ea0838ac063", func := "breviary/breviarylaw13.SpanAll", spec := "spanAll", apart := false, narrowed := true }
def SpanAllUptoSaid : Prop := spanAllUptoRow.holds Try.pinned (OpenSpec.upto spanAllSpec)

/-- 'breviarylaw2.CrcAdds', WHERE WHAT IT READS IS OF BULK AT MOST 1048576: true; the input reads as it did. -/
def crcAddsUptoRow : OpenClaim := { program := "ytdgbgdkfoeoppaa", sum := "25038c3af55a1ac890272555b63cd2464b059efe3e1da2f48eaa2ea0838ac063", func := "breviary/breviarylaw2.CrcAdds", spec := "crcAdds", apart := false, narrowed := true }
def CrcAddsUptoSaid : Prop := crcAddsUptoRow.holds Try.pinned (OpenSpec.upto crcAddsSpec)

/-- 'breviarylaw13.SpanLays', WHERE WHAT IT READS IS OF BULK AT MOST 1048576: true; the input reads as it did. -/
def spanLaysUptoRow : OpenClaim := { program := "ytdgbgdkfoeoppaa", sum := "25038c3af55a1ac890272555b63cd2464b059efe3e1da2f48eaa2ea0838ac063", func := "breviary/breviarylaw13.SpanLays", spec := "spanLays", apart := false, narrowed := true }
def SpanLaysUptoSaid : Prop := spanLaysUptoRow.holds Try.pinned (OpenSpec.upto spanLaysSpec)

/-- 'breviarylaw2.CrcTable', WHERE WHAT IT READS IS OF BULK AT MOST 1048576: true; the input reads as it did. -/
def crcTableUptoRow : OpenClaim := { program := "ytdgbgdkfoeoppaa", sum := "25038c3af55a1ac890272555b63cd2464b059efe3e1da2f48eaa2ea0838ac063", func := "breviary/breviarylaw2.CrcTable", spec := "crcTable", apart := false, narrowed := true }
def CrcTableUptoSaid : Prop := crcTableUptoRow.holds Try.pinned (OpenSpec.upto crcTableSpec)

/-- 'breviarylaw2.CrcTells', WHERE WHAT IT READS IS OF BULK AT MOST 1048576: true; the input reads as it did. -/
def crcTellsUptoRow : OpenClaim := { program := "ytdgbgdkfoeoppaa", sum := "25038c3af55a1ac890272555b63cd2464b059efe3e1da2f48eaa2ea0838ac063", func := "breviary/breviarylaw2.CrcTells", spec := "crcTells", apart := false, narrowed := true }
def CrcTellsUptoSaid : Prop := crcTellsUptoRow.holds Try.pinned (OpenSpec.upto crcTellsSpec)

/-- 'breviarylaw2.CrcXors', WHERE WHAT IT READS IS OF BULK AT MOST 1048576: true; the input reads as it did. -/
def crcXorsUptoRow : OpenClaim := { program := "ytdgbgdkfoeoppaa", sum := "25038c3af55a1ac890272555b63cd2464b059efe3e1da2f48eaa2ea0838ac063", func := "breviary/breviarylaw2.CrcXors", spec := "crcXors", apart := false, narrowed := true }
def CrcXorsUptoSaid : Prop := crcXorsUptoRow.holds Try.pinned (OpenSpec.upto crcXorsSpec)

/-- 'breviarylaw2.CrcSums', WHERE WHAT IT READS IS OF BULK AT MOST 1048576: true; the input reads as it did. -/
def crcSumsUptoRow : OpenClaim := { program := "ytdgbgdkfoeoppaa", sum := "25038c3af55a1ac890272555b63cd2464b059efe3e1da2f48eaa2ea0838ac063", func := "breviary/breviarylaw2.CrcSums", spec := "crcSums", apart := false, narrowed := true }
def CrcSumsUptoSaid : Prop := crcSumsUptoRow.holds Try.pinned (OpenSpec.upto crcSumsSpec)

/-- 'breviarylaw2.CrcOwn', WHERE WHAT IT READS IS OF BULK AT MOST 1048576: true; the input reads as it did. -/
def crcOwnUptoRow : OpenClaim := { program := "ytdgbgdkfoeoppaa", sum := "25038c3af55a1ac890272555b63cd2464b059efe3e1da2f48eaa2ea0838ac063", func := "breviary/breviarylaw2.CrcOwn", spec := "crcOwn", apart := false, narrowed := true }
def CrcOwnUptoSaid : Prop := crcOwnUptoRow.holds Try.pinned (OpenSpec.upto crcOwnSpec)

/-- 'breviarylaw13.SpanSizes', WHERE WHAT IT READS IS OF BULK AT MOST 1048576: true; the input reads as it did. -/
def spanSizesUptoRow : OpenClaim := { program := "ytdgbgdkfoeoppaa", sum := "25038c3af55a1ac890272555b63cd2464b059efe3e1da2f48eaa2ea0838ac063", func := "breviary/breviarylaw13.SpanSizes", spec := "spanSizes", apart := false, narrowed := true }
def SpanSizesUptoSaid : Prop := spanSizesUptoRow.holds Try.pinned (OpenSpec.upto spanSizesSpec)

end Rows
end Go.Proofs.Ytdgbgdkfoeoppaa
