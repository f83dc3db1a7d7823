/-
  DERIVED. GIVEN WITH THE SEED: THE CARDS: each row of YtcaocebgkahbmaaDoorRows.lean that lists a variable, with what it lists TIED to the program's text (the seventh form; the later family's looks); each row that meets fmt, with fmt's text TOLD by the authors' own Lean function (tested against real Go, not proved from fmt's source: count such statements apart). THE CARD IS WHAT COUNTS. Prove the row's statement (the work); the ties are given (YtcaocebgkahbmaaDoorTie.lean); close each card by the builder's one call (the guide's Derived/Test/ToyasCard.lean, 'card_holds'). Laid BY PROGRAM, IN A SANDBOX (cutbox-door.mjs). By AI agents, Wed Nov 11 2026. No macro, syntax, notation, axiom, sorry.
-/
import Derived.Test.YtcaocebgkahbmaaDoorRows
import GoSem.ClaimSeven
namespace Go.Proofs.YtcaocebgkahbmaaDoor
namespace Rows

/-- THE TIED CARD OF 'breviarylaw8.KeepOrder'. -/
def keepOrderCard : Claim7 := { stood := { row := keepOrderRow, standIns := [], harness := (true, "bc5ee7ca23107d270a00d072962e95b1a9b5ccb951ebfb939f3d4344a5b221cd"), looks := true }, kinds := [], alts := [], laidByText := true, laidKinds := [.sentinel, .sentinel, .sentinel, .sentinel, .sentinel, .sentinel, .sentinel], laidTests := true, laidLooks := .later }
def KeepOrderCardSaid : Prop := Claim7.holds Tryd.pinned (.plain (OpenSpec.ofChange keepOrderSpec)) keepOrderCard

/-- THE SECOND FORM's CARD OF 'breviarylaw8.KeepOrder'. -/
def keepOrderUptoCard : Claim7 := { stood := { row := keepOrderUptoRow, standIns := [], harness := (true, "bc5ee7ca23107d270a00d072962e95b1a9b5ccb951ebfb939f3d4344a5b221cd"), looks := true }, kinds := [], alts := [], laidByText := true, laidKinds := [.sentinel, .sentinel, .sentinel, .sentinel, .sentinel, .sentinel, .sentinel], laidTests := true, laidLooks := .later }
def KeepOrderUptoCardSaid : Prop := Claim7.holds Tryd.pinned (.plain (OpenSpec.upto keepOrderSpec)) keepOrderUptoCard
end Rows
end Go.Proofs.YtcaocebgkahbmaaDoor
