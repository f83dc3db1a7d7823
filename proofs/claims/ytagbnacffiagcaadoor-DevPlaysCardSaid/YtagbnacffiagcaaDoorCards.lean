/-
  DERIVED. GIVEN WITH THE SEED: THE CARDS: each row of YtagbnacffiagcaaDoorRows.lean that lists a variable, with what it lists TIED to the program's text (the seventh form; the later family's looks); each row that meets fmt, with fmt's text TOLD by the authors' own Lean function (tested against real Go, not proved from fmt's source: count such statements apart). THE CARD IS WHAT COUNTS. Prove the row's statement (the work); the ties are given (YtagbnacffiagcaaDoorTie.lean); close each card by the builder's one call (the guide's Derived/Test/ToyasCard.lean, 'card_holds'). Laid BY PROGRAM, IN A SANDBOX (cutbox-door.mjs). By AI agents, Wed Nov 11 2026. No macro, syntax, notation, axiom, sorry.
-/
import Derived.Test.YtagbnacffiagcaaDoorRows
import GoSem.ClaimSeven
namespace Go.Proofs.YtagbnacffiagcaaDoor
namespace Rows

/-- THE TIED CARD OF 'breviarylaw5.PairReads'. -/
def pairReadsCard : Claim7 := { stood := { row := pairReadsRow, standIns := [], harness := (true, "b9a9db1c8dee1b2ccd615adddf97bf6502ff3d436d73e06eb9d3d78f05f363ad"), looks := true }, kinds := [], alts := [], laidByText := true, laidKinds := [.sentinel, .sentinel, .sentinel, .sentinel, .sentinel, .sentinel, .sentinel, .sentinel, .sentinel, .sentinel, .sentinel, .sentinel, .sentinel, .sentinel, .sentinel, .sentinel, .sentinel, .sentinel, .sentinel, .sentinel, .sentinel, .sentinel, .sentinel, .sentinel], laidTests := true, laidLooks := .later }
def PairReadsCardSaid : Prop := Claim7.holds Tryd.pinned (.plain (OpenSpec.ofChange pairReadsSpec)) pairReadsCard

/-- THE TIED CARD OF 'breviarylaw12.PathBack'. -/
def pathBackCard : Claim7 := { stood := { row := pathBackRow, standIns := [], harness := (true, "b9a9db1c8dee1b2ccd615adddf97bf6502ff3d436d73e06eb9d3d78f05f363ad"), looks := true }, kinds := [], alts := [], laidByText := true, laidKinds := [.data, .sentinel, .sentinel, .sentinel, .pinned], laidTests := true, laidLooks := .later }
def PathBackCardSaid : Prop := Claim7.holds Tryd.pinned (.plain (OpenSpec.ofChange pathBackSpec)) pathBackCard

/-- THE TIED CARD OF 'breviarylaw12.PathSays'. -/
def pathSaysCard : Claim7 := { stood := { row := pathSaysRow, standIns := [], harness := (true, "b9a9db1c8dee1b2ccd615adddf97bf6502ff3d436d73e06eb9d3d78f05f363ad"), looks := true }, kinds := [], alts := [], laidByText := true, laidKinds := [.data, .sentinel, .sentinel, .sentinel, .sentinel, .sentinel, .sentinel, .sentinel, .sentinel, .sentinel, .sentinel, .sentinel, .sentinel, .sentinel, .sentinel, .sentinel, .sentinel, .sentinel, .sentinel, .sentinel, .sentinel, .sentinel, .sentinel, .sentinel, .sentinel, .pinned], laidTests := true, laidLooks := .later }
def PathSaysCardSaid : Prop := Claim7.holds Tryd.pinned (.plain (OpenSpec.ofChange pathSaysSpec)) pathSaysCard

/-- THE TIED CARD OF 'breviarylaw3.DevPlays'. -/
def devPlaysCard : Claim7 := { stood := { row := devPlaysRow, standIns := [], harness := (true, "b9a9db1c8dee1b2ccd615adddf97bf6502ff3d436d73e06eb9d3d78f05f363ad"), looks := true }, kinds := [], alts := [], laidByText := true, laidKinds := [.sentinel, .sentinel, .sentinel, .sentinel, .sentinel, .sentinel, .sentinel, .sentinel, .sentinel, .sentinel, .sentinel, .sentinel, .sentinel, .sentinel, .sentinel, .sentinel, .sentinel, .sentinel, .sentinel, .sentinel, .sentinel, .sentinel, .sentinel, .sentinel], laidTests := true, laidLooks := .later }
def DevPlaysCardSaid : Prop := Claim7.holds Tryd.pinned (.plain (OpenSpec.ofChange devPlaysSpec)) devPlaysCard

/-- THE TIED CARD OF 'breviarylaw9.BlobOpens'. -/
def blobOpensCard : Claim7 := { stood := { row := blobOpensRow, standIns := [], harness := (true, "b9a9db1c8dee1b2ccd615adddf97bf6502ff3d436d73e06eb9d3d78f05f363ad"), looks := true }, kinds := [], alts := [], laidByText := true, laidKinds := [.sentinel, .sentinel, .sentinel, .sentinel, .sentinel, .sentinel, .sentinel, .sentinel, .sentinel, .sentinel, .sentinel, .sentinel, .sentinel, .sentinel, .sentinel, .sentinel, .sentinel, .sentinel, .sentinel, .sentinel, .sentinel, .sentinel, .sentinel, .sentinel], laidTests := true, laidLooks := .later }
def BlobOpensCardSaid : Prop := Claim7.holds Tryd.pinned (.plain (OpenSpec.ofChange blobOpensSpec)) blobOpensCard

/-- THE TIED CARD OF 'breviarylaw9.BlobPlays'. -/
def blobPlaysCard : Claim7 := { stood := { row := blobPlaysRow, standIns := [], harness := (true, "b9a9db1c8dee1b2ccd615adddf97bf6502ff3d436d73e06eb9d3d78f05f363ad"), looks := true }, kinds := [], alts := [], laidByText := true, laidKinds := [.sentinel, .sentinel, .sentinel, .sentinel, .sentinel, .sentinel, .sentinel, .sentinel, .sentinel, .sentinel, .sentinel, .sentinel, .sentinel, .sentinel, .sentinel, .sentinel, .sentinel, .sentinel, .sentinel, .sentinel, .sentinel, .sentinel, .sentinel, .sentinel], laidTests := true, laidLooks := .later }
def BlobPlaysCardSaid : Prop := Claim7.holds Tryd.pinned (.plain (OpenSpec.ofChange blobPlaysSpec)) blobPlaysCard

/-- THE SECOND FORM's CARD OF 'breviarylaw5.PairReads'. -/
def pairReadsUptoCard : Claim7 := { stood := { row := pairReadsUptoRow, standIns := [], harness := (true, "b9a9db1c8dee1b2ccd615adddf97bf6502ff3d436d73e06eb9d3d78f05f363ad"), looks := true }, kinds := [], alts := [], laidByText := true, laidKinds := [.sentinel, .sentinel, .sentinel, .sentinel, .sentinel, .sentinel, .sentinel, .sentinel, .sentinel, .sentinel, .sentinel, .sentinel, .sentinel, .sentinel, .sentinel, .sentinel, .sentinel, .sentinel, .sentinel, .sentinel, .sentinel, .sentinel, .sentinel, .sentinel], laidTests := true, laidLooks := .later }
def PairReadsUptoCardSaid : Prop := Claim7.holds Tryd.pinned (.plain (OpenSpec.upto pairReadsSpec)) pairReadsUptoCard

/-- THE SECOND FORM's CARD OF 'breviarylaw12.PathBack'. -/
def pathBackUptoCard : Claim7 := { stood := { row := pathBackUptoRow, standIns := [], harness := (true, "b9a9db1c8dee1b2ccd615adddf97bf6502ff3d436d73e06eb9d3d78f05f363ad"), looks := true }, kinds := [], alts := [], laidByText := true, laidKinds := [.data, .sentinel, .sentinel, .sentinel, .pinned], laidTests := true, laidLooks := .later }
def PathBackUptoCardSaid : Prop := Claim7.holds Tryd.pinned (.plain (OpenSpec.upto pathBackSpec)) pathBackUptoCard

/-- THE SECOND FORM's CARD OF 'breviarylaw12.PathSays'. -/
def pathSaysUptoCard : Claim7 := { stood := { row := pathSaysUptoRow, standIns := [], harness := (true, "b9a9db1c8dee1b2ccd615adddf97bf6502ff3d436d73e06eb9d3d78f05f363ad"), looks := true }, kinds := [], alts := [], laidByText := true, laidKinds := [.data, .sentinel, .sentinel, .sentinel, .sentinel, .sentinel, .sentinel, .sentinel, .sentinel, .sentinel, .sentinel, .sentinel, .sentinel, .sentinel, .sentinel, .sentinel, .sentinel, .sentinel, .sentinel, .sentinel, .sentinel, .sentinel, .sentinel, .sentinel, .sentinel, .pinned], laidTests := true, laidLooks := .later }
def PathSaysUptoCardSaid : Prop := Claim7.holds Tryd.pinned (.plain (OpenSpec.upto pathSaysSpec)) pathSaysUptoCard

/-- THE SECOND FORM's CARD OF 'breviarylaw3.DevPlays'. -/
def devPlaysUptoCard : Claim7 := { stood := { row := devPlaysUptoRow, standIns := [], harness := (true, "b9a9db1c8dee1b2ccd615adddf97bf6502ff3d436d73e06eb9d3d78f05f363ad"), looks := true }, kinds := [], alts := [], laidByText := true, laidKinds := [.sentinel, .sentinel, .sentinel, .sentinel, .sentinel, .sentinel, .sentinel, .sentinel, .sentinel, .sentinel, .sentinel, .sentinel, .sentinel, .sentinel, .sentinel, .sentinel, .sentinel, .sentinel, .sentinel, .sentinel, .sentinel, .sentinel, .sentinel, .sentinel], laidTests := true, laidLooks := .later }
def DevPlaysUptoCardSaid : Prop := Claim7.holds Tryd.pinned (.plain (OpenSpec.upto devPlaysSpec)) devPlaysUptoCard

/-- THE SECOND FORM's CARD OF 'breviarylaw9.BlobOpens'. -/
def blobOpensUptoCard : Claim7 := { stood := { row := blobOpensUptoRow, standIns := [], harness := (true, "b9a9db1c8dee1b2ccd615adddf97bf6502ff3d436d73e06eb9d3d78f05f363ad"), looks := true }, kinds := [], alts := [], laidByText := true, laidKinds := [.sentinel, .sentinel, .sentinel, .sentinel, .sentinel, .sentinel, .sentinel, .sentinel, .sentinel, .sentinel, .sentinel, .sentinel, .sentinel, .sentinel, .sentinel, .sentinel, .sentinel, .sentinel, .sentinel, .sentinel, .sentinel, .sentinel, .sentinel, .sentinel], laidTests := true, laidLooks := .later }
def BlobOpensUptoCardSaid : Prop := Claim7.holds Tryd.pinned (.plain (OpenSpec.upto blobOpensSpec)) blobOpensUptoCard

/-- THE SECOND FORM's CARD OF 'breviarylaw9.BlobPlays'. -/
def blobPlaysUptoCard : Claim7 := { stood := { row := blobPlaysUptoRow, standIns := [], harness := (true, "b9a9db1c8dee1b2ccd615adddf97bf6502ff3d436d73e06eb9d3d78f05f363ad"), looks := true }, kinds := [], alts := [], laidByText := true, laidKinds := [.sentinel, .sentinel, .sentinel, .sentinel, .sentinel, .sentinel, .sentinel, .sentinel, .sentinel, .sentinel, .sentinel, .sentinel, .sentinel, .sentinel, .sentinel, .sentinel, .sentinel, .sentinel, .sentinel, .sentinel, .sentinel, .sentinel, .sentinel, .sentinel], laidTests := true, laidLooks := .later }
def BlobPlaysUptoCardSaid : Prop := Claim7.holds Tryd.pinned (.plain (OpenSpec.upto blobPlaysSpec)) blobPlaysUptoCard
end Rows
end Go.Proofs.YtagbnacffiagcaaDoor
