/-
  DERIVED. GIVEN WITH THE SEED: THE CARDS: each row of YtjecnjgngahmfaaDoorRows.lean that lists a variable, with what it lists TIED to the program's text (the seventh form; the later family's looks); each row that meets fmt, with fmt's text TOLD by the authors' own Lean function (tested against real Go, not proved from fmt's source: count such statements apart). THE CARD IS WHAT COUNTS. Prove the row's statement (the work); the ties are given (YtjecnjgngahmfaaDoorTie.lean); close each card by the builder's one call (the guide's Derived/Test/ToyasCard.lean, 'card_holds'). Laid BY PROGRAM, IN A SANDBOX (cutbox-door.mjs). By AI agents, Wed Nov 11 2026. No macro, syntax, notation, axiom, sorry.
-/
import Derived.Test.YtjecnjgngahmfaaDoorRows
import GoSem.ClaimSeven
namespace Go.Proofs.YtjecnjgngahmfaaDoor
namespace Rows

/-- THE TIED CARD OF 'breviarylaw9.BlobHeld'. -/
def blobHeldCard : Claim7 := { stood := { row := blobHeldRow, standIns := [], harness := (true, "6d784de12cfeeb144d7f663b374009f34d17871cecd2ec1744bc02e34f3d1c45"), looks := true }, kinds := [], alts := [], laidByText := true, laidKinds := [.sentinel, .sentinel, .sentinel, .sentinel, .sentinel, .sentinel, .sentinel, .sentinel, .sentinel, .sentinel, .sentinel, .sentinel, .sentinel, .sentinel, .sentinel, .sentinel, .sentinel, .sentinel, .sentinel, .sentinel, .sentinel, .sentinel, .sentinel, .sentinel], laidTests := true, laidLooks := .later }
def BlobHeldCardSaid : Prop := Claim7.holds Tryd.pinned (.plain (OpenSpec.ofChange blobHeldSpec)) blobHeldCard

/-- THE TIED CARD OF 'breviarylaw9.BlobTells'. -/
def blobTellsCard : Claim7 := { stood := { row := blobTellsRow, standIns := [], harness := (true, "6d784de12cfeeb144d7f663b374009f34d17871cecd2ec1744bc02e34f3d1c45"), looks := true }, kinds := [], alts := [], laidByText := true, laidKinds := [.sentinel, .sentinel, .sentinel, .sentinel, .sentinel, .sentinel, .sentinel, .sentinel, .sentinel, .sentinel, .sentinel, .sentinel, .sentinel, .sentinel, .sentinel, .sentinel, .sentinel, .sentinel, .sentinel, .sentinel, .sentinel, .sentinel, .sentinel, .sentinel], laidTests := true, laidLooks := .later }
def BlobTellsCardSaid : Prop := Claim7.holds Tryd.pinned (.plain (OpenSpec.ofChange blobTellsSpec)) blobTellsCard

/-- THE TIED CARD OF 'breviarylaw5.PairApart'. -/
def pairApartCard : Claim7 := { stood := { row := pairApartRow, standIns := [], harness := (true, "6d784de12cfeeb144d7f663b374009f34d17871cecd2ec1744bc02e34f3d1c45"), looks := true }, kinds := [], alts := [], laidByText := true, laidKinds := [.sentinel, .sentinel, .sentinel, .sentinel, .sentinel], laidTests := true, laidLooks := .later }
def PairApartCardSaid : Prop := Claim7.holds Tryd.pinned (.plain (OpenSpec.ofChange pairApartSpec)) pairApartCard

/-- THE TIED CARD OF 'breviarylaw5.PairReads'. -/
def pairReadsCard : Claim7 := { stood := { row := pairReadsRow, standIns := [], harness := (true, "6d784de12cfeeb144d7f663b374009f34d17871cecd2ec1744bc02e34f3d1c45"), looks := true }, kinds := [], alts := [], laidByText := true, laidKinds := [.sentinel, .sentinel, .sentinel, .sentinel, .sentinel, .sentinel, .sentinel, .sentinel, .sentinel, .sentinel, .sentinel, .sentinel, .sentinel, .sentinel, .sentinel, .sentinel, .sentinel, .sentinel, .sentinel, .sentinel, .sentinel, .sentinel, .sentinel, .sentinel], laidTests := true, laidLooks := .later }
def PairReadsCardSaid : Prop := Claim7.holds Tryd.pinned (.plain (OpenSpec.ofChange pairReadsSpec)) pairReadsCard

/-- THE TIED CARD OF 'breviarylaw5.PairLost'. -/
def pairLostCard : Claim7 := { stood := { row := pairLostRow, standIns := [], harness := (true, "6d784de12cfeeb144d7f663b374009f34d17871cecd2ec1744bc02e34f3d1c45"), looks := true }, kinds := [], alts := [], laidByText := true, laidKinds := [.sentinel, .sentinel, .sentinel, .sentinel, .sentinel, .sentinel, .sentinel, .sentinel, .sentinel, .sentinel, .sentinel, .sentinel, .sentinel, .sentinel, .sentinel, .sentinel, .sentinel, .sentinel, .sentinel, .sentinel, .sentinel, .sentinel, .sentinel, .sentinel], laidTests := true, laidLooks := .later }
def PairLostCardSaid : Prop := Claim7.holds Tryd.pinned (.plain (OpenSpec.ofChange pairLostSpec)) pairLostCard

/-- THE TIED CARD OF 'breviarylaw5.PairHeals'. -/
def pairHealsCard : Claim7 := { stood := { row := pairHealsRow, standIns := [], harness := (true, "6d784de12cfeeb144d7f663b374009f34d17871cecd2ec1744bc02e34f3d1c45"), looks := true }, kinds := [], alts := [], laidByText := true, laidKinds := [.sentinel, .sentinel, .sentinel, .sentinel, .sentinel], laidTests := true, laidLooks := .later }
def PairHealsCardSaid : Prop := Claim7.holds Tryd.pinned (.plain (OpenSpec.ofChange pairHealsSpec)) pairHealsCard

/-- THE TIED CARD OF 'breviarylaw6.RootBytes'. -/
def rootBytesCard : Claim7 := { stood := { row := rootBytesRow, standIns := [], harness := (true, "6d784de12cfeeb144d7f663b374009f34d17871cecd2ec1744bc02e34f3d1c45"), looks := true }, kinds := [], alts := [], laidByText := true, laidKinds := [.sentinel, .sentinel, .sentinel, .sentinel, .sentinel, .sentinel, .sentinel, .sentinel, .sentinel, .sentinel, .sentinel, .sentinel, .sentinel, .sentinel, .sentinel, .sentinel, .sentinel, .sentinel, .sentinel, .sentinel, .sentinel, .sentinel, .sentinel, .sentinel], laidTests := true, laidLooks := .later }
def RootBytesCardSaid : Prop := Claim7.holds Tryd.pinned (.plain (OpenSpec.ofChange rootBytesSpec)) rootBytesCard

/-- THE TIED CARD OF 'breviarylaw6.RootTells'. -/
def rootTellsCard : Claim7 := { stood := { row := rootTellsRow, standIns := [], harness := (true, "6d784de12cfeeb144d7f663b374009f34d17871cecd2ec1744bc02e34f3d1c45"), looks := true }, kinds := [], alts := [], laidByText := true, laidKinds := [.sentinel, .sentinel, .sentinel, .sentinel, .sentinel, .sentinel], laidTests := true, laidLooks := .later }
def RootTellsCardSaid : Prop := Claim7.holds Tryd.pinned (.plain (OpenSpec.ofChange rootTellsSpec)) rootTellsCard

/-- THE TIED CARD OF 'breviarylaw6.RootGreater'. -/
def rootGreaterCard : Claim7 := { stood := { row := rootGreaterRow, standIns := [], harness := (true, "6d784de12cfeeb144d7f663b374009f34d17871cecd2ec1744bc02e34f3d1c45"), looks := true }, kinds := [], alts := [], laidByText := true, laidKinds := [.sentinel, .sentinel, .sentinel, .sentinel, .sentinel, .sentinel], laidTests := true, laidLooks := .later }
def RootGreaterCardSaid : Prop := Claim7.holds Tryd.pinned (.plain (OpenSpec.ofChange rootGreaterSpec)) rootGreaterCard

/-- THE TIED CARD OF 'breviarylaw6.RootFaults'. -/
def rootFaultsCard : Claim7 := { stood := { row := rootFaultsRow, standIns := [], harness := (true, "6d784de12cfeeb144d7f663b374009f34d17871cecd2ec1744bc02e34f3d1c45"), looks := true }, kinds := [], alts := [], laidByText := true, laidKinds := [.sentinel, .sentinel, .sentinel, .sentinel, .sentinel, .sentinel], laidTests := true, laidLooks := .later }
def RootFaultsCardSaid : Prop := Claim7.holds Tryd.pinned (.plain (OpenSpec.ofChange rootFaultsSpec)) rootFaultsCard

/-- THE SECOND FORM's CARD OF 'breviarylaw9.BlobHeld'. -/
def blobHeldUptoCard : Claim7 := { stood := { row := blobHeldUptoRow, standIns := [], harness := (true, "6d784de12cfeeb144d7f663b374009f34d17871cecd2ec1744bc02e34f3d1c45"), looks := true }, kinds := [], alts := [], laidByText := true, laidKinds := [.sentinel, .sentinel, .sentinel, .sentinel, .sentinel, .sentinel, .sentinel, .sentinel, .sentinel, .sentinel, .sentinel, .sentinel, .sentinel, .sentinel, .sentinel, .sentinel, .sentinel, .sentinel, .sentinel, .sentinel, .sentinel, .sentinel, .sentinel, .sentinel], laidTests := true, laidLooks := .later }
def BlobHeldUptoCardSaid : Prop := Claim7.holds Tryd.pinned (.plain (OpenSpec.upto blobHeldSpec)) blobHeldUptoCard

/-- THE SECOND FORM's CARD OF 'breviarylaw9.BlobTells'. -/
def blobTellsUptoCard : Claim7 := { stood := { row := blobTellsUptoRow, standIns := [], harness := (true, "6d784de12cfeeb144d7f663b374009f34d17871cecd2ec1744bc02e34f3d1c45"), looks := true }, kinds := [], alts := [], laidByText := true, laidKinds := [.sentinel, .sentinel, .sentinel, .sentinel, .sentinel, .sentinel, .sentinel, .sentinel, .sentinel, .sentinel, .sentinel, .sentinel, .sentinel, .sentinel, .sentinel, .sentinel, .sentinel, .sentinel, .sentinel, .sentinel, .sentinel, .sentinel, .sentinel, .sentinel], laidTests := true, laidLooks := .later }
def BlobTellsUptoCardSaid : Prop := Claim7.holds Tryd.pinned (.plain (OpenSpec.upto blobTellsSpec)) blobTellsUptoCard

/-- THE SECOND FORM's CARD OF 'breviarylaw5.PairApart'. -/
def pairApartUptoCard : Claim7 := { stood := { row := pairApartUptoRow, standIns := [], harness := (true, "6d784de12cfeeb144d7f663b374009f34d17871cecd2ec1744bc02e34f3d1c45"), looks := true }, kinds := [], alts := [], laidByText := true, laidKinds := [.sentinel, .sentinel, .sentinel, .sentinel, .sentinel], laidTests := true, laidLooks := .later }
def PairApartUptoCardSaid : Prop := Claim7.holds Tryd.pinned (.plain (OpenSpec.upto pairApartSpec)) pairApartUptoCard

/-- THE SECOND FORM's CARD OF 'breviarylaw5.PairReads'. -/
def pairReadsUptoCard : Claim7 := { stood := { row := pairReadsUptoRow, standIns := [], harness := (true, "6d784de12cfeeb144d7f663b374009f34d17871cecd2ec1744bc02e34f3d1c45"), looks := true }, kinds := [], alts := [], laidByText := true, laidKinds := [.sentinel, .sentinel, .sentinel, .sentinel, .sentinel, .sentinel, .sentinel, .sentinel, .sentinel, .sentinel, .sentinel, .sentinel, .sentinel, .sentinel, .sentinel, .sentinel, .sentinel, .sentinel, .sentinel, .sentinel, .sentinel, .sentinel, .sentinel, .sentinel], laidTests := true, laidLooks := .later }
def PairReadsUptoCardSaid : Prop := Claim7.holds Tryd.pinned (.plain (OpenSpec.upto pairReadsSpec)) pairReadsUptoCard

/-- THE SECOND FORM's CARD OF 'breviarylaw5.PairLost'. -/
def pairLostUptoCard : Claim7 := { stood := { row := pairLostUptoRow, standIns := [], harness := (true, "6d784de12cfeeb144d7f663b374009f34d17871cecd2ec1744bc02e34f3d1c45"), looks := true }, kinds := [], alts := [], laidByText := true, laidKinds := [.sentinel, .sentinel, .sentinel, .sentinel, .sentinel, .sentinel, .sentinel, .sentinel, .sentinel, .sentinel, .sentinel, .sentinel, .sentinel, .sentinel, .sentinel, .sentinel, .sentinel, .sentinel, .sentinel, .sentinel, .sentinel, .sentinel, .sentinel, .sentinel], laidTests := true, laidLooks := .later }
def PairLostUptoCardSaid : Prop := Claim7.holds Tryd.pinned (.plain (OpenSpec.upto pairLostSpec)) pairLostUptoCard

/-- THE SECOND FORM's CARD OF 'breviarylaw5.PairHeals'. -/
def pairHealsUptoCard : Claim7 := { stood := { row := pairHealsUptoRow, standIns := [], harness := (true, "6d784de12cfeeb144d7f663b374009f34d17871cecd2ec1744bc02e34f3d1c45"), looks := true }, kinds := [], alts := [], laidByText := true, laidKinds := [.sentinel, .sentinel, .sentinel, .sentinel, .sentinel], laidTests := true, laidLooks := .later }
def PairHealsUptoCardSaid : Prop := Claim7.holds Tryd.pinned (.plain (OpenSpec.upto pairHealsSpec)) pairHealsUptoCard

/-- THE SECOND FORM's CARD OF 'breviarylaw6.RootBytes'. -/
def rootBytesUptoCard : Claim7 := { stood := { row := rootBytesUptoRow, standIns := [], harness := (true, "6d784de12cfeeb144d7f663b374009f34d17871cecd2ec1744bc02e34f3d1c45"), looks := true }, kinds := [], alts := [], laidByText := true, laidKinds := [.sentinel, .sentinel, .sentinel, .sentinel, .sentinel, .sentinel, .sentinel, .sentinel, .sentinel, .sentinel, .sentinel, .sentinel, .sentinel, .sentinel, .sentinel, .sentinel, .sentinel, .sentinel, .sentinel, .sentinel, .sentinel, .sentinel, .sentinel, .sentinel], laidTests := true, laidLooks := .later }
def RootBytesUptoCardSaid : Prop := Claim7.holds Tryd.pinned (.plain (OpenSpec.upto rootBytesSpec)) rootBytesUptoCard

/-- THE SECOND FORM's CARD OF 'breviarylaw6.RootTells'. -/
def rootTellsUptoCard : Claim7 := { stood := { row := rootTellsUptoRow, standIns := [], harness := (true, "6d784de12cfeeb144d7f663b374009f34d17871cecd2ec1744bc02e34f3d1c45"), looks := true }, kinds := [], alts := [], laidByText := true, laidKinds := [.sentinel, .sentinel, .sentinel, .sentinel, .sentinel, .sentinel], laidTests := true, laidLooks := .later }
def RootTellsUptoCardSaid : Prop := Claim7.holds Tryd.pinned (.plain (OpenSpec.upto rootTellsSpec)) rootTellsUptoCard

/-- THE SECOND FORM's CARD OF 'breviarylaw6.RootGreater'. -/
def rootGreaterUptoCard : Claim7 := { stood := { row := rootGreaterUptoRow, standIns := [], harness := (true, "6d784de12cfeeb144d7f663b374009f34d17871cecd2ec1744bc02e34f3d1c45"), looks := true }, kinds := [], alts := [], laidByText := true, laidKinds := [.sentinel, .sentinel, .sentinel, .sentinel, .sentinel, .sentinel], laidTests := true, laidLooks := .later }
def RootGreaterUptoCardSaid : Prop := Claim7.holds Tryd.pinned (.plain (OpenSpec.upto rootGreaterSpec)) rootGreaterUptoCard

/-- THE SECOND FORM's CARD OF 'breviarylaw6.RootFaults'. -/
def rootFaultsUptoCard : Claim7 := { stood := { row := rootFaultsUptoRow, standIns := [], harness := (true, "6d784de12cfeeb144d7f663b374009f34d17871cecd2ec1744bc02e34f3d1c45"), looks := true }, kinds := [], alts := [], laidByText := true, laidKinds := [.sentinel, .sentinel, .sentinel, .sentinel, .sentinel, .sentinel], laidTests := true, laidLooks := .later }
def RootFaultsUptoCardSaid : Prop := Claim7.holds Tryd.pinned (.plain (OpenSpec.upto rootFaultsSpec)) rootFaultsUptoCard
end Rows
end Go.Proofs.YtjecnjgngahmfaaDoor
