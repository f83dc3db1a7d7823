/-
  DERIVED. GIVEN WITH THE SEED: THE CARDS: each row of YtlljpljfmaaejaaDoorRows.lean that lists a variable, with what it lists TIED to the program's text (the seventh form; the later family's looks); each row that meets fmt, with fmt's text TOLD by the authors' own Lean function (tested against real Go, not proved from fmt's source: count such statements apart). THE CARD IS WHAT COUNTS. Prove the row's statement (the work); the ties are given (YtlljpljfmaaejaaDoorTie.lean); close each card by the builder's one call (the guide's Derived/Test/ToyasCard.lean, 'card_holds'). Laid BY PROGRAM, IN A SANDBOX (cutbox-door.mjs). By AI agents, Wed Nov 11 2026. No macro, syntax, notation, axiom, sorry.
-/
import Derived.Test.YtlljpljfmaaejaaDoorRows
import GoSem.ClaimSeven
namespace Go.Proofs.YtlljpljfmaaejaaDoor
namespace Rows

/-- THE TIED CARD OF 'breviarylaw3.DevShapes'. -/
def devShapesCard : Claim7 := { stood := { row := devShapesRow, standIns := [], harness := (true, "0ebff3b111b48146780377fe61101e0bc65da8d0032ea4f48073004063fefdda"), looks := true }, kinds := [], alts := [], laidByText := true, laidKinds := [.sentinel, .sentinel, .sentinel, .sentinel, .sentinel, .sentinel, .sentinel, .sentinel, .sentinel, .sentinel, .sentinel, .sentinel, .sentinel, .sentinel, .sentinel, .sentinel, .sentinel, .sentinel, .sentinel, .sentinel, .sentinel, .sentinel, .sentinel, .sentinel], laidTests := true, laidLooks := .later }
def DevShapesCardSaid : Prop := Claim7.holds Tryd.pinned (.plain (OpenSpec.ofChange devShapesSpec)) devShapesCard

/-- THE TIED CARD OF 'breviarylaw3.DevArms'. -/
def devArmsCard : Claim7 := { stood := { row := devArmsRow, standIns := [], harness := (true, "0ebff3b111b48146780377fe61101e0bc65da8d0032ea4f48073004063fefdda"), looks := true }, kinds := [], alts := [], laidByText := true, laidKinds := [.sentinel, .sentinel, .sentinel, .sentinel, .sentinel, .sentinel, .sentinel, .sentinel, .sentinel, .sentinel, .sentinel, .sentinel, .sentinel, .sentinel, .sentinel, .sentinel, .sentinel, .sentinel, .sentinel, .sentinel, .sentinel, .sentinel, .sentinel, .sentinel], laidTests := true, laidLooks := .later }
def DevArmsCardSaid : Prop := Claim7.holds Tryd.pinned (.plain (OpenSpec.ofChange devArmsSpec)) devArmsCard

/-- THE TIED CARD OF 'breviarylaw3.DevKeeps'. -/
def devKeepsCard : Claim7 := { stood := { row := devKeepsRow, standIns := [], harness := (true, "0ebff3b111b48146780377fe61101e0bc65da8d0032ea4f48073004063fefdda"), looks := true }, kinds := [], alts := [], laidByText := true, laidKinds := [.sentinel, .sentinel, .sentinel, .sentinel, .sentinel], laidTests := true, laidLooks := .later }
def DevKeepsCardSaid : Prop := Claim7.holds Tryd.pinned (.plain (OpenSpec.ofChange devKeepsSpec)) devKeepsCard

/-- THE TIED CARD OF 'breviarylaw3.DevTwins'. -/
def devTwinsCard : Claim7 := { stood := { row := devTwinsRow, standIns := [], harness := (true, "0ebff3b111b48146780377fe61101e0bc65da8d0032ea4f48073004063fefdda"), looks := true }, kinds := [], alts := [], laidByText := true, laidKinds := [.sentinel, .sentinel, .sentinel, .sentinel, .sentinel], laidTests := true, laidLooks := .later }
def DevTwinsCardSaid : Prop := Claim7.holds Tryd.pinned (.plain (OpenSpec.ofChange devTwinsSpec)) devTwinsCard

/-- THE TIED CARD OF 'breviarylaw3.DevFaults'. -/
def devFaultsCard : Claim7 := { stood := { row := devFaultsRow, standIns := [], harness := (true, "0ebff3b111b48146780377fe61101e0bc65da8d0032ea4f48073004063fefdda"), looks := true }, kinds := [], alts := [], laidByText := true, laidKinds := [.sentinel, .sentinel, .sentinel, .sentinel, .sentinel], laidTests := true, laidLooks := .later }
def DevFaultsCardSaid : Prop := Claim7.holds Tryd.pinned (.plain (OpenSpec.ofChange devFaultsSpec)) devFaultsCard

/-- THE TIED CARD OF 'breviarylaw3.DevPlays'. -/
def devPlaysCard : Claim7 := { stood := { row := devPlaysRow, standIns := [], harness := (true, "0ebff3b111b48146780377fe61101e0bc65da8d0032ea4f48073004063fefdda"), looks := true }, kinds := [], alts := [], laidByText := true, laidKinds := [.sentinel, .sentinel, .sentinel, .sentinel, .sentinel, .sentinel, .sentinel, .sentinel, .sentinel, .sentinel, .sentinel, .sentinel, .sentinel, .sentinel, .sentinel, .sentinel, .sentinel, .sentinel, .sentinel, .sentinel, .sentinel, .sentinel, .sentinel, .sentinel], laidTests := true, laidLooks := .later }
def DevPlaysCardSaid : Prop := Claim7.holds Tryd.pinned (.plain (OpenSpec.ofChange devPlaysSpec)) devPlaysCard

/-- THE TIED CARD OF 'breviarylaw9.BlobOpens'. -/
def blobOpensCard : Claim7 := { stood := { row := blobOpensRow, standIns := [], harness := (true, "0ebff3b111b48146780377fe61101e0bc65da8d0032ea4f48073004063fefdda"), looks := true }, kinds := [], alts := [], laidByText := true, laidKinds := [.sentinel, .sentinel, .sentinel, .sentinel, .sentinel, .sentinel, .sentinel, .sentinel, .sentinel, .sentinel, .sentinel, .sentinel, .sentinel, .sentinel, .sentinel, .sentinel, .sentinel, .sentinel, .sentinel, .sentinel, .sentinel, .sentinel, .sentinel, .sentinel], laidTests := true, laidLooks := .later }
def BlobOpensCardSaid : Prop := Claim7.holds Tryd.pinned (.plain (OpenSpec.ofChange blobOpensSpec)) blobOpensCard

/-- THE TIED CARD OF 'breviarylaw9.BlobRound'. -/
def blobRoundCard : Claim7 := { stood := { row := blobRoundRow, standIns := [], harness := (true, "0ebff3b111b48146780377fe61101e0bc65da8d0032ea4f48073004063fefdda"), looks := true }, kinds := [], alts := [], laidByText := true, laidKinds := [.sentinel, .sentinel, .sentinel, .sentinel, .sentinel, .sentinel, .sentinel, .sentinel, .sentinel, .sentinel, .sentinel, .sentinel, .sentinel, .sentinel, .sentinel, .sentinel, .sentinel, .sentinel, .sentinel, .sentinel, .sentinel, .sentinel, .sentinel, .sentinel], laidTests := true, laidLooks := .later }
def BlobRoundCardSaid : Prop := Claim7.holds Tryd.pinned (.plain (OpenSpec.ofChange blobRoundSpec)) blobRoundCard

/-- THE TIED CARD OF 'breviarylaw5.PairFalls'. -/
def pairFallsCard : Claim7 := { stood := { row := pairFallsRow, standIns := [], harness := (true, "0ebff3b111b48146780377fe61101e0bc65da8d0032ea4f48073004063fefdda"), looks := true }, kinds := [], alts := [], laidByText := true, laidKinds := [.sentinel, .sentinel, .sentinel, .sentinel, .sentinel], laidTests := true, laidLooks := .later }
def PairFallsCardSaid : Prop := Claim7.holds Tryd.pinned (.plain (OpenSpec.ofChange pairFallsSpec)) pairFallsCard

/-- THE TIED CARD OF 'breviarylaw9.BlobPlays'. -/
def blobPlaysCard : Claim7 := { stood := { row := blobPlaysRow, standIns := [], harness := (true, "0ebff3b111b48146780377fe61101e0bc65da8d0032ea4f48073004063fefdda"), looks := true }, kinds := [], alts := [], laidByText := true, laidKinds := [.sentinel, .sentinel, .sentinel, .sentinel, .sentinel, .sentinel, .sentinel, .sentinel, .sentinel, .sentinel, .sentinel, .sentinel, .sentinel, .sentinel, .sentinel, .sentinel, .sentinel, .sentinel, .sentinel, .sentinel, .sentinel, .sentinel, .sentinel, .sentinel], laidTests := true, laidLooks := .later }
def BlobPlaysCardSaid : Prop := Claim7.holds Tryd.pinned (.plain (OpenSpec.ofChange blobPlaysSpec)) blobPlaysCard

/-- THE TIED CARD OF 'breviarylaw6.RootSaves'. -/
def rootSavesCard : Claim7 := { stood := { row := rootSavesRow, standIns := [], harness := (true, "0ebff3b111b48146780377fe61101e0bc65da8d0032ea4f48073004063fefdda"), looks := true }, kinds := [], alts := [], laidByText := true, laidKinds := [.sentinel, .sentinel, .sentinel, .sentinel, .sentinel, .sentinel, .sentinel, .sentinel, .sentinel, .sentinel, .sentinel, .sentinel, .sentinel, .sentinel, .sentinel, .sentinel, .sentinel, .sentinel, .sentinel, .sentinel, .sentinel, .sentinel, .sentinel, .sentinel], laidTests := true, laidLooks := .later }
def RootSavesCardSaid : Prop := Claim7.holds Tryd.pinned (.plain (OpenSpec.ofChange rootSavesSpec)) rootSavesCard

/-- THE TIED CARD OF 'breviarylaw6.RootHalf'. -/
def rootHalfCard : Claim7 := { stood := { row := rootHalfRow, standIns := [], harness := (true, "0ebff3b111b48146780377fe61101e0bc65da8d0032ea4f48073004063fefdda"), looks := true }, kinds := [], alts := [], laidByText := true, laidKinds := [.sentinel, .sentinel, .sentinel, .sentinel, .sentinel, .sentinel], laidTests := true, laidLooks := .later }
def RootHalfCardSaid : Prop := Claim7.holds Tryd.pinned (.plain (OpenSpec.ofChange rootHalfSpec)) rootHalfCard

/-- THE SECOND FORM's CARD OF 'breviarylaw3.DevShapes'. -/
def devShapesUptoCard : Claim7 := { stood := { row := devShapesUptoRow, standIns := [], harness := (true, "0ebff3b111b48146780377fe61101e0bc65da8d0032ea4f48073004063fefdda"), looks := true }, kinds := [], alts := [], laidByText := true, laidKinds := [.sentinel, .sentinel, .sentinel, .sentinel, .sentinel, .sentinel, .sentinel, .sentinel, .sentinel, .sentinel, .sentinel, .sentinel, .sentinel, .sentinel, .sentinel, .sentinel, .sentinel, .sentinel, .sentinel, .sentinel, .sentinel, .sentinel, .sentinel, .sentinel], laidTests := true, laidLooks := .later }
def DevShapesUptoCardSaid : Prop := Claim7.holds Tryd.pinned (.plain (OpenSpec.upto devShapesSpec)) devShapesUptoCard

/-- THE SECOND FORM's CARD OF 'breviarylaw3.DevArms'. -/
def devArmsUptoCard : Claim7 := { stood := { row := devArmsUptoRow, standIns := [], harness := (true, "0ebff3b111b48146780377fe61101e0bc65da8d0032ea4f48073004063fefdda"), looks := true }, kinds := [], alts := [], laidByText := true, laidKinds := [.sentinel, .sentinel, .sentinel, .sentinel, .sentinel, .sentinel, .sentinel, .sentinel, .sentinel, .sentinel, .sentinel, .sentinel, .sentinel, .sentinel, .sentinel, .sentinel, .sentinel, .sentinel, .sentinel, .sentinel, .sentinel, .sentinel, .sentinel, .sentinel], laidTests := true, laidLooks := .later }
def DevArmsUptoCardSaid : Prop := Claim7.holds Tryd.pinned (.plain (OpenSpec.upto devArmsSpec)) devArmsUptoCard

/-- THE SECOND FORM's CARD OF 'breviarylaw3.DevKeeps'. -/
def devKeepsUptoCard : Claim7 := { stood := { row := devKeepsUptoRow, standIns := [], harness := (true, "0ebff3b111b48146780377fe61101e0bc65da8d0032ea4f48073004063fefdda"), looks := true }, kinds := [], alts := [], laidByText := true, laidKinds := [.sentinel, .sentinel, .sentinel, .sentinel, .sentinel], laidTests := true, laidLooks := .later }
def DevKeepsUptoCardSaid : Prop := Claim7.holds Tryd.pinned (.plain (OpenSpec.upto devKeepsSpec)) devKeepsUptoCard

/-- THE SECOND FORM's CARD OF 'breviarylaw3.DevTwins'. -/
def devTwinsUptoCard : Claim7 := { stood := { row := devTwinsUptoRow, standIns := [], harness := (true, "0ebff3b111b48146780377fe61101e0bc65da8d0032ea4f48073004063fefdda"), looks := true }, kinds := [], alts := [], laidByText := true, laidKinds := [.sentinel, .sentinel, .sentinel, .sentinel, .sentinel], laidTests := true, laidLooks := .later }
def DevTwinsUptoCardSaid : Prop := Claim7.holds Tryd.pinned (.plain (OpenSpec.upto devTwinsSpec)) devTwinsUptoCard

/-- THE SECOND FORM's CARD OF 'breviarylaw3.DevFaults'. -/
def devFaultsUptoCard : Claim7 := { stood := { row := devFaultsUptoRow, standIns := [], harness := (true, "0ebff3b111b48146780377fe61101e0bc65da8d0032ea4f48073004063fefdda"), looks := true }, kinds := [], alts := [], laidByText := true, laidKinds := [.sentinel, .sentinel, .sentinel, .sentinel, .sentinel], laidTests := true, laidLooks := .later }
def DevFaultsUptoCardSaid : Prop := Claim7.holds Tryd.pinned (.plain (OpenSpec.upto devFaultsSpec)) devFaultsUptoCard

/-- THE SECOND FORM's CARD OF 'breviarylaw3.DevPlays'. -/
def devPlaysUptoCard : Claim7 := { stood := { row := devPlaysUptoRow, standIns := [], harness := (true, "0ebff3b111b48146780377fe61101e0bc65da8d0032ea4f48073004063fefdda"), looks := true }, kinds := [], alts := [], laidByText := true, laidKinds := [.sentinel, .sentinel, .sentinel, .sentinel, .sentinel, .sentinel, .sentinel, .sentinel, .sentinel, .sentinel, .sentinel, .sentinel, .sentinel, .sentinel, .sentinel, .sentinel, .sentinel, .sentinel, .sentinel, .sentinel, .sentinel, .sentinel, .sentinel, .sentinel], laidTests := true, laidLooks := .later }
def DevPlaysUptoCardSaid : Prop := Claim7.holds Tryd.pinned (.plain (OpenSpec.upto devPlaysSpec)) devPlaysUptoCard

/-- THE SECOND FORM's CARD OF 'breviarylaw9.BlobOpens'. -/
def blobOpensUptoCard : Claim7 := { stood := { row := blobOpensUptoRow, standIns := [], harness := (true, "0ebff3b111b48146780377fe61101e0bc65da8d0032ea4f48073004063fefdda"), looks := true }, kinds := [], alts := [], laidByText := true, laidKinds := [.sentinel, .sentinel, .sentinel, .sentinel, .sentinel, .sentinel, .sentinel, .sentinel, .sentinel, .sentinel, .sentinel, .sentinel, .sentinel, .sentinel, .sentinel, .sentinel, .sentinel, .sentinel, .sentinel, .sentinel, .sentinel, .sentinel, .sentinel, .sentinel], laidTests := true, laidLooks := .later }
def BlobOpensUptoCardSaid : Prop := Claim7.holds Tryd.pinned (.plain (OpenSpec.upto blobOpensSpec)) blobOpensUptoCard

/-- THE SECOND FORM's CARD OF 'breviarylaw9.BlobRound'. -/
def blobRoundUptoCard : Claim7 := { stood := { row := blobRoundUptoRow, standIns := [], harness := (true, "0ebff3b111b48146780377fe61101e0bc65da8d0032ea4f48073004063fefdda"), looks := true }, kinds := [], alts := [], laidByText := true, laidKinds := [.sentinel, .sentinel, .sentinel, .sentinel, .sentinel, .sentinel, .sentinel, .sentinel, .sentinel, .sentinel, .sentinel, .sentinel, .sentinel, .sentinel, .sentinel, .sentinel, .sentinel, .sentinel, .sentinel, .sentinel, .sentinel, .sentinel, .sentinel, .sentinel], laidTests := true, laidLooks := .later }
def BlobRoundUptoCardSaid : Prop := Claim7.holds Tryd.pinned (.plain (OpenSpec.upto blobRoundSpec)) blobRoundUptoCard

/-- THE SECOND FORM's CARD OF 'breviarylaw5.PairFalls'. -/
def pairFallsUptoCard : Claim7 := { stood := { row := pairFallsUptoRow, standIns := [], harness := (true, "0ebff3b111b48146780377fe61101e0bc65da8d0032ea4f48073004063fefdda"), looks := true }, kinds := [], alts := [], laidByText := true, laidKinds := [.sentinel, .sentinel, .sentinel, .sentinel, .sentinel], laidTests := true, laidLooks := .later }
def PairFallsUptoCardSaid : Prop := Claim7.holds Tryd.pinned (.plain (OpenSpec.upto pairFallsSpec)) pairFallsUptoCard

/-- THE SECOND FORM's CARD OF 'breviarylaw9.BlobPlays'. -/
def blobPlaysUptoCard : Claim7 := { stood := { row := blobPlaysUptoRow, standIns := [], harness := (true, "0ebff3b111b48146780377fe61101e0bc65da8d0032ea4f48073004063fefdda"), looks := true }, kinds := [], alts := [], laidByText := true, laidKinds := [.sentinel, .sentinel, .sentinel, .sentinel, .sentinel, .sentinel, .sentinel, .sentinel, .sentinel, .sentinel, .sentinel, .sentinel, .sentinel, .sentinel, .sentinel, .sentinel, .sentinel, .sentinel, .sentinel, .sentinel, .sentinel, .sentinel, .sentinel, .sentinel], laidTests := true, laidLooks := .later }
def BlobPlaysUptoCardSaid : Prop := Claim7.holds Tryd.pinned (.plain (OpenSpec.upto blobPlaysSpec)) blobPlaysUptoCard

/-- THE SECOND FORM's CARD OF 'breviarylaw6.RootSaves'. -/
def rootSavesUptoCard : Claim7 := { stood := { row := rootSavesUptoRow, standIns := [], harness := (true, "0ebff3b111b48146780377fe61101e0bc65da8d0032ea4f48073004063fefdda"), looks := true }, kinds := [], alts := [], laidByText := true, laidKinds := [.sentinel, .sentinel, .sentinel, .sentinel, .sentinel, .sentinel, .sentinel, .sentinel, .sentinel, .sentinel, .sentinel, .sentinel, .sentinel, .sentinel, .sentinel, .sentinel, .sentinel, .sentinel, .sentinel, .sentinel, .sentinel, .sentinel, .sentinel, .sentinel], laidTests := true, laidLooks := .later }
def RootSavesUptoCardSaid : Prop := Claim7.holds Tryd.pinned (.plain (OpenSpec.upto rootSavesSpec)) rootSavesUptoCard

/-- THE SECOND FORM's CARD OF 'breviarylaw6.RootHalf'. -/
def rootHalfUptoCard : Claim7 := { stood := { row := rootHalfUptoRow, standIns := [], harness := (true, "0ebff3b111b48146780377fe61101e0bc65da8d0032ea4f48073004063fefdda"), looks := true }, kinds := [], alts := [], laidByText := true, laidKinds := [.sentinel, .sentinel, .sentinel, .sentinel, .sentinel, .sentinel], laidTests := true, laidLooks := .later }
def RootHalfUptoCardSaid : Prop := Claim7.holds Tryd.pinned (.plain (OpenSpec.upto rootHalfSpec)) rootHalfUptoCard
end Rows
end Go.Proofs.YtlljpljfmaaejaaDoor
