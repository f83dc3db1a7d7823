/-
  DERIVED. GIVEN WITH THE SEED: THE CARDS: each row of YtdgbgdkfoeoppaaDoorRows.lean that lists a variable, with what it lists TIED to the program's text (the seventh form; the later family's looks); each row that meets fmt, with fmt's text TOLD by the authors' own Lean function (tested against real Go, not proved from fmt's source: count such statements apart). THE CARD IS WHAT COUNTS. Prove the row's statement (the work); the ties are given (YtdgbgdkfoeoppaaDoorTie.lean); close each card by the builder's one call (the guide's Derived/Test/ToyasCard.lean, 'card_holds'). Laid BY PROGRAM, IN A SANDBOX (cutbox-door.mjs). By AI agents, Wed Nov 11 2026. No macro, syntax, notation, axiom, sorry.
-/
import Derived.Test.YtdgbgdkfoeoppaaDoorRows
import GoSem.ClaimSeven
namespace Go.Proofs.YtdgbgdkfoeoppaaDoor
namespace Rows

/-- THE TIED CARD OF 'breviarylaw4.GeoQuotas'. -/
def geoQuotasCard : Claim7 := { stood := { row := geoQuotasRow, standIns := [], harness := (true, "d91289748f9928de89d7ce8b12af8120759efc6fa0b3b8756fc514e2daaf1f91"), looks := true }, kinds := [], alts := [], laidByText := true, laidKinds := [.sentinel], laidTests := true, laidLooks := .later }
def GeoQuotasCardSaid : Prop := Claim7.holds Tryd.pinned (.plain (OpenSpec.ofChange geoQuotasSpec)) geoQuotasCard

/-- THE TIED CARD OF 'breviarylaw4.GeoBounds'. -/
def geoBoundsCard : Claim7 := { stood := { row := geoBoundsRow, standIns := [], harness := (true, "d91289748f9928de89d7ce8b12af8120759efc6fa0b3b8756fc514e2daaf1f91"), looks := true }, kinds := [], alts := [], laidByText := true, laidKinds := [.sentinel, .sentinel, .sentinel, .sentinel, .sentinel, .sentinel, .sentinel, .sentinel, .sentinel, .sentinel, .sentinel, .sentinel, .sentinel, .sentinel, .sentinel, .sentinel, .sentinel, .sentinel, .sentinel, .sentinel, .sentinel, .sentinel, .sentinel, .sentinel], laidTests := true, laidLooks := .later }
def GeoBoundsCardSaid : Prop := Claim7.holds Tryd.pinned (.plain (OpenSpec.ofChange geoBoundsSpec)) geoBoundsCard

/-- THE TIED CARD OF 'breviarylaw4.GeoPairs'. -/
def geoPairsCard : Claim7 := { stood := { row := geoPairsRow, standIns := [], harness := (true, "d91289748f9928de89d7ce8b12af8120759efc6fa0b3b8756fc514e2daaf1f91"), looks := true }, kinds := [], alts := [], laidByText := true, laidKinds := [.sentinel], laidTests := true, laidLooks := .later }
def GeoPairsCardSaid : Prop := Claim7.holds Tryd.pinned (.plain (OpenSpec.ofChange geoPairsSpec)) geoPairsCard

/-- THE TIED CARD OF 'breviarylaw4.GeoSays'. -/
def geoSaysCard : Claim7 := { stood := { row := geoSaysRow, standIns := [], harness := (true, "d91289748f9928de89d7ce8b12af8120759efc6fa0b3b8756fc514e2daaf1f91"), looks := true }, kinds := [], alts := [], laidByText := true, laidKinds := [.sentinel, .sentinel, .sentinel, .sentinel, .sentinel, .sentinel, .sentinel, .sentinel, .sentinel, .sentinel, .sentinel, .sentinel, .sentinel, .sentinel, .sentinel, .sentinel, .sentinel, .sentinel, .sentinel, .sentinel, .sentinel, .sentinel, .sentinel, .sentinel], laidTests := true, laidLooks := .later }
def GeoSaysCardSaid : Prop := Claim7.holds Tryd.pinned (.plain (OpenSpec.ofChange geoSaysSpec)) geoSaysCard

/-- THE TIED CARD OF 'breviarylaw10.RecSays'. -/
def recSaysCard : Claim7 := { stood := { row := recSaysRow, standIns := [], harness := (true, "d91289748f9928de89d7ce8b12af8120759efc6fa0b3b8756fc514e2daaf1f91"), looks := true }, kinds := [], alts := [], laidByText := true, laidKinds := [.sentinel, .sentinel, .sentinel, .sentinel, .sentinel, .sentinel, .sentinel, .sentinel, .sentinel, .sentinel, .sentinel, .sentinel, .sentinel, .sentinel, .sentinel, .sentinel, .sentinel, .sentinel, .sentinel, .sentinel, .sentinel, .sentinel, .sentinel, .sentinel], laidTests := true, laidLooks := .later }
def RecSaysCardSaid : Prop := Claim7.holds Tryd.pinned (.plain (OpenSpec.ofChange recSaysSpec)) recSaysCard

/-- THE TIED CARD OF 'breviarylaw10.RecRanges'. -/
def recRangesCard : Claim7 := { stood := { row := recRangesRow, standIns := [], harness := (true, "d91289748f9928de89d7ce8b12af8120759efc6fa0b3b8756fc514e2daaf1f91"), looks := true }, kinds := [], alts := [], laidByText := true, laidKinds := [.sentinel, .sentinel, .sentinel, .sentinel, .sentinel, .sentinel, .sentinel, .sentinel, .sentinel, .sentinel, .sentinel, .sentinel, .sentinel, .sentinel, .sentinel, .sentinel, .sentinel, .sentinel, .sentinel, .sentinel, .sentinel, .sentinel, .sentinel, .sentinel], laidTests := true, laidLooks := .later }
def RecRangesCardSaid : Prop := Claim7.holds Tryd.pinned (.plain (OpenSpec.ofChange recRangesSpec)) recRangesCard

/-- THE TIED CARD OF 'breviarylaw1.WireForms'. -/
def wireFormsCard : Claim7 := { stood := { row := wireFormsRow, standIns := [], harness := (true, "d91289748f9928de89d7ce8b12af8120759efc6fa0b3b8756fc514e2daaf1f91"), looks := true }, kinds := [], alts := [], laidByText := true, laidKinds := [.sentinel, .sentinel, .sentinel, .sentinel, .sentinel, .sentinel, .sentinel, .sentinel, .sentinel, .sentinel, .sentinel, .sentinel, .sentinel, .sentinel, .sentinel, .sentinel, .sentinel, .sentinel, .sentinel, .sentinel, .sentinel, .sentinel, .sentinel, .sentinel], laidTests := true, laidLooks := .later }
def WireFormsCardSaid : Prop := Claim7.holds Tryd.pinned (.plain (OpenSpec.ofChange wireFormsSpec)) wireFormsCard

/-- THE TIED CARD OF 'breviarylaw1.WireTwins'. -/
def wireTwinsCard : Claim7 := { stood := { row := wireTwinsRow, standIns := [], harness := (true, "d91289748f9928de89d7ce8b12af8120759efc6fa0b3b8756fc514e2daaf1f91"), looks := true }, kinds := [], alts := [], laidByText := true, laidKinds := [.sentinel, .sentinel, .sentinel], laidTests := true, laidLooks := .later }
def WireTwinsCardSaid : Prop := Claim7.holds Tryd.pinned (.plain (OpenSpec.ofChange wireTwinsSpec)) wireTwinsCard

/-- THE TIED CARD OF 'breviarylaw1.WirePuts'. -/
def wirePutsCard : Claim7 := { stood := { row := wirePutsRow, standIns := [], harness := (true, "d91289748f9928de89d7ce8b12af8120759efc6fa0b3b8756fc514e2daaf1f91"), looks := true }, kinds := [], alts := [], laidByText := true, laidKinds := [.sentinel, .sentinel, .sentinel], laidTests := true, laidLooks := .later }
def WirePutsCardSaid : Prop := Claim7.holds Tryd.pinned (.plain (OpenSpec.ofChange wirePutsSpec)) wirePutsCard

/-- THE TIED CARD OF 'breviarylaw1.WireRanges'. -/
def wireRangesCard : Claim7 := { stood := { row := wireRangesRow, standIns := [], harness := (true, "d91289748f9928de89d7ce8b12af8120759efc6fa0b3b8756fc514e2daaf1f91"), looks := true }, kinds := [], alts := [], laidByText := true, laidKinds := [.sentinel, .sentinel, .sentinel, .sentinel, .sentinel, .sentinel, .sentinel, .sentinel, .sentinel, .sentinel, .sentinel, .sentinel, .sentinel, .sentinel, .sentinel, .sentinel, .sentinel, .sentinel, .sentinel, .sentinel, .sentinel, .sentinel, .sentinel, .sentinel], laidTests := true, laidLooks := .later }
def WireRangesCardSaid : Prop := Claim7.holds Tryd.pinned (.plain (OpenSpec.ofChange wireRangesSpec)) wireRangesCard

/-- THE TIED CARD OF 'breviarylaw1.WireRows'. -/
def wireRowsCard : Claim7 := { stood := { row := wireRowsRow, standIns := [], harness := (true, "d91289748f9928de89d7ce8b12af8120759efc6fa0b3b8756fc514e2daaf1f91"), looks := true }, kinds := [], alts := [], laidByText := true, laidKinds := [.sentinel, .sentinel, .sentinel, .sentinel, .sentinel, .sentinel, .sentinel, .sentinel, .sentinel, .sentinel, .sentinel, .sentinel, .sentinel, .sentinel, .sentinel, .sentinel, .sentinel, .sentinel, .sentinel, .sentinel, .sentinel, .sentinel, .sentinel, .sentinel], laidTests := true, laidLooks := .later }
def WireRowsCardSaid : Prop := Claim7.holds Tryd.pinned (.plain (OpenSpec.ofChange wireRowsSpec)) wireRowsCard

/-- THE TIED CARD OF 'breviarylaw1.WireLengths'. -/
def wireLengthsCard : Claim7 := { stood := { row := wireLengthsRow, standIns := [], harness := (true, "d91289748f9928de89d7ce8b12af8120759efc6fa0b3b8756fc514e2daaf1f91"), looks := true }, kinds := [], alts := [], laidByText := true, laidKinds := [.sentinel, .sentinel, .sentinel, .sentinel, .sentinel, .sentinel, .sentinel, .sentinel, .sentinel, .sentinel, .sentinel, .sentinel, .sentinel, .sentinel, .sentinel, .sentinel, .sentinel, .sentinel, .sentinel, .sentinel, .sentinel, .sentinel, .sentinel, .sentinel], laidTests := true, laidLooks := .later }
def WireLengthsCardSaid : Prop := Claim7.holds Tryd.pinned (.plain (OpenSpec.ofChange wireLengthsSpec)) wireLengthsCard

/-- THE TIED CARD OF 'breviarylaw10.RecOrders'. -/
def recOrdersCard : Claim7 := { stood := { row := recOrdersRow, standIns := [], harness := (true, "d91289748f9928de89d7ce8b12af8120759efc6fa0b3b8756fc514e2daaf1f91"), looks := true }, kinds := [], alts := [], laidByText := true, laidKinds := [.sentinel, .sentinel, .sentinel, .sentinel], laidTests := true, laidLooks := .later }
def RecOrdersCardSaid : Prop := Claim7.holds Tryd.pinned (.plain (OpenSpec.ofChange recOrdersSpec)) recOrdersCard

/-- THE SECOND FORM's CARD OF 'breviarylaw4.GeoQuotas'. -/
def geoQuotasUptoCard : Claim7 := { stood := { row := geoQuotasUptoRow, standIns := [], harness := (true, "d91289748f9928de89d7ce8b12af8120759efc6fa0b3b8756fc514e2daaf1f91"), looks := true }, kinds := [], alts := [], laidByText := true, laidKinds := [.sentinel], laidTests := true, laidLooks := .later }
def GeoQuotasUptoCardSaid : Prop := Claim7.holds Tryd.pinned (.plain (OpenSpec.upto geoQuotasSpec)) geoQuotasUptoCard

/-- THE SECOND FORM's CARD OF 'breviarylaw4.GeoBounds'. -/
def geoBoundsUptoCard : Claim7 := { stood := { row := geoBoundsUptoRow, standIns := [], harness := (true, "d91289748f9928de89d7ce8b12af8120759efc6fa0b3b8756fc514e2daaf1f91"), looks := true }, kinds := [], alts := [], laidByText := true, laidKinds := [.sentinel, .sentinel, .sentinel, .sentinel, .sentinel, .sentinel, .sentinel, .sentinel, .sentinel, .sentinel, .sentinel, .sentinel, .sentinel, .sentinel, .sentinel, .sentinel, .sentinel, .sentinel, .sentinel, .sentinel, .sentinel, .sentinel, .sentinel, .sentinel], laidTests := true, laidLooks := .later }
def GeoBoundsUptoCardSaid : Prop := Claim7.holds Tryd.pinned (.plain (OpenSpec.upto geoBoundsSpec)) geoBoundsUptoCard

/-- THE SECOND FORM's CARD OF 'breviarylaw4.GeoPairs'. -/
def geoPairsUptoCard : Claim7 := { stood := { row := geoPairsUptoRow, standIns := [], harness := (true, "d91289748f9928de89d7ce8b12af8120759efc6fa0b3b8756fc514e2daaf1f91"), looks := true }, kinds := [], alts := [], laidByText := true, laidKinds := [.sentinel], laidTests := true, laidLooks := .later }
def GeoPairsUptoCardSaid : Prop := Claim7.holds Tryd.pinned (.plain (OpenSpec.upto geoPairsSpec)) geoPairsUptoCard

/-- THE SECOND FORM's CARD OF 'breviarylaw4.GeoSays'. -/
def geoSaysUptoCard : Claim7 := { stood := { row := geoSaysUptoRow, standIns := [], harness := (true, "d91289748f9928de89d7ce8b12af8120759efc6fa0b3b8756fc514e2daaf1f91"), looks := true }, kinds := [], alts := [], laidByText := true, laidKinds := [.sentinel, .sentinel, .sentinel, .sentinel, .sentinel, .sentinel, .sentinel, .sentinel, .sentinel, .sentinel, .sentinel, .sentinel, .sentinel, .sentinel, .sentinel, .sentinel, .sentinel, .sentinel, .sentinel, .sentinel, .sentinel, .sentinel, .sentinel, .sentinel], laidTests := true, laidLooks := .later }
def GeoSaysUptoCardSaid : Prop := Claim7.holds Tryd.pinned (.plain (OpenSpec.upto geoSaysSpec)) geoSaysUptoCard

/-- THE SECOND FORM's CARD OF 'breviarylaw10.RecSays'. -/
def recSaysUptoCard : Claim7 := { stood := { row := recSaysUptoRow, standIns := [], harness := (true, "d91289748f9928de89d7ce8b12af8120759efc6fa0b3b8756fc514e2daaf1f91"), looks := true }, kinds := [], alts := [], laidByText := true, laidKinds := [.sentinel, .sentinel, .sentinel, .sentinel, .sentinel, .sentinel, .sentinel, .sentinel, .sentinel, .sentinel, .sentinel, .sentinel, .sentinel, .sentinel, .sentinel, .sentinel, .sentinel, .sentinel, .sentinel, .sentinel, .sentinel, .sentinel, .sentinel, .sentinel], laidTests := true, laidLooks := .later }
def RecSaysUptoCardSaid : Prop := Claim7.holds Tryd.pinned (.plain (OpenSpec.upto recSaysSpec)) recSaysUptoCard

/-- THE SECOND FORM's CARD OF 'breviarylaw10.RecRanges'. -/
def recRangesUptoCard : Claim7 := { stood := { row := recRangesUptoRow, standIns := [], harness := (true, "d91289748f9928de89d7ce8b12af8120759efc6fa0b3b8756fc514e2daaf1f91"), looks := true }, kinds := [], alts := [], laidByText := true, laidKinds := [.sentinel, .sentinel, .sentinel, .sentinel, .sentinel, .sentinel, .sentinel, .sentinel, .sentinel, .sentinel, .sentinel, .sentinel, .sentinel, .sentinel, .sentinel, .sentinel, .sentinel, .sentinel, .sentinel, .sentinel, .sentinel, .sentinel, .sentinel, .sentinel], laidTests := true, laidLooks := .later }
def RecRangesUptoCardSaid : Prop := Claim7.holds Tryd.pinned (.plain (OpenSpec.upto recRangesSpec)) recRangesUptoCard

/-- THE SECOND FORM's CARD OF 'breviarylaw1.WireForms'. -/
def wireFormsUptoCard : Claim7 := { stood := { row := wireFormsUptoRow, standIns := [], harness := (true, "d91289748f9928de89d7ce8b12af8120759efc6fa0b3b8756fc514e2daaf1f91"), looks := true }, kinds := [], alts := [], laidByText := true, laidKinds := [.sentinel, .sentinel, .sentinel, .sentinel, .sentinel, .sentinel, .sentinel, .sentinel, .sentinel, .sentinel, .sentinel, .sentinel, .sentinel, .sentinel, .sentinel, .sentinel, .sentinel, .sentinel, .sentinel, .sentinel, .sentinel, .sentinel, .sentinel, .sentinel], laidTests := true, laidLooks := .later }
def WireFormsUptoCardSaid : Prop := Claim7.holds Tryd.pinned (.plain (OpenSpec.upto wireFormsSpec)) wireFormsUptoCard

/-- THE SECOND FORM's CARD OF 'breviarylaw1.WireTwins'. -/
def wireTwinsUptoCard : Claim7 := { stood := { row := wireTwinsUptoRow, standIns := [], harness := (true, "d91289748f9928de89d7ce8b12af8120759efc6fa0b3b8756fc514e2daaf1f91"), looks := true }, kinds := [], alts := [], laidByText := true, laidKinds := [.sentinel, .sentinel, .sentinel], laidTests := true, laidLooks := .later }
def WireTwinsUptoCardSaid : Prop := Claim7.holds Tryd.pinned (.plain (OpenSpec.upto wireTwinsSpec)) wireTwinsUptoCard

/-- THE SECOND FORM's CARD OF 'breviarylaw1.WirePuts'. -/
def wirePutsUptoCard : Claim7 := { stood := { row := wirePutsUptoRow, standIns := [], harness := (true, "d91289748f9928de89d7ce8b12af8120759efc6fa0b3b8756fc514e2daaf1f91"), looks := true }, kinds := [], alts := [], laidByText := true, laidKinds := [.sentinel, .sentinel, .sentinel], laidTests := true, laidLooks := .later }
def WirePutsUptoCardSaid : Prop := Claim7.holds Tryd.pinned (.plain (OpenSpec.upto wirePutsSpec)) wirePutsUptoCard

/-- THE SECOND FORM's CARD OF 'breviarylaw1.WireRanges'. -/
def wireRangesUptoCard : Claim7 := { stood := { row := wireRangesUptoRow, standIns := [], harness := (true, "d91289748f9928de89d7ce8b12af8120759efc6fa0b3b8756fc514e2daaf1f91"), looks := true }, kinds := [], alts := [], laidByText := true, laidKinds := [.sentinel, .sentinel, .sentinel, .sentinel, .sentinel, .sentinel, .sentinel, .sentinel, .sentinel, .sentinel, .sentinel, .sentinel, .sentinel, .sentinel, .sentinel, .sentinel, .sentinel, .sentinel, .sentinel, .sentinel, .sentinel, .sentinel, .sentinel, .sentinel], laidTests := true, laidLooks := .later }
def WireRangesUptoCardSaid : Prop := Claim7.holds Tryd.pinned (.plain (OpenSpec.upto wireRangesSpec)) wireRangesUptoCard

/-- THE SECOND FORM's CARD OF 'breviarylaw1.WireRows'. -/
def wireRowsUptoCard : Claim7 := { stood := { row := wireRowsUptoRow, standIns := [], harness := (true, "d91289748f9928de89d7ce8b12af8120759efc6fa0b3b8756fc514e2daaf1f91"), looks := true }, kinds := [], alts := [], laidByText := true, laidKinds := [.sentinel, .sentinel, .sentinel, .sentinel, .sentinel, .sentinel, .sentinel, .sentinel, .sentinel, .sentinel, .sentinel, .sentinel, .sentinel, .sentinel, .sentinel, .sentinel, .sentinel, .sentinel, .sentinel, .sentinel, .sentinel, .sentinel, .sentinel, .sentinel], laidTests := true, laidLooks := .later }
def WireRowsUptoCardSaid : Prop := Claim7.holds Tryd.pinned (.plain (OpenSpec.upto wireRowsSpec)) wireRowsUptoCard

/-- THE SECOND FORM's CARD OF 'breviarylaw1.WireLengths'. -/
def wireLengthsUptoCard : Claim7 := { stood := { row := wireLengthsUptoRow, standIns := [], harness := (true, "d91289748f9928de89d7ce8b12af8120759efc6fa0b3b8756fc514e2daaf1f91"), looks := true }, kinds := [], alts := [], laidByText := true, laidKinds := [.sentinel, .sentinel, .sentinel, .sentinel, .sentinel, .sentinel, .sentinel, .sentinel, .sentinel, .sentinel, .sentinel, .sentinel, .sentinel, .sentinel, .sentinel, .sentinel, .sentinel, .sentinel, .sentinel, .sentinel, .sentinel, .sentinel, .sentinel, .sentinel], laidTests := true, laidLooks := .later }
def WireLengthsUptoCardSaid : Prop := Claim7.holds Tryd.pinned (.plain (OpenSpec.upto wireLengthsSpec)) wireLengthsUptoCard

/-- THE SECOND FORM's CARD OF 'breviarylaw10.RecOrders'. -/
def recOrdersUptoCard : Claim7 := { stood := { row := recOrdersUptoRow, standIns := [], harness := (true, "d91289748f9928de89d7ce8b12af8120759efc6fa0b3b8756fc514e2daaf1f91"), looks := true }, kinds := [], alts := [], laidByText := true, laidKinds := [.sentinel, .sentinel, .sentinel, .sentinel], laidTests := true, laidLooks := .later }
def RecOrdersUptoCardSaid : Prop := Claim7.holds Tryd.pinned (.plain (OpenSpec.upto recOrdersSpec)) recOrdersUptoCard
end Rows
end Go.Proofs.YtdgbgdkfoeoppaaDoor
