/-
  DERIVED. GIVEN WITH THE SEED: THE CARDS: each row of YtbjfgdahfpfgdaaGreatDoorRows.lean that lists a variable, with what it lists TIED to the program's text (the seventh form; the later family's looks); each row that meets fmt, with fmt's text TOLD by the authors' own Lean function (tested against real Go, not proved from fmt's source: count such statements apart). THE CARD IS WHAT COUNTS. Prove the row's statement (the work); the ties are given (YtbjfgdahfpfgdaaGreatDoorTie.lean); close each card by the builder's one call (the guide's Derived/Test/ToyasCard.lean, 'card_holds'). Laid BY PROGRAM, IN A SANDBOX (cutbox-door.mjs). By AI agents, Wed Nov 11 2026. No macro, syntax, notation, axiom, sorry.
-/
import Derived.Test.YtbjfgdahfpfgdaaGreatDoorRows
import GoSem.ClaimSeven
namespace Go.Proofs.YtbjfgdahfpfgdaaGreatDoor
namespace Rows

/-- THE TIED CARD OF 'breviarylaw7.PageRoom'. -/
def pageRoomCard : Claim7 := { stood := { row := pageRoomRow, standIns := [], harness := (true, "60e8f588d63c637822e814e3f82efb78f209b0d4a7efc316f74e1e7a37491940"), looks := true }, kinds := [], alts := [], laidByText := true, laidKinds := [.sentinel, .sentinel, .sentinel, .sentinel, .sentinel, .sentinel, .sentinel, .sentinel, .sentinel, .sentinel, .sentinel, .sentinel, .sentinel, .sentinel, .sentinel, .sentinel, .sentinel, .sentinel, .sentinel, .sentinel, .sentinel, .sentinel, .sentinel, .sentinel], laidTests := true, laidLooks := .later }
def PageRoomCardSaid : Prop := Claim7.holds Tryz.pinned (.plain (OpenSpec.ofChange pageRoomSpec)) pageRoomCard

/-- THE TIED CARD OF 'breviarylaw7.PageLong'. -/
def pageLongCard : Claim7 := { stood := { row := pageLongRow, standIns := [], harness := (true, "60e8f588d63c637822e814e3f82efb78f209b0d4a7efc316f74e1e7a37491940"), looks := true }, kinds := [], alts := [], laidByText := true, laidKinds := [.sentinel, .sentinel, .sentinel, .sentinel, .sentinel, .sentinel, .sentinel], laidTests := true, laidLooks := .later }
def PageLongCardSaid : Prop := Claim7.holds Tryz.pinned (.plain (OpenSpec.ofChange pageLongSpec)) pageLongCard

/-- THE TIED CARD OF 'breviarylaw7.PagePlays'. -/
def pagePlaysCard : Claim7 := { stood := { row := pagePlaysRow, standIns := [], harness := (true, "60e8f588d63c637822e814e3f82efb78f209b0d4a7efc316f74e1e7a37491940"), looks := true }, kinds := [], alts := [], laidByText := true, laidKinds := [.sentinel, .sentinel, .sentinel, .sentinel, .sentinel, .sentinel, .sentinel, .sentinel, .sentinel, .sentinel, .sentinel, .sentinel, .sentinel, .sentinel, .sentinel, .sentinel, .sentinel, .sentinel, .sentinel, .sentinel, .sentinel, .sentinel, .sentinel, .sentinel], laidTests := true, laidLooks := .later }
def PagePlaysCardSaid : Prop := Claim7.holds Tryz.pinned (.plain (OpenSpec.ofChange pagePlaysSpec)) pagePlaysCard

/-- THE TIED CARD OF 'breviarylaw7.PageNothing'. -/
def pageNothingCard : Claim7 := { stood := { row := pageNothingRow, standIns := [], harness := (true, "60e8f588d63c637822e814e3f82efb78f209b0d4a7efc316f74e1e7a37491940"), looks := true }, kinds := [], alts := [], laidByText := true, laidKinds := [.sentinel, .sentinel, .sentinel, .sentinel, .sentinel, .sentinel, .sentinel, .sentinel, .sentinel, .sentinel, .sentinel, .sentinel, .sentinel, .sentinel, .sentinel, .sentinel, .sentinel, .sentinel, .sentinel, .sentinel, .sentinel, .sentinel, .sentinel, .sentinel], laidTests := true, laidLooks := .later }
def PageNothingCardSaid : Prop := Claim7.holds Tryz.pinned (.plain (OpenSpec.ofChange pageNothingSpec)) pageNothingCard

/-- THE TIED CARD OF 'breviarylaw7.PageFalls'. -/
def pageFallsCard : Claim7 := { stood := { row := pageFallsRow, standIns := [], harness := (true, "60e8f588d63c637822e814e3f82efb78f209b0d4a7efc316f74e1e7a37491940"), looks := true }, kinds := [], alts := [], laidByText := true, laidKinds := [.sentinel, .sentinel, .sentinel, .sentinel, .sentinel, .sentinel, .sentinel, .sentinel, .sentinel, .sentinel, .sentinel, .sentinel, .sentinel, .sentinel, .sentinel, .sentinel, .sentinel, .sentinel, .sentinel, .sentinel, .sentinel, .sentinel, .sentinel, .sentinel], laidTests := true, laidLooks := .later }
def PageFallsCardSaid : Prop := Claim7.holds Tryz.pinned (.plain (OpenSpec.ofChange pageFallsSpec)) pageFallsCard

/-- THE TIED CARD OF 'breviarylaw8.KeepRoom'. -/
def keepRoomCard : Claim7 := { stood := { row := keepRoomRow, standIns := [], harness := (true, "60e8f588d63c637822e814e3f82efb78f209b0d4a7efc316f74e1e7a37491940"), looks := true }, kinds := [], alts := [], laidByText := true, laidKinds := [.sentinel, .sentinel, .sentinel, .sentinel, .sentinel, .sentinel, .sentinel], laidTests := true, laidLooks := .later }
def KeepRoomCardSaid : Prop := Claim7.holds Tryz.pinned (.plain (OpenSpec.ofChange keepRoomSpec)) keepRoomCard

/-- THE TIED CARD OF 'breviarylaw7.PageFaults'. -/
def pageFaultsCard : Claim7 := { stood := { row := pageFaultsRow, standIns := [], harness := (true, "60e8f588d63c637822e814e3f82efb78f209b0d4a7efc316f74e1e7a37491940"), looks := true }, kinds := [], alts := [], laidByText := true, laidKinds := [.sentinel, .sentinel, .sentinel, .sentinel, .sentinel, .sentinel, .sentinel, .sentinel, .sentinel, .sentinel, .sentinel, .sentinel, .sentinel, .sentinel, .sentinel, .sentinel, .sentinel, .sentinel, .sentinel, .sentinel, .sentinel, .sentinel, .sentinel, .sentinel], laidTests := true, laidLooks := .later }
def PageFaultsCardSaid : Prop := Claim7.holds Tryz.pinned (.plain (OpenSpec.ofChange pageFaultsSpec)) pageFaultsCard

/-- THE TIED CARD OF 'breviarylaw8.KeepFaults'. -/
def keepFaultsCard : Claim7 := { stood := { row := keepFaultsRow, standIns := [], harness := (true, "60e8f588d63c637822e814e3f82efb78f209b0d4a7efc316f74e1e7a37491940"), looks := true }, kinds := [], alts := [], laidByText := true, laidKinds := [.sentinel, .sentinel, .sentinel, .sentinel, .sentinel, .sentinel, .sentinel], laidTests := true, laidLooks := .later }
def KeepFaultsCardSaid : Prop := Claim7.holds Tryz.pinned (.plain (OpenSpec.ofChange keepFaultsSpec)) keepFaultsCard

/-- THE SECOND FORM's CARD OF 'breviarylaw7.PageRoom'. -/
def pageRoomUptoCard : Claim7 := { stood := { row := pageRoomUptoRow, standIns := [], harness := (true, "60e8f588d63c637822e814e3f82efb78f209b0d4a7efc316f74e1e7a37491940"), looks := true }, kinds := [], alts := [], laidByText := true, laidKinds := [.sentinel, .sentinel, .sentinel, .sentinel, .sentinel, .sentinel, .sentinel, .sentinel, .sentinel, .sentinel, .sentinel, .sentinel, .sentinel, .sentinel, .sentinel, .sentinel, .sentinel, .sentinel, .sentinel, .sentinel, .sentinel, .sentinel, .sentinel, .sentinel], laidTests := true, laidLooks := .later }
def PageRoomUptoCardSaid : Prop := Claim7.holds Tryz.pinned (.plain (OpenSpec.upto pageRoomSpec)) pageRoomUptoCard

/-- THE SECOND FORM's CARD OF 'breviarylaw7.PageLong'. -/
def pageLongUptoCard : Claim7 := { stood := { row := pageLongUptoRow, standIns := [], harness := (true, "60e8f588d63c637822e814e3f82efb78f209b0d4a7efc316f74e1e7a37491940"), looks := true }, kinds := [], alts := [], laidByText := true, laidKinds := [.sentinel, .sentinel, .sentinel, .sentinel, .sentinel, .sentinel, .sentinel], laidTests := true, laidLooks := .later }
def PageLongUptoCardSaid : Prop := Claim7.holds Tryz.pinned (.plain (OpenSpec.upto pageLongSpec)) pageLongUptoCard

/-- THE SECOND FORM's CARD OF 'breviarylaw7.PagePlays'. -/
def pagePlaysUptoCard : Claim7 := { stood := { row := pagePlaysUptoRow, standIns := [], harness := (true, "60e8f588d63c637822e814e3f82efb78f209b0d4a7efc316f74e1e7a37491940"), looks := true }, kinds := [], alts := [], laidByText := true, laidKinds := [.sentinel, .sentinel, .sentinel, .sentinel, .sentinel, .sentinel, .sentinel, .sentinel, .sentinel, .sentinel, .sentinel, .sentinel, .sentinel, .sentinel, .sentinel, .sentinel, .sentinel, .sentinel, .sentinel, .sentinel, .sentinel, .sentinel, .sentinel, .sentinel], laidTests := true, laidLooks := .later }
def PagePlaysUptoCardSaid : Prop := Claim7.holds Tryz.pinned (.plain (OpenSpec.upto pagePlaysSpec)) pagePlaysUptoCard

/-- THE SECOND FORM's CARD OF 'breviarylaw7.PageNothing'. -/
def pageNothingUptoCard : Claim7 := { stood := { row := pageNothingUptoRow, standIns := [], harness := (true, "60e8f588d63c637822e814e3f82efb78f209b0d4a7efc316f74e1e7a37491940"), looks := true }, kinds := [], alts := [], laidByText := true, laidKinds := [.sentinel, .sentinel, .sentinel, .sentinel, .sentinel, .sentinel, .sentinel, .sentinel, .sentinel, .sentinel, .sentinel, .sentinel, .sentinel, .sentinel, .sentinel, .sentinel, .sentinel, .sentinel, .sentinel, .sentinel, .sentinel, .sentinel, .sentinel, .sentinel], laidTests := true, laidLooks := .later }
def PageNothingUptoCardSaid : Prop := Claim7.holds Tryz.pinned (.plain (OpenSpec.upto pageNothingSpec)) pageNothingUptoCard

/-- THE SECOND FORM's CARD OF 'breviarylaw7.PageFalls'. -/
def pageFallsUptoCard : Claim7 := { stood := { row := pageFallsUptoRow, standIns := [], harness := (true, "60e8f588d63c637822e814e3f82efb78f209b0d4a7efc316f74e1e7a37491940"), looks := true }, kinds := [], alts := [], laidByText := true, laidKinds := [.sentinel, .sentinel, .sentinel, .sentinel, .sentinel, .sentinel, .sentinel, .sentinel, .sentinel, .sentinel, .sentinel, .sentinel, .sentinel, .sentinel, .sentinel, .sentinel, .sentinel, .sentinel, .sentinel, .sentinel, .sentinel, .sentinel, .sentinel, .sentinel], laidTests := true, laidLooks := .later }
def PageFallsUptoCardSaid : Prop := Claim7.holds Tryz.pinned (.plain (OpenSpec.upto pageFallsSpec)) pageFallsUptoCard

/-- THE SECOND FORM's CARD OF 'breviarylaw8.KeepRoom'. -/
def keepRoomUptoCard : Claim7 := { stood := { row := keepRoomUptoRow, standIns := [], harness := (true, "60e8f588d63c637822e814e3f82efb78f209b0d4a7efc316f74e1e7a37491940"), looks := true }, kinds := [], alts := [], laidByText := true, laidKinds := [.sentinel, .sentinel, .sentinel, .sentinel, .sentinel, .sentinel, .sentinel], laidTests := true, laidLooks := .later }
def KeepRoomUptoCardSaid : Prop := Claim7.holds Tryz.pinned (.plain (OpenSpec.upto keepRoomSpec)) keepRoomUptoCard

/-- THE SECOND FORM's CARD OF 'breviarylaw7.PageFaults'. -/
def pageFaultsUptoCard : Claim7 := { stood := { row := pageFaultsUptoRow, standIns := [], harness := (true, "60e8f588d63c637822e814e3f82efb78f209b0d4a7efc316f74e1e7a37491940"), looks := true }, kinds := [], alts := [], laidByText := true, laidKinds := [.sentinel, .sentinel, .sentinel, .sentinel, .sentinel, .sentinel, .sentinel, .sentinel, .sentinel, .sentinel, .sentinel, .sentinel, .sentinel, .sentinel, .sentinel, .sentinel, .sentinel, .sentinel, .sentinel, .sentinel, .sentinel, .sentinel, .sentinel, .sentinel], laidTests := true, laidLooks := .later }
def PageFaultsUptoCardSaid : Prop := Claim7.holds Tryz.pinned (.plain (OpenSpec.upto pageFaultsSpec)) pageFaultsUptoCard

/-- THE SECOND FORM's CARD OF 'breviarylaw8.KeepFaults'. -/
def keepFaultsUptoCard : Claim7 := { stood := { row := keepFaultsUptoRow, standIns := [], harness := (true, "60e8f588d63c637822e814e3f82efb78f209b0d4a7efc316f74e1e7a37491940"), looks := true }, kinds := [], alts := [], laidByText := true, laidKinds := [.sentinel, .sentinel, .sentinel, .sentinel, .sentinel, .sentinel, .sentinel], laidTests := true, laidLooks := .later }
def KeepFaultsUptoCardSaid : Prop := Claim7.holds Tryz.pinned (.plain (OpenSpec.upto keepFaultsSpec)) keepFaultsUptoCard
end Rows
end Go.Proofs.YtbjfgdahfpfgdaaGreatDoor
