/-
  DERIVED. GIVEN WITH THE SEED: THE CARDS: each row of YthdkeibapcaclaaGreatDoorRows.lean that lists a variable, with what it lists TIED to the program's text (the seventh form; the later family's looks); each row that meets fmt, with fmt's text TOLD by the authors' own Lean function (tested against real Go, not proved from fmt's source: count such statements apart). THE CARD IS WHAT COUNTS. Prove the row's statement (the work); the ties are given (YthdkeibapcaclaaGreatDoorTie.lean); close each card by the builder's one call (the guide's Derived/Test/ToyasCard.lean, 'card_holds'). Laid BY PROGRAM, IN A SANDBOX (cutbox-door.mjs). By AI agents, Wed Nov 11 2026. No macro, syntax, notation, axiom, sorry.
-/
import Derived.Test.YthdkeibapcaclaaGreatDoorRows
import GoSem.ClaimSeven
namespace Go.Proofs.YthdkeibapcaclaaGreatDoor
namespace Rows

/-- THE TIED CARD OF 'skipgraphlaw19.FlightSteps'. -/
def flightStepsCard : Claim7 := { stood := { row := flightStepsRow, standIns := [], harness := (true, "3d63441a57d5e1a930916d297e9f5e4943b290743ffbe254b51174268e98bb03"), looks := false }, kinds := [], alts := [], laidByText := true, laidKinds := [.data], laidTests := true, laidLooks := .later }
def FlightStepsCardSaid : Prop := Claim7.holds Tryz.pinned (.plain (OpenSpec.ofChange flightStepsSpec)) flightStepsCard

/-- THE TIED CARD OF 'skipgraphlaw19.FlightConnects'. -/
def flightConnectsCard : Claim7 := { stood := { row := flightConnectsRow, standIns := [], harness := (true, "3d63441a57d5e1a930916d297e9f5e4943b290743ffbe254b51174268e98bb03"), looks := false }, kinds := [], alts := [], laidByText := true, laidKinds := [.data], laidTests := true, laidLooks := .later }
def FlightConnectsCardSaid : Prop := Claim7.holds Tryz.pinned (.plain (OpenSpec.ofChange flightConnectsSpec)) flightConnectsCard

/-- THE TIED CARD OF 'skipgraphlaw19.FlightOrders'. -/
def flightOrdersCard : Claim7 := { stood := { row := flightOrdersRow, standIns := [], harness := (true, "3d63441a57d5e1a930916d297e9f5e4943b290743ffbe254b51174268e98bb03"), looks := false }, kinds := [], alts := [], laidByText := true, laidKinds := [.data], laidTests := true, laidLooks := .later }
def FlightOrdersCardSaid : Prop := Claim7.holds Tryz.pinned (.plain (OpenSpec.ofChange flightOrdersSpec)) flightOrdersCard

/-- THE TIED CARD OF 'skipgraphlaw19.FlightAgrees'. -/
def flightAgreesCard : Claim7 := { stood := { row := flightAgreesRow, standIns := [], harness := (true, "3d63441a57d5e1a930916d297e9f5e4943b290743ffbe254b51174268e98bb03"), looks := false }, kinds := [], alts := [], laidByText := true, laidKinds := [.data], laidTests := true, laidLooks := .later }
def FlightAgreesCardSaid : Prop := Claim7.holds Tryz.pinned (.plain (OpenSpec.ofChange flightAgreesSpec)) flightAgreesCard

/-- THE TIED CARD OF 'skipgraphlaw10.SpliceInserts'. -/
def spliceInsertsCard : Claim7 := { stood := { row := spliceInsertsRow, standIns := [], harness := (true, "3d63441a57d5e1a930916d297e9f5e4943b290743ffbe254b51174268e98bb03"), looks := false }, kinds := [], alts := [], laidByText := true, laidKinds := [.data, .data], laidTests := true, laidLooks := .later }
def SpliceInsertsCardSaid : Prop := Claim7.holds Tryz.pinned (.plain (OpenSpec.ofChange spliceInsertsSpec)) spliceInsertsCard

/-- THE TIED CARD OF 'skipgraphlaw10.SpliceRemoves'. -/
def spliceRemovesCard : Claim7 := { stood := { row := spliceRemovesRow, standIns := [], harness := (true, "3d63441a57d5e1a930916d297e9f5e4943b290743ffbe254b51174268e98bb03"), looks := false }, kinds := [], alts := [], laidByText := true, laidKinds := [.data, .data], laidTests := true, laidLooks := .later }
def SpliceRemovesCardSaid : Prop := Claim7.holds Tryz.pinned (.plain (OpenSpec.ofChange spliceRemovesSpec)) spliceRemovesCard

/-- THE TIED CARD OF 'skipgraphlaw19.FlightReaches'. -/
def flightReachesCard : Claim7 := { stood := { row := flightReachesRow, standIns := [], harness := (true, "3d63441a57d5e1a930916d297e9f5e4943b290743ffbe254b51174268e98bb03"), looks := false }, kinds := [], alts := [], laidByText := true, laidKinds := [.data, .data], laidTests := true, laidLooks := .later }
def FlightReachesCardSaid : Prop := Claim7.holds Tryz.pinned (.plain (OpenSpec.ofChange flightReachesSpec)) flightReachesCard

/-- THE SECOND FORM's CARD OF 'skipgraphlaw19.FlightSteps'. -/
def flightStepsUptoCard : Claim7 := { stood := { row := flightStepsUptoRow, standIns := [], harness := (true, "3d63441a57d5e1a930916d297e9f5e4943b290743ffbe254b51174268e98bb03"), looks := false }, kinds := [], alts := [], laidByText := true, laidKinds := [.data], laidTests := true, laidLooks := .later }
def FlightStepsUptoCardSaid : Prop := Claim7.holds Tryz.pinned (.plain (OpenSpec.upto flightStepsSpec)) flightStepsUptoCard

/-- THE SECOND FORM's CARD OF 'skipgraphlaw19.FlightConnects'. -/
def flightConnectsUptoCard : Claim7 := { stood := { row := flightConnectsUptoRow, standIns := [], harness := (true, "3d63441a57d5e1a930916d297e9f5e4943b290743ffbe254b51174268e98bb03"), looks := false }, kinds := [], alts := [], laidByText := true, laidKinds := [.data], laidTests := true, laidLooks := .later }
def FlightConnectsUptoCardSaid : Prop := Claim7.holds Tryz.pinned (.plain (OpenSpec.upto flightConnectsSpec)) flightConnectsUptoCard

/-- THE SECOND FORM's CARD OF 'skipgraphlaw19.FlightOrders'. -/
def flightOrdersUptoCard : Claim7 := { stood := { row := flightOrdersUptoRow, standIns := [], harness := (true, "3d63441a57d5e1a930916d297e9f5e4943b290743ffbe254b51174268e98bb03"), looks := false }, kinds := [], alts := [], laidByText := true, laidKinds := [.data], laidTests := true, laidLooks := .later }
def FlightOrdersUptoCardSaid : Prop := Claim7.holds Tryz.pinned (.plain (OpenSpec.upto flightOrdersSpec)) flightOrdersUptoCard

/-- THE SECOND FORM's CARD OF 'skipgraphlaw19.FlightAgrees'. -/
def flightAgreesUptoCard : Claim7 := { stood := { row := flightAgreesUptoRow, standIns := [], harness := (true, "3d63441a57d5e1a930916d297e9f5e4943b290743ffbe254b51174268e98bb03"), looks := false }, kinds := [], alts := [], laidByText := true, laidKinds := [.data], laidTests := true, laidLooks := .later }
def FlightAgreesUptoCardSaid : Prop := Claim7.holds Tryz.pinned (.plain (OpenSpec.upto flightAgreesSpec)) flightAgreesUptoCard

/-- THE SECOND FORM's CARD OF 'skipgraphlaw10.SpliceInserts'. -/
def spliceInsertsUptoCard : Claim7 := { stood := { row := spliceInsertsUptoRow, standIns := [], harness := (true, "3d63441a57d5e1a930916d297e9f5e4943b290743ffbe254b51174268e98bb03"), looks := false }, kinds := [], alts := [], laidByText := true, laidKinds := [.data, .data], laidTests := true, laidLooks := .later }
def SpliceInsertsUptoCardSaid : Prop := Claim7.holds Tryz.pinned (.plain (OpenSpec.upto spliceInsertsSpec)) spliceInsertsUptoCard

/-- THE SECOND FORM's CARD OF 'skipgraphlaw10.SpliceRemoves'. -/
def spliceRemovesUptoCard : Claim7 := { stood := { row := spliceRemovesUptoRow, standIns := [], harness := (true, "3d63441a57d5e1a930916d297e9f5e4943b290743ffbe254b51174268e98bb03"), looks := false }, kinds := [], alts := [], laidByText := true, laidKinds := [.data, .data], laidTests := true, laidLooks := .later }
def SpliceRemovesUptoCardSaid : Prop := Claim7.holds Tryz.pinned (.plain (OpenSpec.upto spliceRemovesSpec)) spliceRemovesUptoCard

/-- THE SECOND FORM's CARD OF 'skipgraphlaw19.FlightReaches'. -/
def flightReachesUptoCard : Claim7 := { stood := { row := flightReachesUptoRow, standIns := [], harness := (true, "3d63441a57d5e1a930916d297e9f5e4943b290743ffbe254b51174268e98bb03"), looks := false }, kinds := [], alts := [], laidByText := true, laidKinds := [.data, .data], laidTests := true, laidLooks := .later }
def FlightReachesUptoCardSaid : Prop := Claim7.holds Tryz.pinned (.plain (OpenSpec.upto flightReachesSpec)) flightReachesUptoCard
end Rows
end Go.Proofs.YthdkeibapcaclaaGreatDoor
