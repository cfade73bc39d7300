/-
  DERIVED. GIVEN WITH THE SEED: THE CARDS: each row of YtofmcalfbpjoeaaGreatDoorRows.lean that lists a variable, with what it lists TIED to the program's text (the seventh form; the later family's looks); each row that meets fmt, with fmt's text TOLD by the authors' own Lean function (tested against real Go, not proved from fmt's source: count such statements apart). THE CARD IS WHAT COUNTS. Prove the row's statement (the work); the ties are given (YtofmcalfbpjoeaaGreatDoorTie.lean); close each card by the builder's one call (the guide's Derived/Test/ToyasCard.lean, 'card_holds'). Laid BY PROGRAM, IN A SANDBOX (cutbox-door.mjs). By AI agents, Wed Nov 11 2026. No macro, syntax, notation, axiom, sorry.
-/
import Derived.Test.YtofmcalfbpjoeaaGreatDoorRows
import GoSem.ClaimSeven
namespace Go.Proofs.YtofmcalfbpjoeaaGreatDoor
namespace Rows

/-- THE TIED CARD OF 'skipgraphlaw17.BridgeRounds'. -/
def bridgeRoundsCard : Claim7 := { stood := { row := bridgeRoundsRow, standIns := [], harness := (true, "5382a17f03ad80346d37b8e8ce80e9277767ee8e1a8a2278f259a77532a7d0ca"), looks := false }, kinds := [], alts := [], laidByText := true, laidKinds := [.data, .data], laidTests := true, laidLooks := .later }
def BridgeRoundsCardSaid : Prop := Claim7.holds Tryz.pinned (.plain (OpenSpec.ofChange bridgeRoundsSpec)) bridgeRoundsCard

/-- THE TIED CARD OF 'skipgraphlaw19.FlightSteps'. -/
def flightStepsCard : Claim7 := { stood := { row := flightStepsRow, standIns := [], harness := (true, "5382a17f03ad80346d37b8e8ce80e9277767ee8e1a8a2278f259a77532a7d0ca"), looks := false }, kinds := [], alts := [], laidByText := true, laidKinds := [.data], laidTests := true, laidLooks := .later }
def FlightStepsCardSaid : Prop := Claim7.holds Tryz.pinned (.plain (OpenSpec.ofChange flightStepsSpec)) flightStepsCard

/-- THE TIED CARD OF 'skipgraphlaw19.FlightConnects'. -/
def flightConnectsCard : Claim7 := { stood := { row := flightConnectsRow, standIns := [], harness := (true, "5382a17f03ad80346d37b8e8ce80e9277767ee8e1a8a2278f259a77532a7d0ca"), looks := false }, kinds := [], alts := [], laidByText := true, laidKinds := [.data], laidTests := true, laidLooks := .later }
def FlightConnectsCardSaid : Prop := Claim7.holds Tryz.pinned (.plain (OpenSpec.ofChange flightConnectsSpec)) flightConnectsCard

/-- THE TIED CARD OF 'skipgraphlaw19.FlightOrders'. -/
def flightOrdersCard : Claim7 := { stood := { row := flightOrdersRow, standIns := [], harness := (true, "5382a17f03ad80346d37b8e8ce80e9277767ee8e1a8a2278f259a77532a7d0ca"), looks := false }, kinds := [], alts := [], laidByText := true, laidKinds := [.data], laidTests := true, laidLooks := .later }
def FlightOrdersCardSaid : Prop := Claim7.holds Tryz.pinned (.plain (OpenSpec.ofChange flightOrdersSpec)) flightOrdersCard

/-- THE TIED CARD OF 'skipgraphlaw19.FlightAgrees'. -/
def flightAgreesCard : Claim7 := { stood := { row := flightAgreesRow, standIns := [], harness := (true, "5382a17f03ad80346d37b8e8ce80e9277767ee8e1a8a2278f259a77532a7d0ca"), looks := false }, kinds := [], alts := [], laidByText := true, laidKinds := [.data], laidTests := true, laidLooks := .later }
def FlightAgreesCardSaid : Prop := Claim7.holds Tryz.pinned (.plain (OpenSpec.ofChange flightAgreesSpec)) flightAgreesCard

/-- THE TIED CARD OF 'skipgraphlaw19.FlightReaches'. -/
def flightReachesCard : Claim7 := { stood := { row := flightReachesRow, standIns := [], harness := (true, "5382a17f03ad80346d37b8e8ce80e9277767ee8e1a8a2278f259a77532a7d0ca"), looks := false }, kinds := [], alts := [], laidByText := true, laidKinds := [.data, .data], laidTests := true, laidLooks := .later }
def FlightReachesCardSaid : Prop := Claim7.holds Tryz.pinned (.plain (OpenSpec.ofChange flightReachesSpec)) flightReachesCard

/-- THE TIED CARD OF 'skipgraphlaw18.RepairRounds'. -/
def repairRoundsCard : Claim7 := { stood := { row := repairRoundsRow, standIns := [], harness := (true, "5382a17f03ad80346d37b8e8ce80e9277767ee8e1a8a2278f259a77532a7d0ca"), looks := false }, kinds := [], alts := [], laidByText := true, laidKinds := [.data, .data], laidTests := true, laidLooks := .later }
def RepairRoundsCardSaid : Prop := Claim7.holds Tryz.pinned (.plain (OpenSpec.ofChange repairRoundsSpec)) repairRoundsCard

/-- THE TIED CARD OF 'skipgraphlaw18.RepairReaches'. -/
def repairReachesCard : Claim7 := { stood := { row := repairReachesRow, standIns := [], harness := (true, "5382a17f03ad80346d37b8e8ce80e9277767ee8e1a8a2278f259a77532a7d0ca"), looks := false }, kinds := [], alts := [], laidByText := true, laidKinds := [.data, .data], laidTests := true, laidLooks := .later }
def RepairReachesCardSaid : Prop := Claim7.holds Tryz.pinned (.plain (OpenSpec.ofChange repairReachesSpec)) repairReachesCard

/-- THE TIED CARD OF 'skipgraphlaw18.RepairCleans'. -/
def repairCleansCard : Claim7 := { stood := { row := repairCleansRow, standIns := [], harness := (true, "5382a17f03ad80346d37b8e8ce80e9277767ee8e1a8a2278f259a77532a7d0ca"), looks := false }, kinds := [], alts := [], laidByText := true, laidKinds := [.data, .data], laidTests := true, laidLooks := .later }
def RepairCleansCardSaid : Prop := Claim7.holds Tryz.pinned (.plain (OpenSpec.ofChange repairCleansSpec)) repairCleansCard

/-- THE TIED CARD OF 'skipgraphlaw18.RepairRejoins'. -/
def repairRejoinsCard : Claim7 := { stood := { row := repairRejoinsRow, standIns := [], harness := (true, "5382a17f03ad80346d37b8e8ce80e9277767ee8e1a8a2278f259a77532a7d0ca"), looks := false }, kinds := [], alts := [], laidByText := true, laidKinds := [.data, .data], laidTests := true, laidLooks := .later }
def RepairRejoinsCardSaid : Prop := Claim7.holds Tryz.pinned (.plain (OpenSpec.ofChange repairRejoinsSpec)) repairRejoinsCard

/-- THE TIED CARD OF 'skipgraphlaw18.RepairJoins'. -/
def repairJoinsCard : Claim7 := { stood := { row := repairJoinsRow, standIns := [], harness := (true, "5382a17f03ad80346d37b8e8ce80e9277767ee8e1a8a2278f259a77532a7d0ca"), looks := false }, kinds := [], alts := [], laidByText := true, laidKinds := [.data, .data], laidTests := true, laidLooks := .later }
def RepairJoinsCardSaid : Prop := Claim7.holds Tryz.pinned (.plain (OpenSpec.ofChange repairJoinsSpec)) repairJoinsCard

/-- THE TIED CARD OF 'skipgraphlaw18.RepairCrashes'. -/
def repairCrashesCard : Claim7 := { stood := { row := repairCrashesRow, standIns := [], harness := (true, "5382a17f03ad80346d37b8e8ce80e9277767ee8e1a8a2278f259a77532a7d0ca"), looks := false }, kinds := [], alts := [], laidByText := true, laidKinds := [.data, .data], laidTests := true, laidLooks := .later }
def RepairCrashesCardSaid : Prop := Claim7.holds Tryz.pinned (.plain (OpenSpec.ofChange repairCrashesSpec)) repairCrashesCard

/-- THE SECOND FORM's CARD OF 'skipgraphlaw17.BridgeRounds'. -/
def bridgeRoundsUptoCard : Claim7 := { stood := { row := bridgeRoundsUptoRow, standIns := [], harness := (true, "5382a17f03ad80346d37b8e8ce80e9277767ee8e1a8a2278f259a77532a7d0ca"), looks := false }, kinds := [], alts := [], laidByText := true, laidKinds := [.data, .data], laidTests := true, laidLooks := .later }
def BridgeRoundsUptoCardSaid : Prop := Claim7.holds Tryz.pinned (.plain (OpenSpec.upto bridgeRoundsSpec)) bridgeRoundsUptoCard

/-- THE SECOND FORM's CARD OF 'skipgraphlaw19.FlightSteps'. -/
def flightStepsUptoCard : Claim7 := { stood := { row := flightStepsUptoRow, standIns := [], harness := (true, "5382a17f03ad80346d37b8e8ce80e9277767ee8e1a8a2278f259a77532a7d0ca"), looks := false }, kinds := [], alts := [], laidByText := true, laidKinds := [.data], laidTests := true, laidLooks := .later }
def FlightStepsUptoCardSaid : Prop := Claim7.holds Tryz.pinned (.plain (OpenSpec.upto flightStepsSpec)) flightStepsUptoCard

/-- THE SECOND FORM's CARD OF 'skipgraphlaw19.FlightConnects'. -/
def flightConnectsUptoCard : Claim7 := { stood := { row := flightConnectsUptoRow, standIns := [], harness := (true, "5382a17f03ad80346d37b8e8ce80e9277767ee8e1a8a2278f259a77532a7d0ca"), looks := false }, kinds := [], alts := [], laidByText := true, laidKinds := [.data], laidTests := true, laidLooks := .later }
def FlightConnectsUptoCardSaid : Prop := Claim7.holds Tryz.pinned (.plain (OpenSpec.upto flightConnectsSpec)) flightConnectsUptoCard

/-- THE SECOND FORM's CARD OF 'skipgraphlaw19.FlightOrders'. -/
def flightOrdersUptoCard : Claim7 := { stood := { row := flightOrdersUptoRow, standIns := [], harness := (true, "5382a17f03ad80346d37b8e8ce80e9277767ee8e1a8a2278f259a77532a7d0ca"), looks := false }, kinds := [], alts := [], laidByText := true, laidKinds := [.data], laidTests := true, laidLooks := .later }
def FlightOrdersUptoCardSaid : Prop := Claim7.holds Tryz.pinned (.plain (OpenSpec.upto flightOrdersSpec)) flightOrdersUptoCard

/-- THE SECOND FORM's CARD OF 'skipgraphlaw19.FlightAgrees'. -/
def flightAgreesUptoCard : Claim7 := { stood := { row := flightAgreesUptoRow, standIns := [], harness := (true, "5382a17f03ad80346d37b8e8ce80e9277767ee8e1a8a2278f259a77532a7d0ca"), looks := false }, kinds := [], alts := [], laidByText := true, laidKinds := [.data], laidTests := true, laidLooks := .later }
def FlightAgreesUptoCardSaid : Prop := Claim7.holds Tryz.pinned (.plain (OpenSpec.upto flightAgreesSpec)) flightAgreesUptoCard

/-- THE SECOND FORM's CARD OF 'skipgraphlaw19.FlightReaches'. -/
def flightReachesUptoCard : Claim7 := { stood := { row := flightReachesUptoRow, standIns := [], harness := (true, "5382a17f03ad80346d37b8e8ce80e9277767ee8e1a8a2278f259a77532a7d0ca"), looks := false }, kinds := [], alts := [], laidByText := true, laidKinds := [.data, .data], laidTests := true, laidLooks := .later }
def FlightReachesUptoCardSaid : Prop := Claim7.holds Tryz.pinned (.plain (OpenSpec.upto flightReachesSpec)) flightReachesUptoCard

/-- THE SECOND FORM's CARD OF 'skipgraphlaw18.RepairRounds'. -/
def repairRoundsUptoCard : Claim7 := { stood := { row := repairRoundsUptoRow, standIns := [], harness := (true, "5382a17f03ad80346d37b8e8ce80e9277767ee8e1a8a2278f259a77532a7d0ca"), looks := false }, kinds := [], alts := [], laidByText := true, laidKinds := [.data, .data], laidTests := true, laidLooks := .later }
def RepairRoundsUptoCardSaid : Prop := Claim7.holds Tryz.pinned (.plain (OpenSpec.upto repairRoundsSpec)) repairRoundsUptoCard

/-- THE SECOND FORM's CARD OF 'skipgraphlaw18.RepairReaches'. -/
def repairReachesUptoCard : Claim7 := { stood := { row := repairReachesUptoRow, standIns := [], harness := (true, "5382a17f03ad80346d37b8e8ce80e9277767ee8e1a8a2278f259a77532a7d0ca"), looks := false }, kinds := [], alts := [], laidByText := true, laidKinds := [.data, .data], laidTests := true, laidLooks := .later }
def RepairReachesUptoCardSaid : Prop := Claim7.holds Tryz.pinned (.plain (OpenSpec.upto repairReachesSpec)) repairReachesUptoCard

/-- THE SECOND FORM's CARD OF 'skipgraphlaw18.RepairCleans'. -/
def repairCleansUptoCard : Claim7 := { stood := { row := repairCleansUptoRow, standIns := [], harness := (true, "5382a17f03ad80346d37b8e8ce80e9277767ee8e1a8a2278f259a77532a7d0ca"), looks := false }, kinds := [], alts := [], laidByText := true, laidKinds := [.data, .data], laidTests := true, laidLooks := .later }
def RepairCleansUptoCardSaid : Prop := Claim7.holds Tryz.pinned (.plain (OpenSpec.upto repairCleansSpec)) repairCleansUptoCard

/-- THE SECOND FORM's CARD OF 'skipgraphlaw18.RepairRejoins'. -/
def repairRejoinsUptoCard : Claim7 := { stood := { row := repairRejoinsUptoRow, standIns := [], harness := (true, "5382a17f03ad80346d37b8e8ce80e9277767ee8e1a8a2278f259a77532a7d0ca"), looks := false }, kinds := [], alts := [], laidByText := true, laidKinds := [.data, .data], laidTests := true, laidLooks := .later }
def RepairRejoinsUptoCardSaid : Prop := Claim7.holds Tryz.pinned (.plain (OpenSpec.upto repairRejoinsSpec)) repairRejoinsUptoCard

/-- THE SECOND FORM's CARD OF 'skipgraphlaw18.RepairJoins'. -/
def repairJoinsUptoCard : Claim7 := { stood := { row := repairJoinsUptoRow, standIns := [], harness := (true, "5382a17f03ad80346d37b8e8ce80e9277767ee8e1a8a2278f259a77532a7d0ca"), looks := false }, kinds := [], alts := [], laidByText := true, laidKinds := [.data, .data], laidTests := true, laidLooks := .later }
def RepairJoinsUptoCardSaid : Prop := Claim7.holds Tryz.pinned (.plain (OpenSpec.upto repairJoinsSpec)) repairJoinsUptoCard

/-- THE SECOND FORM's CARD OF 'skipgraphlaw18.RepairCrashes'. -/
def repairCrashesUptoCard : Claim7 := { stood := { row := repairCrashesUptoRow, standIns := [], harness := (true, "5382a17f03ad80346d37b8e8ce80e9277767ee8e1a8a2278f259a77532a7d0ca"), looks := false }, kinds := [], alts := [], laidByText := true, laidKinds := [.data, .data], laidTests := true, laidLooks := .later }
def RepairCrashesUptoCardSaid : Prop := Claim7.holds Tryz.pinned (.plain (OpenSpec.upto repairCrashesSpec)) repairCrashesUptoCard
end Rows
end Go.Proofs.YtofmcalfbpjoeaaGreatDoor
