/-
  DERIVED. GIVEN WITH THE SEED: THE CARDS: each row of YtbnbjiddffihoaaGreatDoorRows.lean that lists a variable, with what it lists TIED to the program's text (the seventh form; the later family's looks); each row that meets fmt, with fmt's text TOLD by the authors' own Lean function (tested against real Go, not proved from fmt's source: count such statements apart). THE CARD IS WHAT COUNTS. Prove the row's statement (the work); the ties are given (YtbnbjiddffihoaaGreatDoorTie.lean); close each card by the builder's one call (the guide's Derived/Test/ToyasCard.lean, 'card_holds'). Laid BY PROGRAM, IN A SANDBOX (cutbox-door.mjs). By AI agents, Wed Nov 11 2026. No macro, syntax, notation, axiom, sorry.
-/
import Derived.Test.YtbnbjiddffihoaaGreatDoorRows
import GoSem.ClaimSeven
namespace Go.Proofs.YtbnbjiddffihoaaGreatDoor
namespace Rows

/-- THE TIED CARD OF 'skipgraphlaw16.LinearRounds'. -/
def linearRoundsCard : Claim7 := { stood := { row := linearRoundsRow, standIns := [], harness := (true, "fa916daaffacb3e24c7be19b08443b31e2338d23d8ecfcb6d713dd40f61712c1"), looks := false }, kinds := [], alts := [], laidByText := true, laidKinds := [.data, .data], laidTests := true, laidLooks := .later }
def LinearRoundsCardSaid : Prop := Claim7.holds Tryz.pinned (.plain (OpenSpec.ofChange linearRoundsSpec)) linearRoundsCard

/-- THE TIED CARD OF 'skipgraphlaw17.BridgeRounds'. -/
def bridgeRoundsCard : Claim7 := { stood := { row := bridgeRoundsRow, standIns := [], harness := (true, "fa916daaffacb3e24c7be19b08443b31e2338d23d8ecfcb6d713dd40f61712c1"), looks := false }, kinds := [], alts := [], laidByText := true, laidKinds := [.data, .data], laidTests := true, laidLooks := .later }
def BridgeRoundsCardSaid : Prop := Claim7.holds Tryz.pinned (.plain (OpenSpec.ofChange bridgeRoundsSpec)) bridgeRoundsCard

/-- THE TIED CARD OF 'skipgraphlaw17.BridgeClimbs'. -/
def bridgeClimbsCard : Claim7 := { stood := { row := bridgeClimbsRow, standIns := [], harness := (true, "fa916daaffacb3e24c7be19b08443b31e2338d23d8ecfcb6d713dd40f61712c1"), looks := false }, kinds := [], alts := [], laidByText := true, laidKinds := [.data, .data], laidTests := true, laidLooks := .later }
def BridgeClimbsCardSaid : Prop := Claim7.holds Tryz.pinned (.plain (OpenSpec.ofChange bridgeClimbsSpec)) bridgeClimbsCard

/-- THE TIED CARD OF 'skipgraphlaw17.BridgeKeeps'. -/
def bridgeKeepsCard : Claim7 := { stood := { row := bridgeKeepsRow, standIns := [], harness := (true, "fa916daaffacb3e24c7be19b08443b31e2338d23d8ecfcb6d713dd40f61712c1"), looks := false }, kinds := [], alts := [], laidByText := true, laidKinds := [.data, .data], laidTests := true, laidLooks := .later }
def BridgeKeepsCardSaid : Prop := Claim7.holds Tryz.pinned (.plain (OpenSpec.ofChange bridgeKeepsSpec)) bridgeKeepsCard

/-- THE SECOND FORM's CARD OF 'skipgraphlaw16.LinearRounds'. -/
def linearRoundsUptoCard : Claim7 := { stood := { row := linearRoundsUptoRow, standIns := [], harness := (true, "fa916daaffacb3e24c7be19b08443b31e2338d23d8ecfcb6d713dd40f61712c1"), looks := false }, kinds := [], alts := [], laidByText := true, laidKinds := [.data, .data], laidTests := true, laidLooks := .later }
def LinearRoundsUptoCardSaid : Prop := Claim7.holds Tryz.pinned (.plain (OpenSpec.upto linearRoundsSpec)) linearRoundsUptoCard

/-- THE SECOND FORM's CARD OF 'skipgraphlaw17.BridgeRounds'. -/
def bridgeRoundsUptoCard : Claim7 := { stood := { row := bridgeRoundsUptoRow, standIns := [], harness := (true, "fa916daaffacb3e24c7be19b08443b31e2338d23d8ecfcb6d713dd40f61712c1"), looks := false }, kinds := [], alts := [], laidByText := true, laidKinds := [.data, .data], laidTests := true, laidLooks := .later }
def BridgeRoundsUptoCardSaid : Prop := Claim7.holds Tryz.pinned (.plain (OpenSpec.upto bridgeRoundsSpec)) bridgeRoundsUptoCard

/-- THE SECOND FORM's CARD OF 'skipgraphlaw17.BridgeClimbs'. -/
def bridgeClimbsUptoCard : Claim7 := { stood := { row := bridgeClimbsUptoRow, standIns := [], harness := (true, "fa916daaffacb3e24c7be19b08443b31e2338d23d8ecfcb6d713dd40f61712c1"), looks := false }, kinds := [], alts := [], laidByText := true, laidKinds := [.data, .data], laidTests := true, laidLooks := .later }
def BridgeClimbsUptoCardSaid : Prop := Claim7.holds Tryz.pinned (.plain (OpenSpec.upto bridgeClimbsSpec)) bridgeClimbsUptoCard

/-- THE SECOND FORM's CARD OF 'skipgraphlaw17.BridgeKeeps'. -/
def bridgeKeepsUptoCard : Claim7 := { stood := { row := bridgeKeepsUptoRow, standIns := [], harness := (true, "fa916daaffacb3e24c7be19b08443b31e2338d23d8ecfcb6d713dd40f61712c1"), looks := false }, kinds := [], alts := [], laidByText := true, laidKinds := [.data, .data], laidTests := true, laidLooks := .later }
def BridgeKeepsUptoCardSaid : Prop := Claim7.holds Tryz.pinned (.plain (OpenSpec.upto bridgeKeepsSpec)) bridgeKeepsUptoCard
end Rows
end Go.Proofs.YtbnbjiddffihoaaGreatDoor
