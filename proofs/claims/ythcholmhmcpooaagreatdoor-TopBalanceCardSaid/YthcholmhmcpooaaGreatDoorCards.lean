/-
  DERIVED. GIVEN WITH THE SEED: THE CARDS: each row of YthcholmhmcpooaaGreatDoorRows.lean that lists a variable, with what it lists TIED to the program's text (the seventh form; the later family's looks); each row that meets fmt, with fmt's text TOLD by the authors' own Lean function (tested against real Go, not proved from fmt's source: count such statements apart). THE CARD IS WHAT COUNTS. Prove the row's statement (the work); the ties are given (YthcholmhmcpooaaGreatDoorTie.lean); close each card by the builder's one call (the guide's Derived/Test/ToyasCard.lean, 'card_holds'). Laid BY PROGRAM, IN A SANDBOX (cutbox-door.mjs). By AI agents, Wed Nov 11 2026. No macro, syntax, notation, axiom, sorry.
-/
import Derived.Test.YthcholmhmcpooaaGreatDoorRows
import GoSem.ClaimSeven
namespace Go.Proofs.YthcholmhmcpooaaGreatDoor
namespace Rows

/-- THE TIED CARD OF 'skipgraphtop.TopSearch'. -/
def topSearchCard : Claim7 := { stood := { row := topSearchRow, standIns := [], harness := (true, "bea4d03cc20eaf986630eb777e7bfa9e7601f9278fe4c67cc1bf42749c60bd93"), looks := false }, kinds := [], alts := [], laidByText := true, laidKinds := [.data, .data], laidTests := true, laidLooks := .later }
def TopSearchCardSaid : Prop := Claim7.holds Tryz.pinned (.plain (OpenSpec.ofChange topSearchSpec)) topSearchCard

/-- THE TIED CARD OF 'skipgraphtop.TopRepair'. -/
def topRepairCard : Claim7 := { stood := { row := topRepairRow, standIns := [], harness := (true, "bea4d03cc20eaf986630eb777e7bfa9e7601f9278fe4c67cc1bf42749c60bd93"), looks := false }, kinds := [], alts := [], laidByText := true, laidKinds := [.data, .data], laidTests := true, laidLooks := .later }
def TopRepairCardSaid : Prop := Claim7.holds Tryz.pinned (.plain (OpenSpec.ofChange topRepairSpec)) topRepairCard

/-- THE TIED CARD OF 'skipgraphtop.TopWire'. -/
def topWireCard : Claim7 := { stood := { row := topWireRow, standIns := [], harness := (true, "bea4d03cc20eaf986630eb777e7bfa9e7601f9278fe4c67cc1bf42749c60bd93"), looks := false }, kinds := [], alts := [], laidByText := true, laidKinds := [.data, .data], laidTests := true, laidLooks := .later }
def TopWireCardSaid : Prop := Claim7.holds Tryz.pinned (.plain (OpenSpec.ofChange topWireSpec)) topWireCard

/-- THE TIED CARD OF 'skipgraphtop.TopSurvives'. -/
def topSurvivesCard : Claim7 := { stood := { row := topSurvivesRow, standIns := [], harness := (true, "bea4d03cc20eaf986630eb777e7bfa9e7601f9278fe4c67cc1bf42749c60bd93"), looks := false }, kinds := [], alts := [], laidByText := true, laidKinds := [.data, .data], laidTests := true, laidLooks := .later }
def TopSurvivesCardSaid : Prop := Claim7.holds Tryz.pinned (.plain (OpenSpec.ofChange topSurvivesSpec)) topSurvivesCard

/-- THE TIED CARD OF 'skipgraphtop.TopBalance'. -/
def topBalanceCard : Claim7 := { stood := { row := topBalanceRow, standIns := [], harness := (true, "bea4d03cc20eaf986630eb777e7bfa9e7601f9278fe4c67cc1bf42749c60bd93"), looks := false }, kinds := [], alts := [], laidByText := true, laidKinds := [.data, .data], laidTests := true, laidLooks := .later }
def TopBalanceCardSaid : Prop := Claim7.holds Tryz.pinned (.plain (OpenSpec.ofChange topBalanceSpec)) topBalanceCard

/-- THE SECOND FORM's CARD OF 'skipgraphtop.TopSearch'. -/
def topSearchUptoCard : Claim7 := { stood := { row := topSearchUptoRow, standIns := [], harness := (true, "bea4d03cc20eaf986630eb777e7bfa9e7601f9278fe4c67cc1bf42749c60bd93"), looks := false }, kinds := [], alts := [], laidByText := true, laidKinds := [.data, .data], laidTests := true, laidLooks := .later }
def TopSearchUptoCardSaid : Prop := Claim7.holds Tryz.pinned (.plain (OpenSpec.upto topSearchSpec)) topSearchUptoCard

/-- THE SECOND FORM's CARD OF 'skipgraphtop.TopRepair'. -/
def topRepairUptoCard : Claim7 := { stood := { row := topRepairUptoRow, standIns := [], harness := (true, "bea4d03cc20eaf986630eb777e7bfa9e7601f9278fe4c67cc1bf42749c60bd93"), looks := false }, kinds := [], alts := [], laidByText := true, laidKinds := [.data, .data], laidTests := true, laidLooks := .later }
def TopRepairUptoCardSaid : Prop := Claim7.holds Tryz.pinned (.plain (OpenSpec.upto topRepairSpec)) topRepairUptoCard

/-- THE SECOND FORM's CARD OF 'skipgraphtop.TopWire'. -/
def topWireUptoCard : Claim7 := { stood := { row := topWireUptoRow, standIns := [], harness := (true, "bea4d03cc20eaf986630eb777e7bfa9e7601f9278fe4c67cc1bf42749c60bd93"), looks := false }, kinds := [], alts := [], laidByText := true, laidKinds := [.data, .data], laidTests := true, laidLooks := .later }
def TopWireUptoCardSaid : Prop := Claim7.holds Tryz.pinned (.plain (OpenSpec.upto topWireSpec)) topWireUptoCard

/-- THE SECOND FORM's CARD OF 'skipgraphtop.TopSurvives'. -/
def topSurvivesUptoCard : Claim7 := { stood := { row := topSurvivesUptoRow, standIns := [], harness := (true, "bea4d03cc20eaf986630eb777e7bfa9e7601f9278fe4c67cc1bf42749c60bd93"), looks := false }, kinds := [], alts := [], laidByText := true, laidKinds := [.data, .data], laidTests := true, laidLooks := .later }
def TopSurvivesUptoCardSaid : Prop := Claim7.holds Tryz.pinned (.plain (OpenSpec.upto topSurvivesSpec)) topSurvivesUptoCard

/-- THE SECOND FORM's CARD OF 'skipgraphtop.TopBalance'. -/
def topBalanceUptoCard : Claim7 := { stood := { row := topBalanceUptoRow, standIns := [], harness := (true, "bea4d03cc20eaf986630eb777e7bfa9e7601f9278fe4c67cc1bf42749c60bd93"), looks := false }, kinds := [], alts := [], laidByText := true, laidKinds := [.data, .data], laidTests := true, laidLooks := .later }
def TopBalanceUptoCardSaid : Prop := Claim7.holds Tryz.pinned (.plain (OpenSpec.upto topBalanceSpec)) topBalanceUptoCard
end Rows
end Go.Proofs.YthcholmhmcpooaaGreatDoor
