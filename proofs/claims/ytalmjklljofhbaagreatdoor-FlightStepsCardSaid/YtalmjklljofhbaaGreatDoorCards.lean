/-
  DERIVED. GIVEN WITH THE SEED: THE CARDS: each row of YtalmjklljofhbaaGreatDoorRows.lean that lists a variable, with what it lists TIED to the program's text (the seventh form; the later family's looks); each row that meets fmt, with fmt's text TOLD by the authors' own Lean function (tested against real Go, not proved from fmt's source: count such statements apart). THE CARD IS WHAT COUNTS. Prove the row's statement (the work); the ties are given (YtalmjklljofhbaaGreatDoorTie.lean); close each card by the builder's one call (the guide's Derived/Test/ToyasCard.lean, 'card_holds'). Laid BY PROGRAM, IN A SANDBOX (cutbox-door.mjs). By AI agents, Wed Nov 11 2026. No macro, syntax, notation, axiom, sorry.
-/
import Derived.Test.YtalmjklljofhbaaGreatDoorRows
import GoSem.ClaimSeven
namespace Go.Proofs.YtalmjklljofhbaaGreatDoor
namespace Rows

/-- THE TIED CARD OF 'skipgraphlaw19.FlightSteps'. -/
def flightStepsCard : Claim7 := { stood := { row := flightStepsRow, standIns := [], harness := (true, "b1738fbeb79c68c942f0977f03bc30c9bd47aac2032c4478c3ec5ec3d4787ff6"), looks := false }, kinds := [], alts := [], laidByText := true, laidKinds := [.data], laidTests := true, laidLooks := .later }
def FlightStepsCardSaid : Prop := Claim7.holds Tryz.pinned (.plain (OpenSpec.ofChange flightStepsSpec)) flightStepsCard

/-- THE TIED CARD OF 'skipgraphlaw10.SpliceInserts'. -/
def spliceInsertsCard : Claim7 := { stood := { row := spliceInsertsRow, standIns := [], harness := (true, "b1738fbeb79c68c942f0977f03bc30c9bd47aac2032c4478c3ec5ec3d4787ff6"), looks := false }, kinds := [], alts := [], laidByText := true, laidKinds := [.data, .data], laidTests := true, laidLooks := .later }
def SpliceInsertsCardSaid : Prop := Claim7.holds Tryz.pinned (.plain (OpenSpec.ofChange spliceInsertsSpec)) spliceInsertsCard

/-- THE TIED CARD OF 'skipgraphlaw10.SpliceRemoves'. -/
def spliceRemovesCard : Claim7 := { stood := { row := spliceRemovesRow, standIns := [], harness := (true, "b1738fbeb79c68c942f0977f03bc30c9bd47aac2032c4478c3ec5ec3d4787ff6"), looks := false }, kinds := [], alts := [], laidByText := true, laidKinds := [.data, .data], laidTests := true, laidLooks := .later }
def SpliceRemovesCardSaid : Prop := Claim7.holds Tryz.pinned (.plain (OpenSpec.ofChange spliceRemovesSpec)) spliceRemovesCard

/-- THE SECOND FORM's CARD OF 'skipgraphlaw19.FlightSteps'. -/
def flightStepsUptoCard : Claim7 := { stood := { row := flightStepsUptoRow, standIns := [], harness := (true, "b1738fbeb79c68c942f0977f03bc30c9bd47aac2032c4478c3ec5ec3d4787ff6"), looks := false }, kinds := [], alts := [], laidByText := true, laidKinds := [.data], laidTests := true, laidLooks := .later }
def FlightStepsUptoCardSaid : Prop := Claim7.holds Tryz.pinned (.plain (OpenSpec.upto flightStepsSpec)) flightStepsUptoCard

/-- THE SECOND FORM's CARD OF 'skipgraphlaw10.SpliceInserts'. -/
def spliceInsertsUptoCard : Claim7 := { stood := { row := spliceInsertsUptoRow, standIns := [], harness := (true, "b1738fbeb79c68c942f0977f03bc30c9bd47aac2032c4478c3ec5ec3d4787ff6"), looks := false }, kinds := [], alts := [], laidByText := true, laidKinds := [.data, .data], laidTests := true, laidLooks := .later }
def SpliceInsertsUptoCardSaid : Prop := Claim7.holds Tryz.pinned (.plain (OpenSpec.upto spliceInsertsSpec)) spliceInsertsUptoCard

/-- THE SECOND FORM's CARD OF 'skipgraphlaw10.SpliceRemoves'. -/
def spliceRemovesUptoCard : Claim7 := { stood := { row := spliceRemovesUptoRow, standIns := [], harness := (true, "b1738fbeb79c68c942f0977f03bc30c9bd47aac2032c4478c3ec5ec3d4787ff6"), looks := false }, kinds := [], alts := [], laidByText := true, laidKinds := [.data, .data], laidTests := true, laidLooks := .later }
def SpliceRemovesUptoCardSaid : Prop := Claim7.holds Tryz.pinned (.plain (OpenSpec.upto spliceRemovesSpec)) spliceRemovesUptoCard
end Rows
end Go.Proofs.YtalmjklljofhbaaGreatDoor
