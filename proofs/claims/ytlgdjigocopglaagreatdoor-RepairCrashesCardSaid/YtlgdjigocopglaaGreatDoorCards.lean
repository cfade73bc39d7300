/-
  DERIVED. GIVEN WITH THE SEED: THE CARDS: each row of YtlgdjigocopglaaGreatDoorRows.lean that lists a variable, with what it lists TIED to the program's text (the seventh form; the later family's looks); each row that meets fmt, with fmt's text TOLD by the authors' own Lean function (tested against real Go, not proved from fmt's source: count such statements apart). THE CARD IS WHAT COUNTS. Prove the row's statement (the work); the ties are given (YtlgdjigocopglaaGreatDoorTie.lean); close each card by the builder's one call (the guide's Derived/Test/ToyasCard.lean, 'card_holds'). Laid BY PROGRAM, IN A SANDBOX (cutbox-door.mjs). By AI agents, Wed Nov 11 2026. No macro, syntax, notation, axiom, sorry.
-/
import Derived.Test.YtlgdjigocopglaaGreatDoorRows
import GoSem.ClaimSeven
namespace Go.Proofs.YtlgdjigocopglaaGreatDoor
namespace Rows

/-- THE TIED CARD OF 'skipgraphlaw17.BridgeRounds'. -/
def bridgeRoundsCard : Claim7 := { stood := { row := bridgeRoundsRow, standIns := [], harness := (true, "b790f26ef35c85b0afa36e3ca6ce5369a92ddcf9cf001d61a03045e2f3eaabbf"), looks := false }, kinds := [], alts := [], laidByText := true, laidKinds := [.data, .data], laidTests := true, laidLooks := .later }
def BridgeRoundsCardSaid : Prop := Claim7.holds Tryz.pinned (.plain (OpenSpec.ofChange bridgeRoundsSpec)) bridgeRoundsCard

/-- THE TIED CARD OF 'skipgraphlaw18.RepairRounds'. -/
def repairRoundsCard : Claim7 := { stood := { row := repairRoundsRow, standIns := [], harness := (true, "b790f26ef35c85b0afa36e3ca6ce5369a92ddcf9cf001d61a03045e2f3eaabbf"), looks := false }, kinds := [], alts := [], laidByText := true, laidKinds := [.data, .data], laidTests := true, laidLooks := .later }
def RepairRoundsCardSaid : Prop := Claim7.holds Tryz.pinned (.plain (OpenSpec.ofChange repairRoundsSpec)) repairRoundsCard

/-- THE TIED CARD OF 'skipgraphlaw18.RepairCleans'. -/
def repairCleansCard : Claim7 := { stood := { row := repairCleansRow, standIns := [], harness := (true, "b790f26ef35c85b0afa36e3ca6ce5369a92ddcf9cf001d61a03045e2f3eaabbf"), looks := false }, kinds := [], alts := [], laidByText := true, laidKinds := [.data, .data], laidTests := true, laidLooks := .later }
def RepairCleansCardSaid : Prop := Claim7.holds Tryz.pinned (.plain (OpenSpec.ofChange repairCleansSpec)) repairCleansCard

/-- THE TIED CARD OF 'skipgraphlaw18.RepairRejoins'. -/
def repairRejoinsCard : Claim7 := { stood := { row := repairRejoinsRow, standIns := [], harness := (true, "b790f26ef35c85b0afa36e3ca6ce5369a92ddcf9cf001d61a03045e2f3eaabbf"), looks := false }, kinds := [], alts := [], laidByText := true, laidKinds := [.data, .data], laidTests := true, laidLooks := .later }
def RepairRejoinsCardSaid : Prop := Claim7.holds Tryz.pinned (.plain (OpenSpec.ofChange repairRejoinsSpec)) repairRejoinsCard

/-- THE TIED CARD OF 'skipgraphlaw18.RepairJoins'. -/
def repairJoinsCard : Claim7 := { stood := { row := repairJoinsRow, standIns := [], harness := (true, "b790f26ef35c85b0afa36e3ca6ce5369a92ddcf9cf001d61a03045e2f3eaabbf"), looks := false }, kinds := [], alts := [], laidByText := true, laidKinds := [.data, .data], laidTests := true, laidLooks := .later }
def RepairJoinsCardSaid : Prop := Claim7.holds Tryz.pinned (.plain (OpenSpec.ofChange repairJoinsSpec)) repairJoinsCard

/-- THE TIED CARD OF 'skipgraphlaw18.RepairCrashes'. -/
def repairCrashesCard : Claim7 := { stood := { row := repairCrashesRow, standIns := [], harness := (true, "b790f26ef35c85b0afa36e3ca6ce5369a92ddcf9cf001d61a03045e2f3eaabbf"), looks := false }, kinds := [], alts := [], laidByText := true, laidKinds := [.data, .data], laidTests := true, laidLooks := .later }
def RepairCrashesCardSaid : Prop := Claim7.holds Tryz.pinned (.plain (OpenSpec.ofChange repairCrashesSpec)) repairCrashesCard

/-- THE SECOND FORM's CARD OF 'skipgraphlaw17.BridgeRounds'. -/
def bridgeRoundsUptoCard : Claim7 := { stood := { row := bridgeRoundsUptoRow, standIns := [], harness := (true, "b790f26ef35c85b0afa36e3ca6ce5369a92ddcf9cf001d61a03045e2f3eaabbf"), looks := false }, kinds := [], alts := [], laidByText := true, laidKinds := [.data, .data], laidTests := true, laidLooks := .later }
def BridgeRoundsUptoCardSaid : Prop := Claim7.holds Tryz.pinned (.plain (OpenSpec.upto bridgeRoundsSpec)) bridgeRoundsUptoCard

/-- THE SECOND FORM's CARD OF 'skipgraphlaw18.RepairRounds'. -/
def repairRoundsUptoCard : Claim7 := { stood := { row := repairRoundsUptoRow, standIns := [], harness := (true, "b790f26ef35c85b0afa36e3ca6ce5369a92ddcf9cf001d61a03045e2f3eaabbf"), looks := false }, kinds := [], alts := [], laidByText := true, laidKinds := [.data, .data], laidTests := true, laidLooks := .later }
def RepairRoundsUptoCardSaid : Prop := Claim7.holds Tryz.pinned (.plain (OpenSpec.upto repairRoundsSpec)) repairRoundsUptoCard

/-- THE SECOND FORM's CARD OF 'skipgraphlaw18.RepairCleans'. -/
def repairCleansUptoCard : Claim7 := { stood := { row := repairCleansUptoRow, standIns := [], harness := (true, "b790f26ef35c85b0afa36e3ca6ce5369a92ddcf9cf001d61a03045e2f3eaabbf"), looks := false }, kinds := [], alts := [], laidByText := true, laidKinds := [.data, .data], laidTests := true, laidLooks := .later }
def RepairCleansUptoCardSaid : Prop := Claim7.holds Tryz.pinned (.plain (OpenSpec.upto repairCleansSpec)) repairCleansUptoCard

/-- THE SECOND FORM's CARD OF 'skipgraphlaw18.RepairRejoins'. -/
def repairRejoinsUptoCard : Claim7 := { stood := { row := repairRejoinsUptoRow, standIns := [], harness := (true, "b790f26ef35c85b0afa36e3ca6ce5369a92ddcf9cf001d61a03045e2f3eaabbf"), looks := false }, kinds := [], alts := [], laidByText := true, laidKinds := [.data, .data], laidTests := true, laidLooks := .later }
def RepairRejoinsUptoCardSaid : Prop := Claim7.holds Tryz.pinned (.plain (OpenSpec.upto repairRejoinsSpec)) repairRejoinsUptoCard

/-- THE SECOND FORM's CARD OF 'skipgraphlaw18.RepairJoins'. -/
def repairJoinsUptoCard : Claim7 := { stood := { row := repairJoinsUptoRow, standIns := [], harness := (true, "b790f26ef35c85b0afa36e3ca6ce5369a92ddcf9cf001d61a03045e2f3eaabbf"), looks := false }, kinds := [], alts := [], laidByText := true, laidKinds := [.data, .data], laidTests := true, laidLooks := .later }
def RepairJoinsUptoCardSaid : Prop := Claim7.holds Tryz.pinned (.plain (OpenSpec.upto repairJoinsSpec)) repairJoinsUptoCard

/-- THE SECOND FORM's CARD OF 'skipgraphlaw18.RepairCrashes'. -/
def repairCrashesUptoCard : Claim7 := { stood := { row := repairCrashesUptoRow, standIns := [], harness := (true, "b790f26ef35c85b0afa36e3ca6ce5369a92ddcf9cf001d61a03045e2f3eaabbf"), looks := false }, kinds := [], alts := [], laidByText := true, laidKinds := [.data, .data], laidTests := true, laidLooks := .later }
def RepairCrashesUptoCardSaid : Prop := Claim7.holds Tryz.pinned (.plain (OpenSpec.upto repairCrashesSpec)) repairCrashesUptoCard
end Rows
end Go.Proofs.YtlgdjigocopglaaGreatDoor
