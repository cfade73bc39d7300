/-
  DERIVED. GIVEN WITH THE SEED: THE CARDS: each row of YtjaemckdfoaopabDoorRows.lean that lists a variable, with what it lists TIED to the program's text (the seventh form; the later family's looks); each row that meets fmt, with fmt's text TOLD by the authors' own Lean function (tested against real Go, not proved from fmt's source: count such statements apart). THE CARD IS WHAT COUNTS. Prove the row's statement (the work); the ties are given (YtjaemckdfoaopabDoorTie.lean); close each card by the builder's one call (the guide's Derived/Test/ToyasCard.lean, 'card_holds'). Laid BY PROGRAM, IN A SANDBOX (cutbox-door.mjs). By AI agents, Wed Nov 11 2026. No macro, syntax, notation, axiom, sorry.
-/
import Derived.Test.YtjaemckdfoaopabDoorRows
import GoSem.ClaimSeven
namespace Go.Proofs.YtjaemckdfoaopabDoor
namespace Rows

/-- THE TIED CARD OF 'skipgraphlaw3.WireRoundTrip'. -/
def wireRoundTripCard : Claim7 := { stood := { row := wireRoundTripRow, standIns := [], harness := (true, "77077c7e0a592cd6d7e6df75b28e6caa7a5ec11abddca6363ba5420a404a7f5e"), looks := false }, kinds := [], alts := [], laidByText := true, laidKinds := [.data], laidTests := true, laidLooks := .later }
def WireRoundTripCardSaid : Prop := Claim7.holds Tryd.pinned (.plain (OpenSpec.ofChange wireRoundTripSpec)) wireRoundTripCard

/-- THE SECOND FORM's CARD OF 'skipgraphlaw3.WireRoundTrip'. -/
def wireRoundTripUptoCard : Claim7 := { stood := { row := wireRoundTripUptoRow, standIns := [], harness := (true, "77077c7e0a592cd6d7e6df75b28e6caa7a5ec11abddca6363ba5420a404a7f5e"), looks := false }, kinds := [], alts := [], laidByText := true, laidKinds := [.data], laidTests := true, laidLooks := .later }
def WireRoundTripUptoCardSaid : Prop := Claim7.holds Tryd.pinned (.plain (OpenSpec.upto wireRoundTripSpec)) wireRoundTripUptoCard
end Rows
end Go.Proofs.YtjaemckdfoaopabDoor
