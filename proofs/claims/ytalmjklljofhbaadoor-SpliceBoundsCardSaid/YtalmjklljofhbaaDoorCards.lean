/-
  DERIVED. GIVEN WITH THE SEED: THE CARDS: each row of YtalmjklljofhbaaDoorRows.lean that lists a variable, with what it lists TIED to the program's text (the seventh form; the later family's looks); each row that meets fmt, with fmt's text TOLD by the authors' own Lean function (tested against real Go, not proved from fmt's source: count such statements apart). THE CARD IS WHAT COUNTS. Prove the row's statement (the work); the ties are given (YtalmjklljofhbaaDoorTie.lean); close each card by the builder's one call (the guide's Derived/Test/ToyasCard.lean, 'card_holds'). Laid BY PROGRAM, IN A SANDBOX (cutbox-door.mjs). By AI agents, Wed Nov 11 2026. No macro, syntax, notation, axiom, sorry.
-/
import Derived.Test.YtalmjklljofhbaaDoorRows
import GoSem.ClaimSeven
namespace Go.Proofs.YtalmjklljofhbaaDoor
namespace Rows

/-- THE TIED CARD OF 'skipgraphlaw10.SpliceOrders'. -/
def spliceOrdersCard : Claim7 := { stood := { row := spliceOrdersRow, standIns := [], harness := (true, "517cf27bafc81ed1b48e12ec04a420ffb21250635aea1422c02147852fa62a79"), looks := false }, kinds := [], alts := [], laidByText := true, laidKinds := [.data, .data], laidTests := true, laidLooks := .later }
def SpliceOrdersCardSaid : Prop := Claim7.holds Tryd.pinned (.plain (OpenSpec.ofChange spliceOrdersSpec)) spliceOrdersCard

/-- THE TIED CARD OF 'skipgraphlaw10.SpliceUndoes'. -/
def spliceUndoesCard : Claim7 := { stood := { row := spliceUndoesRow, standIns := [], harness := (true, "517cf27bafc81ed1b48e12ec04a420ffb21250635aea1422c02147852fa62a79"), looks := false }, kinds := [], alts := [], laidByText := true, laidKinds := [.data, .data], laidTests := true, laidLooks := .later }
def SpliceUndoesCardSaid : Prop := Claim7.holds Tryd.pinned (.plain (OpenSpec.ofChange spliceUndoesSpec)) spliceUndoesCard

/-- THE TIED CARD OF 'skipgraphlaw10.SpliceBounds'. -/
def spliceBoundsCard : Claim7 := { stood := { row := spliceBoundsRow, standIns := [], harness := (true, "517cf27bafc81ed1b48e12ec04a420ffb21250635aea1422c02147852fa62a79"), looks := false }, kinds := [], alts := [], laidByText := true, laidKinds := [.data, .data], laidTests := true, laidLooks := .later }
def SpliceBoundsCardSaid : Prop := Claim7.holds Tryd.pinned (.plain (OpenSpec.ofChange spliceBoundsSpec)) spliceBoundsCard

/-- THE SECOND FORM's CARD OF 'skipgraphlaw10.SpliceOrders'. -/
def spliceOrdersUptoCard : Claim7 := { stood := { row := spliceOrdersUptoRow, standIns := [], harness := (true, "517cf27bafc81ed1b48e12ec04a420ffb21250635aea1422c02147852fa62a79"), looks := false }, kinds := [], alts := [], laidByText := true, laidKinds := [.data, .data], laidTests := true, laidLooks := .later }
def SpliceOrdersUptoCardSaid : Prop := Claim7.holds Tryd.pinned (.plain (OpenSpec.upto spliceOrdersSpec)) spliceOrdersUptoCard

/-- THE SECOND FORM's CARD OF 'skipgraphlaw10.SpliceUndoes'. -/
def spliceUndoesUptoCard : Claim7 := { stood := { row := spliceUndoesUptoRow, standIns := [], harness := (true, "517cf27bafc81ed1b48e12ec04a420ffb21250635aea1422c02147852fa62a79"), looks := false }, kinds := [], alts := [], laidByText := true, laidKinds := [.data, .data], laidTests := true, laidLooks := .later }
def SpliceUndoesUptoCardSaid : Prop := Claim7.holds Tryd.pinned (.plain (OpenSpec.upto spliceUndoesSpec)) spliceUndoesUptoCard

/-- THE SECOND FORM's CARD OF 'skipgraphlaw10.SpliceBounds'. -/
def spliceBoundsUptoCard : Claim7 := { stood := { row := spliceBoundsUptoRow, standIns := [], harness := (true, "517cf27bafc81ed1b48e12ec04a420ffb21250635aea1422c02147852fa62a79"), looks := false }, kinds := [], alts := [], laidByText := true, laidKinds := [.data, .data], laidTests := true, laidLooks := .later }
def SpliceBoundsUptoCardSaid : Prop := Claim7.holds Tryd.pinned (.plain (OpenSpec.upto spliceBoundsSpec)) spliceBoundsUptoCard
end Rows
end Go.Proofs.YtalmjklljofhbaaDoor
