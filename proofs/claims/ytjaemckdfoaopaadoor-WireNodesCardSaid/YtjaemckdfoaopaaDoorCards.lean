/-
  DERIVED. GIVEN WITH THE SEED: THE CARDS: each row of YtjaemckdfoaopaaDoorRows.lean that lists a variable, with what it lists TIED to the program's text (the seventh form; the later family's looks); each row that meets fmt, with fmt's text TOLD by the authors' own Lean function (tested against real Go, not proved from fmt's source: count such statements apart). THE CARD IS WHAT COUNTS. Prove the row's statement (the work); the ties are given (YtjaemckdfoaopaaDoorTie.lean); close each card by the builder's one call (the guide's Derived/Test/ToyasCard.lean, 'card_holds'). Laid BY PROGRAM, IN A SANDBOX (cutbox-door.mjs). By AI agents, Wed Nov 11 2026. No macro, syntax, notation, axiom, sorry.
-/
import Derived.Test.YtjaemckdfoaopaaDoorRows
import GoSem.ClaimSeven
namespace Go.Proofs.YtjaemckdfoaopaaDoor
namespace Rows

/-- THE TIED CARD OF 'skipgraphlaw3.WireStrings'. -/
def wireStringsCard : Claim7 := { stood := { row := wireStringsRow, standIns := [], harness := (true, "a112417fd9373c6c44a8b957c20518ce724ff9132b651187ca5f82ab7f2fa11a"), looks := false }, kinds := [], alts := [], laidByText := true, laidKinds := [.data], laidTests := true, laidLooks := .later }
def WireStringsCardSaid : Prop := Claim7.holds Tryd.pinned (.plain (OpenSpec.ofChange wireStringsSpec)) wireStringsCard

/-- THE TIED CARD OF 'skipgraphlaw3.WirePrefixes'. -/
def wirePrefixesCard : Claim7 := { stood := { row := wirePrefixesRow, standIns := [], harness := (true, "a112417fd9373c6c44a8b957c20518ce724ff9132b651187ca5f82ab7f2fa11a"), looks := false }, kinds := [], alts := [], laidByText := true, laidKinds := [.data], laidTests := true, laidLooks := .later }
def WirePrefixesCardSaid : Prop := Claim7.holds Tryd.pinned (.plain (OpenSpec.ofChange wirePrefixesSpec)) wirePrefixesCard

/-- THE TIED CARD OF 'skipgraphlaw3.WireNodes'. -/
def wireNodesCard : Claim7 := { stood := { row := wireNodesRow, standIns := [], harness := (true, "a112417fd9373c6c44a8b957c20518ce724ff9132b651187ca5f82ab7f2fa11a"), looks := false }, kinds := [], alts := [], laidByText := true, laidKinds := [.data], laidTests := true, laidLooks := .later }
def WireNodesCardSaid : Prop := Claim7.holds Tryd.pinned (.plain (OpenSpec.ofChange wireNodesSpec)) wireNodesCard

/-- THE SECOND FORM's CARD OF 'skipgraphlaw3.WireStrings'. -/
def wireStringsUptoCard : Claim7 := { stood := { row := wireStringsUptoRow, standIns := [], harness := (true, "a112417fd9373c6c44a8b957c20518ce724ff9132b651187ca5f82ab7f2fa11a"), looks := false }, kinds := [], alts := [], laidByText := true, laidKinds := [.data], laidTests := true, laidLooks := .later }
def WireStringsUptoCardSaid : Prop := Claim7.holds Tryd.pinned (.plain (OpenSpec.upto wireStringsSpec)) wireStringsUptoCard

/-- THE SECOND FORM's CARD OF 'skipgraphlaw3.WirePrefixes'. -/
def wirePrefixesUptoCard : Claim7 := { stood := { row := wirePrefixesUptoRow, standIns := [], harness := (true, "a112417fd9373c6c44a8b957c20518ce724ff9132b651187ca5f82ab7f2fa11a"), looks := false }, kinds := [], alts := [], laidByText := true, laidKinds := [.data], laidTests := true, laidLooks := .later }
def WirePrefixesUptoCardSaid : Prop := Claim7.holds Tryd.pinned (.plain (OpenSpec.upto wirePrefixesSpec)) wirePrefixesUptoCard

/-- THE SECOND FORM's CARD OF 'skipgraphlaw3.WireNodes'. -/
def wireNodesUptoCard : Claim7 := { stood := { row := wireNodesUptoRow, standIns := [], harness := (true, "a112417fd9373c6c44a8b957c20518ce724ff9132b651187ca5f82ab7f2fa11a"), looks := false }, kinds := [], alts := [], laidByText := true, laidKinds := [.data], laidTests := true, laidLooks := .later }
def WireNodesUptoCardSaid : Prop := Claim7.holds Tryd.pinned (.plain (OpenSpec.upto wireNodesSpec)) wireNodesUptoCard
end Rows
end Go.Proofs.YtjaemckdfoaopaaDoor
