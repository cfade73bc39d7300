/-
  DERIVED. GIVEN WITH THE SEED: THE CARDS: each row of YtbnbjiddffihoaaDoorRows.lean that lists a variable, with what it lists TIED to the program's text (the seventh form; the later family's looks); each row that meets fmt, with fmt's text TOLD by the authors' own Lean function (tested against real Go, not proved from fmt's source: count such statements apart). THE CARD IS WHAT COUNTS. Prove the row's statement (the work); the ties are given (YtbnbjiddffihoaaDoorTie.lean); close each card by the builder's one call (the guide's Derived/Test/ToyasCard.lean, 'card_holds'). Laid BY PROGRAM, IN A SANDBOX (cutbox-door.mjs). By AI agents, Wed Nov 11 2026. No macro, syntax, notation, axiom, sorry.
-/
import Derived.Test.YtbnbjiddffihoaaDoorRows
import GoSem.ClaimSeven
namespace Go.Proofs.YtbnbjiddffihoaaDoor
namespace Rows

/-- THE TIED CARD OF 'skipgraphlaw14.RedundantContacts'. -/
def redundantContactsCard : Claim7 := { stood := { row := redundantContactsRow, standIns := [], harness := (true, "537bcba351ee7c6ecaa5297babacf7821561b6c8c2db16f64a63e42404e90020"), looks := false }, kinds := [], alts := [], laidByText := true, laidKinds := [.data, .data], laidTests := true, laidLooks := .later }
def RedundantContactsCardSaid : Prop := Claim7.holds Tryd.pinned (.plain (OpenSpec.ofChange redundantContactsSpec)) redundantContactsCard

/-- THE TIED CARD OF 'skipgraphlaw14.RedundantRefs'. -/
def redundantRefsCard : Claim7 := { stood := { row := redundantRefsRow, standIns := [], harness := (true, "537bcba351ee7c6ecaa5297babacf7821561b6c8c2db16f64a63e42404e90020"), looks := false }, kinds := [], alts := [], laidByText := true, laidKinds := [.data, .data], laidTests := true, laidLooks := .later }
def RedundantRefsCardSaid : Prop := Claim7.holds Tryd.pinned (.plain (OpenSpec.ofChange redundantRefsSpec)) redundantRefsCard

/-- THE TIED CARD OF 'skipgraphlaw16.LinearSorts'. -/
def linearSortsCard : Claim7 := { stood := { row := linearSortsRow, standIns := [], harness := (true, "537bcba351ee7c6ecaa5297babacf7821561b6c8c2db16f64a63e42404e90020"), looks := false }, kinds := [], alts := [], laidByText := true, laidKinds := [.data, .data], laidTests := true, laidLooks := .later }
def LinearSortsCardSaid : Prop := Claim7.holds Tryd.pinned (.plain (OpenSpec.ofChange linearSortsSpec)) linearSortsCard

/-- THE TIED CARD OF 'skipgraphlaw16.LinearChains'. -/
def linearChainsCard : Claim7 := { stood := { row := linearChainsRow, standIns := [], harness := (true, "537bcba351ee7c6ecaa5297babacf7821561b6c8c2db16f64a63e42404e90020"), looks := false }, kinds := [], alts := [], laidByText := true, laidKinds := [.data, .data], laidTests := true, laidLooks := .later }
def LinearChainsCardSaid : Prop := Claim7.holds Tryd.pinned (.plain (OpenSpec.ofChange linearChainsSpec)) linearChainsCard

/-- THE TIED CARD OF 'skipgraphlaw16.LinearMutual'. -/
def linearMutualCard : Claim7 := { stood := { row := linearMutualRow, standIns := [], harness := (true, "537bcba351ee7c6ecaa5297babacf7821561b6c8c2db16f64a63e42404e90020"), looks := false }, kinds := [], alts := [], laidByText := true, laidKinds := [.data, .data], laidTests := true, laidLooks := .later }
def LinearMutualCardSaid : Prop := Claim7.holds Tryd.pinned (.plain (OpenSpec.ofChange linearMutualSpec)) linearMutualCard

/-- THE TIED CARD OF 'skipgraphlaw16.LinearGarbage'. -/
def linearGarbageCard : Claim7 := { stood := { row := linearGarbageRow, standIns := [], harness := (true, "537bcba351ee7c6ecaa5297babacf7821561b6c8c2db16f64a63e42404e90020"), looks := false }, kinds := [], alts := [], laidByText := true, laidKinds := [.data, .data], laidTests := true, laidLooks := .later }
def LinearGarbageCardSaid : Prop := Claim7.holds Tryd.pinned (.plain (OpenSpec.ofChange linearGarbageSpec)) linearGarbageCard

/-- THE TIED CARD OF 'skipgraphlaw16.LinearConnects'. -/
def linearConnectsCard : Claim7 := { stood := { row := linearConnectsRow, standIns := [], harness := (true, "537bcba351ee7c6ecaa5297babacf7821561b6c8c2db16f64a63e42404e90020"), looks := false }, kinds := [], alts := [], laidByText := true, laidKinds := [.data, .data], laidTests := true, laidLooks := .later }
def LinearConnectsCardSaid : Prop := Claim7.holds Tryd.pinned (.plain (OpenSpec.ofChange linearConnectsSpec)) linearConnectsCard

/-- THE TIED CARD OF 'skipgraphlaw17.BridgeFixed'. -/
def bridgeFixedCard : Claim7 := { stood := { row := bridgeFixedRow, standIns := [], harness := (true, "537bcba351ee7c6ecaa5297babacf7821561b6c8c2db16f64a63e42404e90020"), looks := false }, kinds := [], alts := [], laidByText := true, laidKinds := [.data, .data], laidTests := true, laidLooks := .later }
def BridgeFixedCardSaid : Prop := Claim7.holds Tryd.pinned (.plain (OpenSpec.ofChange bridgeFixedSpec)) bridgeFixedCard

/-- THE SECOND FORM's CARD OF 'skipgraphlaw14.RedundantContacts'. -/
def redundantContactsUptoCard : Claim7 := { stood := { row := redundantContactsUptoRow, standIns := [], harness := (true, "537bcba351ee7c6ecaa5297babacf7821561b6c8c2db16f64a63e42404e90020"), looks := false }, kinds := [], alts := [], laidByText := true, laidKinds := [.data, .data], laidTests := true, laidLooks := .later }
def RedundantContactsUptoCardSaid : Prop := Claim7.holds Tryd.pinned (.plain (OpenSpec.upto redundantContactsSpec)) redundantContactsUptoCard

/-- THE SECOND FORM's CARD OF 'skipgraphlaw14.RedundantRefs'. -/
def redundantRefsUptoCard : Claim7 := { stood := { row := redundantRefsUptoRow, standIns := [], harness := (true, "537bcba351ee7c6ecaa5297babacf7821561b6c8c2db16f64a63e42404e90020"), looks := false }, kinds := [], alts := [], laidByText := true, laidKinds := [.data, .data], laidTests := true, laidLooks := .later }
def RedundantRefsUptoCardSaid : Prop := Claim7.holds Tryd.pinned (.plain (OpenSpec.upto redundantRefsSpec)) redundantRefsUptoCard

/-- THE SECOND FORM's CARD OF 'skipgraphlaw16.LinearSorts'. -/
def linearSortsUptoCard : Claim7 := { stood := { row := linearSortsUptoRow, standIns := [], harness := (true, "537bcba351ee7c6ecaa5297babacf7821561b6c8c2db16f64a63e42404e90020"), looks := false }, kinds := [], alts := [], laidByText := true, laidKinds := [.data, .data], laidTests := true, laidLooks := .later }
def LinearSortsUptoCardSaid : Prop := Claim7.holds Tryd.pinned (.plain (OpenSpec.upto linearSortsSpec)) linearSortsUptoCard

/-- THE SECOND FORM's CARD OF 'skipgraphlaw16.LinearChains'. -/
def linearChainsUptoCard : Claim7 := { stood := { row := linearChainsUptoRow, standIns := [], harness := (true, "537bcba351ee7c6ecaa5297babacf7821561b6c8c2db16f64a63e42404e90020"), looks := false }, kinds := [], alts := [], laidByText := true, laidKinds := [.data, .data], laidTests := true, laidLooks := .later }
def LinearChainsUptoCardSaid : Prop := Claim7.holds Tryd.pinned (.plain (OpenSpec.upto linearChainsSpec)) linearChainsUptoCard

/-- THE SECOND FORM's CARD OF 'skipgraphlaw16.LinearMutual'. -/
def linearMutualUptoCard : Claim7 := { stood := { row := linearMutualUptoRow, standIns := [], harness := (true, "537bcba351ee7c6ecaa5297babacf7821561b6c8c2db16f64a63e42404e90020"), looks := false }, kinds := [], alts := [], laidByText := true, laidKinds := [.data, .data], laidTests := true, laidLooks := .later }
def LinearMutualUptoCardSaid : Prop := Claim7.holds Tryd.pinned (.plain (OpenSpec.upto linearMutualSpec)) linearMutualUptoCard

/-- THE SECOND FORM's CARD OF 'skipgraphlaw16.LinearGarbage'. -/
def linearGarbageUptoCard : Claim7 := { stood := { row := linearGarbageUptoRow, standIns := [], harness := (true, "537bcba351ee7c6ecaa5297babacf7821561b6c8c2db16f64a63e42404e90020"), looks := false }, kinds := [], alts := [], laidByText := true, laidKinds := [.data, .data], laidTests := true, laidLooks := .later }
def LinearGarbageUptoCardSaid : Prop := Claim7.holds Tryd.pinned (.plain (OpenSpec.upto linearGarbageSpec)) linearGarbageUptoCard

/-- THE SECOND FORM's CARD OF 'skipgraphlaw16.LinearConnects'. -/
def linearConnectsUptoCard : Claim7 := { stood := { row := linearConnectsUptoRow, standIns := [], harness := (true, "537bcba351ee7c6ecaa5297babacf7821561b6c8c2db16f64a63e42404e90020"), looks := false }, kinds := [], alts := [], laidByText := true, laidKinds := [.data, .data], laidTests := true, laidLooks := .later }
def LinearConnectsUptoCardSaid : Prop := Claim7.holds Tryd.pinned (.plain (OpenSpec.upto linearConnectsSpec)) linearConnectsUptoCard

/-- THE SECOND FORM's CARD OF 'skipgraphlaw17.BridgeFixed'. -/
def bridgeFixedUptoCard : Claim7 := { stood := { row := bridgeFixedUptoRow, standIns := [], harness := (true, "537bcba351ee7c6ecaa5297babacf7821561b6c8c2db16f64a63e42404e90020"), looks := false }, kinds := [], alts := [], laidByText := true, laidKinds := [.data, .data], laidTests := true, laidLooks := .later }
def BridgeFixedUptoCardSaid : Prop := Claim7.holds Tryd.pinned (.plain (OpenSpec.upto bridgeFixedSpec)) bridgeFixedUptoCard
end Rows
end Go.Proofs.YtbnbjiddffihoaaDoor
