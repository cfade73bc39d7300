/-
  DERIVED. GIVEN WITH THE SEED: THE CARDS: each row of YtkjlhcfocefhpaaDoorRows.lean that lists a variable, with what it lists TIED to the program's text (the seventh form; the later family's looks); each row that meets fmt, with fmt's text TOLD by the authors' own Lean function (tested against real Go, not proved from fmt's source: count such statements apart). THE CARD IS WHAT COUNTS. Prove the row's statement (the work); the ties are given (YtkjlhcfocefhpaaDoorTie.lean); close each card by the builder's one call (the guide's Derived/Test/ToyasCard.lean, 'card_holds'). Laid BY PROGRAM, IN A SANDBOX (cutbox-door.mjs). By AI agents, Wed Nov 11 2026. No macro, syntax, notation, axiom, sorry.
-/
import Derived.Test.YtkjlhcfocefhpaaDoorRows
import GoSem.ClaimSeven
namespace Go.Proofs.YtkjlhcfocefhpaaDoor
namespace Rows

/-- THE TIED CARD OF 'skipgraphlaw8.SearchRoutes'. -/
def searchRoutesCard : Claim7 := { stood := { row := searchRoutesRow, standIns := [], harness := (true, "825c4c20d94b3dba0cd20ac6aaa34ae2a3fd6d17ead9a1175ad9d628145c474d"), looks := false }, kinds := [], alts := [], laidByText := true, laidKinds := [.data, .data], laidTests := true, laidLooks := .later }
def SearchRoutesCardSaid : Prop := Claim7.holds Tryd.pinned (.plain (OpenSpec.ofChange searchRoutesSpec)) searchRoutesCard

/-- THE TIED CARD OF 'skipgraphlaw8.SearchRuns'. -/
def searchRunsCard : Claim7 := { stood := { row := searchRunsRow, standIns := [], harness := (true, "825c4c20d94b3dba0cd20ac6aaa34ae2a3fd6d17ead9a1175ad9d628145c474d"), looks := false }, kinds := [], alts := [], laidByText := true, laidKinds := [.data, .data], laidTests := true, laidLooks := .later }
def SearchRunsCardSaid : Prop := Claim7.holds Tryd.pinned (.plain (OpenSpec.ofChange searchRunsSpec)) searchRunsCard

/-- THE TIED CARD OF 'skipgraphlaw8.SearchApproaches'. -/
def searchApproachesCard : Claim7 := { stood := { row := searchApproachesRow, standIns := [], harness := (true, "825c4c20d94b3dba0cd20ac6aaa34ae2a3fd6d17ead9a1175ad9d628145c474d"), looks := false }, kinds := [], alts := [], laidByText := true, laidKinds := [.data, .data], laidTests := true, laidLooks := .later }
def SearchApproachesCardSaid : Prop := Claim7.holds Tryd.pinned (.plain (OpenSpec.ofChange searchApproachesSpec)) searchApproachesCard

/-- THE TIED CARD OF 'skipgraphlaw8.SearchAgrees'. -/
def searchAgreesCard : Claim7 := { stood := { row := searchAgreesRow, standIns := [], harness := (true, "825c4c20d94b3dba0cd20ac6aaa34ae2a3fd6d17ead9a1175ad9d628145c474d"), looks := false }, kinds := [], alts := [], laidByText := true, laidKinds := [.data, .data], laidTests := true, laidLooks := .later }
def SearchAgreesCardSaid : Prop := Claim7.holds Tryd.pinned (.plain (OpenSpec.ofChange searchAgreesSpec)) searchAgreesCard

/-- THE TIED CARD OF 'skipgraphlaw8.SearchBounds'. -/
def searchBoundsCard : Claim7 := { stood := { row := searchBoundsRow, standIns := [], harness := (true, "825c4c20d94b3dba0cd20ac6aaa34ae2a3fd6d17ead9a1175ad9d628145c474d"), looks := false }, kinds := [], alts := [], laidByText := true, laidKinds := [.data, .data], laidTests := true, laidLooks := .later }
def SearchBoundsCardSaid : Prop := Claim7.holds Tryd.pinned (.plain (OpenSpec.ofChange searchBoundsSpec)) searchBoundsCard

/-- THE TIED CARD OF 'skipgraphlaw14.RedundantContacts'. -/
def redundantContactsCard : Claim7 := { stood := { row := redundantContactsRow, standIns := [], harness := (true, "825c4c20d94b3dba0cd20ac6aaa34ae2a3fd6d17ead9a1175ad9d628145c474d"), looks := false }, kinds := [], alts := [], laidByText := true, laidKinds := [.data, .data], laidTests := true, laidLooks := .later }
def RedundantContactsCardSaid : Prop := Claim7.holds Tryd.pinned (.plain (OpenSpec.ofChange redundantContactsSpec)) redundantContactsCard

/-- THE TIED CARD OF 'skipgraphlaw14.RedundantRefs'. -/
def redundantRefsCard : Claim7 := { stood := { row := redundantRefsRow, standIns := [], harness := (true, "825c4c20d94b3dba0cd20ac6aaa34ae2a3fd6d17ead9a1175ad9d628145c474d"), looks := false }, kinds := [], alts := [], laidByText := true, laidKinds := [.data, .data], laidTests := true, laidLooks := .later }
def RedundantRefsCardSaid : Prop := Claim7.holds Tryd.pinned (.plain (OpenSpec.ofChange redundantRefsSpec)) redundantRefsCard

/-- THE TIED CARD OF 'skipgraphlaw14.RedundantWidth'. -/
def redundantWidthCard : Claim7 := { stood := { row := redundantWidthRow, standIns := [], harness := (true, "825c4c20d94b3dba0cd20ac6aaa34ae2a3fd6d17ead9a1175ad9d628145c474d"), looks := false }, kinds := [], alts := [], laidByText := true, laidKinds := [.data, .data], laidTests := true, laidLooks := .later }
def RedundantWidthCardSaid : Prop := Claim7.holds Tryd.pinned (.plain (OpenSpec.ofChange redundantWidthSpec)) redundantWidthCard

/-- THE TIED CARD OF 'skipgraphlaw8.SearchEnds'. -/
def searchEndsCard : Claim7 := { stood := { row := searchEndsRow, standIns := [], harness := (true, "825c4c20d94b3dba0cd20ac6aaa34ae2a3fd6d17ead9a1175ad9d628145c474d"), looks := false }, kinds := [], alts := [], laidByText := true, laidKinds := [.data, .data], laidTests := true, laidLooks := .later }
def SearchEndsCardSaid : Prop := Claim7.holds Tryd.pinned (.plain (OpenSpec.ofChange searchEndsSpec)) searchEndsCard

/-- THE TIED CARD OF 'skipgraphlaw14.RedundantSurvives'. -/
def redundantSurvivesCard : Claim7 := { stood := { row := redundantSurvivesRow, standIns := [], harness := (true, "825c4c20d94b3dba0cd20ac6aaa34ae2a3fd6d17ead9a1175ad9d628145c474d"), looks := false }, kinds := [], alts := [], laidByText := true, laidKinds := [.data, .data], laidTests := true, laidLooks := .later }
def RedundantSurvivesCardSaid : Prop := Claim7.holds Tryd.pinned (.plain (OpenSpec.ofChange redundantSurvivesSpec)) redundantSurvivesCard

/-- THE TIED CARD OF 'skipgraphlaw14.RedundantGaps'. -/
def redundantGapsCard : Claim7 := { stood := { row := redundantGapsRow, standIns := [], harness := (true, "825c4c20d94b3dba0cd20ac6aaa34ae2a3fd6d17ead9a1175ad9d628145c474d"), looks := false }, kinds := [], alts := [], laidByText := true, laidKinds := [.data, .data], laidTests := true, laidLooks := .later }
def RedundantGapsCardSaid : Prop := Claim7.holds Tryd.pinned (.plain (OpenSpec.ofChange redundantGapsSpec)) redundantGapsCard

/-- THE SECOND FORM's CARD OF 'skipgraphlaw8.SearchRoutes'. -/
def searchRoutesUptoCard : Claim7 := { stood := { row := searchRoutesUptoRow, standIns := [], harness := (true, "825c4c20d94b3dba0cd20ac6aaa34ae2a3fd6d17ead9a1175ad9d628145c474d"), looks := false }, kinds := [], alts := [], laidByText := true, laidKinds := [.data, .data], laidTests := true, laidLooks := .later }
def SearchRoutesUptoCardSaid : Prop := Claim7.holds Tryd.pinned (.plain (OpenSpec.upto searchRoutesSpec)) searchRoutesUptoCard

/-- THE SECOND FORM's CARD OF 'skipgraphlaw8.SearchRuns'. -/
def searchRunsUptoCard : Claim7 := { stood := { row := searchRunsUptoRow, standIns := [], harness := (true, "825c4c20d94b3dba0cd20ac6aaa34ae2a3fd6d17ead9a1175ad9d628145c474d"), looks := false }, kinds := [], alts := [], laidByText := true, laidKinds := [.data, .data], laidTests := true, laidLooks := .later }
def SearchRunsUptoCardSaid : Prop := Claim7.holds Tryd.pinned (.plain (OpenSpec.upto searchRunsSpec)) searchRunsUptoCard

/-- THE SECOND FORM's CARD OF 'skipgraphlaw8.SearchApproaches'. -/
def searchApproachesUptoCard : Claim7 := { stood := { row := searchApproachesUptoRow, standIns := [], harness := (true, "825c4c20d94b3dba0cd20ac6aaa34ae2a3fd6d17ead9a1175ad9d628145c474d"), looks := false }, kinds := [], alts := [], laidByText := true, laidKinds := [.data, .data], laidTests := true, laidLooks := .later }
def SearchApproachesUptoCardSaid : Prop := Claim7.holds Tryd.pinned (.plain (OpenSpec.upto searchApproachesSpec)) searchApproachesUptoCard

/-- THE SECOND FORM's CARD OF 'skipgraphlaw8.SearchAgrees'. -/
def searchAgreesUptoCard : Claim7 := { stood := { row := searchAgreesUptoRow, standIns := [], harness := (true, "825c4c20d94b3dba0cd20ac6aaa34ae2a3fd6d17ead9a1175ad9d628145c474d"), looks := false }, kinds := [], alts := [], laidByText := true, laidKinds := [.data, .data], laidTests := true, laidLooks := .later }
def SearchAgreesUptoCardSaid : Prop := Claim7.holds Tryd.pinned (.plain (OpenSpec.upto searchAgreesSpec)) searchAgreesUptoCard

/-- THE SECOND FORM's CARD OF 'skipgraphlaw8.SearchBounds'. -/
def searchBoundsUptoCard : Claim7 := { stood := { row := searchBoundsUptoRow, standIns := [], harness := (true, "825c4c20d94b3dba0cd20ac6aaa34ae2a3fd6d17ead9a1175ad9d628145c474d"), looks := false }, kinds := [], alts := [], laidByText := true, laidKinds := [.data, .data], laidTests := true, laidLooks := .later }
def SearchBoundsUptoCardSaid : Prop := Claim7.holds Tryd.pinned (.plain (OpenSpec.upto searchBoundsSpec)) searchBoundsUptoCard

/-- THE SECOND FORM's CARD OF 'skipgraphlaw14.RedundantContacts'. -/
def redundantContactsUptoCard : Claim7 := { stood := { row := redundantContactsUptoRow, standIns := [], harness := (true, "825c4c20d94b3dba0cd20ac6aaa34ae2a3fd6d17ead9a1175ad9d628145c474d"), looks := false }, kinds := [], alts := [], laidByText := true, laidKinds := [.data, .data], laidTests := true, laidLooks := .later }
def RedundantContactsUptoCardSaid : Prop := Claim7.holds Tryd.pinned (.plain (OpenSpec.upto redundantContactsSpec)) redundantContactsUptoCard

/-- THE SECOND FORM's CARD OF 'skipgraphlaw14.RedundantRefs'. -/
def redundantRefsUptoCard : Claim7 := { stood := { row := redundantRefsUptoRow, standIns := [], harness := (true, "825c4c20d94b3dba0cd20ac6aaa34ae2a3fd6d17ead9a1175ad9d628145c474d"), looks := false }, kinds := [], alts := [], laidByText := true, laidKinds := [.data, .data], laidTests := true, laidLooks := .later }
def RedundantRefsUptoCardSaid : Prop := Claim7.holds Tryd.pinned (.plain (OpenSpec.upto redundantRefsSpec)) redundantRefsUptoCard

/-- THE SECOND FORM's CARD OF 'skipgraphlaw14.RedundantWidth'. -/
def redundantWidthUptoCard : Claim7 := { stood := { row := redundantWidthUptoRow, standIns := [], harness := (true, "825c4c20d94b3dba0cd20ac6aaa34ae2a3fd6d17ead9a1175ad9d628145c474d"), looks := false }, kinds := [], alts := [], laidByText := true, laidKinds := [.data, .data], laidTests := true, laidLooks := .later }
def RedundantWidthUptoCardSaid : Prop := Claim7.holds Tryd.pinned (.plain (OpenSpec.upto redundantWidthSpec)) redundantWidthUptoCard

/-- THE SECOND FORM's CARD OF 'skipgraphlaw8.SearchEnds'. -/
def searchEndsUptoCard : Claim7 := { stood := { row := searchEndsUptoRow, standIns := [], harness := (true, "825c4c20d94b3dba0cd20ac6aaa34ae2a3fd6d17ead9a1175ad9d628145c474d"), looks := false }, kinds := [], alts := [], laidByText := true, laidKinds := [.data, .data], laidTests := true, laidLooks := .later }
def SearchEndsUptoCardSaid : Prop := Claim7.holds Tryd.pinned (.plain (OpenSpec.upto searchEndsSpec)) searchEndsUptoCard

/-- THE SECOND FORM's CARD OF 'skipgraphlaw14.RedundantSurvives'. -/
def redundantSurvivesUptoCard : Claim7 := { stood := { row := redundantSurvivesUptoRow, standIns := [], harness := (true, "825c4c20d94b3dba0cd20ac6aaa34ae2a3fd6d17ead9a1175ad9d628145c474d"), looks := false }, kinds := [], alts := [], laidByText := true, laidKinds := [.data, .data], laidTests := true, laidLooks := .later }
def RedundantSurvivesUptoCardSaid : Prop := Claim7.holds Tryd.pinned (.plain (OpenSpec.upto redundantSurvivesSpec)) redundantSurvivesUptoCard

/-- THE SECOND FORM's CARD OF 'skipgraphlaw14.RedundantGaps'. -/
def redundantGapsUptoCard : Claim7 := { stood := { row := redundantGapsUptoRow, standIns := [], harness := (true, "825c4c20d94b3dba0cd20ac6aaa34ae2a3fd6d17ead9a1175ad9d628145c474d"), looks := false }, kinds := [], alts := [], laidByText := true, laidKinds := [.data, .data], laidTests := true, laidLooks := .later }
def RedundantGapsUptoCardSaid : Prop := Claim7.holds Tryd.pinned (.plain (OpenSpec.upto redundantGapsSpec)) redundantGapsUptoCard
end Rows
end Go.Proofs.YtkjlhcfocefhpaaDoor
