/-
  DERIVED. GIVEN WITH THE SEED: THE CARDS: each row of YtihpaonhonhfoaaDoorRows.lean that lists a variable, with what it lists TIED to the program's text (the seventh form; the later family's looks); each row that meets fmt, with fmt's text TOLD by the authors' own Lean function (tested against real Go, not proved from fmt's source: count such statements apart). THE CARD IS WHAT COUNTS. Prove the row's statement (the work); the ties are given (YtihpaonhonhfoaaDoorTie.lean); close each card by the builder's one call (the guide's Derived/Test/ToyasCard.lean, 'card_holds'). Laid BY PROGRAM, IN A SANDBOX (cutbox-door.mjs). By AI agents, Wed Nov 11 2026. No macro, syntax, notation, axiom, sorry.
-/
import Derived.Test.YtihpaonhonhfoaaDoorRows
import GoSem.ClaimSeven
namespace Go.Proofs.YtihpaonhonhfoaaDoor
namespace Rows

/-- THE TIED CARD OF 'skipgraphlaw6.IdealBuilds'. -/
def idealBuildsCard : Claim7 := { stood := { row := idealBuildsRow, standIns := [], harness := (true, "e1df6b8c7a9f2dde5709fc3dc52eee6f4d1df17faed4261507bdc09cf750f39d"), looks := false }, kinds := [], alts := [], laidByText := true, laidKinds := [.data, .data], laidTests := true, laidLooks := .later }
def IdealBuildsCardSaid : Prop := Claim7.holds Tryd.pinned (.plain (OpenSpec.ofChange idealBuildsSpec)) idealBuildsCard

/-- THE TIED CARD OF 'skipgraphlaw6.IdealMutual'. -/
def idealMutualCard : Claim7 := { stood := { row := idealMutualRow, standIns := [], harness := (true, "e1df6b8c7a9f2dde5709fc3dc52eee6f4d1df17faed4261507bdc09cf750f39d"), looks := false }, kinds := [], alts := [], laidByText := true, laidKinds := [.data, .data], laidTests := true, laidLooks := .later }
def IdealMutualCardSaid : Prop := Claim7.holds Tryd.pinned (.plain (OpenSpec.ofChange idealMutualSpec)) idealMutualCard

/-- THE TIED CARD OF 'skipgraphlaw6.IdealNested'. -/
def idealNestedCard : Claim7 := { stood := { row := idealNestedRow, standIns := [], harness := (true, "e1df6b8c7a9f2dde5709fc3dc52eee6f4d1df17faed4261507bdc09cf750f39d"), looks := false }, kinds := [], alts := [], laidByText := true, laidKinds := [.data, .data], laidTests := true, laidLooks := .later }
def IdealNestedCardSaid : Prop := Claim7.holds Tryd.pinned (.plain (OpenSpec.ofChange idealNestedSpec)) idealNestedCard

/-- THE TIED CARD OF 'skipgraphlaw6.IdealOrderless'. -/
def idealOrderlessCard : Claim7 := { stood := { row := idealOrderlessRow, standIns := [], harness := (true, "e1df6b8c7a9f2dde5709fc3dc52eee6f4d1df17faed4261507bdc09cf750f39d"), looks := false }, kinds := [], alts := [], laidByText := true, laidKinds := [.data, .data], laidTests := true, laidLooks := .later }
def IdealOrderlessCardSaid : Prop := Claim7.holds Tryd.pinned (.plain (OpenSpec.ofChange idealOrderlessSpec)) idealOrderlessCard

/-- THE TIED CARD OF 'skipgraphlaw6.IdealCompares'. -/
def idealComparesCard : Claim7 := { stood := { row := idealComparesRow, standIns := [], harness := (true, "e1df6b8c7a9f2dde5709fc3dc52eee6f4d1df17faed4261507bdc09cf750f39d"), looks := false }, kinds := [], alts := [], laidByText := true, laidKinds := [.data, .data], laidTests := true, laidLooks := .later }
def IdealComparesCardSaid : Prop := Claim7.holds Tryd.pinned (.plain (OpenSpec.ofChange idealComparesSpec)) idealComparesCard

/-- THE TIED CARD OF 'skipgraphlaw6.IdealLocal'. -/
def idealLocalCard : Claim7 := { stood := { row := idealLocalRow, standIns := [], harness := (true, "e1df6b8c7a9f2dde5709fc3dc52eee6f4d1df17faed4261507bdc09cf750f39d"), looks := false }, kinds := [], alts := [], laidByText := true, laidKinds := [.data, .data], laidTests := true, laidLooks := .later }
def IdealLocalCardSaid : Prop := Claim7.holds Tryd.pinned (.plain (OpenSpec.ofChange idealLocalSpec)) idealLocalCard

/-- THE SECOND FORM's CARD OF 'skipgraphlaw6.IdealBuilds'. -/
def idealBuildsUptoCard : Claim7 := { stood := { row := idealBuildsUptoRow, standIns := [], harness := (true, "e1df6b8c7a9f2dde5709fc3dc52eee6f4d1df17faed4261507bdc09cf750f39d"), looks := false }, kinds := [], alts := [], laidByText := true, laidKinds := [.data, .data], laidTests := true, laidLooks := .later }
def IdealBuildsUptoCardSaid : Prop := Claim7.holds Tryd.pinned (.plain (OpenSpec.upto idealBuildsSpec)) idealBuildsUptoCard

/-- THE SECOND FORM's CARD OF 'skipgraphlaw6.IdealMutual'. -/
def idealMutualUptoCard : Claim7 := { stood := { row := idealMutualUptoRow, standIns := [], harness := (true, "e1df6b8c7a9f2dde5709fc3dc52eee6f4d1df17faed4261507bdc09cf750f39d"), looks := false }, kinds := [], alts := [], laidByText := true, laidKinds := [.data, .data], laidTests := true, laidLooks := .later }
def IdealMutualUptoCardSaid : Prop := Claim7.holds Tryd.pinned (.plain (OpenSpec.upto idealMutualSpec)) idealMutualUptoCard

/-- THE SECOND FORM's CARD OF 'skipgraphlaw6.IdealNested'. -/
def idealNestedUptoCard : Claim7 := { stood := { row := idealNestedUptoRow, standIns := [], harness := (true, "e1df6b8c7a9f2dde5709fc3dc52eee6f4d1df17faed4261507bdc09cf750f39d"), looks := false }, kinds := [], alts := [], laidByText := true, laidKinds := [.data, .data], laidTests := true, laidLooks := .later }
def IdealNestedUptoCardSaid : Prop := Claim7.holds Tryd.pinned (.plain (OpenSpec.upto idealNestedSpec)) idealNestedUptoCard

/-- THE SECOND FORM's CARD OF 'skipgraphlaw6.IdealOrderless'. -/
def idealOrderlessUptoCard : Claim7 := { stood := { row := idealOrderlessUptoRow, standIns := [], harness := (true, "e1df6b8c7a9f2dde5709fc3dc52eee6f4d1df17faed4261507bdc09cf750f39d"), looks := false }, kinds := [], alts := [], laidByText := true, laidKinds := [.data, .data], laidTests := true, laidLooks := .later }
def IdealOrderlessUptoCardSaid : Prop := Claim7.holds Tryd.pinned (.plain (OpenSpec.upto idealOrderlessSpec)) idealOrderlessUptoCard

/-- THE SECOND FORM's CARD OF 'skipgraphlaw6.IdealCompares'. -/
def idealComparesUptoCard : Claim7 := { stood := { row := idealComparesUptoRow, standIns := [], harness := (true, "e1df6b8c7a9f2dde5709fc3dc52eee6f4d1df17faed4261507bdc09cf750f39d"), looks := false }, kinds := [], alts := [], laidByText := true, laidKinds := [.data, .data], laidTests := true, laidLooks := .later }
def IdealComparesUptoCardSaid : Prop := Claim7.holds Tryd.pinned (.plain (OpenSpec.upto idealComparesSpec)) idealComparesUptoCard

/-- THE SECOND FORM's CARD OF 'skipgraphlaw6.IdealLocal'. -/
def idealLocalUptoCard : Claim7 := { stood := { row := idealLocalUptoRow, standIns := [], harness := (true, "e1df6b8c7a9f2dde5709fc3dc52eee6f4d1df17faed4261507bdc09cf750f39d"), looks := false }, kinds := [], alts := [], laidByText := true, laidKinds := [.data, .data], laidTests := true, laidLooks := .later }
def IdealLocalUptoCardSaid : Prop := Claim7.holds Tryd.pinned (.plain (OpenSpec.upto idealLocalSpec)) idealLocalUptoCard
end Rows
end Go.Proofs.YtihpaonhonhfoaaDoor
