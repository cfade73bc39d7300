/-
  DERIVED. GIVEN WITH THE SEED: THE CARDS: each row of YtenobfplmifomaaDoorRows.lean that lists a variable, with what it lists TIED to the program's text (the seventh form; the later family's looks); each row that meets fmt, with fmt's text TOLD by the authors' own Lean function (tested against real Go, not proved from fmt's source: count such statements apart). THE CARD IS WHAT COUNTS. Prove the row's statement (the work); the ties are given (YtenobfplmifomaaDoorTie.lean); close each card by the builder's one call (the guide's Derived/Test/ToyasCard.lean, 'card_holds'). Laid BY PROGRAM, IN A SANDBOX (cutbox-door.mjs). By AI agents, Wed Nov 11 2026. No macro, syntax, notation, axiom, sorry.
-/
import Derived.Test.YtenobfplmifomaaDoorRows
import GoSem.ClaimSeven
namespace Go.Proofs.YtenobfplmifomaaDoor
namespace Rows

/-- THE TIED CARD OF 'skipgraphlaw4.WordBits'. -/
def wordBitsCard : Claim7 := { stood := { row := wordBitsRow, standIns := [], harness := (true, "b291bb50390cb1b8ab41f31dc57a7a0e89e7a8eed95b203097f8b61eb6c082c8"), looks := false }, kinds := [], alts := [], laidByText := true, laidKinds := [.data], laidTests := true, laidLooks := .later }
def WordBitsCardSaid : Prop := Claim7.holds Tryd.pinned (.plain (OpenSpec.ofChange wordBitsSpec)) wordBitsCard

/-- THE TIED CARD OF 'skipgraphlaw4.WordDraws'. -/
def wordDrawsCard : Claim7 := { stood := { row := wordDrawsRow, standIns := [], harness := (true, "b291bb50390cb1b8ab41f31dc57a7a0e89e7a8eed95b203097f8b61eb6c082c8"), looks := false }, kinds := [], alts := [], laidByText := true, laidKinds := [.data], laidTests := true, laidLooks := .later }
def WordDrawsCardSaid : Prop := Claim7.holds Tryd.pinned (.plain (OpenSpec.ofChange wordDrawsSpec)) wordDrawsCard

/-- THE TIED CARD OF 'skipgraphlaw4.WordEquivalence'. -/
def wordEquivalenceCard : Claim7 := { stood := { row := wordEquivalenceRow, standIns := [], harness := (true, "b291bb50390cb1b8ab41f31dc57a7a0e89e7a8eed95b203097f8b61eb6c082c8"), looks := false }, kinds := [], alts := [], laidByText := true, laidKinds := [.data], laidTests := true, laidLooks := .later }
def WordEquivalenceCardSaid : Prop := Claim7.holds Tryd.pinned (.plain (OpenSpec.ofChange wordEquivalenceSpec)) wordEquivalenceCard

/-- THE TIED CARD OF 'skipgraphlaw4.WordGroups'. -/
def wordGroupsCard : Claim7 := { stood := { row := wordGroupsRow, standIns := [], harness := (true, "b291bb50390cb1b8ab41f31dc57a7a0e89e7a8eed95b203097f8b61eb6c082c8"), looks := false }, kinds := [], alts := [], laidByText := true, laidKinds := [.data, .data], laidTests := true, laidLooks := .later }
def WordGroupsCardSaid : Prop := Claim7.holds Tryd.pinned (.plain (OpenSpec.ofChange wordGroupsSpec)) wordGroupsCard

/-- THE TIED CARD OF 'skipgraphlaw4.WordSplits'. -/
def wordSplitsCard : Claim7 := { stood := { row := wordSplitsRow, standIns := [], harness := (true, "b291bb50390cb1b8ab41f31dc57a7a0e89e7a8eed95b203097f8b61eb6c082c8"), looks := false }, kinds := [], alts := [], laidByText := true, laidKinds := [.data, .data], laidTests := true, laidLooks := .later }
def WordSplitsCardSaid : Prop := Claim7.holds Tryd.pinned (.plain (OpenSpec.ofChange wordSplitsSpec)) wordSplitsCard

/-- THE SECOND FORM's CARD OF 'skipgraphlaw4.WordBits'. -/
def wordBitsUptoCard : Claim7 := { stood := { row := wordBitsUptoRow, standIns := [], harness := (true, "b291bb50390cb1b8ab41f31dc57a7a0e89e7a8eed95b203097f8b61eb6c082c8"), looks := false }, kinds := [], alts := [], laidByText := true, laidKinds := [.data], laidTests := true, laidLooks := .later }
def WordBitsUptoCardSaid : Prop := Claim7.holds Tryd.pinned (.plain (OpenSpec.upto wordBitsSpec)) wordBitsUptoCard

/-- THE SECOND FORM's CARD OF 'skipgraphlaw4.WordDraws'. -/
def wordDrawsUptoCard : Claim7 := { stood := { row := wordDrawsUptoRow, standIns := [], harness := (true, "b291bb50390cb1b8ab41f31dc57a7a0e89e7a8eed95b203097f8b61eb6c082c8"), looks := false }, kinds := [], alts := [], laidByText := true, laidKinds := [.data], laidTests := true, laidLooks := .later }
def WordDrawsUptoCardSaid : Prop := Claim7.holds Tryd.pinned (.plain (OpenSpec.upto wordDrawsSpec)) wordDrawsUptoCard

/-- THE SECOND FORM's CARD OF 'skipgraphlaw4.WordEquivalence'. -/
def wordEquivalenceUptoCard : Claim7 := { stood := { row := wordEquivalenceUptoRow, standIns := [], harness := (true, "b291bb50390cb1b8ab41f31dc57a7a0e89e7a8eed95b203097f8b61eb6c082c8"), looks := false }, kinds := [], alts := [], laidByText := true, laidKinds := [.data], laidTests := true, laidLooks := .later }
def WordEquivalenceUptoCardSaid : Prop := Claim7.holds Tryd.pinned (.plain (OpenSpec.upto wordEquivalenceSpec)) wordEquivalenceUptoCard

/-- THE SECOND FORM's CARD OF 'skipgraphlaw4.WordGroups'. -/
def wordGroupsUptoCard : Claim7 := { stood := { row := wordGroupsUptoRow, standIns := [], harness := (true, "b291bb50390cb1b8ab41f31dc57a7a0e89e7a8eed95b203097f8b61eb6c082c8"), looks := false }, kinds := [], alts := [], laidByText := true, laidKinds := [.data, .data], laidTests := true, laidLooks := .later }
def WordGroupsUptoCardSaid : Prop := Claim7.holds Tryd.pinned (.plain (OpenSpec.upto wordGroupsSpec)) wordGroupsUptoCard

/-- THE SECOND FORM's CARD OF 'skipgraphlaw4.WordSplits'. -/
def wordSplitsUptoCard : Claim7 := { stood := { row := wordSplitsUptoRow, standIns := [], harness := (true, "b291bb50390cb1b8ab41f31dc57a7a0e89e7a8eed95b203097f8b61eb6c082c8"), looks := false }, kinds := [], alts := [], laidByText := true, laidKinds := [.data, .data], laidTests := true, laidLooks := .later }
def WordSplitsUptoCardSaid : Prop := Claim7.holds Tryd.pinned (.plain (OpenSpec.upto wordSplitsSpec)) wordSplitsUptoCard
end Rows
end Go.Proofs.YtenobfplmifomaaDoor
