/-
  NARROWER THAN 'FOR EVERY INPUT', by the rows' own cells (each row's printed sentence says how): FlightSteps: laid · SpliceInserts: laid · SpliceRemoves: laid.
  DERIVED. THE GIVEN ROWS OF THIS SEAT. 3 by the template 'for every input the law returns true; each argument reads behind the call as it read before'; 0 by the template 'total and deterministic' (their statements: YtalmjklljofhbaaGreatDoorTotals.lean).
  GIVEN WITH THE SEED: the statements are not yours to turn. If you find one false, say at which input.
  Laid BY PROGRAM, IN A SANDBOX (cutbox-rows.mjs): the forced cells as the released guide's own fill.sh prints them over the translation 335b40014d30caca… (all of the seat's roots in one cut). By AI agents, Wed Nov 11 2026. No macro, syntax, notation, axiom, sorry.
-/
import Derived.Test.YtalmjklljofhbaaGreatDoorChecked
import GoSem.Claim
import GoSem.ClaimJoined
import GoSem.ClaimMapViews
import Derived.JoinedTies
import Derived.KernelRfl
namespace Go.Proofs.YtalmjklljofhbaaGreatDoor
/- THE CELL 'sum', in the pinned program and in every row, IS THE sha256 OF THE DUMP (.gsa) THAT YtalmjklljofhbaaGreatDoorProg.lean LOADS. Nothing in Lean hashes anything: it is a label: what it is worth is what the hold of that sum in a sandbox is worth. -/
noncomputable def Tryz.pinned : Pinned := { name := "ytalmjklljofhbaagreatdoor", sum := "335b40014d30cacac13673451e92aaa30a9478e57031dfaee9455572ddc9d56e", checked := Tryz.checked }
namespace Rows
def none {H : Type} : Left H := { results := [], args := [] }

/- WHAT THE LISTED PACKAGE-LEVEL VARIABLES READ AS WHEN THE CALL BEGINS. Each datum BY PROGRAM (the guide's laid-datum.mjs) off the statement by which the dump's own 'gosem.cut.vars' lays the variable. In a bare row this is a premise. The card (YtalmjklljofhbaaGreatDoorCards.lean) ties it to the program's text. -/
def laid_skipgraph_skipgraphworld_letters {H : Type} : DataW H := .agg [.lit (.string [97]), .lit (.string [98]), .lit (.string [99]), .lit (.string [0]), .lit (.string [255]), .lit (.string [109])]
def laid_math_bits_deBruijn32tab {H : Type} : DataW H := .agg [.lit (.int .u8 0), .lit (.int .u8 1), .lit (.int .u8 28), .lit (.int .u8 2), .lit (.int .u8 29), .lit (.int .u8 14), .lit (.int .u8 24), .lit (.int .u8 3), .lit (.int .u8 30), .lit (.int .u8 22), .lit (.int .u8 20), .lit (.int .u8 15), .lit (.int .u8 25), .lit (.int .u8 17), .lit (.int .u8 4), .lit (.int .u8 8), .lit (.int .u8 31), .lit (.int .u8 27), .lit (.int .u8 13), .lit (.int .u8 23), .lit (.int .u8 21), .lit (.int .u8 19), .lit (.int .u8 16), .lit (.int .u8 7), .lit (.int .u8 26), .lit (.int .u8 12), .lit (.int .u8 18), .lit (.int .u8 6), .lit (.int .u8 11), .lit (.int .u8 5), .lit (.int .u8 10), .lit (.int .u8 9)]

/-- 'skipgraphlaw19.FlightSteps': WHATEVER THE INPUT: true; the input reads as it did. -/
def flightStepsSpec : ChangeSpec := { name := "flightSteps", fn := fun _ => fun
  | [d1, d2, d3, d4, d5, d6, d7] => { results := [.lit (.bool true)], args := [d1, d2, d3, d4, d5, d6, d7] }
  | _ => none }
def flightStepsRow : OpenClaim := { program := "ytalmjklljofhbaagreatdoor", sum := "335b40014d30cacac13673451e92aaa30a9478e57031dfaee9455572ddc9d56e", func := "skipgraph/skipgraphlaw19.FlightSteps", spec := "flightSteps", inPlace := ["internal/reflectlite.ValueOf", "(internal/reflectlite.Value).Len", "internal/reflectlite.Swapper", "slices.overlaps[int]"], unfollowed := true, recurses := true, named := ["skipgraph/skipgraphworld.letters"], apart := false, laid := [("skipgraph/skipgraphworld.letters", laid_skipgraph_skipgraphworld_letters)] }
def FlightStepsSaid : Prop := flightStepsRow.holds Tryz.pinned (OpenSpec.ofChange flightStepsSpec)

/-- ITS FALSE NEIGHBOUR: 'it returns false'. Refute it at one input. -/
def flightStepsWrong : ChangeSpec := { name := "flightSteps", fn := fun _ => fun
  | [d1, d2, d3, d4, d5, d6, d7] => { results := [.lit (.bool false)], args := [d1, d2, d3, d4, d5, d6, d7] }
  | _ => none }
def FlightStepsWrongFalsely : Prop := flightStepsRow.holds Tryz.pinned (OpenSpec.ofChange flightStepsWrong)

/-- 'skipgraphlaw10.SpliceInserts': WHATEVER THE INPUT: true; the input reads as it did. -/
def spliceInsertsSpec : ChangeSpec := { name := "spliceInserts", fn := fun _ => fun
  | [d1, d2, d3, d4] => { results := [.lit (.bool true)], args := [d1, d2, d3, d4] }
  | _ => none }
def spliceInsertsRow : OpenClaim := { program := "ytalmjklljofhbaagreatdoor", sum := "335b40014d30cacac13673451e92aaa30a9478e57031dfaee9455572ddc9d56e", func := "skipgraph/skipgraphlaw10.SpliceInserts", spec := "spliceInserts", inPlace := ["internal/reflectlite.ValueOf", "(internal/reflectlite.Value).Len", "internal/reflectlite.Swapper", "slices.overlaps[skipgraph/api.Linked]"], unfollowed := true, recurses := true, named := ["skipgraph/skipgraphworld.letters", "math/bits.deBruijn32tab"], apart := false, laid := [("math/bits.deBruijn32tab", laid_math_bits_deBruijn32tab), ("skipgraph/skipgraphworld.letters", laid_skipgraph_skipgraphworld_letters)] }
def SpliceInsertsSaid : Prop := spliceInsertsRow.holds Tryz.pinned (OpenSpec.ofChange spliceInsertsSpec)

/-- ITS FALSE NEIGHBOUR: 'it returns false'. Refute it at one input. -/
def spliceInsertsWrong : ChangeSpec := { name := "spliceInserts", fn := fun _ => fun
  | [d1, d2, d3, d4] => { results := [.lit (.bool false)], args := [d1, d2, d3, d4] }
  | _ => none }
def SpliceInsertsWrongFalsely : Prop := spliceInsertsRow.holds Tryz.pinned (OpenSpec.ofChange spliceInsertsWrong)

/-- 'skipgraphlaw10.SpliceRemoves': WHATEVER THE INPUT: true; the input reads as it did. -/
def spliceRemovesSpec : ChangeSpec := { name := "spliceRemoves", fn := fun _ => fun
  | [d1, d2, d3] => { results := [.lit (.bool true)], args := [d1, d2, d3] }
  | _ => none }
def spliceRemovesRow : OpenClaim := { program := "ytalmjklljofhbaagreatdoor", sum := "335b40014d30cacac13673451e92aaa30a9478e57031dfaee9455572ddc9d56e", func := "skipgraph/skipgraphlaw10.SpliceRemoves", spec := "spliceRemoves", inPlace := ["internal/reflectlite.ValueOf", "(internal/reflectlite.Value).Len", "internal/reflectlite.Swapper", "slices.overlaps[skipgraph/api.Linked]"], unfollowed := true, recurses := true, named := ["skipgraph/skipgraphworld.letters", "math/bits.deBruijn32tab"], apart := false, laid := [("math/bits.deBruijn32tab", laid_math_bits_deBruijn32tab), ("skipgraph/skipgraphworld.letters", laid_skipgraph_skipgraphworld_letters)] }
def SpliceRemovesSaid : Prop := spliceRemovesRow.holds Tryz.pinned (OpenSpec.ofChange spliceRemovesSpec)

/-- ITS FALSE NEIGHBOUR: 'it returns false'. Refute it at one input. -/
def spliceRemovesWrong : ChangeSpec := { name := "spliceRemoves", fn := fun _ => fun
  | [d1, d2, d3] => { results := [.lit (.bool false)], args := [d1, d2, d3] }
  | _ => none }
def SpliceRemovesWrongFalsely : Prop := spliceRemovesRow.holds Tryz.pinned (OpenSpec.ofChange spliceRemovesWrong)

/- THE SECOND FORM. 'bulk': how many values and letters a reading holds, each counted each time it is reached (what is shared counts as often as it is met; a slice's spare places count too). A statement '..UptoSaid' is the law's where the arguments, and the package variables that the reading takes, are together of bulk at most 1048576: NARROWER than '..Said'. Prove '..Said' where nothing that the law and all that it calls make is longer than what came in: it says more and counts as full. Else prove '..UptoSaid'. A law counts once. -/
mutual
def uptoBulk {H : Type} : DataW H → Nat
  | .lit (.string bytes) => bytes.length + 1
  | .lit _ => 1
  | .nil => 1
  | .ptr d => uptoBulk d + 1
  | .slice elems spare => uptoBulkAll elems + uptoBulkAll spare + 1
  | .agg parts => uptoBulkAll parts + 1
  | .iface _ d => uptoBulk d + 1
  | .map entries => uptoBulkEntries entries + 1
  | .held _ => 1
def uptoBulkAll {H : Type} : List (DataW H) → Nat
  | [] => 0
  | d :: r => uptoBulk d + uptoBulkAll r
def uptoBulkEntries {H : Type} : List (Lit × DataW H) → Nat
  | [] => 0
  | x :: r => uptoBulkEntry x + uptoBulkEntries r
def uptoBulkEntry {H : Type} : Lit × DataW H → Nat
  | (.string bytes, d) => bytes.length + uptoBulk d + 1
  | (_, d) => uptoBulk d + 1
 end
def uptoSmall : (H : Type) → List (DataW H) → Bool := fun _ ds => decide (uptoBulkAll ds ≤ 1048576)
def OpenSpec.upto (s : _root_.Go.ChangeSpec) : _root_.Go.OpenSpec := { _root_.Go.OpenSpec.ofChange s with cond := some uptoSmall }

/-- 'skipgraphlaw19.FlightSteps', WHERE WHAT IT READS IS OF BULK AT MOST 1048576: true; the input reads as it did. -/
def flightStepsUptoRow : OpenClaim := { program := "ytalmjklljofhbaagreatdoor", sum := "335b40014d30cacac13673451e92aaa30a9478e57031dfaee9455572ddc9d56e", func := "skipgraph/skipgraphlaw19.FlightSteps", spec := "flightSteps", inPlace := ["internal/reflectlite.ValueOf", "(internal/reflectlite.Value).Len", "internal/reflectlite.Swapper", "slices.overlaps[int]"], unfollowed := true, recurses := true, named := ["skipgraph/skipgraphworld.letters"], apart := false, laid := [("skipgraph/skipgraphworld.letters", laid_skipgraph_skipgraphworld_letters)], narrowed := true }
def FlightStepsUptoSaid : Prop := flightStepsUptoRow.holds Tryz.pinned (OpenSpec.upto flightStepsSpec)

/-- 'skipgraphlaw10.SpliceInserts', WHERE WHAT IT READS IS OF BULK AT MOST 1048576: true; the input reads as it did. -/
def spliceInsertsUptoRow : OpenClaim := { program := "ytalmjklljofhbaagreatdoor", sum := "335b40014d30cacac13673451e92aaa30a9478e57031dfaee9455572ddc9d56e", func := "skipgraph/skipgraphlaw10.SpliceInserts", spec := "spliceInserts", inPlace := ["internal/reflectlite.ValueOf", "(internal/reflectlite.Value).Len", "internal/reflectlite.Swapper", "slices.overlaps[skipgraph/api.Linked]"], unfollowed := true, recurses := true, named := ["skipgraph/skipgraphworld.letters", "math/bits.deBruijn32tab"], apart := false, laid := [("math/bits.deBruijn32tab", laid_math_bits_deBruijn32tab), ("skipgraph/skipgraphworld.letters", laid_skipgraph_skipgraphworld_letters)], narrowed := true }
def SpliceInsertsUptoSaid : Prop := spliceInsertsUptoRow.holds Tryz.pinned (OpenSpec.upto spliceInsertsSpec)

/-- 'skipgraphlaw10.SpliceRemoves', WHERE WHAT IT READS IS OF BULK AT MOST 1048576: true; the input reads as it did. -/
def spliceRemovesUptoRow : OpenClaim := { program := "ytalmjklljofhbaagreatdoor", sum := "335b40014d30cacac13673451e92aaa30a9478e57031dfaee9455572ddc9d56e", func := "skipgraph/skipgraphlaw10.SpliceRemoves", spec := "spliceRemoves", inPlace := ["internal/reflectlite.ValueOf", "(internal/reflectlite.Value).Len", "internal/reflectlite.Swapper", "slices.overlaps[skipgraph/api.Linked]"], unfollowed := true, recurses := true, named := ["skipgraph/skipgraphworld.letters", "math/bits.deBruijn32tab"], apart := false, laid := [("math/bits.deBruijn32tab", laid_math_bits_deBruijn32tab), ("skipgraph/skipgraphworld.letters", laid_skipgraph_skipgraphworld_letters)], narrowed := true }
def SpliceRemovesUptoSaid : Prop := spliceRemovesUptoRow.holds Tryz.pinned (OpenSpec.upto spliceRemovesSpec)

end Rows
end Go.Proofs.YtalmjklljofhbaaGreatDoor
