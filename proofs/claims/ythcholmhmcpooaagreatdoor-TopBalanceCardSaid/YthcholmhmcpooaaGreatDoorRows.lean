/-
  NARROWER THAN 'FOR EVERY INPUT', by the rows' own cells (each row's printed sentence says how): TopSearch: laid · TopRepair: laid · TopWire: laid · TopSurvives: laid · TopBalance: laid.
  DERIVED. THE GIVEN ROWS OF THIS SEAT. 5 by the template 'for every input the law returns true; each argument reads behind the call as it read before'; 0 by the template 'total and deterministic' (their statements: YthcholmhmcpooaaGreatDoorTotals.lean).
  GIVEN WITH THE SEED: the statements are not yours to turn. If you find one false, say at which input.
  Laid BY PROGRAM, IN A SANDBOX (cutbox-rows.mjs): the forced cells as the released guide's own fill.sh prints them over the translation 0a7720040b996af2… (all of the seat's roots in one cut). By AI agents, Wed Nov 11 2026. No macro, syntax, notation, axiom, sorry.
-/
import Derived.Test.YthcholmhmcpooaaGreatDoorChecked
import GoSem.Claim
import GoSem.ClaimJoined
import GoSem.ClaimMapViews
import Derived.JoinedTies
import Derived.KernelRfl
namespace Go.Proofs.YthcholmhmcpooaaGreatDoor
/- THE CELL 'sum', in the pinned program and in every row, IS THE sha256 OF THE DUMP (.gsa) THAT YthcholmhmcpooaaGreatDoorProg.lean LOADS. Nothing in Lean hashes anything: it is a label: what it is worth is what the hold of that sum in a sandbox is worth. -/
noncomputable def Tryz.pinned : Pinned := { name := "ythcholmhmcpooaagreatdoor", sum := "0a7720040b996af2fae70325fd9fdd12b7b4f0e1c210afae8135b3c5dcc209d9", checked := Tryz.checked }
namespace Rows
def none {H : Type} : Left H := { results := [], args := [] }

/- WHAT THE LISTED PACKAGE-LEVEL VARIABLES READ AS WHEN THE CALL BEGINS. Each datum BY PROGRAM (the guide's laid-datum.mjs) off the statement by which the dump's own 'gosem.cut.vars' lays the variable. In a bare row this is a premise. The card (YthcholmhmcpooaaGreatDoorCards.lean) ties it to the program's text. -/
def laid_math_bits_deBruijn32tab {H : Type} : DataW H := .agg [.lit (.int .u8 0), .lit (.int .u8 1), .lit (.int .u8 28), .lit (.int .u8 2), .lit (.int .u8 29), .lit (.int .u8 14), .lit (.int .u8 24), .lit (.int .u8 3), .lit (.int .u8 30), .lit (.int .u8 22), .lit (.int .u8 20), .lit (.int .u8 15), .lit (.int .u8 25), .lit (.int .u8 17), .lit (.int .u8 4), .lit (.int .u8 8), .lit (.int .u8 31), .lit (.int .u8 27), .lit (.int .u8 13), .lit (.int .u8 23), .lit (.int .u8 21), .lit (.int .u8 19), .lit (.int .u8 16), .lit (.int .u8 7), .lit (.int .u8 26), .lit (.int .u8 12), .lit (.int .u8 18), .lit (.int .u8 6), .lit (.int .u8 11), .lit (.int .u8 5), .lit (.int .u8 10), .lit (.int .u8 9)]
def laid_skipgraph_skipgraphworld_letters {H : Type} : DataW H := .agg [.lit (.string [97]), .lit (.string [98]), .lit (.string [99]), .lit (.string [0]), .lit (.string [255]), .lit (.string [109])]

/-- 'skipgraphtop.TopSearch': WHATEVER THE INPUT: true; the input reads as it did. -/
def topSearchSpec : ChangeSpec := { name := "topSearch", fn := fun _ => fun
  | [d1, d2] => { results := [.lit (.bool true)], args := [d1, d2] }
  | _ => none }
def topSearchRow : OpenClaim := { program := "ythcholmhmcpooaagreatdoor", sum := "0a7720040b996af2fae70325fd9fdd12b7b4f0e1c210afae8135b3c5dcc209d9", func := "skipgraph/skipgraphtop.TopSearch", spec := "topSearch", inPlace := ["internal/reflectlite.ValueOf", "(internal/reflectlite.Value).Len", "internal/reflectlite.Swapper", "slices.overlaps[int]"], unfollowed := true, recurses := true, named := ["skipgraph/skipgraphworld.letters", "math/bits.deBruijn32tab"], plainKeys := false, apart := false, laid := [("math/bits.deBruijn32tab", laid_math_bits_deBruijn32tab), ("skipgraph/skipgraphworld.letters", laid_skipgraph_skipgraphworld_letters)] }
def TopSearchSaid : Prop := topSearchRow.holds Tryz.pinned (OpenSpec.ofChange topSearchSpec)

/-- ITS FALSE NEIGHBOUR: 'it returns false'. Refute it at one input. -/
def topSearchWrong : ChangeSpec := { name := "topSearch", fn := fun _ => fun
  | [d1, d2] => { results := [.lit (.bool false)], args := [d1, d2] }
  | _ => none }
def TopSearchWrongFalsely : Prop := topSearchRow.holds Tryz.pinned (OpenSpec.ofChange topSearchWrong)

/-- 'skipgraphtop.TopRepair': WHATEVER THE INPUT: true; the input reads as it did. -/
def topRepairSpec : ChangeSpec := { name := "topRepair", fn := fun _ => fun
  | [d1, d2] => { results := [.lit (.bool true)], args := [d1, d2] }
  | _ => none }
def topRepairRow : OpenClaim := { program := "ythcholmhmcpooaagreatdoor", sum := "0a7720040b996af2fae70325fd9fdd12b7b4f0e1c210afae8135b3c5dcc209d9", func := "skipgraph/skipgraphtop.TopRepair", spec := "topRepair", inPlace := ["internal/reflectlite.ValueOf", "(internal/reflectlite.Value).Len", "internal/reflectlite.Swapper", "slices.overlaps[int]"], unfollowed := true, recurses := true, named := ["skipgraph/skipgraphworld.letters", "math/bits.deBruijn32tab"], plainKeys := false, apart := false, laid := [("math/bits.deBruijn32tab", laid_math_bits_deBruijn32tab), ("skipgraph/skipgraphworld.letters", laid_skipgraph_skipgraphworld_letters)] }
def TopRepairSaid : Prop := topRepairRow.holds Tryz.pinned (OpenSpec.ofChange topRepairSpec)

/-- ITS FALSE NEIGHBOUR: 'it returns false'. Refute it at one input. -/
def topRepairWrong : ChangeSpec := { name := "topRepair", fn := fun _ => fun
  | [d1, d2] => { results := [.lit (.bool false)], args := [d1, d2] }
  | _ => none }
def TopRepairWrongFalsely : Prop := topRepairRow.holds Tryz.pinned (OpenSpec.ofChange topRepairWrong)

/-- 'skipgraphtop.TopWire': WHATEVER THE INPUT: true; the input reads as it did. -/
def topWireSpec : ChangeSpec := { name := "topWire", fn := fun _ => fun
  | [d] => { results := [.lit (.bool true)], args := [d] }
  | _ => none }
def topWireRow : OpenClaim := { program := "ythcholmhmcpooaagreatdoor", sum := "0a7720040b996af2fae70325fd9fdd12b7b4f0e1c210afae8135b3c5dcc209d9", func := "skipgraph/skipgraphtop.TopWire", spec := "topWire", inPlace := ["internal/reflectlite.ValueOf", "(internal/reflectlite.Value).Len", "internal/reflectlite.Swapper", "slices.overlaps[int]"], unfollowed := true, recurses := true, named := ["skipgraph/skipgraphworld.letters", "math/bits.deBruijn32tab"], plainKeys := false, apart := false, laid := [("math/bits.deBruijn32tab", laid_math_bits_deBruijn32tab), ("skipgraph/skipgraphworld.letters", laid_skipgraph_skipgraphworld_letters)] }
def TopWireSaid : Prop := topWireRow.holds Tryz.pinned (OpenSpec.ofChange topWireSpec)

/-- ITS FALSE NEIGHBOUR: 'it returns false'. Refute it at one input. -/
def topWireWrong : ChangeSpec := { name := "topWire", fn := fun _ => fun
  | [d] => { results := [.lit (.bool false)], args := [d] }
  | _ => none }
def TopWireWrongFalsely : Prop := topWireRow.holds Tryz.pinned (OpenSpec.ofChange topWireWrong)

/-- 'skipgraphtop.TopSurvives': WHATEVER THE INPUT: true; the input reads as it did. -/
def topSurvivesSpec : ChangeSpec := { name := "topSurvives", fn := fun _ => fun
  | [d1, d2] => { results := [.lit (.bool true)], args := [d1, d2] }
  | _ => none }
def topSurvivesRow : OpenClaim := { program := "ythcholmhmcpooaagreatdoor", sum := "0a7720040b996af2fae70325fd9fdd12b7b4f0e1c210afae8135b3c5dcc209d9", func := "skipgraph/skipgraphtop.TopSurvives", spec := "topSurvives", inPlace := ["internal/reflectlite.ValueOf", "(internal/reflectlite.Value).Len", "internal/reflectlite.Swapper", "slices.overlaps[int]"], unfollowed := true, recurses := true, named := ["skipgraph/skipgraphworld.letters", "math/bits.deBruijn32tab"], plainKeys := false, apart := false, laid := [("math/bits.deBruijn32tab", laid_math_bits_deBruijn32tab), ("skipgraph/skipgraphworld.letters", laid_skipgraph_skipgraphworld_letters)] }
def TopSurvivesSaid : Prop := topSurvivesRow.holds Tryz.pinned (OpenSpec.ofChange topSurvivesSpec)

/-- ITS FALSE NEIGHBOUR: 'it returns false'. Refute it at one input. -/
def topSurvivesWrong : ChangeSpec := { name := "topSurvives", fn := fun _ => fun
  | [d1, d2] => { results := [.lit (.bool false)], args := [d1, d2] }
  | _ => none }
def TopSurvivesWrongFalsely : Prop := topSurvivesRow.holds Tryz.pinned (OpenSpec.ofChange topSurvivesWrong)

/-- 'skipgraphtop.TopBalance': WHATEVER THE INPUT: true; the input reads as it did. -/
def topBalanceSpec : ChangeSpec := { name := "topBalance", fn := fun _ => fun
  | [d] => { results := [.lit (.bool true)], args := [d] }
  | _ => none }
def topBalanceRow : OpenClaim := { program := "ythcholmhmcpooaagreatdoor", sum := "0a7720040b996af2fae70325fd9fdd12b7b4f0e1c210afae8135b3c5dcc209d9", func := "skipgraph/skipgraphtop.TopBalance", spec := "topBalance", inPlace := ["internal/reflectlite.ValueOf", "(internal/reflectlite.Value).Len", "internal/reflectlite.Swapper", "slices.overlaps[skipgraph/api.Linked]", "slices.overlaps[int]"], unfollowed := true, recurses := true, named := ["skipgraph/skipgraphworld.letters", "math/bits.deBruijn32tab"], plainKeys := false, apart := false, laid := [("math/bits.deBruijn32tab", laid_math_bits_deBruijn32tab), ("skipgraph/skipgraphworld.letters", laid_skipgraph_skipgraphworld_letters)] }
def TopBalanceSaid : Prop := topBalanceRow.holds Tryz.pinned (OpenSpec.ofChange topBalanceSpec)

/-- ITS FALSE NEIGHBOUR: 'it returns false'. Refute it at one input. -/
def topBalanceWrong : ChangeSpec := { name := "topBalance", fn := fun _ => fun
  | [d] => { results := [.lit (.bool false)], args := [d] }
  | _ => none }
def TopBalanceWrongFalsely : Prop := topBalanceRow.holds Tryz.pinned (OpenSpec.ofChange topBalanceWrong)

/- THE SECOND FORM. 'bulk': how many values and letters a reading holds, each counted each time it is reached (what is shared counts as often as it is met; a slice's spare places count too). A statement '..UptoSaid' is the law's where the arguments, and the package variables that the reading takes, are together of bulk at most 1048576: NARROWER than '..Said'. Prove '..Said' where nothing that the law and all that it calls make is longer than what came in: it says more and counts as full. Else prove '..UptoSaid'. A law counts once. -/
mutual
def uptoBulk {H : Type} : DataW H → Nat
  | .lit (.string bytes) => bytes.length + 1
  | .lit _ => 1
  | .nil => 1
  | .ptr d => uptoBulk d + 1
  | .slice elems spare => uptoBulkAll elems + uptoBulkAll spare + 1
  | .agg parts => uptoBulkAll parts + 1
  | .iface _ d => uptoBulk d + 1
  | .map entries => uptoBulkEntries entries + 1
  | .held _ => 1
def uptoBulkAll {H : Type} : List (DataW H) → Nat
  | [] => 0
  | d :: r => uptoBulk d + uptoBulkAll r
def uptoBulkEntries {H : Type} : List (Lit × DataW H) → Nat
  | [] => 0
  | x :: r => uptoBulkEntry x + uptoBulkEntries r
def uptoBulkEntry {H : Type} : Lit × DataW H → Nat
  | (.string bytes, d) => bytes.length + uptoBulk d + 1
  | (_, d) => uptoBulk d + 1
 end
def uptoSmall : (H : Type) → List (DataW H) → Bool := fun _ ds => decide (uptoBulkAll ds ≤ 1048576)
def OpenSpec.upto (s : _root_.Go.ChangeSpec) : _root_.Go.OpenSpec := { _root_.Go.OpenSpec.ofChange s with cond := some uptoSmall }

/-- 'skipgraphtop.TopSearch', WHERE WHAT IT READS IS OF BULK AT MOST 1048576: true; the input reads as it did. -/
def topSearchUptoRow : OpenClaim := { program := "ythcholmhmcpooaagreatdoor", sum := "0a7720040b996af2fae70325fd9fdd12b7b4f0e1c210afae8135b3c5dcc209d9", func := "skipgraph/skipgraphtop.TopSearch", spec := "topSearch", inPlace := ["internal/reflectlite.ValueOf", "(internal/reflectlite.Value).Len", "internal/reflectlite.Swapper", "slices.overlaps[int]"], unfollowed := true, recurses := true, named := ["skipgraph/skipgraphworld.letters", "math/bits.deBruijn32tab"], plainKeys := false, apart := false, laid := [("math/bits.deBruijn32tab", laid_math_bits_deBruijn32tab), ("skipgraph/skipgraphworld.letters", laid_skipgraph_skipgraphworld_letters)], narrowed := true }
def TopSearchUptoSaid : Prop := topSearchUptoRow.holds Tryz.pinned (OpenSpec.upto topSearchSpec)

/-- 'skipgraphtop.TopRepair', WHERE WHAT IT READS IS OF BULK AT MOST 1048576: true; the input reads as it did. -/
def topRepairUptoRow : OpenClaim := { program := "ythcholmhmcpooaagreatdoor", sum := "0a7720040b996af2fae70325fd9fdd12b7b4f0e1c210afae8135b3c5dcc209d9", func := "skipgraph/skipgraphtop.TopRepair", spec := "topRepair", inPlace := ["internal/reflectlite.ValueOf", "(internal/reflectlite.Value).Len", "internal/reflectlite.Swapper", "slices.overlaps[int]"], unfollowed := true, recurses := true, named := ["skipgraph/skipgraphworld.letters", "math/bits.deBruijn32tab"], plainKeys := false, apart := false, laid := [("math/bits.deBruijn32tab", laid_math_bits_deBruijn32tab), ("skipgraph/skipgraphworld.letters", laid_skipgraph_skipgraphworld_letters)], narrowed := true }
def TopRepairUptoSaid : Prop := topRepairUptoRow.holds Tryz.pinned (OpenSpec.upto topRepairSpec)

/-- 'skipgraphtop.TopWire', WHERE WHAT IT READS IS OF BULK AT MOST 1048576: true; the input reads as it did. -/
def topWireUptoRow : OpenClaim := { program := "ythcholmhmcpooaagreatdoor", sum := "0a7720040b996af2fae70325fd9fdd12b7b4f0e1c210afae8135b3c5dcc209d9", func := "skipgraph/skipgraphtop.TopWire", spec := "topWire", inPlace := ["internal/reflectlite.ValueOf", "(internal/reflectlite.Value).Len", "internal/reflectlite.Swapper", "slices.overlaps[int]"], unfollowed := true, recurses := true, named := ["skipgraph/skipgraphworld.letters", "math/bits.deBruijn32tab"], plainKeys := false, apart := false, laid := [("math/bits.deBruijn32tab", laid_math_bits_deBruijn32tab), ("skipgraph/skipgraphworld.letters", laid_skipgraph_skipgraphworld_letters)], narrowed := true }
def TopWireUptoSaid : Prop := topWireUptoRow.holds Tryz.pinned (OpenSpec.upto topWireSpec)

/-- 'skipgraphtop.TopSurvives', WHERE WHAT IT READS IS OF BULK AT MOST 1048576: true; the input reads as it did. -/
def topSurvivesUptoRow : OpenClaim := { program := "ythcholmhmcpooaagreatdoor", sum := "0a7720040b996af2fae70325fd9fdd12b7b4f0e1c210afae8135b3c5dcc209d9", func := "skipgraph/skipgraphtop.TopSurvives", spec := "topSurvives", inPlace := ["internal/reflectlite.ValueOf", "(internal/reflectlite.Value).Len", "internal/reflectlite.Swapper", "slices.overlaps[int]"], unfollowed := true, recurses := true, named := ["skipgraph/skipgraphworld.letters", "math/bits.deBruijn32tab"], plainKeys := false, apart := false, laid := [("math/bits.deBruijn32tab", laid_math_bits_deBruijn32tab), ("skipgraph/skipgraphworld.letters", laid_skipgraph_skipgraphworld_letters)], narrowed := true }
def TopSurvivesUptoSaid : Prop := topSurvivesUptoRow.holds Tryz.pinned (OpenSpec.upto topSurvivesSpec)

/-- 'skipgraphtop.TopBalance', WHERE WHAT IT READS IS OF BULK AT MOST 1048576: true; the input reads as it did. -/
def topBalanceUptoRow : OpenClaim := { program := "ythcholmhmcpooaagreatdoor", sum := "0a7720040b996af2fae70325fd9fdd12b7b4f0e1c210afae8135b3c5dcc209d9", func := "skipgraph/skipgraphtop.TopBalance", spec := "topBalance", inPlace := ["internal/reflectlite.ValueOf", "(internal/reflectlite.Value).Len", "internal/reflectlite.Swapper", "slices.overlaps[skipgraph/api.Linked]", "slices.overlaps[int]"], unfollowed := true, recurses := true, named := ["skipgraph/skipgraphworld.letters", "math/bits.deBruijn32tab"], plainKeys := false, apart := false, laid := [("math/bits.deBruijn32tab", laid_math_bits_deBruijn32tab), ("skipgraph/skipgraphworld.letters", laid_skipgraph_skipgraphworld_letters)], narrowed := true }
def TopBalanceUptoSaid : Prop := topBalanceUptoRow.holds Tryz.pinned (OpenSpec.upto topBalanceSpec)

end Rows
end Go.Proofs.YthcholmhmcpooaaGreatDoor
