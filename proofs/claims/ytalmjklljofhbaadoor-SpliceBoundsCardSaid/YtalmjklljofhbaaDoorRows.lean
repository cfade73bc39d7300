/-
  NARROWER THAN 'FOR EVERY INPUT', by the rows' own cells (each row's printed sentence says how): SpliceOrders: laid · SpliceUndoes: laid · SpliceBounds: laid.
  DERIVED. THE GIVEN ROWS OF THIS SEAT. 3 by the template 'for every input the law returns true; each argument reads behind the call as it read before'; 0 by the template 'total and deterministic' (their statements: YtalmjklljofhbaaDoorTotals.lean).
  GIVEN WITH THE SEED: the statements are not yours to turn. If you find one false, say at which input.
  Laid BY PROGRAM, IN A SANDBOX (cutbox-rows.mjs): the forced cells as the released guide's own fill.sh prints them over the translation 9ea932ee5afa23c5… (all of the seat's roots in one cut). By AI agents, Wed Nov 11 2026. No macro, syntax, notation, axiom, sorry.
-/
import Derived.Test.YtalmjklljofhbaaDoorChecked
import GoSem.Claim
import GoSem.ClaimJoined
import GoSem.ClaimMapViews
import Derived.JoinedTies
import Derived.KernelRfl
namespace Go.Proofs.YtalmjklljofhbaaDoor
/- THE CELL 'sum', in the pinned program and in every row, IS THE sha256 OF THE DUMP (.gsa) THAT YtalmjklljofhbaaDoorProg.lean LOADS. Nothing in Lean hashes anything: it is a label: what it is worth is what the hold of that sum in a sandbox is worth. -/
noncomputable def Tryd.pinned : Pinned := { name := "ytalmjklljofhbaadoor", sum := "9ea932ee5afa23c5d6cfc875cfd4640a7a52c90d0d5ef7f352fc7c98a90dfdb1", checked := Tryd.checked }
namespace Rows
def none {H : Type} : Left H := { results := [], args := [] }

/- WHAT THE LISTED PACKAGE-LEVEL VARIABLES READ AS WHEN THE CALL BEGINS. Each datum BY PROGRAM (the guide's laid-datum.mjs) off the statement by which the dump's own 'gosem.cut.vars' lays the variable. In a bare row this is a premise. The card (YtalmjklljofhbaaDoorCards.lean) ties it to the program's text. -/
def laid_math_bits_deBruijn32tab {H : Type} : DataW H := .agg [.lit (.int .u8 0), .lit (.int .u8 1), .lit (.int .u8 28), .lit (.int .u8 2), .lit (.int .u8 29), .lit (.int .u8 14), .lit (.int .u8 24), .lit (.int .u8 3), .lit (.int .u8 30), .lit (.int .u8 22), .lit (.int .u8 20), .lit (.int .u8 15), .lit (.int .u8 25), .lit (.int .u8 17), .lit (.int .u8 4), .lit (.int .u8 8), .lit (.int .u8 31), .lit (.int .u8 27), .lit (.int .u8 13), .lit (.int .u8 23), .lit (.int .u8 21), .lit (.int .u8 19), .lit (.int .u8 16), .lit (.int .u8 7), .lit (.int .u8 26), .lit (.int .u8 12), .lit (.int .u8 18), .lit (.int .u8 6), .lit (.int .u8 11), .lit (.int .u8 5), .lit (.int .u8 10), .lit (.int .u8 9)]
def laid_skipgraph_skipgraphworld_letters {H : Type} : DataW H := .agg [.lit (.string [97]), .lit (.string [98]), .lit (.string [99]), .lit (.string [0]), .lit (.string [255]), .lit (.string [109])]

/-- 'skipgraphlaw10.SpliceOrders': WHATEVER THE INPUT: true; the input reads as it did. -/
def spliceOrdersSpec : ChangeSpec := { name := "spliceOrders", fn := fun _ => fun
  | [d1, d2] => { results := [.lit (.bool true)], args := [d1, d2] }
  | _ => none }
def spliceOrdersRow : OpenClaim := { program := "ytalmjklljofhbaadoor", sum := "9ea932ee5afa23c5d6cfc875cfd4640a7a52c90d0d5ef7f352fc7c98a90dfdb1", func := "skipgraph/skipgraphlaw10.SpliceOrders", spec := "spliceOrders", inPlace := ["internal/reflectlite.ValueOf", "(internal/reflectlite.Value).Len", "internal/reflectlite.Swapper", "slices.overlaps[skipgraph/api.Linked]"], unfollowed := true, recurses := true, named := ["skipgraph/skipgraphworld.letters", "math/bits.deBruijn32tab"], apart := false, laid := [("math/bits.deBruijn32tab", laid_math_bits_deBruijn32tab), ("skipgraph/skipgraphworld.letters", laid_skipgraph_skipgraphworld_letters)] }
def SpliceOrdersSaid : Prop := spliceOrdersRow.holds Tryd.pinned (OpenSpec.ofChange spliceOrdersSpec)

/-- ITS FALSE NEIGHBOUR: 'it returns false'. Refute it at one input. -/
def spliceOrdersWrong : ChangeSpec := { name := "spliceOrders", fn := fun _ => fun
  | [d1, d2] => { results := [.lit (.bool false)], args := [d1, d2] }
  | _ => none }
def SpliceOrdersWrongFalsely : Prop := spliceOrdersRow.holds Tryd.pinned (OpenSpec.ofChange spliceOrdersWrong)

/-- 'skipgraphlaw10.SpliceUndoes': WHATEVER THE INPUT: true; the input reads as it did. -/
def spliceUndoesSpec : ChangeSpec := { name := "spliceUndoes", fn := fun _ => fun
  | [d] => { results := [.lit (.bool true)], args := [d] }
  | _ => none }
def spliceUndoesRow : OpenClaim := { program := "ytalmjklljofhbaadoor", sum := "9ea932ee5afa23c5d6cfc875cfd4640a7a52c90d0d5ef7f352fc7c98a90dfdb1", func := "skipgraph/skipgraphlaw10.SpliceUndoes", spec := "spliceUndoes", inPlace := ["internal/reflectlite.ValueOf", "(internal/reflectlite.Value).Len", "internal/reflectlite.Swapper", "slices.overlaps[skipgraph/api.Linked]"], unfollowed := true, recurses := true, named := ["skipgraph/skipgraphworld.letters", "math/bits.deBruijn32tab"], apart := false, laid := [("math/bits.deBruijn32tab", laid_math_bits_deBruijn32tab), ("skipgraph/skipgraphworld.letters", laid_skipgraph_skipgraphworld_letters)] }
def SpliceUndoesSaid : Prop := spliceUndoesRow.holds Tryd.pinned (OpenSpec.ofChange spliceUndoesSpec)

/-- ITS FALSE NEIGHBOUR: 'it returns false'. Refute it at one input. -/
def spliceUndoesWrong : ChangeSpec := { name := "spliceUndoes", fn := fun _ => fun
  | [d] => { results := [.lit (.bool false)], args := [d] }
  | _ => none }
def SpliceUndoesWrongFalsely : Prop := spliceUndoesRow.holds Tryd.pinned (OpenSpec.ofChange spliceUndoesWrong)

/-- 'skipgraphlaw10.SpliceBounds': WHATEVER THE INPUT: true; the input reads as it did. -/
def spliceBoundsSpec : ChangeSpec := { name := "spliceBounds", fn := fun _ => fun
  | [d] => { results := [.lit (.bool true)], args := [d] }
  | _ => none }
def spliceBoundsRow : OpenClaim := { program := "ytalmjklljofhbaadoor", sum := "9ea932ee5afa23c5d6cfc875cfd4640a7a52c90d0d5ef7f352fc7c98a90dfdb1", func := "skipgraph/skipgraphlaw10.SpliceBounds", spec := "spliceBounds", inPlace := ["internal/reflectlite.ValueOf", "(internal/reflectlite.Value).Len", "internal/reflectlite.Swapper", "slices.overlaps[skipgraph/api.Linked]"], unfollowed := true, recurses := true, named := ["skipgraph/skipgraphworld.letters", "math/bits.deBruijn32tab"], apart := false, laid := [("math/bits.deBruijn32tab", laid_math_bits_deBruijn32tab), ("skipgraph/skipgraphworld.letters", laid_skipgraph_skipgraphworld_letters)] }
def SpliceBoundsSaid : Prop := spliceBoundsRow.holds Tryd.pinned (OpenSpec.ofChange spliceBoundsSpec)

/-- ITS FALSE NEIGHBOUR: 'it returns false'. Refute it at one input. -/
def spliceBoundsWrong : ChangeSpec := { name := "spliceBounds", fn := fun _ => fun
  | [d] => { results := [.lit (.bool false)], args := [d] }
  | _ => none }
def SpliceBoundsWrongFalsely : Prop := spliceBoundsRow.holds Tryd.pinned (OpenSpec.ofChange spliceBoundsWrong)

/- THE SECOND FORM. 'bulk': how many values and letters a reading holds, each counted each time it is reached (what is shared counts as often as it is met; a slice's spare places count too). A statement '..UptoSaid' is the law's where the arguments, and the package variables that the reading takes, are together of bulk at most 1048576: NARROWER than '..Said'. Prove '..Said' where nothing that the law and all that it calls make is longer than what came in: it says more and counts as full. Else prove '..UptoSaid'. A law counts once. -/
mutual
def uptoBulk {H : Type} : DataW H → Nat
  | .lit (.string bytes) => bytes.length + 1
  | .lit _ => 1
  | .nil => 1
  | .ptr d => uptoBulk d + 1
  | .slice elems spare => uptoBulkAll elems + uptoBulkAll spare + 1
  | .agg parts => uptoBulkAll parts + 1
  | .iface _ d => uptoBulk d + 1
  | .map entries => uptoBulkEntries entries + 1
  | .held _ => 1
def uptoBulkAll {H : Type} : List (DataW H) → Nat
  | [] => 0
  | d :: r => uptoBulk d + uptoBulkAll r
def uptoBulkEntries {H : Type} : List (Lit × DataW H) → Nat
  | [] => 0
  | x :: r => uptoBulkEntry x + uptoBulkEntries r
def uptoBulkEntry {H : Type} : Lit × DataW H → Nat
  | (.string bytes, d) => bytes.length + uptoBulk d + 1
  | (_, d) => uptoBulk d + 1
 end
def uptoSmall : (H : Type) → List (DataW H) → Bool := fun _ ds => decide (uptoBulkAll ds ≤ 1048576)
def OpenSpec.upto (s : _root_.Go.ChangeSpec) : _root_.Go.OpenSpec := { _root_.Go.OpenSpec.ofChange s with cond := some uptoSmall }

/-- 'skipgraphlaw10.SpliceOrders', WHERE WHAT IT READS IS OF BULK AT MOST 1048576: true; the input reads as it did. -/
def spliceOrdersUptoRow : OpenClaim := { program := "ytalmjklljofhbaadoor", sum := "9ea932ee5afa23c5d6cfc875cfd4640a7a52c90d0d5ef7f352fc7c98a90dfdb1", func := "skipgraph/skipgraphlaw10.SpliceOrders", spec := "spliceOrders", inPlace := ["internal/reflectlite.ValueOf", "(internal/reflectlite.Value).Len", "internal/reflectlite.Swapper", "slices.overlaps[skipgraph/api.Linked]"], unfollowed := true, recurses := true, named := ["skipgraph/skipgraphworld.letters", "math/bits.deBruijn32tab"], apart := false, laid := [("math/bits.deBruijn32tab", laid_math_bits_deBruijn32tab), ("skipgraph/skipgraphworld.letters", laid_skipgraph_skipgraphworld_letters)], narrowed := true }
def SpliceOrdersUptoSaid : Prop := spliceOrdersUptoRow.holds Tryd.pinned (OpenSpec.upto spliceOrdersSpec)

/-- 'skipgraphlaw10.SpliceUndoes', WHERE WHAT IT READS IS OF BULK AT MOST 1048576: true; the input reads as it did. -/
def spliceUndoesUptoRow : OpenClaim := { program := "ytalmjklljofhbaadoor", sum := "9ea932ee5afa23c5d6cfc875cfd4640a7a52c90d0d5ef7f352fc7c98a90dfdb1", func := "skipgraph/skipgraphlaw10.SpliceUndoes", spec := "spliceUndoes", inPlace := ["internal/reflectlite.ValueOf", "(internal/reflectlite.Value).Len", "internal/reflectlite.Swapper", "slices.overlaps[skipgraph/api.Linked]"], unfollowed := true, recurses := true, named := ["skipgraph/skipgraphworld.letters", "math/bits.deBruijn32tab"], apart := false, laid := [("math/bits.deBruijn32tab", laid_math_bits_deBruijn32tab), ("skipgraph/skipgraphworld.letters", laid_skipgraph_skipgraphworld_letters)], narrowed := true }
def SpliceUndoesUptoSaid : Prop := spliceUndoesUptoRow.holds Tryd.pinned (OpenSpec.upto spliceUndoesSpec)

/-- 'skipgraphlaw10.SpliceBounds', WHERE WHAT IT READS IS OF BULK AT MOST 1048576: true; the input reads as it did. -/
def spliceBoundsUptoRow : OpenClaim := { program := "ytalmjklljofhbaadoor", sum := "9ea932ee5afa23c5d6cfc875cfd4640a7a52c90d0d5ef7f352fc7c98a90dfdb1", func := "skipgraph/skipgraphlaw10.SpliceBounds", spec := "spliceBounds", inPlace := ["internal/reflectlite.ValueOf", "(internal/reflectlite.Value).Len", "internal/reflectlite.Swapper", "slices.overlaps[skipgraph/api.Linked]"], unfollowed := true, recurses := true, named := ["skipgraph/skipgraphworld.letters", "math/bits.deBruijn32tab"], apart := false, laid := [("math/bits.deBruijn32tab", laid_math_bits_deBruijn32tab), ("skipgraph/skipgraphworld.letters", laid_skipgraph_skipgraphworld_letters)], narrowed := true }
def SpliceBoundsUptoSaid : Prop := spliceBoundsUptoRow.holds Tryd.pinned (OpenSpec.upto spliceBoundsSpec)

end Rows
end Go.Proofs.YtalmjklljofhbaaDoor
