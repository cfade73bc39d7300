/-
  No cell of these rows narrows 'for every input' (looked for: loops, veiled, ifaces, maps, wideKeys, modest, calm, conditions, laid).
  DERIVED. THE GIVEN ROWS OF THIS SEAT. 5 by the template 'for every input the law returns true; each argument reads behind the call as it read before'; 0 by the template 'total and deterministic' (their statements: YtgfnngdkoecciaaTotals.lean).
  GIVEN WITH THE SEED: the statements are not yours to turn. If you find one false, say at which input.
  Laid BY PROGRAM, IN A SANDBOX (cutbox-rows.mjs): the forced cells as the released guide's own fill.sh prints them over the translation a6224c72c59b7374… (all of the seat's roots in one cut). By AI agents, Wed Nov 11 2026. No macro, syntax, notation, axiom, sorry.
-/
import Derived.Test.YtgfnngdkoecciaaChecked
import GoSem.Claim
import GoSem.ClaimJoined
import GoSem.ClaimMapViews
import Derived.JoinedTies
import Derived.KernelRfl
namespace Go.Proofs.Ytgfnngdkoecciaa
/- THE CELL 'sum', in the pinned program and in every row, IS THE sha256 OF THE DUMP (.gsa) THAT YtgfnngdkoecciaaProg.lean LOADS. Nothing in Lean hashes anything: it is a label: what it is worth is what the hold of that sum in a sandbox is worth. -/
noncomputable def Try.pinned : Pinned := { name := "ytgfnngdkoecciaa", sum := "a6224c72c59b737449d9e1aab60cd870d8e05e6c675a3d302c2d88d1abe3d136", checked := Try.checked }
namespace Rows
def none {H : Type} : Left H := { results := [], args := [] }

/-- 'skipgraphlaw15.SuspectWatches': WHATEVER THE INPUT: true; the input reads as it did. -/
def suspectWatchesSpec : ChangeSpec := { name := "suspectWatches", fn := fun _ => fun
  | [d1, d2, d3, d4] => { results := [.lit (.bool true)], args := [d1, d2, d3, d4] }
  | _ => none }
def suspectWatchesRow : OpenClaim := { program := "ytgfnngdkoecciaa", sum := "a6224c72c59b737449d9e1aab60cd870d8e05e6c675a3d302c2d88d1abe3d136", func := "skipgraph/skipgraphlaw15.SuspectWatches", spec := "suspectWatches", apart := false }
def SuspectWatchesSaid : Prop := suspectWatchesRow.holds Try.pinned (OpenSpec.ofChange suspectWatchesSpec)

/-- ITS FALSE NEIGHBOUR: 'it returns false'. Refute it at one input. -/
def suspectWatchesWrong : ChangeSpec := { name := "suspectWatches", fn := fun _ => fun
  | [d1, d2, d3, d4] => { results := [.lit (.bool false)], args := [d1, d2, d3, d4] }
  | _ => none }
def SuspectWatchesWrongFalsely : Prop := suspectWatchesRow.holds Try.pinned (OpenSpec.ofChange suspectWatchesWrong)

/-- 'skipgraphlaw15.SuspectPlays': WHATEVER THE INPUT: true; the input reads as it did. -/
def suspectPlaysSpec : ChangeSpec := { name := "suspectPlays", fn := fun _ => fun
  | [d1, d2, d3] => { results := [.lit (.bool true)], args := [d1, d2, d3] }
  | _ => none }
def suspectPlaysRow : OpenClaim := { program := "ytgfnngdkoecciaa", sum := "a6224c72c59b737449d9e1aab60cd870d8e05e6c675a3d302c2d88d1abe3d136", func := "skipgraph/skipgraphlaw15.SuspectPlays", spec := "suspectPlays", apart := false }
def SuspectPlaysSaid : Prop := suspectPlaysRow.holds Try.pinned (OpenSpec.ofChange suspectPlaysSpec)

/-- ITS FALSE NEIGHBOUR: 'it returns false'. Refute it at one input. -/
def suspectPlaysWrong : ChangeSpec := { name := "suspectPlays", fn := fun _ => fun
  | [d1, d2, d3] => { results := [.lit (.bool false)], args := [d1, d2, d3] }
  | _ => none }
def SuspectPlaysWrongFalsely : Prop := suspectPlaysRow.holds Try.pinned (OpenSpec.ofChange suspectPlaysWrong)

/-- 'skipgraphlaw15.SuspectDown': WHATEVER THE INPUT: true; the input reads as it did. -/
def suspectDownSpec : ChangeSpec := { name := "suspectDown", fn := fun _ => fun
  | [d1, d2] => { results := [.lit (.bool true)], args := [d1, d2] }
  | _ => none }
def suspectDownRow : OpenClaim := { program := "ytgfnngdkoecciaa", sum := "a6224c72c59b737449d9e1aab60cd870d8e05e6c675a3d302c2d88d1abe3d136", func := "skipgraph/skipgraphlaw15.SuspectDown", spec := "suspectDown", apart := false }
def SuspectDownSaid : Prop := suspectDownRow.holds Try.pinned (OpenSpec.ofChange suspectDownSpec)

/-- ITS FALSE NEIGHBOUR: 'it returns false'. Refute it at one input. -/
def suspectDownWrong : ChangeSpec := { name := "suspectDown", fn := fun _ => fun
  | [d1, d2] => { results := [.lit (.bool false)], args := [d1, d2] }
  | _ => none }
def SuspectDownWrongFalsely : Prop := suspectDownRow.holds Try.pinned (OpenSpec.ofChange suspectDownWrong)

/-- 'skipgraphlaw15.SuspectPatience': WHATEVER THE INPUT: true; the input reads as it did. -/
def suspectPatienceSpec : ChangeSpec := { name := "suspectPatience", fn := fun _ => fun
  | [d1, d2] => { results := [.lit (.bool true)], args := [d1, d2] }
  | _ => none }
def suspectPatienceRow : OpenClaim := { program := "ytgfnngdkoecciaa", sum := "a6224c72c59b737449d9e1aab60cd870d8e05e6c675a3d302c2d88d1abe3d136", func := "skipgraph/skipgraphlaw15.SuspectPatience", spec := "suspectPatience", apart := false }
def SuspectPatienceSaid : Prop := suspectPatienceRow.holds Try.pinned (OpenSpec.ofChange suspectPatienceSpec)

/-- ITS FALSE NEIGHBOUR: 'it returns false'. Refute it at one input. -/
def suspectPatienceWrong : ChangeSpec := { name := "suspectPatience", fn := fun _ => fun
  | [d1, d2] => { results := [.lit (.bool false)], args := [d1, d2] }
  | _ => none }
def SuspectPatienceWrongFalsely : Prop := suspectPatienceRow.holds Try.pinned (OpenSpec.ofChange suspectPatienceWrong)

/-- 'skipgraphlaw15.SuspectProbes': WHATEVER THE INPUT: true; the input reads as it did. -/
def suspectProbesSpec : ChangeSpec := { name := "suspectProbes", fn := fun _ => fun
  | [d1, d2] => { results := [.lit (.bool true)], args := [d1, d2] }
  | _ => none }
def suspectProbesRow : OpenClaim := { program := "ytgfnngdkoecciaa", sum := "a6224c72c59b737449d9e1aab60cd870d8e05e6c675a3d302c2d88d1abe3d136", func := "skipgraph/skipgraphlaw15.SuspectProbes", spec := "suspectProbes", apart := false }
def SuspectProbesSaid : Prop := suspectProbesRow.holds Try.pinned (OpenSpec.ofChange suspectProbesSpec)

/-- ITS FALSE NEIGHBOUR: 'it returns false'. Refute it at one input. -/
def suspectProbesWrong : ChangeSpec := { name := "suspectProbes", fn := fun _ => fun
  | [d1, d2] => { results := [.lit (.bool false)], args := [d1, d2] }
  | _ => none }
def SuspectProbesWrongFalsely : Prop := suspectProbesRow.holds Try.pinned (OpenSpec.ofChange suspectProbesWrong)

/- THE SECOND FORM. 'bulk': how many values and letters a reading holds, each counted each time it is reached (what is shared counts as often as it is met; a slice's spare places count too). A statement '..UptoSaid' is the law's where the arguments, and the package variables that the reading takes, are together of bulk at most 1048576: NARROWER than '..Said'. Prove '..Said' where nothing that the law and all that it calls make is longer than what came in: it says more and counts as full. Else prove '..UptoSaid'. A law counts once. -/
mutual
def uptoBulk {H : Type} : DataW H → Nat
  | .lit (.string bytes) => bytes.length + 1
  | .lit _ => 1
  | .nil => 1
  | .ptr d => uptoBulk d + 1
  | .slice elems spare => uptoBulkAll elems + uptoBulkAll spare + 1
  | .agg parts => uptoBulkAll parts + 1
  | .iface _ d => uptoBulk d + 1
  | .map entries => uptoBulkEntries entries + 1
  | .held _ => 1
def uptoBulkAll {H : Type} : List (DataW H) → Nat
  | [] => 0
  | d :: r => uptoBulk d + uptoBulkAll r
def uptoBulkEntries {H : Type} : List (Lit × DataW H) → Nat
  | [] => 0
  | x :: r => uptoBulkEntry x + uptoBulkEntries r
def uptoBulkEntry {H : Type} : Lit × DataW H → Nat
  | (.string bytes, d) => bytes.length + uptoBulk d + 1
  | (_, d) => uptoBulk d + 1
 end
def uptoSmall : (H : Type) → List (DataW H) → Bool := fun _ ds => decide (uptoBulkAll ds ≤ 1048576)
def OpenSpec.upto (s : _root_.Go.ChangeSpec) : _root_.Go.OpenSpec := { _root_.Go.OpenSpec.ofChange s with cond := some uptoSmall }

/-- 'skipgraphlaw15.SuspectWatches', WHERE WHAT IT READS IS OF BULK AT MOST 1048576: true; the input reads as it did. -/
def suspectWatchesUptoRow : OpenClaim := { program := "ytgfnngdkoecciaa", sum := "a6224c72c59b737449d9e1aab60cd870d8e05e6c675a3d302c2d88d1abe3d136", func := "skipgraph/skipgraphlaw15.SuspectWatches", spec := "suspectWatches", apart := false, narrowed := true }
def SuspectWatchesUptoSaid : Prop := suspectWatchesUptoRow.holds Try.pinned (OpenSpec.upto suspectWatchesSpec)

/-- 'skipgraphlaw15.SuspectPlays', WHERE WHAT IT READS IS OF BULK AT MOST 1048576: true; the input reads as it did. -/
def suspectPlaysUptoRow : OpenClaim := { program := "ytgfnngdkoecciaa", sum := "a6224c72c59b737449d9e1aab60cd870d8e05e6c675a3d302c2d88d1abe3d136", func := "skipgraph/skipgraphlaw15.SuspectPlays", spec := "suspectPlays", apart := false, narrowed := true }
def SuspectPlaysUptoSaid : Prop := suspectPlaysUptoRow.holds Try.pinned (OpenSpec.upto suspectPlaysSpec)

/-- 'skipgraphlaw15.SuspectDown', WHERE WHAT IT READS IS OF BULK AT MOST 1048576: true; the input reads as it did. -/
def suspectDownUptoRow : OpenClaim := { program := "ytgfnngdkoecciaa", sum := "a6224c72c59b737449d9e1aab60cd870d8e05e6c675a3d302c2d88d1abe3d136", func := "skipgraph/skipgraphlaw15.SuspectDown", spec := "suspectDown", apart := false, narrowed := true }
def SuspectDownUptoSaid : Prop := suspectDownUptoRow.holds Try.pinned (OpenSpec.upto suspectDownSpec)

/-- 'skipgraphlaw15.SuspectPatience', WHERE WHAT IT READS IS OF BULK AT MOST 1048576: true; the input reads as it did. -/
def suspectPatienceUptoRow : OpenClaim := { program := "ytgfnngdkoecciaa", sum := "a6224c72c59b737449d9e1aab60cd870d8e05e6c675a3d302c2d88d1abe3d136", func := "skipgraph/skipgraphlaw15.SuspectPatience", spec := "suspectPatience", apart := false, narrowed := true }
def SuspectPatienceUptoSaid : Prop := suspectPatienceUptoRow.holds Try.pinned (OpenSpec.upto suspectPatienceSpec)

/-- 'skipgraphlaw15.SuspectProbes', WHERE WHAT IT READS IS OF BULK AT MOST 1048576: true; the input reads as it did. -/
def suspectProbesUptoRow : OpenClaim := { program := "ytgfnngdkoecciaa", sum := "a6224c72c59b737449d9e1aab60cd870d8e05e6c675a3d302c2d88d1abe3d136", func := "skipgraph/skipgraphlaw15.SuspectProbes", spec := "suspectProbes", apart := false, narrowed := true }
def SuspectProbesUptoSaid : Prop := suspectProbesUptoRow.holds Try.pinned (OpenSpec.upto suspectProbesSpec)

end Rows
end Go.Proofs.Ytgfnngdkoecciaa
