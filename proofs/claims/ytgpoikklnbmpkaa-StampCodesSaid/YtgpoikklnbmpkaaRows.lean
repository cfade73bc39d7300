/-
  No cell of these rows narrows 'for every input' (looked for: loops, veiled, ifaces, maps, wideKeys, modest, calm, conditions, laid).
  DERIVED. THE GIVEN ROWS OF THIS SEAT. 5 by the template 'for every input the law returns true; each argument reads behind the call as it read before'; 0 by the template 'total and deterministic' (their statements: YtgpoikklnbmpkaaTotals.lean).
  GIVEN WITH THE SEED: the statements are not yours to turn. If you find one false, say at which input.
  Laid BY PROGRAM, IN A SANDBOX (cutbox-rows.mjs): the forced cells as the released guide's own fill.sh prints them over the translation 1ead5eea26a0e8dd… (all of the seat's roots in one cut). By AI agents, Wed Nov 11 2026. No macro, syntax, notation, axiom, sorry.
-/
import Derived.Test.YtgpoikklnbmpkaaChecked
import GoSem.Claim
import GoSem.ClaimJoined
import GoSem.ClaimMapViews
import Derived.JoinedTies
import Derived.KernelRfl
namespace Go.Proofs.Ytgpoikklnbmpkaa
/- THE CELL 'sum', in the pinned program and in every row, IS THE sha256 OF THE DUMP (.gsa) THAT YtgpoikklnbmpkaaProg.lean LOADS. Nothing in Lean hashes anything: it is a label: what it is worth is what the hold of that sum in a sandbox is worth. -/
noncomputable def Try.pinned : Pinned := { name := "ytgpoikklnbmpkaa", sum := "1ead5eea26a0e8dd4f9f2cd0c6793cdab12c32c5f76190173a70115f7985b9c4", checked := Try.checked }
namespace Rows
def none {H : Type} : Left H := { results := [], args := [] }

/-- 'skipgraphlaw23.StampSteps': WHATEVER THE INPUT: true; the input reads as it did. -/
def stampStepsSpec : ChangeSpec := { name := "stampSteps", fn := fun _ => fun
  | [d1, d2, d3] => { results := [.lit (.bool true)], args := [d1, d2, d3] }
  | _ => none }
def stampStepsRow : OpenClaim := { program := "ytgpoikklnbmpkaa", sum := "1ead5eea26a0e8dd4f9f2cd0c6793cdab12c32c5f76190173a70115f7985b9c4", func := "skipgraph/skipgraphlaw23.StampSteps", spec := "stampSteps", apart := false }
def StampStepsSaid : Prop := stampStepsRow.holds Try.pinned (OpenSpec.ofChange stampStepsSpec)

/-- ITS FALSE NEIGHBOUR: 'it returns false'. Refute it at one input. -/
def stampStepsWrong : ChangeSpec := { name := "stampSteps", fn := fun _ => fun
  | [d1, d2, d3] => { results := [.lit (.bool false)], args := [d1, d2, d3] }
  | _ => none }
def StampStepsWrongFalsely : Prop := stampStepsRow.holds Try.pinned (OpenSpec.ofChange stampStepsWrong)

/-- 'skipgraphlaw23.StampOrder': WHATEVER THE INPUT: true; the input reads as it did. -/
def stampOrderSpec : ChangeSpec := { name := "stampOrder", fn := fun _ => fun
  | [d1, d2, d3] => { results := [.lit (.bool true)], args := [d1, d2, d3] }
  | _ => none }
def stampOrderRow : OpenClaim := { program := "ytgpoikklnbmpkaa", sum := "1ead5eea26a0e8dd4f9f2cd0c6793cdab12c32c5f76190173a70115f7985b9c4", func := "skipgraph/skipgraphlaw23.StampOrder", spec := "stampOrder", apart := false }
def StampOrderSaid : Prop := stampOrderRow.holds Try.pinned (OpenSpec.ofChange stampOrderSpec)

/-- ITS FALSE NEIGHBOUR: 'it returns false'. Refute it at one input. -/
def stampOrderWrong : ChangeSpec := { name := "stampOrder", fn := fun _ => fun
  | [d1, d2, d3] => { results := [.lit (.bool false)], args := [d1, d2, d3] }
  | _ => none }
def StampOrderWrongFalsely : Prop := stampOrderRow.holds Try.pinned (OpenSpec.ofChange stampOrderWrong)

/-- 'skipgraphlaw23.StampRising': WHATEVER THE INPUT: true; the input reads as it did. -/
def stampRisingSpec : ChangeSpec := { name := "stampRising", fn := fun _ => fun
  | [d1, d2] => { results := [.lit (.bool true)], args := [d1, d2] }
  | _ => none }
def stampRisingRow : OpenClaim := { program := "ytgpoikklnbmpkaa", sum := "1ead5eea26a0e8dd4f9f2cd0c6793cdab12c32c5f76190173a70115f7985b9c4", func := "skipgraph/skipgraphlaw23.StampRising", spec := "stampRising", apart := false }
def StampRisingSaid : Prop := stampRisingRow.holds Try.pinned (OpenSpec.ofChange stampRisingSpec)

/-- ITS FALSE NEIGHBOUR: 'it returns false'. Refute it at one input. -/
def stampRisingWrong : ChangeSpec := { name := "stampRising", fn := fun _ => fun
  | [d1, d2] => { results := [.lit (.bool false)], args := [d1, d2] }
  | _ => none }
def StampRisingWrongFalsely : Prop := stampRisingRow.holds Try.pinned (OpenSpec.ofChange stampRisingWrong)

/-- 'skipgraphlaw23.StampAfter': WHATEVER THE INPUT: true; the input reads as it did. -/
def stampAfterSpec : ChangeSpec := { name := "stampAfter", fn := fun _ => fun
  | [d1, d2] => { results := [.lit (.bool true)], args := [d1, d2] }
  | _ => none }
def stampAfterRow : OpenClaim := { program := "ytgpoikklnbmpkaa", sum := "1ead5eea26a0e8dd4f9f2cd0c6793cdab12c32c5f76190173a70115f7985b9c4", func := "skipgraph/skipgraphlaw23.StampAfter", spec := "stampAfter", apart := false }
def StampAfterSaid : Prop := stampAfterRow.holds Try.pinned (OpenSpec.ofChange stampAfterSpec)

/-- ITS FALSE NEIGHBOUR: 'it returns false'. Refute it at one input. -/
def stampAfterWrong : ChangeSpec := { name := "stampAfter", fn := fun _ => fun
  | [d1, d2] => { results := [.lit (.bool false)], args := [d1, d2] }
  | _ => none }
def StampAfterWrongFalsely : Prop := stampAfterRow.holds Try.pinned (OpenSpec.ofChange stampAfterWrong)

/-- 'skipgraphlaw23.StampCodes': WHATEVER THE INPUT: true; the input reads as it did. -/
def stampCodesSpec : ChangeSpec := { name := "stampCodes", fn := fun _ => fun
  | [d1, d2, d3] => { results := [.lit (.bool true)], args := [d1, d2, d3] }
  | _ => none }
def stampCodesRow : OpenClaim := { program := "ytgpoikklnbmpkaa", sum := "1ead5eea26a0e8dd4f9f2cd0c6793cdab12c32c5f76190173a70115f7985b9c4", func := "skipgraph/skipgraphlaw23.StampCodes", spec := "stampCodes", apart := false }
def StampCodesSaid : Prop := stampCodesRow.holds Try.pinned (OpenSpec.ofChange stampCodesSpec)

/-- ITS FALSE NEIGHBOUR: 'it returns false'. Refute it at one input. -/
def stampCodesWrong : ChangeSpec := { name := "stampCodes", fn := fun _ => fun
  | [d1, d2, d3] => { results := [.lit (.bool false)], args := [d1, d2, d3] }
  | _ => none }
def StampCodesWrongFalsely : Prop := stampCodesRow.holds Try.pinned (OpenSpec.ofChange stampCodesWrong)

/- THE SECOND FORM. 'bulk': how many values and letters a reading holds, each counted each time it is reached (what is shared counts as often as it is met; a slice's spare places count too). A statement '..UptoSaid' is the law's where the arguments, and the package variables that the reading takes, are together of bulk at most 1048576: NARROWER than '..Said'. Prove '..Said' where nothing that the law and all that it calls make is longer than what came in: it says more and counts as full. Else prove '..UptoSaid'. A law counts once. -/
mutual
def uptoBulk {H : Type} : DataW H → Nat
  | .lit (.string bytes) => bytes.length + 1
  | .lit _ => 1
  | .nil => 1
  | .ptr d => uptoBulk d + 1
  | .slice elems spare => uptoBulkAll elems + uptoBulkAll spare + 1
  | .agg parts => uptoBulkAll parts + 1
  | .iface _ d => uptoBulk d + 1
  | .map entries => uptoBulkEntries entries + 1
  | .held _ => 1
def uptoBulkAll {H : Type} : List (DataW H) → Nat
  | [] => 0
  | d :: r => uptoBulk d + uptoBulkAll r
def uptoBulkEntries {H : Type} : List (Lit × DataW H) → Nat
  | [] => 0
  | x :: r => uptoBulkEntry x + uptoBulkEntries r
def uptoBulkEntry {H : Type} : Lit × DataW H → Nat
  | (.string bytes, d) => bytes.length + uptoBulk d + 1
  | (_, d) => uptoBulk d + 1
 end
def uptoSmall : (H : Type) → List (DataW H) → Bool := fun _ ds => decide (uptoBulkAll ds ≤ 1048576)
def OpenSpec.upto (s : _root_.Go.ChangeSpec) : _root_.Go.OpenSpec := { _root_.Go.OpenSpec.ofChange s with cond := some uptoSmall }

/-- 'skipgraphlaw23.StampSteps', WHERE WHAT IT READS IS OF BULK AT MOST 1048576: true; the input reads as it did. -/
def stampStepsUptoRow : OpenClaim := { program := "ytgpoikklnbmpkaa", sum := "1ead5eea26a0e8dd4f9f2cd0c6793cdab12c32c5f76190173a70115f7985b9c4", func := "skipgraph/skipgraphlaw23.StampSteps", spec := "stampSteps", apart := false, narrowed := true }
def StampStepsUptoSaid : Prop := stampStepsUptoRow.holds Try.pinned (OpenSpec.upto stampStepsSpec)

/-- 'skipgraphlaw23.StampOrder', WHERE WHAT IT READS IS OF BULK AT MOST 1048576: true; the input reads as it did. -/
def stampOrderUptoRow : OpenClaim := { program := "ytgpoikklnbmpkaa", sum := "1ead5eea26a0e8dd4f9f2cd0c6793cdab12c32c5f76190173a70115f7985b9c4", func := "skipgraph/skipgraphlaw23.StampOrder", spec := "stampOrder", apart := false, narrowed := true }
def StampOrderUptoSaid : Prop := stampOrderUptoRow.holds Try.pinned (OpenSpec.upto stampOrderSpec)

/-- 'skipgraphlaw23.StampRising', WHERE WHAT IT READS IS OF BULK AT MOST 1048576: true; the input reads as it did. -/
def stampRisingUptoRow : OpenClaim := { program := "ytgpoikklnbmpkaa", sum := "1ead5eea26a0e8dd4f9f2cd0c6793cdab12c32c5f76190173a70115f7985b9c4", func := "skipgraph/skipgraphlaw23.StampRising", spec := "stampRising", apart := false, narrowed := true }
def StampRisingUptoSaid : Prop := stampRisingUptoRow.holds Try.pinned (OpenSpec.upto stampRisingSpec)

/-- 'skipgraphlaw23.StampAfter', WHERE WHAT IT READS IS OF BULK AT MOST 1048576: true; the input reads as it did. -/
def stampAfterUptoRow : OpenClaim := { program := "ytgpoikklnbmpkaa", sum := "1ead5eea26a0e8dd4f9f2cd0c6793cdab12c32c5f76190173a70115f7985b9c4", func := "skipgraph/skipgraphlaw23.StampAfter", spec := "stampAfter", apart := false, narrowed := true }
def StampAfterUptoSaid : Prop := stampAfterUptoRow.holds Try.pinned (OpenSpec.upto stampAfterSpec)

/-- 'skipgraphlaw23.StampCodes', WHERE WHAT IT READS IS OF BULK AT MOST 1048576: true; the input reads as it did. -/
def stampCodesUptoRow : OpenClaim := { program := "ytgpoikklnbmpkaa", sum := "1ead5eea26a0e8dd4f9f2cd0c6793cdab12c32c5f76190173a70115f7985b9c4", func := "skipgraph/skipgraphlaw23.StampCodes", spec := "stampCodes", apart := false, narrowed := true }
def StampCodesUptoSaid : Prop := stampCodesUptoRow.holds Try.pinned (OpenSpec.upto stampCodesSpec)

end Rows
end Go.Proofs.Ytgpoikklnbmpkaa
