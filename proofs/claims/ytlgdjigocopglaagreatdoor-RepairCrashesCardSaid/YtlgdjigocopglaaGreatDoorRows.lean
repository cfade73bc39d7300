/-
  NARROWER THAN 'FOR EVERY INPUT', by the rows' own cells (each row's printed sentence says how): BridgeRounds: laid · RepairRounds: laid · RepairCleans: laid · RepairRejoins: laid · RepairJoins: laid · RepairCrashes: laid.
  DERIVED. THE GIVEN ROWS OF THIS SEAT. 6 by the template 'for every input the law returns true; each argument reads behind the call as it read before'; 0 by the template 'total and deterministic' (their statements: YtlgdjigocopglaaGreatDoorTotals.lean).
  GIVEN WITH THE SEED: the statements are not yours to turn. If you find one false, say at which input.
  Laid BY PROGRAM, IN A SANDBOX (cutbox-rows.mjs): the forced cells as the released guide's own fill.sh prints them over the translation f1ad32af82a96853… (all of the seat's roots in one cut). By AI agents, Wed Nov 11 2026. No macro, syntax, notation, axiom, sorry.
-/
import Derived.Test.YtlgdjigocopglaaGreatDoorChecked
import GoSem.Claim
import GoSem.ClaimJoined
import GoSem.ClaimMapViews
import Derived.JoinedTies
import Derived.KernelRfl
namespace Go.Proofs.YtlgdjigocopglaaGreatDoor
/- THE CELL 'sum', in the pinned program and in every row, IS THE sha256 OF THE DUMP (.gsa) THAT YtlgdjigocopglaaGreatDoorProg.lean LOADS. Nothing in Lean hashes anything: it is a label: what it is worth is what the hold of that sum in a sandbox is worth. -/
noncomputable def Tryz.pinned : Pinned := { name := "ytlgdjigocopglaagreatdoor", sum := "f1ad32af82a96853d433fb059e2e6b1155f6a86693c22ae945c35e06cbacb00d", checked := Tryz.checked }
namespace Rows
def none {H : Type} : Left H := { results := [], args := [] }

/- WHAT THE LISTED PACKAGE-LEVEL VARIABLES READ AS WHEN THE CALL BEGINS. Each datum BY PROGRAM (the guide's laid-datum.mjs) off the statement by which the dump's own 'gosem.cut.vars' lays the variable. In a bare row this is a premise. The card (YtlgdjigocopglaaGreatDoorCards.lean) ties it to the program's text. -/
def laid_math_bits_deBruijn32tab {H : Type} : DataW H := .agg [.lit (.int .u8 0), .lit (.int .u8 1), .lit (.int .u8 28), .lit (.int .u8 2), .lit (.int .u8 29), .lit (.int .u8 14), .lit (.int .u8 24), .lit (.int .u8 3), .lit (.int .u8 30), .lit (.int .u8 22), .lit (.int .u8 20), .lit (.int .u8 15), .lit (.int .u8 25), .lit (.int .u8 17), .lit (.int .u8 4), .lit (.int .u8 8), .lit (.int .u8 31), .lit (.int .u8 27), .lit (.int .u8 13), .lit (.int .u8 23), .lit (.int .u8 21), .lit (.int .u8 19), .lit (.int .u8 16), .lit (.int .u8 7), .lit (.int .u8 26), .lit (.int .u8 12), .lit (.int .u8 18), .lit (.int .u8 6), .lit (.int .u8 11), .lit (.int .u8 5), .lit (.int .u8 10), .lit (.int .u8 9)]
def laid_skipgraph_skipgraphworld_letters {H : Type} : DataW H := .agg [.lit (.string [97]), .lit (.string [98]), .lit (.string [99]), .lit (.string [0]), .lit (.string [255]), .lit (.string [109])]

/-- 'skipgraphlaw17.BridgeRounds': WHATEVER THE INPUT: true; the input reads as it did. -/
def bridgeRoundsSpec : ChangeSpec := { name := "bridgeRounds", fn := fun _ => fun
  | [d1, d2, d3, d4, d5] => { results := [.lit (.bool true)], args := [d1, d2, d3, d4, d5] }
  | _ => none }
def bridgeRoundsRow : OpenClaim := { program := "ytlgdjigocopglaagreatdoor", sum := "f1ad32af82a96853d433fb059e2e6b1155f6a86693c22ae945c35e06cbacb00d", func := "skipgraph/skipgraphlaw17.BridgeRounds", spec := "bridgeRounds", inPlace := ["internal/reflectlite.ValueOf", "(internal/reflectlite.Value).Len", "internal/reflectlite.Swapper"], unfollowed := true, recurses := true, named := ["skipgraph/skipgraphworld.letters", "math/bits.deBruijn32tab"], apart := false, laid := [("math/bits.deBruijn32tab", laid_math_bits_deBruijn32tab), ("skipgraph/skipgraphworld.letters", laid_skipgraph_skipgraphworld_letters)] }
def BridgeRoundsSaid : Prop := bridgeRoundsRow.holds Tryz.pinned (OpenSpec.ofChange bridgeRoundsSpec)

/-- ITS FALSE NEIGHBOUR: 'it returns false'. Refute it at one input. -/
def bridgeRoundsWrong : ChangeSpec := { name := "bridgeRounds", fn := fun _ => fun
  | [d1, d2, d3, d4, d5] => { results := [.lit (.bool false)], args := [d1, d2, d3, d4, d5] }
  | _ => none }
def BridgeRoundsWrongFalsely : Prop := bridgeRoundsRow.holds Tryz.pinned (OpenSpec.ofChange bridgeRoundsWrong)

/-- 'skipgraphlaw18.RepairRounds': WHATEVER THE INPUT: true; the input reads as it did. -/
def repairRoundsSpec : ChangeSpec := { name := "repairRounds", fn := fun _ => fun
  | [d1, d2, d3, d4, d5] => { results := [.lit (.bool true)], args := [d1, d2, d3, d4, d5] }
  | _ => none }
def repairRoundsRow : OpenClaim := { program := "ytlgdjigocopglaagreatdoor", sum := "f1ad32af82a96853d433fb059e2e6b1155f6a86693c22ae945c35e06cbacb00d", func := "skipgraph/skipgraphlaw18.RepairRounds", spec := "repairRounds", inPlace := ["internal/reflectlite.ValueOf", "(internal/reflectlite.Value).Len", "internal/reflectlite.Swapper", "slices.overlaps[int]"], unfollowed := true, recurses := true, named := ["skipgraph/skipgraphworld.letters", "math/bits.deBruijn32tab"], apart := false, laid := [("math/bits.deBruijn32tab", laid_math_bits_deBruijn32tab), ("skipgraph/skipgraphworld.letters", laid_skipgraph_skipgraphworld_letters)] }
def RepairRoundsSaid : Prop := repairRoundsRow.holds Tryz.pinned (OpenSpec.ofChange repairRoundsSpec)

/-- ITS FALSE NEIGHBOUR: 'it returns false'. Refute it at one input. -/
def repairRoundsWrong : ChangeSpec := { name := "repairRounds", fn := fun _ => fun
  | [d1, d2, d3, d4, d5] => { results := [.lit (.bool false)], args := [d1, d2, d3, d4, d5] }
  | _ => none }
def RepairRoundsWrongFalsely : Prop := repairRoundsRow.holds Tryz.pinned (OpenSpec.ofChange repairRoundsWrong)

/-- 'skipgraphlaw18.RepairCleans': WHATEVER THE INPUT: true; the input reads as it did. -/
def repairCleansSpec : ChangeSpec := { name := "repairCleans", fn := fun _ => fun
  | [d1, d2] => { results := [.lit (.bool true)], args := [d1, d2] }
  | _ => none }
def repairCleansRow : OpenClaim := { program := "ytlgdjigocopglaagreatdoor", sum := "f1ad32af82a96853d433fb059e2e6b1155f6a86693c22ae945c35e06cbacb00d", func := "skipgraph/skipgraphlaw18.RepairCleans", spec := "repairCleans", inPlace := ["internal/reflectlite.ValueOf", "(internal/reflectlite.Value).Len", "internal/reflectlite.Swapper", "slices.overlaps[int]"], unfollowed := true, recurses := true, named := ["skipgraph/skipgraphworld.letters", "math/bits.deBruijn32tab"], apart := false, laid := [("math/bits.deBruijn32tab", laid_math_bits_deBruijn32tab), ("skipgraph/skipgraphworld.letters", laid_skipgraph_skipgraphworld_letters)] }
def RepairCleansSaid : Prop := repairCleansRow.holds Tryz.pinned (OpenSpec.ofChange repairCleansSpec)

/-- ITS FALSE NEIGHBOUR: 'it returns false'. Refute it at one input. -/
def repairCleansWrong : ChangeSpec := { name := "repairCleans", fn := fun _ => fun
  | [d1, d2] => { results := [.lit (.bool false)], args := [d1, d2] }
  | _ => none }
def RepairCleansWrongFalsely : Prop := repairCleansRow.holds Tryz.pinned (OpenSpec.ofChange repairCleansWrong)

/-- 'skipgraphlaw18.RepairRejoins': WHATEVER THE INPUT: true; the input reads as it did. -/
def repairRejoinsSpec : ChangeSpec := { name := "repairRejoins", fn := fun _ => fun
  | [d] => { results := [.lit (.bool true)], args := [d] }
  | _ => none }
def repairRejoinsRow : OpenClaim := { program := "ytlgdjigocopglaagreatdoor", sum := "f1ad32af82a96853d433fb059e2e6b1155f6a86693c22ae945c35e06cbacb00d", func := "skipgraph/skipgraphlaw18.RepairRejoins", spec := "repairRejoins", inPlace := ["internal/reflectlite.ValueOf", "(internal/reflectlite.Value).Len", "internal/reflectlite.Swapper", "slices.overlaps[int]"], unfollowed := true, recurses := true, named := ["skipgraph/skipgraphworld.letters", "math/bits.deBruijn32tab"], apart := false, laid := [("math/bits.deBruijn32tab", laid_math_bits_deBruijn32tab), ("skipgraph/skipgraphworld.letters", laid_skipgraph_skipgraphworld_letters)] }
def RepairRejoinsSaid : Prop := repairRejoinsRow.holds Tryz.pinned (OpenSpec.ofChange repairRejoinsSpec)

/-- ITS FALSE NEIGHBOUR: 'it returns false'. Refute it at one input. -/
def repairRejoinsWrong : ChangeSpec := { name := "repairRejoins", fn := fun _ => fun
  | [d] => { results := [.lit (.bool false)], args := [d] }
  | _ => none }
def RepairRejoinsWrongFalsely : Prop := repairRejoinsRow.holds Tryz.pinned (OpenSpec.ofChange repairRejoinsWrong)

/-- 'skipgraphlaw18.RepairJoins': WHATEVER THE INPUT: true; the input reads as it did. -/
def repairJoinsSpec : ChangeSpec := { name := "repairJoins", fn := fun _ => fun
  | [d] => { results := [.lit (.bool true)], args := [d] }
  | _ => none }
def repairJoinsRow : OpenClaim := { program := "ytlgdjigocopglaagreatdoor", sum := "f1ad32af82a96853d433fb059e2e6b1155f6a86693c22ae945c35e06cbacb00d", func := "skipgraph/skipgraphlaw18.RepairJoins", spec := "repairJoins", inPlace := ["internal/reflectlite.ValueOf", "(internal/reflectlite.Value).Len", "internal/reflectlite.Swapper", "slices.overlaps[int]"], unfollowed := true, recurses := true, named := ["skipgraph/skipgraphworld.letters", "math/bits.deBruijn32tab"], apart := false, laid := [("math/bits.deBruijn32tab", laid_math_bits_deBruijn32tab), ("skipgraph/skipgraphworld.letters", laid_skipgraph_skipgraphworld_letters)] }
def RepairJoinsSaid : Prop := repairJoinsRow.holds Tryz.pinned (OpenSpec.ofChange repairJoinsSpec)

/-- ITS FALSE NEIGHBOUR: 'it returns false'. Refute it at one input. -/
def repairJoinsWrong : ChangeSpec := { name := "repairJoins", fn := fun _ => fun
  | [d] => { results := [.lit (.bool false)], args := [d] }
  | _ => none }
def RepairJoinsWrongFalsely : Prop := repairJoinsRow.holds Tryz.pinned (OpenSpec.ofChange repairJoinsWrong)

/-- 'skipgraphlaw18.RepairCrashes': WHATEVER THE INPUT: true; the input reads as it did. -/
def repairCrashesSpec : ChangeSpec := { name := "repairCrashes", fn := fun _ => fun
  | [d] => { results := [.lit (.bool true)], args := [d] }
  | _ => none }
def repairCrashesRow : OpenClaim := { program := "ytlgdjigocopglaagreatdoor", sum := "f1ad32af82a96853d433fb059e2e6b1155f6a86693c22ae945c35e06cbacb00d", func := "skipgraph/skipgraphlaw18.RepairCrashes", spec := "repairCrashes", inPlace := ["internal/reflectlite.ValueOf", "(internal/reflectlite.Value).Len", "internal/reflectlite.Swapper", "slices.overlaps[int]"], unfollowed := true, recurses := true, named := ["skipgraph/skipgraphworld.letters", "math/bits.deBruijn32tab"], apart := false, laid := [("math/bits.deBruijn32tab", laid_math_bits_deBruijn32tab), ("skipgraph/skipgraphworld.letters", laid_skipgraph_skipgraphworld_letters)] }
def RepairCrashesSaid : Prop := repairCrashesRow.holds Tryz.pinned (OpenSpec.ofChange repairCrashesSpec)

/-- ITS FALSE NEIGHBOUR: 'it returns false'. Refute it at one input. -/
def repairCrashesWrong : ChangeSpec := { name := "repairCrashes", fn := fun _ => fun
  | [d] => { results := [.lit (.bool false)], args := [d] }
  | _ => none }
def RepairCrashesWrongFalsely : Prop := repairCrashesRow.holds Tryz.pinned (OpenSpec.ofChange repairCrashesWrong)

/- THE SECOND FORM. 'bulk': how many values and letters a reading holds, each counted each time it is reached (what is shared counts as often as it is met; a slice's spare places count too). A statement '..UptoSaid' is the law's where the arguments, and the package variables that the reading takes, are together of bulk at most 1048576: NARROWER than '..Said'. Prove '..Said' where nothing that the law and all that it calls make is longer than what came in: it says more and counts as full. Else prove '..UptoSaid'. A law counts once. -/
mutual
def uptoBulk {H : Type} : DataW H → Nat
  | .lit (.string bytes) => bytes.length + 1
  | .lit _ => 1
  | .nil => 1
  | .ptr d => uptoBulk d + 1
  | .slice elems spare => uptoBulkAll elems + uptoBulkAll spare + 1
  | .agg parts => uptoBulkAll parts + 1
  | .iface _ d => uptoBulk d + 1
  | .map entries => uptoBulkEntries entries + 1
  | .held _ => 1
def uptoBulkAll {H : Type} : List (DataW H) → Nat
  | [] => 0
  | d :: r => uptoBulk d + uptoBulkAll r
def uptoBulkEntries {H : Type} : List (Lit × DataW H) → Nat
  | [] => 0
  | x :: r => uptoBulkEntry x + uptoBulkEntries r
def uptoBulkEntry {H : Type} : Lit × DataW H → Nat
  | (.string bytes, d) => bytes.length + uptoBulk d + 1
  | (_, d) => uptoBulk d + 1
 end
def uptoSmall : (H : Type) → List (DataW H) → Bool := fun _ ds => decide (uptoBulkAll ds ≤ 1048576)
def OpenSpec.upto (s : _root_.Go.ChangeSpec) : _root_.Go.OpenSpec := { _root_.Go.OpenSpec.ofChange s with cond := some uptoSmall }

/-- 'skipgraphlaw17.BridgeRounds', WHERE WHAT IT READS IS OF BULK AT MOST 1048576: true; the input reads as it did. -/
def bridgeRoundsUptoRow : OpenClaim := { program := "ytlgdjigocopglaagreatdoor", sum := "f1ad32af82a96853d433fb059e2e6b1155f6a86693c22ae945c35e06cbacb00d", func := "skipgraph/skipgraphlaw17.BridgeRounds", spec := "bridgeRounds", inPlace := ["internal/reflectlite.ValueOf", "(internal/reflectlite.Value).Len", "internal/reflectlite.Swapper"], unfollowed := true, recurses := true, named := ["skipgraph/skipgraphworld.letters", "math/bits.deBruijn32tab"], apart := false, laid := [("math/bits.deBruijn32tab", laid_math_bits_deBruijn32tab), ("skipgraph/skipgraphworld.letters", laid_skipgraph_skipgraphworld_letters)], narrowed := true }
def BridgeRoundsUptoSaid : Prop := bridgeRoundsUptoRow.holds Tryz.pinned (OpenSpec.upto bridgeRoundsSpec)

/-- 'skipgraphlaw18.RepairRounds', WHERE WHAT IT READS IS OF BULK AT MOST 1048576: true; the input reads as it did. -/
def repairRoundsUptoRow : OpenClaim := { program := "ytlgdjigocopglaagreatdoor", sum := "f1ad32af82a96853d433fb059e2e6b1155f6a86693c22ae945c35e06cbacb00d", func := "skipgraph/skipgraphlaw18.RepairRounds", spec := "repairRounds", inPlace := ["internal/reflectlite.ValueOf", "(internal/reflectlite.Value).Len", "internal/reflectlite.Swapper", "slices.overlaps[int]"], unfollowed := true, recurses := true, named := ["skipgraph/skipgraphworld.letters", "math/bits.deBruijn32tab"], apart := false, laid := [("math/bits.deBruijn32tab", laid_math_bits_deBruijn32tab), ("skipgraph/skipgraphworld.letters", laid_skipgraph_skipgraphworld_letters)], narrowed := true }
def RepairRoundsUptoSaid : Prop := repairRoundsUptoRow.holds Tryz.pinned (OpenSpec.upto repairRoundsSpec)

/-- 'skipgraphlaw18.RepairCleans', WHERE WHAT IT READS IS OF BULK AT MOST 1048576: true; the input reads as it did. -/
def repairCleansUptoRow : OpenClaim := { program := "ytlgdjigocopglaagreatdoor", sum := "f1ad32af82a96853d433fb059e2e6b1155f6a86693c22ae945c35e06cbacb00d", func := "skipgraph/skipgraphlaw18.RepairCleans", spec := "repairCleans", inPlace := ["internal/reflectlite.ValueOf", "(internal/reflectlite.Value).Len", "internal/reflectlite.Swapper", "slices.overlaps[int]"], unfollowed := true, recurses := true, named := ["skipgraph/skipgraphworld.letters", "math/bits.deBruijn32tab"], apart := false, laid := [("math/bits.deBruijn32tab", laid_math_bits_deBruijn32tab), ("skipgraph/skipgraphworld.letters", laid_skipgraph_skipgraphworld_letters)], narrowed := true }
def RepairCleansUptoSaid : Prop := repairCleansUptoRow.holds Tryz.pinned (OpenSpec.upto repairCleansSpec)

/-- 'skipgraphlaw18.RepairRejoins', WHERE WHAT IT READS IS OF BULK AT MOST 1048576: true; the input reads as it did. -/
def repairRejoinsUptoRow : OpenClaim := { program := "ytlgdjigocopglaagreatdoor", sum := "f1ad32af82a96853d433fb059e2e6b1155f6a86693c22ae945c35e06cbacb00d", func := "skipgraph/skipgraphlaw18.RepairRejoins", spec := "repairRejoins", inPlace := ["internal/reflectlite.ValueOf", "(internal/reflectlite.Value).Len", "internal/reflectlite.Swapper", "slices.overlaps[int]"], unfollowed := true, recurses := true, named := ["skipgraph/skipgraphworld.letters", "math/bits.deBruijn32tab"], apart := false, laid := [("math/bits.deBruijn32tab", laid_math_bits_deBruijn32tab), ("skipgraph/skipgraphworld.letters", laid_skipgraph_skipgraphworld_letters)], narrowed := true }
def RepairRejoinsUptoSaid : Prop := repairRejoinsUptoRow.holds Tryz.pinned (OpenSpec.upto repairRejoinsSpec)

/-- 'skipgraphlaw18.RepairJoins', WHERE WHAT IT READS IS OF BULK AT MOST 1048576: true; the input reads as it did. -/
def repairJoinsUptoRow : OpenClaim := { program := "ytlgdjigocopglaagreatdoor", sum := "f1ad32af82a96853d433fb059e2e6b1155f6a86693c22ae945c35e06cbacb00d", func := "skipgraph/skipgraphlaw18.RepairJoins", spec := "repairJoins", inPlace := ["internal/reflectlite.ValueOf", "(internal/reflectlite.Value).Len", "internal/reflectlite.Swapper", "slices.overlaps[int]"], unfollowed := true, recurses := true, named := ["skipgraph/skipgraphworld.letters", "math/bits.deBruijn32tab"], apart := false, laid := [("math/bits.deBruijn32tab", laid_math_bits_deBruijn32tab), ("skipgraph/skipgraphworld.letters", laid_skipgraph_skipgraphworld_letters)], narrowed := true }
def RepairJoinsUptoSaid : Prop := repairJoinsUptoRow.holds Tryz.pinned (OpenSpec.upto repairJoinsSpec)

/-- 'skipgraphlaw18.RepairCrashes', WHERE WHAT IT READS IS OF BULK AT MOST 1048576: true; the input reads as it did. -/
def repairCrashesUptoRow : OpenClaim := { program := "ytlgdjigocopglaagreatdoor", sum := "f1ad32af82a96853d433fb059e2e6b1155f6a86693c22ae945c35e06cbacb00d", func := "skipgraph/skipgraphlaw18.RepairCrashes", spec := "repairCrashes", inPlace := ["internal/reflectlite.ValueOf", "(internal/reflectlite.Value).Len", "internal/reflectlite.Swapper", "slices.overlaps[int]"], unfollowed := true, recurses := true, named := ["skipgraph/skipgraphworld.letters", "math/bits.deBruijn32tab"], apart := false, laid := [("math/bits.deBruijn32tab", laid_math_bits_deBruijn32tab), ("skipgraph/skipgraphworld.letters", laid_skipgraph_skipgraphworld_letters)], narrowed := true }
def RepairCrashesUptoSaid : Prop := repairCrashesUptoRow.holds Tryz.pinned (OpenSpec.upto repairCrashesSpec)

end Rows
end Go.Proofs.YtlgdjigocopglaaGreatDoor
