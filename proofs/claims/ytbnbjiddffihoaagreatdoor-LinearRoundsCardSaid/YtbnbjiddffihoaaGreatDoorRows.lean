/-
  NARROWER THAN 'FOR EVERY INPUT', by the rows' own cells (each row's printed sentence says how): LinearRounds: laid · BridgeRounds: laid · BridgeClimbs: laid · BridgeKeeps: laid.
  DERIVED. THE GIVEN ROWS OF THIS SEAT. 4 by the template 'for every input the law returns true; each argument reads behind the call as it read before'; 0 by the template 'total and deterministic' (their statements: YtbnbjiddffihoaaGreatDoorTotals.lean).
  GIVEN WITH THE SEED: the statements are not yours to turn. If you find one false, say at which input.
  Laid BY PROGRAM, IN A SANDBOX (cutbox-rows.mjs): the forced cells as the released guide's own fill.sh prints them over the translation b31705052d1adf35… (all of the seat's roots in one cut). By AI agents, Wed Nov 11 2026. No macro, syntax, notation, axiom, sorry.
-/
import Derived.Test.YtbnbjiddffihoaaGreatDoorChecked
import GoSem.Claim
import GoSem.ClaimJoined
import GoSem.ClaimMapViews
import Derived.JoinedTies
import Derived.KernelRfl
namespace Go.Proofs.YtbnbjiddffihoaaGreatDoor
/- THE CELL 'sum', in the pinned program and in every row, IS THE sha256 OF THE DUMP (.gsa) THAT YtbnbjiddffihoaaGreatDoorProg.lean LOADS. Nothing in Lean hashes anything: it is a label: what it is worth is what the hold of that sum in a sandbox is worth. -/
noncomputable def Tryz.pinned : Pinned := { name := "ytbnbjiddffihoaagreatdoor", sum := "b31705052d1adf3556853ea2e62ecb9252b833d9996d450d3bcc233fff5be8db", checked := Tryz.checked }
namespace Rows
def none {H : Type} : Left H := { results := [], args := [] }

/- WHAT THE LISTED PACKAGE-LEVEL VARIABLES READ AS WHEN THE CALL BEGINS. Each datum BY PROGRAM (the guide's laid-datum.mjs) off the statement by which the dump's own 'gosem.cut.vars' lays the variable. In a bare row this is a premise. The card (YtbnbjiddffihoaaGreatDoorCards.lean) ties it to the program's text. -/
def laid_math_bits_deBruijn32tab {H : Type} : DataW H := .agg [.lit (.int .u8 0), .lit (.int .u8 1), .lit (.int .u8 28), .lit (.int .u8 2), .lit (.int .u8 29), .lit (.int .u8 14), .lit (.int .u8 24), .lit (.int .u8 3), .lit (.int .u8 30), .lit (.int .u8 22), .lit (.int .u8 20), .lit (.int .u8 15), .lit (.int .u8 25), .lit (.int .u8 17), .lit (.int .u8 4), .lit (.int .u8 8), .lit (.int .u8 31), .lit (.int .u8 27), .lit (.int .u8 13), .lit (.int .u8 23), .lit (.int .u8 21), .lit (.int .u8 19), .lit (.int .u8 16), .lit (.int .u8 7), .lit (.int .u8 26), .lit (.int .u8 12), .lit (.int .u8 18), .lit (.int .u8 6), .lit (.int .u8 11), .lit (.int .u8 5), .lit (.int .u8 10), .lit (.int .u8 9)]
def laid_skipgraph_skipgraphworld_letters {H : Type} : DataW H := .agg [.lit (.string [97]), .lit (.string [98]), .lit (.string [99]), .lit (.string [0]), .lit (.string [255]), .lit (.string [109])]

/-- 'skipgraphlaw16.LinearRounds': WHATEVER THE INPUT: true; the input reads as it did. -/
def linearRoundsSpec : ChangeSpec := { name := "linearRounds", fn := fun _ => fun
  | [d1, d2, d3, d4] => { results := [.lit (.bool true)], args := [d1, d2, d3, d4] }
  | _ => none }
def linearRoundsRow : OpenClaim := { program := "ytbnbjiddffihoaagreatdoor", sum := "b31705052d1adf3556853ea2e62ecb9252b833d9996d450d3bcc233fff5be8db", func := "skipgraph/skipgraphlaw16.LinearRounds", spec := "linearRounds", inPlace := ["internal/reflectlite.ValueOf", "(internal/reflectlite.Value).Len", "internal/reflectlite.Swapper", "slices.overlaps[int]"], unfollowed := true, recurses := true, named := ["skipgraph/skipgraphworld.letters", "math/bits.deBruijn32tab"], apart := false, laid := [("math/bits.deBruijn32tab", laid_math_bits_deBruijn32tab), ("skipgraph/skipgraphworld.letters", laid_skipgraph_skipgraphworld_letters)] }
def LinearRoundsSaid : Prop := linearRoundsRow.holds Tryz.pinned (OpenSpec.ofChange linearRoundsSpec)

/-- ITS FALSE NEIGHBOUR: 'it returns false'. Refute it at one input. -/
def linearRoundsWrong : ChangeSpec := { name := "linearRounds", fn := fun _ => fun
  | [d1, d2, d3, d4] => { results := [.lit (.bool false)], args := [d1, d2, d3, d4] }
  | _ => none }
def LinearRoundsWrongFalsely : Prop := linearRoundsRow.holds Tryz.pinned (OpenSpec.ofChange linearRoundsWrong)

/-- 'skipgraphlaw17.BridgeRounds': WHATEVER THE INPUT: true; the input reads as it did. -/
def bridgeRoundsSpec : ChangeSpec := { name := "bridgeRounds", fn := fun _ => fun
  | [d1, d2, d3, d4, d5] => { results := [.lit (.bool true)], args := [d1, d2, d3, d4, d5] }
  | _ => none }
def bridgeRoundsRow : OpenClaim := { program := "ytbnbjiddffihoaagreatdoor", sum := "b31705052d1adf3556853ea2e62ecb9252b833d9996d450d3bcc233fff5be8db", func := "skipgraph/skipgraphlaw17.BridgeRounds", spec := "bridgeRounds", inPlace := ["internal/reflectlite.ValueOf", "(internal/reflectlite.Value).Len", "internal/reflectlite.Swapper"], unfollowed := true, recurses := true, named := ["skipgraph/skipgraphworld.letters", "math/bits.deBruijn32tab"], apart := false, laid := [("math/bits.deBruijn32tab", laid_math_bits_deBruijn32tab), ("skipgraph/skipgraphworld.letters", laid_skipgraph_skipgraphworld_letters)] }
def BridgeRoundsSaid : Prop := bridgeRoundsRow.holds Tryz.pinned (OpenSpec.ofChange bridgeRoundsSpec)

/-- ITS FALSE NEIGHBOUR: 'it returns false'. Refute it at one input. -/
def bridgeRoundsWrong : ChangeSpec := { name := "bridgeRounds", fn := fun _ => fun
  | [d1, d2, d3, d4, d5] => { results := [.lit (.bool false)], args := [d1, d2, d3, d4, d5] }
  | _ => none }
def BridgeRoundsWrongFalsely : Prop := bridgeRoundsRow.holds Tryz.pinned (OpenSpec.ofChange bridgeRoundsWrong)

/-- 'skipgraphlaw17.BridgeClimbs': WHATEVER THE INPUT: true; the input reads as it did. -/
def bridgeClimbsSpec : ChangeSpec := { name := "bridgeClimbs", fn := fun _ => fun
  | [d] => { results := [.lit (.bool true)], args := [d] }
  | _ => none }
def bridgeClimbsRow : OpenClaim := { program := "ytbnbjiddffihoaagreatdoor", sum := "b31705052d1adf3556853ea2e62ecb9252b833d9996d450d3bcc233fff5be8db", func := "skipgraph/skipgraphlaw17.BridgeClimbs", spec := "bridgeClimbs", inPlace := ["internal/reflectlite.ValueOf", "(internal/reflectlite.Value).Len", "internal/reflectlite.Swapper"], unfollowed := true, recurses := true, named := ["skipgraph/skipgraphworld.letters", "math/bits.deBruijn32tab"], apart := false, laid := [("math/bits.deBruijn32tab", laid_math_bits_deBruijn32tab), ("skipgraph/skipgraphworld.letters", laid_skipgraph_skipgraphworld_letters)] }
def BridgeClimbsSaid : Prop := bridgeClimbsRow.holds Tryz.pinned (OpenSpec.ofChange bridgeClimbsSpec)

/-- ITS FALSE NEIGHBOUR: 'it returns false'. Refute it at one input. -/
def bridgeClimbsWrong : ChangeSpec := { name := "bridgeClimbs", fn := fun _ => fun
  | [d] => { results := [.lit (.bool false)], args := [d] }
  | _ => none }
def BridgeClimbsWrongFalsely : Prop := bridgeClimbsRow.holds Tryz.pinned (OpenSpec.ofChange bridgeClimbsWrong)

/-- 'skipgraphlaw17.BridgeKeeps': WHATEVER THE INPUT: true; the input reads as it did. -/
def bridgeKeepsSpec : ChangeSpec := { name := "bridgeKeeps", fn := fun _ => fun
  | [d] => { results := [.lit (.bool true)], args := [d] }
  | _ => none }
def bridgeKeepsRow : OpenClaim := { program := "ytbnbjiddffihoaagreatdoor", sum := "b31705052d1adf3556853ea2e62ecb9252b833d9996d450d3bcc233fff5be8db", func := "skipgraph/skipgraphlaw17.BridgeKeeps", spec := "bridgeKeeps", inPlace := ["internal/reflectlite.ValueOf", "(internal/reflectlite.Value).Len", "internal/reflectlite.Swapper"], unfollowed := true, recurses := true, named := ["skipgraph/skipgraphworld.letters", "math/bits.deBruijn32tab"], apart := false, laid := [("math/bits.deBruijn32tab", laid_math_bits_deBruijn32tab), ("skipgraph/skipgraphworld.letters", laid_skipgraph_skipgraphworld_letters)] }
def BridgeKeepsSaid : Prop := bridgeKeepsRow.holds Tryz.pinned (OpenSpec.ofChange bridgeKeepsSpec)

/-- ITS FALSE NEIGHBOUR: 'it returns false'. Refute it at one input. -/
def bridgeKeepsWrong : ChangeSpec := { name := "bridgeKeeps", fn := fun _ => fun
  | [d] => { results := [.lit (.bool false)], args := [d] }
  | _ => none }
def BridgeKeepsWrongFalsely : Prop := bridgeKeepsRow.holds Tryz.pinned (OpenSpec.ofChange bridgeKeepsWrong)

/- THE SECOND FORM. 'bulk': how many values and letters a reading holds, each counted each time it is reached (what is shared counts as often as it is met; a slice's spare places count too). A statement '..UptoSaid' is the law's where the arguments, and the package variables that the reading takes, are together of bulk at most 1048576: NARROWER than '..Said'. Prove '..Said' where nothing that the law and all that it calls make is longer than what came in: it says more and counts as full. Else prove '..UptoSaid'. A law counts once. -/
mutual
def uptoBulk {H : Type} : DataW H → Nat
  | .lit (.string bytes) => bytes.length + 1
  | .lit _ => 1
  | .nil => 1
  | .ptr d => uptoBulk d + 1
  | .slice elems spare => uptoBulkAll elems + uptoBulkAll spare + 1
  | .agg parts => uptoBulkAll parts + 1
  | .iface _ d => uptoBulk d + 1
  | .map entries => uptoBulkEntries entries + 1
  | .held _ => 1
def uptoBulkAll {H : Type} : List (DataW H) → Nat
  | [] => 0
  | d :: r => uptoBulk d + uptoBulkAll r
def uptoBulkEntries {H : Type} : List (Lit × DataW H) → Nat
  | [] => 0
  | x :: r => uptoBulkEntry x + uptoBulkEntries r
def uptoBulkEntry {H : Type} : Lit × DataW H → Nat
  | (.string bytes, d) => bytes.length + uptoBulk d + 1
  | (_, d) => uptoBulk d + 1
 end
def uptoSmall : (H : Type) → List (DataW H) → Bool := fun _ ds => decide (uptoBulkAll ds ≤ 1048576)
def OpenSpec.upto (s : _root_.Go.ChangeSpec) : _root_.Go.OpenSpec := { _root_.Go.OpenSpec.ofChange s with cond := some uptoSmall }

/-- 'skipgraphlaw16.LinearRounds', WHERE WHAT IT READS IS OF BULK AT MOST 1048576: true; the input reads as it did. -/
def linearRoundsUptoRow : OpenClaim := { program := "ytbnbjiddffihoaagreatdoor", sum := "b31705052d1adf3556853ea2e62ecb9252b833d9996d450d3bcc233fff5be8db", func := "skipgraph/skipgraphlaw16.LinearRounds", spec := "linearRounds", inPlace := ["internal/reflectlite.ValueOf", "(internal/reflectlite.Value).Len", "internal/reflectlite.Swapper", "slices.overlaps[int]"], unfollowed := true, recurses := true, named := ["skipgraph/skipgraphworld.letters", "math/bits.deBruijn32tab"], apart := false, laid := [("math/bits.deBruijn32tab", laid_math_bits_deBruijn32tab), ("skipgraph/skipgraphworld.letters", laid_skipgraph_skipgraphworld_letters)], narrowed := true }
def LinearRoundsUptoSaid : Prop := linearRoundsUptoRow.holds Tryz.pinned (OpenSpec.upto linearRoundsSpec)

/-- 'skipgraphlaw17.BridgeRounds', WHERE WHAT IT READS IS OF BULK AT MOST 1048576: true; the input reads as it did. -/
def bridgeRoundsUptoRow : OpenClaim := { program := "ytbnbjiddffihoaagreatdoor", sum := "b31705052d1adf3556853ea2e62ecb9252b833d9996d450d3bcc233fff5be8db", func := "skipgraph/skipgraphlaw17.BridgeRounds", spec := "bridgeRounds", inPlace := ["internal/reflectlite.ValueOf", "(internal/reflectlite.Value).Len", "internal/reflectlite.Swapper"], unfollowed := true, recurses := true, named := ["skipgraph/skipgraphworld.letters", "math/bits.deBruijn32tab"], apart := false, laid := [("math/bits.deBruijn32tab", laid_math_bits_deBruijn32tab), ("skipgraph/skipgraphworld.letters", laid_skipgraph_skipgraphworld_letters)], narrowed := true }
def BridgeRoundsUptoSaid : Prop := bridgeRoundsUptoRow.holds Tryz.pinned (OpenSpec.upto bridgeRoundsSpec)

/-- 'skipgraphlaw17.BridgeClimbs', WHERE WHAT IT READS IS OF BULK AT MOST 1048576: true; the input reads as it did. -/
def bridgeClimbsUptoRow : OpenClaim := { program := "ytbnbjiddffihoaagreatdoor", sum := "b31705052d1adf3556853ea2e62ecb9252b833d9996d450d3bcc233fff5be8db", func := "skipgraph/skipgraphlaw17.BridgeClimbs", spec := "bridgeClimbs", inPlace := ["internal/reflectlite.ValueOf", "(internal/reflectlite.Value).Len", "internal/reflectlite.Swapper"], unfollowed := true, recurses := true, named := ["skipgraph/skipgraphworld.letters", "math/bits.deBruijn32tab"], apart := false, laid := [("math/bits.deBruijn32tab", laid_math_bits_deBruijn32tab), ("skipgraph/skipgraphworld.letters", laid_skipgraph_skipgraphworld_letters)], narrowed := true }
def BridgeClimbsUptoSaid : Prop := bridgeClimbsUptoRow.holds Tryz.pinned (OpenSpec.upto bridgeClimbsSpec)

/-- 'skipgraphlaw17.BridgeKeeps', WHERE WHAT IT READS IS OF BULK AT MOST 1048576: true; the input reads as it did. -/
def bridgeKeepsUptoRow : OpenClaim := { program := "ytbnbjiddffihoaagreatdoor", sum := "b31705052d1adf3556853ea2e62ecb9252b833d9996d450d3bcc233fff5be8db", func := "skipgraph/skipgraphlaw17.BridgeKeeps", spec := "bridgeKeeps", inPlace := ["internal/reflectlite.ValueOf", "(internal/reflectlite.Value).Len", "internal/reflectlite.Swapper"], unfollowed := true, recurses := true, named := ["skipgraph/skipgraphworld.letters", "math/bits.deBruijn32tab"], apart := false, laid := [("math/bits.deBruijn32tab", laid_math_bits_deBruijn32tab), ("skipgraph/skipgraphworld.letters", laid_skipgraph_skipgraphworld_letters)], narrowed := true }
def BridgeKeepsUptoSaid : Prop := bridgeKeepsUptoRow.holds Tryz.pinned (OpenSpec.upto bridgeKeepsSpec)

end Rows
end Go.Proofs.YtbnbjiddffihoaaGreatDoor
