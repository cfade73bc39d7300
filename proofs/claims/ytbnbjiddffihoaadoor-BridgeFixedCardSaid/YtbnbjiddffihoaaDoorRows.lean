/-
  NARROWER THAN 'FOR EVERY INPUT', by the rows' own cells (each row's printed sentence says how): RedundantContacts: laid · RedundantRefs: laid · LinearSorts: laid · LinearChains: laid · LinearMutual: laid · LinearGarbage: laid · LinearConnects: laid · BridgeFixed: laid.
  DERIVED. THE GIVEN ROWS OF THIS SEAT. 8 by the template 'for every input the law returns true; each argument reads behind the call as it read before'; 0 by the template 'total and deterministic' (their statements: YtbnbjiddffihoaaDoorTotals.lean).
  GIVEN WITH THE SEED: the statements are not yours to turn. If you find one false, say at which input.
  Laid BY PROGRAM, IN A SANDBOX (cutbox-rows.mjs): the forced cells as the released guide's own fill.sh prints them over the translation 7378573ae9f34acf… (all of the seat's roots in one cut). By AI agents, Wed Nov 11 2026. No macro, syntax, notation, axiom, sorry.
-/
import Derived.Test.YtbnbjiddffihoaaDoorChecked
import GoSem.Claim
import GoSem.ClaimJoined
import GoSem.ClaimMapViews
import Derived.JoinedTies
import Derived.KernelRfl
namespace Go.Proofs.YtbnbjiddffihoaaDoor
/- THE CELL 'sum', in the pinned program and in every row, IS THE sha256 OF THE DUMP (.gsa) THAT YtbnbjiddffihoaaDoorProg.lean LOADS. Nothing in Lean hashes anything: it is a label: what it is worth is what the hold of that sum in a sandbox is worth. -/
noncomputable def Tryd.pinned : Pinned := { name := "ytbnbjiddffihoaadoor", sum := "7378573ae9f34acf4314ec59419e1fc3162e00cd59bac2b3426f730fcb076d29", checked := Tryd.checked }
namespace Rows
def none {H : Type} : Left H := { results := [], args := [] }

/- WHAT THE LISTED PACKAGE-LEVEL VARIABLES READ AS WHEN THE CALL BEGINS. Each datum BY PROGRAM (the guide's laid-datum.mjs) off the statement by which the dump's own 'gosem.cut.vars' lays the variable. In a bare row this is a premise. The card (YtbnbjiddffihoaaDoorCards.lean) ties it to the program's text. -/
def laid_math_bits_deBruijn32tab {H : Type} : DataW H := .agg [.lit (.int .u8 0), .lit (.int .u8 1), .lit (.int .u8 28), .lit (.int .u8 2), .lit (.int .u8 29), .lit (.int .u8 14), .lit (.int .u8 24), .lit (.int .u8 3), .lit (.int .u8 30), .lit (.int .u8 22), .lit (.int .u8 20), .lit (.int .u8 15), .lit (.int .u8 25), .lit (.int .u8 17), .lit (.int .u8 4), .lit (.int .u8 8), .lit (.int .u8 31), .lit (.int .u8 27), .lit (.int .u8 13), .lit (.int .u8 23), .lit (.int .u8 21), .lit (.int .u8 19), .lit (.int .u8 16), .lit (.int .u8 7), .lit (.int .u8 26), .lit (.int .u8 12), .lit (.int .u8 18), .lit (.int .u8 6), .lit (.int .u8 11), .lit (.int .u8 5), .lit (.int .u8 10), .lit (.int .u8 9)]
def laid_skipgraph_skipgraphworld_letters {H : Type} : DataW H := .agg [.lit (.string [97]), .lit (.string [98]), .lit (.string [99]), .lit (.string [0]), .lit (.string [255]), .lit (.string [109])]

/-- 'skipgraphlaw14.RedundantContacts': WHATEVER THE INPUT: true; the input reads as it did. -/
def redundantContactsSpec : ChangeSpec := { name := "redundantContacts", fn := fun _ => fun
  | [d1, d2, d3, d4, d5, d6] => { results := [.lit (.bool true)], args := [d1, d2, d3, d4, d5, d6] }
  | _ => none }
def redundantContactsRow : OpenClaim := { program := "ytbnbjiddffihoaadoor", sum := "7378573ae9f34acf4314ec59419e1fc3162e00cd59bac2b3426f730fcb076d29", func := "skipgraph/skipgraphlaw14.RedundantContacts", spec := "redundantContacts", inPlace := ["internal/reflectlite.ValueOf", "(internal/reflectlite.Value).Len", "internal/reflectlite.Swapper"], unfollowed := true, recurses := true, named := ["skipgraph/skipgraphworld.letters", "math/bits.deBruijn32tab"], apart := false, laid := [("math/bits.deBruijn32tab", laid_math_bits_deBruijn32tab), ("skipgraph/skipgraphworld.letters", laid_skipgraph_skipgraphworld_letters)] }
def RedundantContactsSaid : Prop := redundantContactsRow.holds Tryd.pinned (OpenSpec.ofChange redundantContactsSpec)

/-- ITS FALSE NEIGHBOUR: 'it returns false'. Refute it at one input. -/
def redundantContactsWrong : ChangeSpec := { name := "redundantContacts", fn := fun _ => fun
  | [d1, d2, d3, d4, d5, d6] => { results := [.lit (.bool false)], args := [d1, d2, d3, d4, d5, d6] }
  | _ => none }
def RedundantContactsWrongFalsely : Prop := redundantContactsRow.holds Tryd.pinned (OpenSpec.ofChange redundantContactsWrong)

/-- 'skipgraphlaw14.RedundantRefs': WHATEVER THE INPUT: true; the input reads as it did. -/
def redundantRefsSpec : ChangeSpec := { name := "redundantRefs", fn := fun _ => fun
  | [d1, d2, d3] => { results := [.lit (.bool true)], args := [d1, d2, d3] }
  | _ => none }
def redundantRefsRow : OpenClaim := { program := "ytbnbjiddffihoaadoor", sum := "7378573ae9f34acf4314ec59419e1fc3162e00cd59bac2b3426f730fcb076d29", func := "skipgraph/skipgraphlaw14.RedundantRefs", spec := "redundantRefs", inPlace := ["internal/reflectlite.ValueOf", "(internal/reflectlite.Value).Len", "internal/reflectlite.Swapper"], unfollowed := true, recurses := true, named := ["skipgraph/skipgraphworld.letters", "math/bits.deBruijn32tab"], apart := false, laid := [("math/bits.deBruijn32tab", laid_math_bits_deBruijn32tab), ("skipgraph/skipgraphworld.letters", laid_skipgraph_skipgraphworld_letters)] }
def RedundantRefsSaid : Prop := redundantRefsRow.holds Tryd.pinned (OpenSpec.ofChange redundantRefsSpec)

/-- ITS FALSE NEIGHBOUR: 'it returns false'. Refute it at one input. -/
def redundantRefsWrong : ChangeSpec := { name := "redundantRefs", fn := fun _ => fun
  | [d1, d2, d3] => { results := [.lit (.bool false)], args := [d1, d2, d3] }
  | _ => none }
def RedundantRefsWrongFalsely : Prop := redundantRefsRow.holds Tryd.pinned (OpenSpec.ofChange redundantRefsWrong)

/-- 'skipgraphlaw16.LinearSorts': WHATEVER THE INPUT: true; the input reads as it did. -/
def linearSortsSpec : ChangeSpec := { name := "linearSorts", fn := fun _ => fun
  | [d] => { results := [.lit (.bool true)], args := [d] }
  | _ => none }
def linearSortsRow : OpenClaim := { program := "ytbnbjiddffihoaadoor", sum := "7378573ae9f34acf4314ec59419e1fc3162e00cd59bac2b3426f730fcb076d29", func := "skipgraph/skipgraphlaw16.LinearSorts", spec := "linearSorts", inPlace := ["internal/reflectlite.ValueOf", "(internal/reflectlite.Value).Len", "internal/reflectlite.Swapper", "slices.overlaps[int]"], unfollowed := true, recurses := true, named := ["skipgraph/skipgraphworld.letters", "math/bits.deBruijn32tab"], apart := false, laid := [("math/bits.deBruijn32tab", laid_math_bits_deBruijn32tab), ("skipgraph/skipgraphworld.letters", laid_skipgraph_skipgraphworld_letters)] }
def LinearSortsSaid : Prop := linearSortsRow.holds Tryd.pinned (OpenSpec.ofChange linearSortsSpec)

/-- ITS FALSE NEIGHBOUR: 'it returns false'. Refute it at one input. -/
def linearSortsWrong : ChangeSpec := { name := "linearSorts", fn := fun _ => fun
  | [d] => { results := [.lit (.bool false)], args := [d] }
  | _ => none }
def LinearSortsWrongFalsely : Prop := linearSortsRow.holds Tryd.pinned (OpenSpec.ofChange linearSortsWrong)

/-- 'skipgraphlaw16.LinearChains': WHATEVER THE INPUT: true; the input reads as it did. -/
def linearChainsSpec : ChangeSpec := { name := "linearChains", fn := fun _ => fun
  | [d] => { results := [.lit (.bool true)], args := [d] }
  | _ => none }
def linearChainsRow : OpenClaim := { program := "ytbnbjiddffihoaadoor", sum := "7378573ae9f34acf4314ec59419e1fc3162e00cd59bac2b3426f730fcb076d29", func := "skipgraph/skipgraphlaw16.LinearChains", spec := "linearChains", inPlace := ["internal/reflectlite.ValueOf", "(internal/reflectlite.Value).Len", "internal/reflectlite.Swapper", "slices.overlaps[int]"], unfollowed := true, recurses := true, named := ["skipgraph/skipgraphworld.letters", "math/bits.deBruijn32tab"], apart := false, laid := [("math/bits.deBruijn32tab", laid_math_bits_deBruijn32tab), ("skipgraph/skipgraphworld.letters", laid_skipgraph_skipgraphworld_letters)] }
def LinearChainsSaid : Prop := linearChainsRow.holds Tryd.pinned (OpenSpec.ofChange linearChainsSpec)

/-- ITS FALSE NEIGHBOUR: 'it returns false'. Refute it at one input. -/
def linearChainsWrong : ChangeSpec := { name := "linearChains", fn := fun _ => fun
  | [d] => { results := [.lit (.bool false)], args := [d] }
  | _ => none }
def LinearChainsWrongFalsely : Prop := linearChainsRow.holds Tryd.pinned (OpenSpec.ofChange linearChainsWrong)

/-- 'skipgraphlaw16.LinearMutual': WHATEVER THE INPUT: true; the input reads as it did. -/
def linearMutualSpec : ChangeSpec := { name := "linearMutual", fn := fun _ => fun
  | [d] => { results := [.lit (.bool true)], args := [d] }
  | _ => none }
def linearMutualRow : OpenClaim := { program := "ytbnbjiddffihoaadoor", sum := "7378573ae9f34acf4314ec59419e1fc3162e00cd59bac2b3426f730fcb076d29", func := "skipgraph/skipgraphlaw16.LinearMutual", spec := "linearMutual", inPlace := ["internal/reflectlite.ValueOf", "(internal/reflectlite.Value).Len", "internal/reflectlite.Swapper", "slices.overlaps[int]"], unfollowed := true, recurses := true, named := ["skipgraph/skipgraphworld.letters", "math/bits.deBruijn32tab"], apart := false, laid := [("math/bits.deBruijn32tab", laid_math_bits_deBruijn32tab), ("skipgraph/skipgraphworld.letters", laid_skipgraph_skipgraphworld_letters)] }
def LinearMutualSaid : Prop := linearMutualRow.holds Tryd.pinned (OpenSpec.ofChange linearMutualSpec)

/-- ITS FALSE NEIGHBOUR: 'it returns false'. Refute it at one input. -/
def linearMutualWrong : ChangeSpec := { name := "linearMutual", fn := fun _ => fun
  | [d] => { results := [.lit (.bool false)], args := [d] }
  | _ => none }
def LinearMutualWrongFalsely : Prop := linearMutualRow.holds Tryd.pinned (OpenSpec.ofChange linearMutualWrong)

/-- 'skipgraphlaw16.LinearGarbage': WHATEVER THE INPUT: true; the input reads as it did. -/
def linearGarbageSpec : ChangeSpec := { name := "linearGarbage", fn := fun _ => fun
  | [d1, d2] => { results := [.lit (.bool true)], args := [d1, d2] }
  | _ => none }
def linearGarbageRow : OpenClaim := { program := "ytbnbjiddffihoaadoor", sum := "7378573ae9f34acf4314ec59419e1fc3162e00cd59bac2b3426f730fcb076d29", func := "skipgraph/skipgraphlaw16.LinearGarbage", spec := "linearGarbage", inPlace := ["internal/reflectlite.ValueOf", "(internal/reflectlite.Value).Len", "internal/reflectlite.Swapper", "slices.overlaps[int]"], unfollowed := true, recurses := true, named := ["skipgraph/skipgraphworld.letters", "math/bits.deBruijn32tab"], apart := false, laid := [("math/bits.deBruijn32tab", laid_math_bits_deBruijn32tab), ("skipgraph/skipgraphworld.letters", laid_skipgraph_skipgraphworld_letters)] }
def LinearGarbageSaid : Prop := linearGarbageRow.holds Tryd.pinned (OpenSpec.ofChange linearGarbageSpec)

/-- ITS FALSE NEIGHBOUR: 'it returns false'. Refute it at one input. -/
def linearGarbageWrong : ChangeSpec := { name := "linearGarbage", fn := fun _ => fun
  | [d1, d2] => { results := [.lit (.bool false)], args := [d1, d2] }
  | _ => none }
def LinearGarbageWrongFalsely : Prop := linearGarbageRow.holds Tryd.pinned (OpenSpec.ofChange linearGarbageWrong)

/-- 'skipgraphlaw16.LinearConnects': WHATEVER THE INPUT: true; the input reads as it did. -/
def linearConnectsSpec : ChangeSpec := { name := "linearConnects", fn := fun _ => fun
  | [d] => { results := [.lit (.bool true)], args := [d] }
  | _ => none }
def linearConnectsRow : OpenClaim := { program := "ytbnbjiddffihoaadoor", sum := "7378573ae9f34acf4314ec59419e1fc3162e00cd59bac2b3426f730fcb076d29", func := "skipgraph/skipgraphlaw16.LinearConnects", spec := "linearConnects", inPlace := ["internal/reflectlite.ValueOf", "(internal/reflectlite.Value).Len", "internal/reflectlite.Swapper", "slices.overlaps[int]"], unfollowed := true, recurses := true, named := ["skipgraph/skipgraphworld.letters", "math/bits.deBruijn32tab"], apart := false, laid := [("math/bits.deBruijn32tab", laid_math_bits_deBruijn32tab), ("skipgraph/skipgraphworld.letters", laid_skipgraph_skipgraphworld_letters)] }
def LinearConnectsSaid : Prop := linearConnectsRow.holds Tryd.pinned (OpenSpec.ofChange linearConnectsSpec)

/-- ITS FALSE NEIGHBOUR: 'it returns false'. Refute it at one input. -/
def linearConnectsWrong : ChangeSpec := { name := "linearConnects", fn := fun _ => fun
  | [d] => { results := [.lit (.bool false)], args := [d] }
  | _ => none }
def LinearConnectsWrongFalsely : Prop := linearConnectsRow.holds Tryd.pinned (OpenSpec.ofChange linearConnectsWrong)

/-- 'skipgraphlaw17.BridgeFixed': WHATEVER THE INPUT: true; the input reads as it did. -/
def bridgeFixedSpec : ChangeSpec := { name := "bridgeFixed", fn := fun _ => fun
  | [d] => { results := [.lit (.bool true)], args := [d] }
  | _ => none }
def bridgeFixedRow : OpenClaim := { program := "ytbnbjiddffihoaadoor", sum := "7378573ae9f34acf4314ec59419e1fc3162e00cd59bac2b3426f730fcb076d29", func := "skipgraph/skipgraphlaw17.BridgeFixed", spec := "bridgeFixed", inPlace := ["internal/reflectlite.ValueOf", "(internal/reflectlite.Value).Len", "internal/reflectlite.Swapper"], unfollowed := true, recurses := true, named := ["skipgraph/skipgraphworld.letters", "math/bits.deBruijn32tab"], apart := false, laid := [("math/bits.deBruijn32tab", laid_math_bits_deBruijn32tab), ("skipgraph/skipgraphworld.letters", laid_skipgraph_skipgraphworld_letters)] }
def BridgeFixedSaid : Prop := bridgeFixedRow.holds Tryd.pinned (OpenSpec.ofChange bridgeFixedSpec)

/-- ITS FALSE NEIGHBOUR: 'it returns false'. Refute it at one input. -/
def bridgeFixedWrong : ChangeSpec := { name := "bridgeFixed", fn := fun _ => fun
  | [d] => { results := [.lit (.bool false)], args := [d] }
  | _ => none }
def BridgeFixedWrongFalsely : Prop := bridgeFixedRow.holds Tryd.pinned (OpenSpec.ofChange bridgeFixedWrong)

/- THE SECOND FORM. 'bulk': how many values and letters a reading holds, each counted each time it is reached (what is shared counts as often as it is met; a slice's spare places count too). A statement '..UptoSaid' is the law's where the arguments, and the package variables that the reading takes, are together of bulk at most 1048576: NARROWER than '..Said'. Prove '..Said' where nothing that the law and all that it calls make is longer than what came in: it says more and counts as full. Else prove '..UptoSaid'. A law counts once. -/
mutual
def uptoBulk {H : Type} : DataW H → Nat
  | .lit (.string bytes) => bytes.length + 1
  | .lit _ => 1
  | .nil => 1
  | .ptr d => uptoBulk d + 1
  | .slice elems spare => uptoBulkAll elems + uptoBulkAll spare + 1
  | .agg parts => uptoBulkAll parts + 1
  | .iface _ d => uptoBulk d + 1
  | .map entries => uptoBulkEntries entries + 1
  | .held _ => 1
def uptoBulkAll {H : Type} : List (DataW H) → Nat
  | [] => 0
  | d :: r => uptoBulk d + uptoBulkAll r
def uptoBulkEntries {H : Type} : List (Lit × DataW H) → Nat
  | [] => 0
  | x :: r => uptoBulkEntry x + uptoBulkEntries r
def uptoBulkEntry {H : Type} : Lit × DataW H → Nat
  | (.string bytes, d) => bytes.length + uptoBulk d + 1
  | (_, d) => uptoBulk d + 1
 end
def uptoSmall : (H : Type) → List (DataW H) → Bool := fun _ ds => decide (uptoBulkAll ds ≤ 1048576)
def OpenSpec.upto (s : _root_.Go.ChangeSpec) : _root_.Go.OpenSpec := { _root_.Go.OpenSpec.ofChange s with cond := some uptoSmall }

/-- 'skipgraphlaw14.RedundantContacts', WHERE WHAT IT READS IS OF BULK AT MOST 1048576: true; the input reads as it did. -/
def redundantContactsUptoRow : OpenClaim := { program := "ytbnbjiddffihoaadoor", sum := "7378573ae9f34acf4314ec59419e1fc3162e00cd59bac2b3426f730fcb076d29", func := "skipgraph/skipgraphlaw14.RedundantContacts", spec := "redundantContacts", inPlace := ["internal/reflectlite.ValueOf", "(internal/reflectlite.Value).Len", "internal/reflectlite.Swapper"], unfollowed := true, recurses := true, named := ["skipgraph/skipgraphworld.letters", "math/bits.deBruijn32tab"], apart := false, laid := [("math/bits.deBruijn32tab", laid_math_bits_deBruijn32tab), ("skipgraph/skipgraphworld.letters", laid_skipgraph_skipgraphworld_letters)], narrowed := true }
def RedundantContactsUptoSaid : Prop := redundantContactsUptoRow.holds Tryd.pinned (OpenSpec.upto redundantContactsSpec)

/-- 'skipgraphlaw14.RedundantRefs', WHERE WHAT IT READS IS OF BULK AT MOST 1048576: true; the input reads as it did. -/
def redundantRefsUptoRow : OpenClaim := { program := "ytbnbjiddffihoaadoor", sum := "7378573ae9f34acf4314ec59419e1fc3162e00cd59bac2b3426f730fcb076d29", func := "skipgraph/skipgraphlaw14.RedundantRefs", spec := "redundantRefs", inPlace := ["internal/reflectlite.ValueOf", "(internal/reflectlite.Value).Len", "internal/reflectlite.Swapper"], unfollowed := true, recurses := true, named := ["skipgraph/skipgraphworld.letters", "math/bits.deBruijn32tab"], apart := false, laid := [("math/bits.deBruijn32tab", laid_math_bits_deBruijn32tab), ("skipgraph/skipgraphworld.letters", laid_skipgraph_skipgraphworld_letters)], narrowed := true }
def RedundantRefsUptoSaid : Prop := redundantRefsUptoRow.holds Tryd.pinned (OpenSpec.upto redundantRefsSpec)

/-- 'skipgraphlaw16.LinearSorts', WHERE WHAT IT READS IS OF BULK AT MOST 1048576: true; the input reads as it did. -/
def linearSortsUptoRow : OpenClaim := { program := "ytbnbjiddffihoaadoor", sum := "7378573ae9f34acf4314ec59419e1fc3162e00cd59bac2b3426f730fcb076d29", func := "skipgraph/skipgraphlaw16.LinearSorts", spec := "linearSorts", inPlace := ["internal/reflectlite.ValueOf", "(internal/reflectlite.Value).Len", "internal/reflectlite.Swapper", "slices.overlaps[int]"], unfollowed := true, recurses := true, named := ["skipgraph/skipgraphworld.letters", "math/bits.deBruijn32tab"], apart := false, laid := [("math/bits.deBruijn32tab", laid_math_bits_deBruijn32tab), ("skipgraph/skipgraphworld.letters", laid_skipgraph_skipgraphworld_letters)], narrowed := true }
def LinearSortsUptoSaid : Prop := linearSortsUptoRow.holds Tryd.pinned (OpenSpec.upto linearSortsSpec)

/-- 'skipgraphlaw16.LinearChains', WHERE WHAT IT READS IS OF BULK AT MOST 1048576: true; the input reads as it did. -/
def linearChainsUptoRow : OpenClaim := { program := "ytbnbjiddffihoaadoor", sum := "7378573ae9f34acf4314ec59419e1fc3162e00cd59bac2b3426f730fcb076d29", func := "skipgraph/skipgraphlaw16.LinearChains", spec := "linearChains", inPlace := ["internal/reflectlite.ValueOf", "(internal/reflectlite.Value).Len", "internal/reflectlite.Swapper", "slices.overlaps[int]"], unfollowed := true, recurses := true, named := ["skipgraph/skipgraphworld.letters", "math/bits.deBruijn32tab"], apart := false, laid := [("math/bits.deBruijn32tab", laid_math_bits_deBruijn32tab), ("skipgraph/skipgraphworld.letters", laid_skipgraph_skipgraphworld_letters)], narrowed := true }
def LinearChainsUptoSaid : Prop := linearChainsUptoRow.holds Tryd.pinned (OpenSpec.upto linearChainsSpec)

/-- 'skipgraphlaw16.LinearMutual', WHERE WHAT IT READS IS OF BULK AT MOST 1048576: true; the input reads as it did. -/
def linearMutualUptoRow : OpenClaim := { program := "ytbnbjiddffihoaadoor", sum := "7378573ae9f34acf4314ec59419e1fc3162e00cd59bac2b3426f730fcb076d29", func := "skipgraph/skipgraphlaw16.LinearMutual", spec := "linearMutual", inPlace := ["internal/reflectlite.ValueOf", "(internal/reflectlite.Value).Len", "internal/reflectlite.Swapper", "slices.overlaps[int]"], unfollowed := true, recurses := true, named := ["skipgraph/skipgraphworld.letters", "math/bits.deBruijn32tab"], apart := false, laid := [("math/bits.deBruijn32tab", laid_math_bits_deBruijn32tab), ("skipgraph/skipgraphworld.letters", laid_skipgraph_skipgraphworld_letters)], narrowed := true }
def LinearMutualUptoSaid : Prop := linearMutualUptoRow.holds Tryd.pinned (OpenSpec.upto linearMutualSpec)

/-- 'skipgraphlaw16.LinearGarbage', WHERE WHAT IT READS IS OF BULK AT MOST 1048576: true; the input reads as it did. -/
def linearGarbageUptoRow : OpenClaim := { program := "ytbnbjiddffihoaadoor", sum := "7378573ae9f34acf4314ec59419e1fc3162e00cd59bac2b3426f730fcb076d29", func := "skipgraph/skipgraphlaw16.LinearGarbage", spec := "linearGarbage", inPlace := ["internal/reflectlite.ValueOf", "(internal/reflectlite.Value).Len", "internal/reflectlite.Swapper", "slices.overlaps[int]"], unfollowed := true, recurses := true, named := ["skipgraph/skipgraphworld.letters", "math/bits.deBruijn32tab"], apart := false, laid := [("math/bits.deBruijn32tab", laid_math_bits_deBruijn32tab), ("skipgraph/skipgraphworld.letters", laid_skipgraph_skipgraphworld_letters)], narrowed := true }
def LinearGarbageUptoSaid : Prop := linearGarbageUptoRow.holds Tryd.pinned (OpenSpec.upto linearGarbageSpec)

/-- 'skipgraphlaw16.LinearConnects', WHERE WHAT IT READS IS OF BULK AT MOST 1048576: true; the input reads as it did. -/
def linearConnectsUptoRow : OpenClaim := { program := "ytbnbjiddffihoaadoor", sum := "7378573ae9f34acf4314ec59419e1fc3162e00cd59bac2b3426f730fcb076d29", func := "skipgraph/skipgraphlaw16.LinearConnects", spec := "linearConnects", inPlace := ["internal/reflectlite.ValueOf", "(internal/reflectlite.Value).Len", "internal/reflectlite.Swapper", "slices.overlaps[int]"], unfollowed := true, recurses := true, named := ["skipgraph/skipgraphworld.letters", "math/bits.deBruijn32tab"], apart := false, laid := [("math/bits.deBruijn32tab", laid_math_bits_deBruijn32tab), ("skipgraph/skipgraphworld.letters", laid_skipgraph_skipgraphworld_letters)], narrowed := true }
def LinearConnectsUptoSaid : Prop := linearConnectsUptoRow.holds Tryd.pinned (OpenSpec.upto linearConnectsSpec)

/-- 'skipgraphlaw17.BridgeFixed', WHERE WHAT IT READS IS OF BULK AT MOST 1048576: true; the input reads as it did. -/
def bridgeFixedUptoRow : OpenClaim := { program := "ytbnbjiddffihoaadoor", sum := "7378573ae9f34acf4314ec59419e1fc3162e00cd59bac2b3426f730fcb076d29", func := "skipgraph/skipgraphlaw17.BridgeFixed", spec := "bridgeFixed", inPlace := ["internal/reflectlite.ValueOf", "(internal/reflectlite.Value).Len", "internal/reflectlite.Swapper"], unfollowed := true, recurses := true, named := ["skipgraph/skipgraphworld.letters", "math/bits.deBruijn32tab"], apart := false, laid := [("math/bits.deBruijn32tab", laid_math_bits_deBruijn32tab), ("skipgraph/skipgraphworld.letters", laid_skipgraph_skipgraphworld_letters)], narrowed := true }
def BridgeFixedUptoSaid : Prop := bridgeFixedUptoRow.holds Tryd.pinned (OpenSpec.upto bridgeFixedSpec)

end Rows
end Go.Proofs.YtbnbjiddffihoaaDoor
