/- Shared texts. -/
import Derived.Test.YthdkeibapcaclaaGreatDoorFmAll1
set_option linter.unusedSimpArgs false
set_option linter.unusedVariables false

namespace Go.Proofs.YthdkeibapcaclaaGreatDoor
open Go.RowKit
theorem letG_of {rest : List (String × DataW Unit)} {W : World} (h : laidMetH Tryz.prog (("skipgraph/skipgraphworld.letters", Rows.laid_skipgraph_skipgraphworld_letters) :: rest) W)
  (hp : ((("skipgraph/skipgraphworld.letters", Rows.laid_skipgraph_skipgraphworld_letters) :: rest).all fun x => x.2.handleName?.isNone) = true) : LetG W := by
 rw [MakeChecks.laidMetH_plain _ _ _ hp,laid_let] at h
 exact letG_head h
end Go.Proofs.YthdkeibapcaclaaGreatDoor
