/- Shared texts. -/
import Derived.Lib.SliceRun
import Derived.Test.YtalmjklljofhbaaGreatDoorSxAll3
import Derived.Test.YtalmjklljofhbaaGreatDoorSxAll7
set_option linter.unusedSimpArgs false
set_option linter.unusedVariables false

namespace Go.Proofs.YtalmjklljofhbaaGreatDoor
open Go.RowKit
theorem ex_setcs {g:Nat} {w0:World} (hg:w0.heap.size≤g):∀ (vs:List Value) (w:World) (j:Nat),Ex w0 w→Ex w0 (w.setCells g j vs)
 | [],_,_,h=>h
 | v::vs,w,j,h=>ex_setcs hg vs _ (j+1) (h.setNew (p:=⟨g,j,none⟩) v hg)
end Go.Proofs.YtalmjklljofhbaaGreatDoor
