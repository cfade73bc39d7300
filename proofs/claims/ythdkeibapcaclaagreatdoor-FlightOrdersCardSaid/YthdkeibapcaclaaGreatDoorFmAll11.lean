/- Shared texts. -/
import Derived.Test.YthdkeibapcaclaaGreatDoorFmAll7
import Derived.Test.YthdkeibapcaclaaGreatDoorFmAll9
set_option linter.unusedSimpArgs false
set_option linter.unusedVariables false

namespace Go.Proofs.YthdkeibapcaclaaGreatDoor
open Go.RowKit
theorem OwnL.sl3 {sz e base:Nat} {α:Type} {enc:α→List Value} {w:World} {v:Value} {l:List α} (h:OwnL sz enc e base w v l) (hsz:∀ y,(enc y).length=sz):∃ a cap,v=.slice a l.length cap∧Sl sz enc w a l.length l∧l.length≤cap∧cap≤maxLen:=by
 obtain ⟨a,cap,e,h1,h2,h3,_⟩:=h.rd hsz
 exact ⟨a,cap,e,h1.mono (fun _ hk=>hk.2),h2,h3⟩
end Go.Proofs.YthdkeibapcaclaaGreatDoor
