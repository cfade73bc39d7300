/- Texts for FlightStepsProof. -/
import Derived.Shelf.GgSortFunc.SmallK
import Derived.Test.YtalmjklljofhbaaGreatDoorFlightStepsProofL5
import Derived.Test.YtalmjklljofhbaaGreatDoorFlightStepsProofL7
set_option linter.unusedSimpArgs false
set_option linter.unusedVariables false

namespace Go.Proofs.YtalmjklljofhbaaGreatDoor
open Go.RowKit
theorem OwnL.sl3 {sz e base:Nat} {α:Type} {enc:α→List Value} {w:World} {v:Value} {l:List α} (h:OwnL sz enc e base w v l) (hsz:∀ y,(enc y).length=sz):∃ a cap,v=.slice a l.length cap∧Sl sz enc w a l.length l∧l.length≤cap∧cap≤maxLen:=by
 obtain ⟨a,cap,e,h1,h2,h3,_⟩:=h.rd hsz
 exact ⟨a,cap,e,h1.mono (fun _ hk=>hk.2),h2,h3⟩
theorem Tryz.infoI6:(Tryz.prog.info? 3).map (fun i=>(i.zero,i.size,i.bytes))=some (some (.int .i64 0),1,8):=by kernel_rfl
def enc0:Unit→List Value:=fun _=>[]
def pairU (m:List Int):Unit×List Int:=((),m)
abbrev IL (w:World) (a:Option Addr) (n:Nat) (M:List (List Int)):Prop:=NL enc0 1 1 encI w a n (M.map pairU)
end Go.Proofs.YtalmjklljofhbaaGreatDoor
