/- Bytes of the call's own as strings; a condition that is laid anew in a region that draws its order. -/
import Derived.Test.YtjaemckdfoaopaaDoorWireS
import Derived.Deep.RegionHeld3
namespace Go.Proofs.YtjaemckdfoaopaaDoor
open Go.RowKit

theorem run_own {w0 w : World} {v : Value} {l : List UInt8} (h : OwnL 1 encB 5 w0.heap.size w v l) :
    ∃ a n cap, v = .slice a n cap ∧ Slf 1 encB w0 w a n l ∧ (convert 23 9 (.slice a n cap)).run Tryd.prog w = .ok (.string (strB l)) w := by
  obtain ⟨a, cap, rfl, h1, _⟩ := h.slf (fun _ => rfl)
  exact ⟨a, _, cap, rfl, h1, run_str Tryd.underlying23 Tryd.underlying5 Tryd.underlying9 h1.sl⟩
theorem run_later {w0 w w' : World} {a : Option Addr} {n cap : Nat} {l : List UInt8} (h : Slf 1 encB w0 w a n l) (k : Ex w w') :
    (convert 23 9 (.slice a n cap)).run Tryd.prog w' = .ok (.string (strB l)) w' :=
  run_str Tryd.underlying23 Tryd.underlying5 Tryd.underlying9 (h.nx k).sl

/-- one may go on under a condition that gives the first one -/
theorem wpAnyH_switch {P : Program} {md : Region.Mode} {ops : Array Oper} {Q : Exit → Act → World → Prop} {S S' : World → Prop} (hS : ∀ w, S' w → S w) :
    ∀ {fuel : Nat} {listed : Array Bool} {a : Act} {w : World}, wpAnyH P md ops Q S' fuel listed a w → wpAnyH P md ops Q S fuel listed a w
  | 0, _, _, _, h => h
  | fuel + 1, _, _, _, h => ⟨h.1, fun i hi => wpOp_mono (fun a' w' h' => ⟨hS w' h'.1, wpAnyH_switch hS h'.2⟩) (h.2 i hi)⟩

end Go.Proofs.YtjaemckdfoaopaaDoor
