/- Shared texts. -/
import Derived.WalkMore
import Derived.Test.YtlgdjigocopglaaGreatDoorRqAll19
set_option linter.unusedSimpArgs false
set_option linter.unusedVariables false

namespace Go.Proofs.YtlgdjigocopglaaGreatDoor
open Go.RowKit
theorem few_connR {P : List Pr} (h : FewQ 100 200 P) : ∀ p ∈ P, p.known.length ≤ 4000000000000000000 ∧ p.near.length ≤ 4000000000000000000 := fun p hp => by have := h p hp; omega
end Go.Proofs.YtlgdjigocopglaaGreatDoor
