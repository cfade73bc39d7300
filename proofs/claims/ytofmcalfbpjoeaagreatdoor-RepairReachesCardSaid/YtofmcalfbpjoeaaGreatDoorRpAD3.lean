/- Texts for RepairReachesProof, RepairCleansProof. -/
import Derived.Test.YtofmcalfbpjoeaaGreatDoorRpAll3
import Derived.Test.YtofmcalfbpjoeaaGreatDoorRpAll29
import Derived.Test.YtofmcalfbpjoeaaGreatDoorRpAD1

namespace Go.Proofs.YtofmcalfbpjoeaaGreatDoor
open Go.RowKit
def FewP (m : Nat) (P : List Pr) : Prop := ∀ p ∈ P, p.known.length ≤ 3 ∧ p.near.length ≤ m ∧ I64 p.id
theorem FewP.snoc {m : Nat} {P : List Pr} (h : FewP m P) {p : Pr} (hp : p.known.length ≤ 3 ∧ p.near.length ≤ m ∧ I64 p.id) : FewP m (P ++ [p]) := fun x hx => by
 rcases List.mem_append.1 hx with h1 | h1
 ·exact h x h1
 ·rw [List.mem_singleton.1 h1]; exact hp
theorem FewQ.snoc {m M : Nat} {P : List Pr} (h : FewQ m M P) {p : Pr} (hp : p.known.length ≤ m ∧ p.near.length ≤ M) : FewQ m M (P ++ [p]) := fun x hx => by
 rcases List.mem_append.1 hx with h1 | h1
 ·exact h x h1
 ·rw [List.mem_singleton.1 h1]; exact hp
end Go.Proofs.YtofmcalfbpjoeaaGreatDoor
