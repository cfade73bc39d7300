/- Slices of nodes among the arguments; the letters where they are second on the list of what is laid. -/
import Derived.Test.YtenobfplmifomaaDoorNode
import Derived.Test.YtenobfplmifomaaDoorOpen
namespace Go.Proofs.YtenobfplmifomaaDoor
open Go.RowKit

abbrev Nd32 := { y : Nd // y.word < 4294967296 }
def encN32 (y : Nd32) : List Value := encN y.1
theorem nodes_of {S : Nat → Prop} {w : World} {a : Option Addr} {n : Nat} {l : List Nd32} (h : Rd 3 encN32 S w a n l) : ∃ lb : List Nd, Rd 3 encN S w a n lb ∧ ∀ x ∈ lb, x.word < 4294967296 := by
  refine ⟨l.map Subtype.val, ⟨by rw [List.length_map]; exact h.1, ?_⟩, ?_⟩
  · rcases h.2 with h2 | ⟨x, o, e1, e2, e3⟩
    · exact .inl h2
    · refine .inr ⟨x, o, e1, e2, fun j y hj c u hu => ?_⟩
      rw [List.getElem?_map] at hj
      cases hl : l[j]? with
      | none => rw [hl] at hj; cases hj
      | some z =>
        rw [hl] at hj
        simp only [Option.map_some, Option.some.injEq] at hj
        subst hj
        exact e3 j z hl c u hu
  · intro x hx
    obtain ⟨y, _, rfl⟩ := List.mem_map.1 hx
    exact y.2
end Go.Proofs.YtenobfplmifomaaDoor
