/- How bytes that came in are read. -/
import Derived.Test.YtgpoikklnbmpkaaOpen
import Derived.Test.YtgpoikklnbmpkaaWireU
namespace Go.Proofs.Ytgpoikklnbmpkaa
open Go.ChangeShapes Go.WideShapes Go.ChangeAt Go.RowKit Go.Deep Go.Joins
theorem bytes_of {S : Nat → Prop} {w : World} {a : Option Addr} {n : Nat} {l : List Int} (h : Rd 1 (fun x : Int => [Value.int .u8 x]) S w a n l) (wf : ∀ x ∈ l, (Lit.int .u8 x).wf = true) :
    ∃ lb : List UInt8, Rd 1 encB S w a n lb := by
  refine ⟨l.map (fun x => byt x.toNat), by rw [List.length_map]; exact h.1, ?_⟩
  rcases h.2 with h2 | ⟨x, o, e1, e2, e3⟩
  · exact .inl h2
  · refine .inr ⟨x, o, e1, e2, fun j y hj c u hu => ?_⟩
    rw [List.getElem?_map] at hj
    cases hl : l[j]? with
    | none => rw [hl] at hj; cases hj
    | some z =>
      rw [hl] at hj
      simp only [Option.map_some, Option.some.injEq] at hj
      subst hj
      have hz := bounds_u8 (wf z (List.mem_of_getElem? hl))
      refine e3 j z hl c u ?_
      rcases c with _ | c
      · simp only [encB, byt_toNat] at hu
        rw [← hu]
        simp
        omega
      · simp [encB] at hu
end Go.Proofs.Ytgpoikklnbmpkaa
