/- What the laid letters give the walks. -/
import Derived.Test.YtenobfplmifomaaDoorKey
import Derived.Test.YtenobfplmifomaaDoorTie
import Derived.Test.YtenobfplmifomaaDoorCards
import Derived.Lib.LaidTab
import Derived.ChangeArms
import Derived.LaidMore
import Derived.Stop.Joined
import Derived.SevenTiedAt
namespace Go.Proofs.YtenobfplmifomaaDoor
open Go.RowKit

theorem Tryd.gLet : Tryd.prog.globalNamed "skipgraph/skipgraphworld.letters" = some 1 := by kernel_rfl
theorem Tryd.tLet : (Tryd.prog.globals[1]?).map (·.type) = some 60 := by kernel_rfl
theorem Tryd.cells6 : Tryd.prog.cellsOf 60 = 6 := by kernel_rfl
theorem Tryd.cellsStr : Tryd.prog.cellsOf 9 = 1 := by kernel_rfl
def letL : List (List UInt8) := [[97], [98], [99], [0], [255], [109]]

/-- AN ARRAY OF STRINGS THAT READS AS A LIST OF STRINGS HOLDS THEM, CELL FOR CELL. -/
theorem cells_of_strs {H : Type} {enc : TypeId × Value → H} {P : Program} {w : World} {base : Nat} {sp : Nat → Bool} {held : Bool} {fuel : Nat} {t e : TypeId} {n : Nat} {cs : List Value} {zs : List (List UInt8)} {p : List MemPlace}
    (ht : P.underlying t = some (.array n e)) (he : P.underlying e = some .string) (hce : P.cellsOf e = 1) (hct : P.cellsOf t = n)
    (h : DataW.trod enc P w base sp held fuel t cs = some (.agg (zs.map fun z => .lit (.string z)), p)) : ∀ (i : Nat) (z : List UInt8), zs[i]? = some z → ∃ s : ByteArray, s.data.toList = z ∧ cs[i]? = some (.string s) := by
  cases fuel with
  | zero => simp [DataW.trod] at h
  | succ fuel =>
    simp only [DataW.trod, ht, hce, hct, Nat.mul_one] at h
    split at h
    · rename_i hl
      obtain ⟨xs, hm, hx⟩ := Option.map_eq_some_iff.1 h
      have hxs : xs.map (·.1) = zs.map fun z => (DataW.lit (.string z) : DataW H) := by
        have := congrArg Prod.fst hx
        simpa using this
      have hxl : xs.length = n := by simpa using Lib.mapM_length hm
      have hzl : zs.length = n := by
        have := congrArg List.length hxs
        simp at this
        omega
      intro i z hz
      have hi : i < n := by have := (List.getElem?_eq_some_iff.1 hz).1; omega
      obtain ⟨b, hb, hf⟩ := Lib.mapM_at hm i i (by simp [hi])
      obtain ⟨s, hc, rfl, _⟩ := DataW.trod_string he hf
      have h1 : cs[i]? = some (.string s) := by
        have := congrArg (·[0]?) hc
        simpa [List.getElem?_take, List.getElem?_drop] using this
      have h2 : (xs.map (·.1))[i]? = some (DataW.lit (.string s.data.toList) : DataW H) := by simp [hb]
      rw [hxs] at h2
      simp only [List.getElem?_map, Option.map_eq_some_iff, DataW.lit.injEq, Lit.string.injEq] at h2
      obtain ⟨z', hz', hzz⟩ := h2
      have : z = z' := Option.some.inj (hz.symm.trans hz')
      exact ⟨s, by rw [this, hzz], h1⟩
    · cases h

theorem laid_let {H : Type} : (Rows.laid_skipgraph_skipgraphworld_letters : DataW H) = .agg (letL.map fun z => .lit (.string z)) := rfl
theorem letG_head {rest : List (String × DataW Unit)} {W : World} (h : laidMet Tryd.prog (("skipgraph/skipgraphworld.letters", .agg (letL.map fun z => .lit (.string z))) :: rest) W) : LetG W := by
  obtain ⟨ps, ⟨g', t', cs, fuel, p, q, hg', ht', hvar, hd, _, _⟩, _⟩ := h
  obtain rfl := Option.some.inj (Tryd.gLet.symm.trans hg')
  obtain rfl := Option.some.inj (Tryd.tLet.symm.trans ht')
  intro j hj
  obtain ⟨z, hz⟩ : ∃ z, letL[j]? = some z := ⟨letL[j]'(by simp [letL]; omega), by simp⟩
  obtain ⟨s, h1, h2⟩ := cells_of_strs Tryd.underlying60 Tryd.underlying9 Tryd.cellsStr Tryd.cells6 hd j z hz
  refine ⟨s, ?_, ?_⟩
  · have hl : z.length = 1 := by
      have : ∀ j, j < 6 → (letL[j]?.getD []).length = 1 := by decide
      have := this j hj
      rw [hz] at this
      exact this
    have : s.data.toList.length = 1 := by rw [h1]; exact hl
    rw [Array.length_toList] at this
    exact this
  · rw [World.var?_cell Tryd.gLet hvar j]
    simpa using h2
theorem letG_of {rest : List (String × DataW Unit)} {W : World} (h : laidMetH Tryd.prog (("skipgraph/skipgraphworld.letters", Rows.laid_skipgraph_skipgraphworld_letters) :: rest) W)
    (hp : ((("skipgraph/skipgraphworld.letters", Rows.laid_skipgraph_skipgraphworld_letters) :: rest).all fun x => x.2.handleName?.isNone) = true) : LetG W := by
  rw [MakeChecks.laidMetH_plain _ _ _ hp, laid_let] at h
  exact letG_head h
end Go.Proofs.YtenobfplmifomaaDoor
