/- The walk over the statement WordEquivalence. -/
import Derived.Test.YtenobfplmifomaaDoorWordEqA
import Derived.Test.YtenobfplmifomaaDoorWordEqB
import Derived.Test.YtenobfplmifomaaDoorWordEqC
namespace Go.Proofs.YtenobfplmifomaaDoor
open Go.RowKit

theorem wordeq_walk (a b c : Nat) (level : Int) (w : World) (ha : a < 4294967296) (hb : b < 4294967296) (hc : c < 4294967296) (hT : TabG w) :
    Calls Tryd.prog 5 #[.int .u32 a, .int .u32 b, .int .u32 c, .int .i64 level] w fun e w' => e = .returned (.bool true) ∧ Chg (· < w.heap.size) w w' := by
  have m0 := Int.emod_nonneg level (show (17 : Int) ≠ 0 by omega)
  have m1 := Int.emod_lt_of_pos level (show (0 : Int) < 17 by omega)
  have hmin := common_min ha hb hc
  have hsym := commonN_comm a b
  obtain ⟨h, hh⟩ : ∃ h, level % 17 = h := ⟨_, rfl⟩
  rw [hh] at m0 m1
  have haa : sameN a a h = true := by
    unfold sameN
    rw [common_self]
    simp; omega
  have hba : sameN b a h = sameN a b h := by
    unfold sameN
    rw [hsym]
  have hac : sameN a b h = true → sameN b c h = true → sameN a c h = true := by
    unfold sameN
    simp only [decide_eq_true_eq]
    omega
  have hl : sameN a b h = true → sameN a b (h - 1) = true := by
    unfold sameN
    simp only [decide_eq_true_eq]
    omega
  have hm : ((commonN a b : Int) ≤ (commonN b c : Int) ∧ (commonN a b : Int) ≤ (commonN a c : Int)) ∨ ((commonN b c : Int) < (commonN a b : Int) ∧ (commonN b c : Int) ≤ (commonN a c : Int)) := by omega
  cases hab : sameN a b h with
  | false =>
    rw [hab] at hba
    by_cases hz : h = 0
    · rcases hm with ⟨e1, e2⟩ | ⟨e1, e2⟩
      · exact wordeq_0010 a b c level h _ _ _ w ha hb hc hT hh haa rfl hsym.symm rfl rfl (by omega) (by omega) hab hba (by simp [hz]) e1 e2
      · exact wordeq_0011 a b c level h _ _ _ w ha hb hc hT hh haa rfl hsym.symm rfl rfl (by omega) (by omega) hab hba (by simp [hz]) e1 e2
    · rcases hm with ⟨e1, e2⟩ | ⟨e1, e2⟩
      · exact wordeq_0000 a b c level h _ _ _ w ha hb hc hT hh haa rfl hsym.symm rfl rfl (by omega) (by omega) hab hba (by simp [hz]) e1 e2
      · exact wordeq_0001 a b c level h _ _ _ w ha hb hc hT hh haa rfl hsym.symm rfl rfl (by omega) (by omega) hab hba (by simp [hz]) e1 e2
  | true =>
    rw [hab] at hba
    have hl := hl hab
    have hac := hac hab
    cases hbc : sameN b c h with
    | false =>
      by_cases hz : h = 0
      · rcases hm with ⟨e1, e2⟩ | ⟨e1, e2⟩
        · exact wordeq_1010 a b c level h _ _ _ w ha hb hc hT hh haa rfl hsym.symm rfl rfl (by omega) (by omega) hab hba hbc (by simp [hz]) e1 e2
        · exact wordeq_1011 a b c level h _ _ _ w ha hb hc hT hh haa rfl hsym.symm rfl rfl (by omega) (by omega) hab hba hbc (by simp [hz]) e1 e2
      · rcases hm with ⟨e1, e2⟩ | ⟨e1, e2⟩
        · exact wordeq_1000 a b c level h _ _ _ w ha hb hc hT hh haa rfl hsym.symm rfl rfl (by omega) (by omega) hab hba hbc hl (by simp [hz]) e1 e2
        · exact wordeq_1001 a b c level h _ _ _ w ha hb hc hT hh haa rfl hsym.symm rfl rfl (by omega) (by omega) hab hba hbc hl (by simp [hz]) e1 e2
    | true =>
      have hac := hac hbc
      by_cases hz : h = 0
      · rcases hm with ⟨e1, e2⟩ | ⟨e1, e2⟩
        · exact wordeq_1110 a b c level h _ _ _ w ha hb hc hT hh haa rfl hsym.symm rfl rfl (by omega) (by omega) hab hba hbc hac (by simp [hz]) e1 e2
        · exact wordeq_1111 a b c level h _ _ _ w ha hb hc hT hh haa rfl hsym.symm rfl rfl (by omega) (by omega) hab hba hbc hac (by simp [hz]) e1 e2
      · rcases hm with ⟨e1, e2⟩ | ⟨e1, e2⟩
        · exact wordeq_1100 a b c level h _ _ _ w ha hb hc hT hh haa rfl hsym.symm rfl rfl (by omega) (by omega) hab hba hbc hac hl (by simp [hz]) e1 e2
        · exact wordeq_1101 a b c level h _ _ _ w ha hb hc hT hh haa rfl hsym.symm rfl rfl (by omega) (by omega) hab hba hbc hac hl (by simp [hz]) e1 e2
end Go.Proofs.YtenobfplmifomaaDoor
