/- Walks over the package suspect and its reference: watches. -/
import Derived.Test.YtgfnngdkoecciaaRows
import Derived.Test.YtgfnngdkoecciaaBase
namespace Go.Proofs.Ytgfnngdkoecciaa
open Go.RowKit

def validW (s m l : Int) : Bool := decide ((1 ≤ l ∧ l ≤ 64 ∧ 0 ≤ m ∧ m ≤ l) ∧ (s = 1 ∨ (s = 2 ∧ m = l) ∨ (s = 3 ∧ m = 0)))
theorem validW_bd {s m l : Int} (h : validW s m l = true) : 1 ≤ l ∧ l ≤ 64 ∧ 0 ≤ m ∧ m ≤ l ∧ (1 ≤ s ∧ s ≤ 3) := by
  unfold validW at h; simp at h; omega
def nextW (s m l e : Int) : (Int × Int × Int) × Bool :=
  if validW s m l then
    if s = 3 then ((s, m, l), false)
    else if e = 1 then (if m < l then ((s, m + 1, l), true) else ((2, m, l), true))
    else if e = 2 then ((1, 0, l), false)
    else if e = 3 then ((3, 0, l), false)
    else ((s, m, l), false)
  else ((0, 0, 0), false)

set_option maxHeartbeats 1000000 in
theorem wt_valid_p (s m l : Int) (w : World) :
    Calls Try.prog 15 #[.agg #[.int .i64 s, .int .i64 m, .int .i64 l]] w fun e w' => e = .returned (.bool (validW s m l)) ∧ Chg (· < w.heap.size) w w' := by
  go_enter Try.func15, Try.ntmps15
  go_wp2
  all_goals
    go_ret
    refine ⟨?_, (Chg.refl _ _).alloc _ (by simp)⟩
    show Ending.returned (.bool _) = _
    congr 2
    unfold validW
    rw [Bool.eq_iff_iff]
    simp
    (try simp only [beq_iff_eq, beq_eq_false_iff_ne, ne_eq] at *)
    omega

set_option maxHeartbeats 1000000 in
theorem wt_valid_r (s m l : Int) (w : World) :
    Calls Try.prog 16 #[.agg #[.int .i64 s, .int .i64 m, .int .i64 l]] w fun e w' => e = .returned (.bool (validW s m l)) ∧ Chg (· < w.heap.size) w w' := by
  go_enter Try.func16, Try.ntmps16
  go_wp2
  all_goals
    go_ret
    refine ⟨?_, (Chg.refl _ _).alloc _ (by simp)⟩
    show Ending.returned (.bool _) = _
    congr 2
    unfold validW
    rw [Bool.eq_iff_iff]
    simp
    (try simp only [beq_iff_eq, beq_eq_false_iff_ne, ne_eq] at *)
    omega

end Go.Proofs.Ytgfnngdkoecciaa
