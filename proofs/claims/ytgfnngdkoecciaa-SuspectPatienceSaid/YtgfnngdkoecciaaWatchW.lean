/- Walks over the package suspect and its reference: new watches. -/
import Derived.Test.YtgfnngdkoecciaaWatchV
namespace Go.Proofs.Ytgfnngdkoecciaa
open Go.RowKit

set_option maxHeartbeats 1000000 in
theorem wt_new_p_bad (n : Int) (w : World) (hn : n < 1 ∨ 64 < n) :
    Calls Try.prog 13 #[.int .i64 n] w fun e w' => e = .returned (.tuple #[.agg #[.int .i64 0, .int .i64 0, .int .i64 0], .int .i64 2]) ∧ Chg (· < w.heap.size) w w' := by
  rcases hn with h | h
  all_goals
    go_enter Try.func13, Try.ntmps13
    go_wp2
    refine bodyPost_ret (v := .tuple #[.agg #[.int .i64 0, .int .i64 0, .int .i64 0], .int .i64 2]) (by simp [results, Try.results13, go_sem, *]) rfl ⟨rfl, ?_⟩
    exact (Chg.refl (· < w.heap.size) w).alloc _ (by simp)

set_option maxHeartbeats 1000000 in
theorem wt_new_p_ok (n : Int) (w : World) (hn : 1 ≤ n ∧ n ≤ 64) :
    Calls Try.prog 13 #[.int .i64 n] w fun e w' => e = .returned (.tuple #[.agg #[.int .i64 1, .int .i64 0, .int .i64 n], .int .i64 0]) ∧ Chg (· < w.heap.size) w w' := by
  obtain ⟨h1, h2⟩ := hn
  go_enter Try.func13, Try.ntmps13
  go_wp2
  refine bodyPost_ret (v := .tuple #[.agg #[.int .i64 1, .int .i64 0, .int .i64 n], .int .i64 0]) (by simp [results, Try.results13, go_sem, *]) rfl ⟨rfl, ?_⟩
  exact (Chg.refl (· < w.heap.size) w).alloc _ (by simp)

set_option maxHeartbeats 1000000 in
theorem wt_new_r_bad (n : Int) (w : World) (hn : n < 1 ∨ 64 < n) :
    Calls Try.prog 14 #[.int .i64 n] w fun e w' => e = .returned (.tuple #[.agg #[.int .i64 0, .int .i64 0, .int .i64 0], .int .i64 2]) ∧ Chg (· < w.heap.size) w w' := by
  rcases hn with h | h
  · have d1 : decide (1 ≤ n) = false := by simp; omega
    go_enter Try.func14, Try.ntmps14
    go_wp2
    refine bodyPost_ret (v := .tuple #[.agg #[.int .i64 0, .int .i64 0, .int .i64 0], .int .i64 2]) (by simp [results, Try.results14, go_sem, *]) rfl ⟨rfl, ?_⟩
    exact (Chg.refl (· < w.heap.size) w).alloc _ (by simp)
  · have d1 : decide (1 ≤ n) = true := by simp; omega
    have d2 : decide (n ≤ 64) = false := by simp; omega
    go_enter Try.func14, Try.ntmps14
    go_wp2
    refine bodyPost_ret (v := .tuple #[.agg #[.int .i64 0, .int .i64 0, .int .i64 0], .int .i64 2]) (by simp [results, Try.results14, go_sem, *]) rfl ⟨rfl, ?_⟩
    exact (Chg.refl (· < w.heap.size) w).alloc _ (by simp)


set_option maxHeartbeats 1000000 in
theorem wt_new_r_ok (n : Int) (w : World) (hn : 1 ≤ n ∧ n ≤ 64) :
    Calls Try.prog 14 #[.int .i64 n] w fun e w' => e = .returned (.tuple #[.agg #[.int .i64 1, .int .i64 0, .int .i64 n], .int .i64 0]) ∧ Chg (· < w.heap.size) w w' := by
  obtain ⟨h1, h2⟩ := hn
  go_enter Try.func14, Try.ntmps14
  go_wp2
  refine bodyPost_ret (v := .tuple #[.agg #[.int .i64 1, .int .i64 0, .int .i64 n], .int .i64 0]) (by simp [results, Try.results14, go_sem, *]) rfl ⟨rfl, ?_⟩
  exact (Chg.refl (· < w.heap.size) w).alloc _ (by simp)

end Go.Proofs.Ytgfnngdkoecciaa
