/- The statements' own check of the examples. -/
import Derived.Test.YtgpoikklnbmpkaaRenew
namespace Go.Proofs.Ytgpoikklnbmpkaa
open Go.RowKit

set_option maxHeartbeats 1000000 in
theorem awake_x (w : World) : Calls Try.prog 8 #[] w fun e w' => e = .returned (.bool true) ∧ Chg (· < w.heap.size) w w' := by
  have HR := Lib.hid (show stampE (renewS [(2, 7), (3, 1)]) = .tuple #[.agg #[.int .i64 4, .int .i64 0], .int .i64 0] by rfl)
  have HN := Lib.hid (show stampE (nextS 3 1) = .tuple #[.agg #[.int .i64 3, .int .i64 2], .int .i64 0] by rfl)
  go_enter Try.func8, Try.ntmps8
  go_wp2_with fail
  refine (renew_p _ _ _ [(2, 7), (3, 1)] _ (Rd.lit (S := (· = w.heap.size)) _ rfl rfl rfl (fun _ => rfl) rfl) (by simp) (by simp)).mono ?_
  rintro e w1 ⟨rfl, k1⟩
  have q1 : Chg (· < w.heap.size) w w1 := ((Chg.refl (· < w.heap.size) w).alloc _ (by simp)).then k1 (by simp; omega)
  have z1 : w.heap.size < w1.heap.size := by have := k1.size; (try simp at this); omega
  clear k1
  rw [HR.out]
  go_wp2_with fail
  refine (next_p _ _ _).mono ?_
  rintro e w2 ⟨rfl, k2⟩
  have q2 : Chg (· < w.heap.size) w w2 := (q1.alloc (.cells #[.int .i64 4, .int .i64 0] 23) (by intro k hk; omega)).then k2 (by simp; omega)
  have c0 : w2.cell? ⟨w1.heap.size, 0, none⟩ = some (.int .i64 4) := k2.cellv (by simp) (by simp)
  have c1 : w2.cell? ⟨w1.heap.size, 1, none⟩ = some (.int .i64 0) := k2.cellv (by simp) (by simp)
  have z2 : w1.heap.size < w2.heap.size := by have := k2.size; (try simp at this); omega
  clear k2
  rw [HN.out]
  go_wp2
  go_ret
  exact ⟨rfl, q2.alloc _ (by intro k hk; omega)⟩
end Go.Proofs.Ytgpoikklnbmpkaa
