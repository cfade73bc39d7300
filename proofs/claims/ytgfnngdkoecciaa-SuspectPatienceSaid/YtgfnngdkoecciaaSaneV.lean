/- The sanity check of the statements on watches. -/
import Derived.Test.YtgfnngdkoecciaaEvents
import Derived.Test.YtgfnngdkoecciaaSilent
namespace Go.Proofs.Ytgfnngdkoecciaa
open Go.RowKit

set_option maxHeartbeats 2000000 in
theorem sane15_x (w : World) : Calls Try.prog 17 #[] w fun e w' => e = .returned (.bool true) ∧ Chg (· < w.heap.size) w w' := by
  have P1 : Hid (playW 1 [1, 1, 2, 1, 3, 2] = ([1, 2, 1, 1, 3, 3], 0)) := (by decide +kernel : playW 1 [1, 1, 2, 1, 3, 2] = ([1, 2, 1, 1, 3, 3], 0))
  have S1 : Hid (sameI [1, 2, 1, 1, 3, 3] [1, 2, 1, 1, 3, 3] = true) := (by decide +kernel : sameI [1, 2, 1, 1, 3, 3] [1, 2, 1, 1, 3, 3] = true)
  have N1 : Hid (nextW 1 0 3 1 = ((1, 1, 3), true)) := (by decide +kernel : nextW 1 0 3 1 = ((1, 1, 3), true))
  have V1 : Hid (validW 1 0 3 = true) := (by decide +kernel : validW 1 0 3 = true)
  have L1 : Hid (silentW [1, 2, 1] = 1) := (by decide +kernel : silentW [1, 2, 1] = 1)
  go_enter Try.func17, Try.ntmps17
  go_wp2_with fail
  refine (play_p_ok (S := (· = w.heap.size)) 1 _ 6 6 [1, 1, 2, 1, 3, 2] _ (Rd.lit _ rfl rfl rfl (fun _ => rfl) rfl) (by simp) (by omega) (by omega)).mono ?_
  rintro e w1 ⟨a, n, cap, rfl, hrd, hn1, hn2, hc⟩
  rw [P1.out] at hrd ⊢
  have hn : n = 6 := by have := hrd.1; simpa using this.symm
  subst hn
  have q1 : Chg (· < w.heap.size) w w1 := ((Chg.refl (· < w.heap.size) w).alloc _ (by simp)).then hc (by intro k hk; simp; omega)
  have r1 := hrd.mono (S' := (· < w1.heap.size)) (fun k hk => hk.2)
  have z1 := q1.size
  clear hrd hc
  go_wp2_with fail
  refine (wt_new_p_ok 3 _ (by omega)).mono ?_
  rintro e w2 ⟨rfl, k2⟩
  have r2 := r1.chg k2 (fun k hk => hk)
  have z2 := k2.size
  have q2 := q1.then k2 (by intro k hk; omega)
  clear r1 k2 q1
  have r3 := r2.chg ((Chg.refl (· < w2.heap.size) w2).alloc (.cells #[.int .i64 1, .int .i64 0, .int .i64 3] 24) (by simp)) (fun k hk => by omega)
  have g3 := heap_new w2 (.cells #[.int .i64 1, .int .i64 0, .int .i64 3] 24)
  have q3 := q2.alloc (.cells #[.int .i64 1, .int .i64 0, .int .i64 3] 24) (by intro k hk; omega)
  have R3 := Lib.hid r3
  have Q3 := Lib.hid q3
  have G3 := Lib.hid g3
  clear r3 q3 g3
  clear r2 q2
  go_wp2_with fail
  refine (wt_next_p _ _ _ _ _).mono ?_
  rintro e w4 ⟨rfl, k4⟩
  rw [N1.out]
  have r4 := R3.out.chg k4 (fun k hk => by simp; omega)
  have G4 := (k4.block w2.heap.size (by simp)).trans G3.out
  have q4 := Q3.out.then k4 (by intro k hk; simp; omega)
  obtain ⟨c0, c1, c2, f0, f1, f2⟩ := cells3 G4
  have z4 : w2.heap.size + 1 ≤ w4.heap.size := by have := k4.size; simpa using this
  clear k4 R3 Q3 G3
  go_wp2_with fail
  have hx := (((Chg.refl (· < w4.heap.size) w4).alloc (.cells #[.int .i64 1, .int .i64 1, .int .i64 3] 24) (by simp)).alloc (.cells #[.int .i64 1, .int .i64 2, .int .i64 1, .int .i64 1, .int .i64 3, .int .i64 3] 3) (by simp; omega))
  refine (same_x (S' := (· = w4.heap.size + 1)) _ _ 6 cap 6 6 [1, 2, 1, 1, 3, 3] [1, 2, 1, 1, 3, 3] _ (r4.chg hx (fun k hk => by omega)) (Rd.lit _ (by simp) (by simp) rfl (fun _ => rfl) rfl) (fun k hk => by simp; omega) (fun k hk => by simp; omega) (by omega)).mono ?_
  rintro e w5 ⟨rfl, k5⟩
  rw [S1.out]
  have G5 := (k5.block w2.heap.size (by simp; omega)).trans ((hx.block w2.heap.size (by omega)).trans G4)
  obtain ⟨c0, c1, c2, f0, f1, f2⟩ := cells3 G5
  have q5 := (q4.then hx (by intro k hk; omega)).then k5 (by intro k hk; simp; omega)
  clear k5 hx r4 q4 G4 G5
  go_wp2_with fail
  refine (wt_valid_p _ _ _ _).mono ?_
  rintro e w6 ⟨rfl, k6⟩
  rw [V1.out]
  have q6 := q5.then k6 (by intro k hk; have := q5.size; omega)
  clear k6 q5
  go_wp2_with fail
  refine (silent_p (S := (· = w6.heap.size)) _ 3 3 [1, 2, 1] _ (Rd.lit _ rfl rfl rfl (fun _ => rfl) rfl) (by omega)).mono ?_
  rintro e w7 ⟨rfl, rfl⟩
  rw [L1.out]
  go_wp2_with fail
  go_ret
  exact ⟨rfl, q6.alloc _ (by intro k hk; have := q6.size; omega)⟩
end Go.Proofs.Ytgfnngdkoecciaa
