/- Walks over the package stamp and its reference. -/
import Derived.Test.YtgpoikklnbmpkaaRows
import Derived.Test.YtgpoikklnbmpkaaBase
namespace Go.Proofs.Ytgpoikklnbmpkaa
open Go.RowKit

def validS (a b : Int) : Bool := decide (0 ≤ a) && (decide (a ≤ 1099511627776) && (decide (0 ≤ b) && decide (b ≤ 1099511627776)))
theorem validS_iff (a b : Int) : validS a b = true ↔ 0 ≤ a ∧ a ≤ 1099511627776 ∧ 0 ≤ b ∧ b ≤ 1099511627776 := by simp [validS]
def cmpS (a b c d : Int) : Int := if a = c ∧ b = d then 0 else if a < c ∨ (a = c ∧ b < d) then -1 else 1

set_option maxHeartbeats 400000 in
theorem valid_p (a b : Int) (w : World) :
    Calls Try.prog 19 #[.agg #[.int .i64 a, .int .i64 b]] w fun e w' => e = .returned (.bool (validS a b)) ∧ Chg (· < w.heap.size) w w' := by
  unfold validS
  go_enter Try.func19, Try.ntmps19
  go_wp2
  all_goals
    go_ret
    exact ⟨by simp [*] <;> omega, (Chg.refl _ _).alloc _ (by simp)⟩
set_option maxHeartbeats 400000 in
theorem valid_r (a b : Int) (w : World) :
    Calls Try.prog 20 #[.agg #[.int .i64 a, .int .i64 b]] w fun e w' => e = .returned (.bool (validS a b)) ∧ Chg (· < w.heap.size) w w' := by
  unfold validS
  go_enter Try.func20, Try.ntmps20
  go_wp2
  all_goals
    go_ret
    exact ⟨by simp [*] <;> omega, (Chg.refl _ _).alloc _ (by simp)⟩

set_option maxHeartbeats 400000 in
theorem cmp_p (a b c d : Int) (w : World) :
    Calls Try.prog 17 #[.agg #[.int .i64 a, .int .i64 b], .agg #[.int .i64 c, .int .i64 d]] w fun e w' => e = .returned (.int .i64 (cmpS a b c d)) ∧ Chg (· < w.heap.size) w w' := by
  go_enter Try.func17, Try.ntmps17
  go_wp2
  all_goals
    go_ret
    refine ⟨?_, ((Chg.refl _ _).alloc _ (by simp)).alloc _ (by simp; omega)⟩
    show Ending.returned (.int .i64 _) = _
    congr 2
    unfold cmpS
    split <;> (try split) <;> omega
set_option maxHeartbeats 400000 in
theorem cmp_r (a b c d : Int) (w : World) :
    Calls Try.prog 18 #[.agg #[.int .i64 a, .int .i64 b], .agg #[.int .i64 c, .int .i64 d]] w fun e w' => e = .returned (.int .i64 (cmpS a b c d)) ∧ Chg (· < w.heap.size) w w' := by
  go_enter Try.func18, Try.ntmps18
  go_wp2
  all_goals
    go_ret
    refine ⟨?_, ((Chg.refl _ _).alloc _ (by simp)).alloc _ (by simp; omega)⟩
    show Ending.returned (.int .i64 _) = _
    congr 2
    unfold cmpS
    split <;> (try split) <;> omega

def nextS (a b : Int) : (Int × Int) × Int := if validS a b then (if b = 1099511627776 then ((0, 0), 16) else ((a, b + 1), 0)) else ((0, 0), 1)
def stampV (s : Int × Int) : Value := .agg #[.int .i64 s.1, .int .i64 s.2]
def stampE (s : (Int × Int) × Int) : Value := .tuple #[.agg #[.int .i64 s.1.1, .int .i64 s.1.2], .int .i64 s.2]

set_option maxHeartbeats 400000 in
theorem next_p (a b : Int) (w : World) :
    Calls Try.prog 12 #[.agg #[.int .i64 a, .int .i64 b]] w fun e w' => e = .returned (stampE (nextS a b)) ∧ Chg (· < w.heap.size) w w' := by
  have q1 := (((Chg.refl (· < w.heap.size) w).alloc (.cells #[.int .i64 a, .int .i64 b] 23) (by simp)).alloc (.cells #[.int .i64 0, .int .i64 0] 23) (by simp; omega))
  by_cases hv : validS a b = true
  · obtain ⟨v1, v2, v3, v4⟩ := (validS_iff a b).1 hv
    by_cases h16 : b = 1099511627776
    · have HR := Lib.hid (show nextS a b = ((0, 0), 16) by unfold nextS; rw [if_pos hv, if_pos h16])
      have d : (b == 1099511627776) = true := by simp [h16]
      clear h16
      go_enter Try.func12, Try.ntmps12
      go_wp2_with (go_at_call 19; refine (valid_p _ _ _).mono ?_; rintro e w1 ⟨rfl, k1⟩; obtain ⟨r1, r2⟩ := k1.rules'; have z1 := k1.size; simp at z1; have c1 : w1.cell? ⟨w.heap.size, 1, none⟩ = some (.int .i64 b) := (r1 _ _ (by simp; omega)).trans (by simp [go_sem]))
      refine bodyPost_ret (v := .tuple #[.agg #[.int .i64 0, .int .i64 0], .int .i64 16]) (by simp [results, Try.results12, go_sem, *]) rfl ⟨by rw [HR.out]; rfl, ?_⟩
      refine Chg.setCell (Chg.setCell (q1.then k1 ?_) _ ?_) _ ?_ <;> simp <;> omega
    · have HR := Lib.hid (show nextS a b = ((a, b + 1), 0) by unfold nextS; rw [if_pos hv, if_neg h16])
      have d : (b == 1099511627776) = false := by simp [h16]
      clear h16
      go_enter Try.func12, Try.ntmps12
      go_wp2_with (go_at_call 19; refine (valid_p _ _ _).mono ?_; rintro e w1 ⟨rfl, k1⟩; obtain ⟨r1, r2⟩ := k1.rules'; have z1 := k1.size; simp at z1; have c1 : w1.cell? ⟨w.heap.size, 1, none⟩ = some (.int .i64 b) := (r1 _ _ (by simp; omega)).trans (by simp [go_sem]))
      refine bodyPost_ret (v := .tuple #[.agg #[.int .i64 a, .int .i64 (b + 1)], .int .i64 0]) (by simp [results, Try.results12, go_sem, *]) rfl ⟨by rw [HR.out]; rfl, ?_⟩
      refine Chg.setCell (Chg.setCell (Chg.setCell (q1.then k1 ?_) _ ?_) _ ?_) _ ?_ <;> simp <;> omega
  · have HR := Lib.hid (show nextS a b = ((0, 0), 1) by unfold nextS; rw [if_neg hv])
    have hv : validS a b = false := by simpa using hv
    go_enter Try.func12, Try.ntmps12
    go_wp2_with (go_at_call 19; refine (valid_p _ _ _).mono ?_; rintro e w1 ⟨rfl, k1⟩; obtain ⟨r1, r2⟩ := k1.rules'; have z1 := k1.size; simp at z1; have c1 : w1.cell? ⟨w.heap.size, 1, none⟩ = some (.int .i64 b) := (r1 _ _ (by simp; omega)).trans (by simp [go_sem]))
    refine bodyPost_ret (v := .tuple #[.agg #[.int .i64 0, .int .i64 0], .int .i64 1]) (by simp [results, Try.results12, go_sem, *]) rfl ⟨by rw [HR.out]; rfl, ?_⟩
    refine Chg.setCell (Chg.setCell (q1.then k1 ?_) _ ?_) _ ?_ <;> simp <;> omega
set_option maxHeartbeats 400000 in
theorem next_r (a b : Int) (w : World) :
    Calls Try.prog 13 #[.agg #[.int .i64 a, .int .i64 b]] w fun e w' => e = .returned (stampE (nextS a b)) ∧ Chg (· < w.heap.size) w w' := by
  have q1 := (((Chg.refl (· < w.heap.size) w).alloc (.cells #[.int .i64 a, .int .i64 b] 23) (by simp)).alloc (.cells #[.int .i64 0, .int .i64 0] 23) (by simp; omega))
  by_cases hv : validS a b = true
  · obtain ⟨v1, v2, v3, v4⟩ := (validS_iff a b).1 hv
    by_cases h16 : b = 1099511627776
    · have HR := Lib.hid (show nextS a b = ((0, 0), 16) by unfold nextS; rw [if_pos hv, if_pos h16])
      have d : (b == 1099511627776) = true := by simp [h16]
      clear h16
      go_enter Try.func13, Try.ntmps13
      go_wp2_with (go_at_call 20; refine (valid_r _ _ _).mono ?_; rintro e w1 ⟨rfl, k1⟩; obtain ⟨r1, r2⟩ := k1.rules'; have z1 := k1.size; simp at z1; have c1 : w1.cell? ⟨w.heap.size, 1, none⟩ = some (.int .i64 b) := (r1 _ _ (by simp; omega)).trans (by simp [go_sem]))
      refine bodyPost_ret (v := .tuple #[.agg #[.int .i64 0, .int .i64 0], .int .i64 16]) (by simp [results, Try.results13, go_sem, *]) rfl ⟨by rw [HR.out]; rfl, ?_⟩
      refine Chg.setCell (Chg.setCell (q1.then k1 ?_) _ ?_) _ ?_ <;> simp <;> omega
    · have HR := Lib.hid (show nextS a b = ((a, b + 1), 0) by unfold nextS; rw [if_pos hv, if_neg h16])
      have d : (b == 1099511627776) = false := by simp [h16]
      clear h16
      go_enter Try.func13, Try.ntmps13
      go_wp2_with (go_at_call 20; refine (valid_r _ _ _).mono ?_; rintro e w1 ⟨rfl, k1⟩; obtain ⟨r1, r2⟩ := k1.rules'; have z1 := k1.size; simp at z1; have c1 : w1.cell? ⟨w.heap.size, 1, none⟩ = some (.int .i64 b) := (r1 _ _ (by simp; omega)).trans (by simp [go_sem]))
      refine bodyPost_ret (v := .tuple #[.agg #[.int .i64 a, .int .i64 (b + 1)], .int .i64 0]) (by simp [results, Try.results13, go_sem, *]) rfl ⟨by rw [HR.out]; rfl, ?_⟩
      refine Chg.setCell (Chg.setCell (q1.then k1 ?_) _ ?_) _ ?_ <;> simp <;> omega
  · have HR := Lib.hid (show nextS a b = ((0, 0), 1) by unfold nextS; rw [if_neg hv])
    have hv : validS a b = false := by simpa using hv
    go_enter Try.func13, Try.ntmps13
    go_wp2_with (go_at_call 20; refine (valid_r _ _ _).mono ?_; rintro e w1 ⟨rfl, k1⟩; obtain ⟨r1, r2⟩ := k1.rules'; have z1 := k1.size; simp at z1; have c1 : w1.cell? ⟨w.heap.size, 1, none⟩ = some (.int .i64 b) := (r1 _ _ (by simp; omega)).trans (by simp [go_sem]))
    refine bodyPost_ret (v := .tuple #[.agg #[.int .i64 0, .int .i64 0], .int .i64 1]) (by simp [results, Try.results13, go_sem, *]) rfl ⟨by rw [HR.out]; rfl, ?_⟩
    refine Chg.setCell (Chg.setCell (q1.then k1 ?_) _ ?_) _ ?_ <;> simp <;> omega
end Go.Proofs.Ytgpoikklnbmpkaa
