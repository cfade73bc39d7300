/- Walks over the package suspect and its reference: what follows an event. -/
import Derived.Test.YtgfnngdkoecciaaWatchV
namespace Go.Proofs.Ytgfnngdkoecciaa
open Go.RowKit

set_option maxHeartbeats 1000000 in
theorem wt_next_r_bad (s m l e : Int) (w : World) (hv : validW s m l = false) :
    Calls Try.prog 12 #[.agg #[.int .i64 s, .int .i64 m, .int .i64 l], .int .i64 e] w fun e' w' => e' = .returned (.tuple #[.agg #[.int .i64 (0), .int .i64 (0), .int .i64 (0)], .bool false]) ∧ Chg (· < w.heap.size) w w' := by
  have q0 := ((Chg.refl (· < w.heap.size) w).alloc (.cells #[.int .i64 s, .int .i64 m, .int .i64 l] 24) (by simp)).alloc (.cells #[.int .i64 0, .int .i64 0, .int .i64 0] 24) (by simp; omega)
  have b0 := heap_push (o := .cells #[.int .i64 0, .int .i64 0, .int .i64 0] 24) (heap_new w (.cells #[.int .i64 s, .int .i64 m, .int .i64 l] 24))
  have b1 : ((w.alloc (.cells #[.int .i64 s, .int .i64 m, .int .i64 l] 24)).alloc (.cells #[.int .i64 0, .int .i64 0, .int .i64 0] 24)).heap[w.heap.size + 1]? = some (.cells #[.int .i64 0, .int .i64 0, .int .i64 0] 24 (0, 0)) := by simpa using heap_new (w.alloc (.cells #[.int .i64 s, .int .i64 m, .int .i64 l] 24)) (.cells #[.int .i64 0, .int .i64 0, .int .i64 0] 24)
  go_enter Try.func12, Try.ntmps12
  go_wp2_with fail
  refine (wt_valid_r _ _ _ _).mono ?_
  rintro e' w1 ⟨rfl, k1⟩
  obtain ⟨c0, c1, c2, f0, f1, f2⟩ := cells3 ((k1.block _ (by simp; omega)).trans b0)
  obtain ⟨g0, g1, g2, r0, r1, r2⟩ := cells3 ((k1.block _ (by simp)).trans b1)
  have q1 := q0.then k1 (by intro k hk; simp; omega)
  rw [hv]
  clear b0 b1 k1 q0
  go_wp2
  refine bodyPost_ret (v := .tuple #[.agg #[.int .i64 (0), .int .i64 (0), .int .i64 (0)], .bool false]) (by simp [results, Try.results12, go_sem, *]) rfl ⟨rfl, ?_⟩
  exact (((q1.setCell _ (by intro k hk; simp; omega)).setCell _ (by intro k hk; simp; omega)).setCell _ (by intro k hk; simp; omega))

set_option maxHeartbeats 1000000 in
theorem wt_next_r_down (s m l e : Int) (w : World) (hv : validW s m l = true) (h0 : s = 3) :
    Calls Try.prog 12 #[.agg #[.int .i64 s, .int .i64 m, .int .i64 l], .int .i64 e] w fun e' w' => e' = .returned (.tuple #[.agg #[.int .i64 (s), .int .i64 (m), .int .i64 (l)], .bool false]) ∧ Chg (· < w.heap.size) w w' := by
  obtain ⟨v1, v2, v3, v4, v5⟩ := validW_bd hv
  have d0 : (s == 3) = true := by simp [h0]
  clear h0
  have q0 := ((Chg.refl (· < w.heap.size) w).alloc (.cells #[.int .i64 s, .int .i64 m, .int .i64 l] 24) (by simp)).alloc (.cells #[.int .i64 0, .int .i64 0, .int .i64 0] 24) (by simp; omega)
  have b0 := heap_push (o := .cells #[.int .i64 0, .int .i64 0, .int .i64 0] 24) (heap_new w (.cells #[.int .i64 s, .int .i64 m, .int .i64 l] 24))
  have b1 : ((w.alloc (.cells #[.int .i64 s, .int .i64 m, .int .i64 l] 24)).alloc (.cells #[.int .i64 0, .int .i64 0, .int .i64 0] 24)).heap[w.heap.size + 1]? = some (.cells #[.int .i64 0, .int .i64 0, .int .i64 0] 24 (0, 0)) := by simpa using heap_new (w.alloc (.cells #[.int .i64 s, .int .i64 m, .int .i64 l] 24)) (.cells #[.int .i64 0, .int .i64 0, .int .i64 0] 24)
  go_enter Try.func12, Try.ntmps12
  go_wp2_with fail
  refine (wt_valid_r _ _ _ _).mono ?_
  rintro e' w1 ⟨rfl, k1⟩
  obtain ⟨c0, c1, c2, f0, f1, f2⟩ := cells3 ((k1.block _ (by simp; omega)).trans b0)
  obtain ⟨g0, g1, g2, r0, r1, r2⟩ := cells3 ((k1.block _ (by simp)).trans b1)
  have q1 := q0.then k1 (by intro k hk; simp; omega)
  rw [hv]
  clear b0 b1 k1 q0
  go_wp2
  refine bodyPost_ret (v := .tuple #[.agg #[.int .i64 (s), .int .i64 (m), .int .i64 (l)], .bool false]) (by simp [results, Try.results12, go_sem, *]) rfl ⟨rfl, ?_⟩
  exact (((q1.setCell _ (by intro k hk; simp; omega)).setCell _ (by intro k hk; simp; omega)).setCell _ (by intro k hk; simp; omega))

set_option maxHeartbeats 1000000 in
theorem wt_next_r_tick (s m l e : Int) (w : World) (hv : validW s m l = true) (h0 : ¬ s = 3) (h1 : e = 1) (h2 : m < l) :
    Calls Try.prog 12 #[.agg #[.int .i64 s, .int .i64 m, .int .i64 l], .int .i64 e] w fun e' w' => e' = .returned (.tuple #[.agg #[.int .i64 (s), .int .i64 (m + 1), .int .i64 (l)], .bool true]) ∧ Chg (· < w.heap.size) w w' := by
  obtain ⟨v1, v2, v3, v4, v5⟩ := validW_bd hv
  have d0 : (s == 3) = false := by simp [h0]
  subst h1
  have d2 : (m == l) = false := beq_eq_false_iff_ne.2 (by omega)
  clear h0 h2
  have q0 := ((Chg.refl (· < w.heap.size) w).alloc (.cells #[.int .i64 s, .int .i64 m, .int .i64 l] 24) (by simp)).alloc (.cells #[.int .i64 0, .int .i64 0, .int .i64 0] 24) (by simp; omega)
  have b0 := heap_push (o := .cells #[.int .i64 0, .int .i64 0, .int .i64 0] 24) (heap_new w (.cells #[.int .i64 s, .int .i64 m, .int .i64 l] 24))
  have b1 : ((w.alloc (.cells #[.int .i64 s, .int .i64 m, .int .i64 l] 24)).alloc (.cells #[.int .i64 0, .int .i64 0, .int .i64 0] 24)).heap[w.heap.size + 1]? = some (.cells #[.int .i64 0, .int .i64 0, .int .i64 0] 24 (0, 0)) := by simpa using heap_new (w.alloc (.cells #[.int .i64 s, .int .i64 m, .int .i64 l] 24)) (.cells #[.int .i64 0, .int .i64 0, .int .i64 0] 24)
  go_enter Try.func12, Try.ntmps12
  go_wp2_with fail
  refine (wt_valid_r _ _ _ _).mono ?_
  rintro e' w1 ⟨rfl, k1⟩
  obtain ⟨c0, c1, c2, f0, f1, f2⟩ := cells3 ((k1.block _ (by simp; omega)).trans b0)
  obtain ⟨g0, g1, g2, r0, r1, r2⟩ := cells3 ((k1.block _ (by simp)).trans b1)
  have q1 := q0.then k1 (by intro k hk; simp; omega)
  rw [hv]
  clear b0 b1 k1 q0
  go_wp2
  refine bodyPost_ret (v := .tuple #[.agg #[.int .i64 (s), .int .i64 (m + 1), .int .i64 (l)], .bool true]) (by simp [results, Try.results12, go_sem, *]) rfl ⟨rfl, ?_⟩
  exact ((((q1.setCell _ (by intro k hk; simp; omega)).setCell _ (by intro k hk; simp; omega)).setCell _ (by intro k hk; simp; omega)).setCell _ (by intro k hk; simp; omega))

set_option maxHeartbeats 1000000 in
theorem wt_next_r_late (s m l e : Int) (w : World) (hv : validW s m l = true) (h0 : ¬ s = 3) (h1 : e = 1) (h2 : ¬ m < l) :
    Calls Try.prog 12 #[.agg #[.int .i64 s, .int .i64 m, .int .i64 l], .int .i64 e] w fun e' w' => e' = .returned (.tuple #[.agg #[.int .i64 (2), .int .i64 (m), .int .i64 (l)], .bool true]) ∧ Chg (· < w.heap.size) w w' := by
  obtain ⟨v1, v2, v3, v4, v5⟩ := validW_bd hv
  have d0 : (s == 3) = false := by simp [h0]
  subst h1
  have d2 : (m == l) = true := beq_iff_eq.2 (by omega)
  clear h0 h2
  have q0 := ((Chg.refl (· < w.heap.size) w).alloc (.cells #[.int .i64 s, .int .i64 m, .int .i64 l] 24) (by simp)).alloc (.cells #[.int .i64 0, .int .i64 0, .int .i64 0] 24) (by simp; omega)
  have b0 := heap_push (o := .cells #[.int .i64 0, .int .i64 0, .int .i64 0] 24) (heap_new w (.cells #[.int .i64 s, .int .i64 m, .int .i64 l] 24))
  have b1 : ((w.alloc (.cells #[.int .i64 s, .int .i64 m, .int .i64 l] 24)).alloc (.cells #[.int .i64 0, .int .i64 0, .int .i64 0] 24)).heap[w.heap.size + 1]? = some (.cells #[.int .i64 0, .int .i64 0, .int .i64 0] 24 (0, 0)) := by simpa using heap_new (w.alloc (.cells #[.int .i64 s, .int .i64 m, .int .i64 l] 24)) (.cells #[.int .i64 0, .int .i64 0, .int .i64 0] 24)
  go_enter Try.func12, Try.ntmps12
  go_wp2_with fail
  refine (wt_valid_r _ _ _ _).mono ?_
  rintro e' w1 ⟨rfl, k1⟩
  obtain ⟨c0, c1, c2, f0, f1, f2⟩ := cells3 ((k1.block _ (by simp; omega)).trans b0)
  obtain ⟨g0, g1, g2, r0, r1, r2⟩ := cells3 ((k1.block _ (by simp)).trans b1)
  have q1 := q0.then k1 (by intro k hk; simp; omega)
  rw [hv]
  clear b0 b1 k1 q0
  go_wp2
  refine bodyPost_ret (v := .tuple #[.agg #[.int .i64 (2), .int .i64 (m), .int .i64 (l)], .bool true]) (by simp [results, Try.results12, go_sem, *]) rfl ⟨rfl, ?_⟩
  exact ((((q1.setCell _ (by intro k hk; simp; omega)).setCell _ (by intro k hk; simp; omega)).setCell _ (by intro k hk; simp; omega)).setCell _ (by intro k hk; simp; omega))

set_option maxHeartbeats 1000000 in
theorem wt_next_r_ack (s m l e : Int) (w : World) (hv : validW s m l = true) (h0 : ¬ s = 3) (h1 : e = 2) :
    Calls Try.prog 12 #[.agg #[.int .i64 s, .int .i64 m, .int .i64 l], .int .i64 e] w fun e' w' => e' = .returned (.tuple #[.agg #[.int .i64 (1), .int .i64 (0), .int .i64 (l)], .bool false]) ∧ Chg (· < w.heap.size) w w' := by
  obtain ⟨v1, v2, v3, v4, v5⟩ := validW_bd hv
  have d0 : (s == 3) = false := by simp [h0]
  subst h1
  clear h0
  have q0 := ((Chg.refl (· < w.heap.size) w).alloc (.cells #[.int .i64 s, .int .i64 m, .int .i64 l] 24) (by simp)).alloc (.cells #[.int .i64 0, .int .i64 0, .int .i64 0] 24) (by simp; omega)
  have b0 := heap_push (o := .cells #[.int .i64 0, .int .i64 0, .int .i64 0] 24) (heap_new w (.cells #[.int .i64 s, .int .i64 m, .int .i64 l] 24))
  have b1 : ((w.alloc (.cells #[.int .i64 s, .int .i64 m, .int .i64 l] 24)).alloc (.cells #[.int .i64 0, .int .i64 0, .int .i64 0] 24)).heap[w.heap.size + 1]? = some (.cells #[.int .i64 0, .int .i64 0, .int .i64 0] 24 (0, 0)) := by simpa using heap_new (w.alloc (.cells #[.int .i64 s, .int .i64 m, .int .i64 l] 24)) (.cells #[.int .i64 0, .int .i64 0, .int .i64 0] 24)
  go_enter Try.func12, Try.ntmps12
  go_wp2_with fail
  refine (wt_valid_r _ _ _ _).mono ?_
  rintro e' w1 ⟨rfl, k1⟩
  obtain ⟨c0, c1, c2, f0, f1, f2⟩ := cells3 ((k1.block _ (by simp; omega)).trans b0)
  obtain ⟨g0, g1, g2, r0, r1, r2⟩ := cells3 ((k1.block _ (by simp)).trans b1)
  have q1 := q0.then k1 (by intro k hk; simp; omega)
  rw [hv]
  clear b0 b1 k1 q0
  go_wp2
  refine bodyPost_ret (v := .tuple #[.agg #[.int .i64 (1), .int .i64 (0), .int .i64 (l)], .bool false]) (by simp [results, Try.results12, go_sem, *]) rfl ⟨rfl, ?_⟩
  exact (((((q1.setCell _ (by intro k hk; simp; omega)).setCell _ (by intro k hk; simp; omega)).setCell _ (by intro k hk; simp; omega)).setCell _ (by intro k hk; simp; omega)).setCell _ (by intro k hk; simp; omega))

set_option maxHeartbeats 1000000 in
theorem wt_next_r_bounce (s m l e : Int) (w : World) (hv : validW s m l = true) (h0 : ¬ s = 3) (h1 : e = 3) :
    Calls Try.prog 12 #[.agg #[.int .i64 s, .int .i64 m, .int .i64 l], .int .i64 e] w fun e' w' => e' = .returned (.tuple #[.agg #[.int .i64 (3), .int .i64 (0), .int .i64 (l)], .bool false]) ∧ Chg (· < w.heap.size) w w' := by
  obtain ⟨v1, v2, v3, v4, v5⟩ := validW_bd hv
  have d0 : (s == 3) = false := by simp [h0]
  subst h1
  clear h0
  have q0 := ((Chg.refl (· < w.heap.size) w).alloc (.cells #[.int .i64 s, .int .i64 m, .int .i64 l] 24) (by simp)).alloc (.cells #[.int .i64 0, .int .i64 0, .int .i64 0] 24) (by simp; omega)
  have b0 := heap_push (o := .cells #[.int .i64 0, .int .i64 0, .int .i64 0] 24) (heap_new w (.cells #[.int .i64 s, .int .i64 m, .int .i64 l] 24))
  have b1 : ((w.alloc (.cells #[.int .i64 s, .int .i64 m, .int .i64 l] 24)).alloc (.cells #[.int .i64 0, .int .i64 0, .int .i64 0] 24)).heap[w.heap.size + 1]? = some (.cells #[.int .i64 0, .int .i64 0, .int .i64 0] 24 (0, 0)) := by simpa using heap_new (w.alloc (.cells #[.int .i64 s, .int .i64 m, .int .i64 l] 24)) (.cells #[.int .i64 0, .int .i64 0, .int .i64 0] 24)
  go_enter Try.func12, Try.ntmps12
  go_wp2_with fail
  refine (wt_valid_r _ _ _ _).mono ?_
  rintro e' w1 ⟨rfl, k1⟩
  obtain ⟨c0, c1, c2, f0, f1, f2⟩ := cells3 ((k1.block _ (by simp; omega)).trans b0)
  obtain ⟨g0, g1, g2, r0, r1, r2⟩ := cells3 ((k1.block _ (by simp)).trans b1)
  have q1 := q0.then k1 (by intro k hk; simp; omega)
  rw [hv]
  clear b0 b1 k1 q0
  go_wp2
  refine bodyPost_ret (v := .tuple #[.agg #[.int .i64 (3), .int .i64 (0), .int .i64 (l)], .bool false]) (by simp [results, Try.results12, go_sem, *]) rfl ⟨rfl, ?_⟩
  exact (((((q1.setCell _ (by intro k hk; simp; omega)).setCell _ (by intro k hk; simp; omega)).setCell _ (by intro k hk; simp; omega)).setCell _ (by intro k hk; simp; omega)).setCell _ (by intro k hk; simp; omega))

set_option maxHeartbeats 1000000 in
theorem wt_next_r_none (s m l e : Int) (w : World) (hv : validW s m l = true) (h0 : ¬ s = 3) (h1 : ¬ e = 1) (h2 : ¬ e = 2) (h3 : ¬ e = 3) :
    Calls Try.prog 12 #[.agg #[.int .i64 s, .int .i64 m, .int .i64 l], .int .i64 e] w fun e' w' => e' = .returned (.tuple #[.agg #[.int .i64 (s), .int .i64 (m), .int .i64 (l)], .bool false]) ∧ Chg (· < w.heap.size) w w' := by
  obtain ⟨v1, v2, v3, v4, v5⟩ := validW_bd hv
  have d0 : (s == 3) = false := by simp [h0]
  have d1 : (e == 1) = false := by simp [h1]
  have d2 : (e == 2) = false := by simp [h2]
  have d3 : (e == 3) = false := by simp [h3]
  clear h0 h1 h2 h3
  have q0 := ((Chg.refl (· < w.heap.size) w).alloc (.cells #[.int .i64 s, .int .i64 m, .int .i64 l] 24) (by simp)).alloc (.cells #[.int .i64 0, .int .i64 0, .int .i64 0] 24) (by simp; omega)
  have b0 := heap_push (o := .cells #[.int .i64 0, .int .i64 0, .int .i64 0] 24) (heap_new w (.cells #[.int .i64 s, .int .i64 m, .int .i64 l] 24))
  have b1 : ((w.alloc (.cells #[.int .i64 s, .int .i64 m, .int .i64 l] 24)).alloc (.cells #[.int .i64 0, .int .i64 0, .int .i64 0] 24)).heap[w.heap.size + 1]? = some (.cells #[.int .i64 0, .int .i64 0, .int .i64 0] 24 (0, 0)) := by simpa using heap_new (w.alloc (.cells #[.int .i64 s, .int .i64 m, .int .i64 l] 24)) (.cells #[.int .i64 0, .int .i64 0, .int .i64 0] 24)
  go_enter Try.func12, Try.ntmps12
  go_wp2_with fail
  refine (wt_valid_r _ _ _ _).mono ?_
  rintro e' w1 ⟨rfl, k1⟩
  obtain ⟨c0, c1, c2, f0, f1, f2⟩ := cells3 ((k1.block _ (by simp; omega)).trans b0)
  obtain ⟨g0, g1, g2, r0, r1, r2⟩ := cells3 ((k1.block _ (by simp)).trans b1)
  have q1 := q0.then k1 (by intro k hk; simp; omega)
  rw [hv]
  clear b0 b1 k1 q0
  go_wp2
  refine bodyPost_ret (v := .tuple #[.agg #[.int .i64 (s), .int .i64 (m), .int .i64 (l)], .bool false]) (by simp [results, Try.results12, go_sem, *]) rfl ⟨rfl, ?_⟩
  exact (((q1.setCell _ (by intro k hk; simp; omega)).setCell _ (by intro k hk; simp; omega)).setCell _ (by intro k hk; simp; omega))

theorem wt_next_r (s m l e : Int) (w : World) :
    Calls Try.prog 12 #[.agg #[.int .i64 s, .int .i64 m, .int .i64 l], .int .i64 e] w fun e' w' => e' = .returned (.tuple #[.agg #[.int .i64 (nextW s m l e).1.1, .int .i64 (nextW s m l e).1.2.1, .int .i64 (nextW s m l e).1.2.2], .bool (nextW s m l e).2]) ∧ Chg (· < w.heap.size) w w' := by
  unfold nextW
  cases hv : validW s m l with
  | false => exact wt_next_r_bad s m l e w hv
  | true =>
    by_cases h3 : s = 3
    · simp only [h3, if_true]
      have := wt_next_r_down s m l e w hv h3
      rw [h3] at this
      exact this
    · simp only [h3, if_false, if_true]
      by_cases e1 : e = 1
      · simp only [e1, if_true]
        by_cases hm : m < l
        · simp only [hm, if_true]; have := wt_next_r_tick s m l e w hv h3 e1 hm; rw [e1] at this; exact this
        · simp only [hm, if_false]; have := wt_next_r_late s m l e w hv h3 e1 hm; rw [e1] at this; exact this
      · simp only [e1, if_false]
        by_cases e2 : e = 2
        · simp only [e2, if_true]; have := wt_next_r_ack s m l e w hv h3 e2; rw [e2] at this; exact this
        · simp only [e2, if_false]
          by_cases e3 : e = 3
          · simp only [e3, if_true]; have := wt_next_r_bounce s m l e w hv h3 e3; rw [e3] at this; exact this
          · simp only [e3, if_false]; exact wt_next_r_none s m l e w hv h3 e1 e2 e3

end Go.Proofs.Ytgfnngdkoecciaa
