/- Walks over the stamps that are drawn from a tape. -/
import Derived.Test.YtgpoikklnbmpkaaRows
import Derived.Test.YtgpoikklnbmpkaaTape
namespace Go.Proofs.Ytgpoikklnbmpkaa
open Go.RowKit

/-- some stamp whose numbers are small -/
def SomeStamp (B b : Nat) (w : World) (e : Ending) (w' : World) : Prop :=
  ∃ x y : Int, e = .returned (.agg #[.int .i64 x, .int .i64 y]) ∧ -1 ≤ x ∧ x ≤ 1099511627777 ∧ -1 ≤ y ∧ y ≤ 1099511627777 ∧ Chg (fun k => k < w.heap.size ∧ k ≠ b) w w' ∧ TP 55 B w' b

set_option maxHeartbeats 400000 in
theorem stamp_x {B b : Nat} (w : World) (h : TP 55 B w b) (hB : B ≤ w.heap.size) :
    Calls Try.prog 11 #[.pointer (some ⟨b, 0, none⟩)] w (SomeStamp B b w) := by
  have hlt := h.lt
  have q1 : Chg (· < w.heap.size) w (w.alloc (.cells #[.int .i64 0, .int .i64 0] 23)) := (Chg.refl _ _).alloc _ (by simp)
  go_enter Try.func11, Try.ntmps11
  go_wp2_with fail
  refine (pick_lit 0 1099511627776 [0, 1, 2, 3, 2, 1099511627775, 1099511627776] (h.chg q1 (by omega)) (by simp; omega) (by simp) (by rfl) (by rfl) (by omega) (by omega) (by simp)).mono ?_
  rintro e w1 ⟨r, rfl, r0, r1, k1, t1⟩
  have c0 : w1.cell? ⟨w.heap.size, 0, none⟩ = some (.int .i64 0) := k1.cellv (by simp) (by simp; omega)
  have c1 : w1.cell? ⟨w.heap.size, 1, none⟩ = some (.int .i64 0) := k1.cellv (by simp) (by simp; omega)
  have f0 : w1.frozen? ⟨w.heap.size, 0, none⟩ = false := (k1.frozen (by simp; omega)).trans (by simp)
  have f1 : w1.frozen? ⟨w.heap.size, 1, none⟩ = false := (k1.frozen (by simp; omega)).trans (by simp)
  have z1 := k1.size
  simp at z1
  go_wp2_with fail
  refine (pick_lit 0 1099511627776 [0, 1, 2, 0, 1, 2, 1099511627776] t1 (by omega) (by simp) (by rfl) (by rfl) (by omega) (by omega) (by simp)).mono ?_
  rintro e w2 ⟨r', rfl, r0', r1', k2, t2⟩
  have d0 : w2.cell? ⟨w.heap.size, 0, none⟩ = some (.int .i64 0) := k2.cellv c0 (by simp; omega)
  have d1 : w2.cell? ⟨w.heap.size, 1, none⟩ = some (.int .i64 0) := k2.cellv c1 (by simp; omega)
  have g0 : w2.frozen? ⟨w.heap.size, 0, none⟩ = false := (k2.frozen (by simp; omega)).trans f0
  have g1 : w2.frozen? ⟨w.heap.size, 1, none⟩ = false := (k2.frozen (by simp; omega)).trans f1
  have z2 := k2.size
  clear c0 c1 f0 f1
  go_wp2
  refine bodyPost_ret (v := .agg #[.int .i64 r, .int .i64 r']) (by simp [results, Try.results11, go_sem, d0, d1]) rfl ⟨r, r', rfl, by omega, by omega, by omega, by omega, ?_, ?_⟩
  · exact ((((q1.mono (fun k hk => hk.1)).then k1 (by simp; omega)).then k2 (by simp; omega)).setCell _ (by simp; omega)).setCell _ (by simp; omega)
  · exact t2.chg (((Chg.refl (· < B) _).setCell _ (by simp; omega)).setCell _ (by simp; omega)) (fun k hk => hk)

set_option maxHeartbeats 400000 in
theorem odd_x {B b : Nat} (w : World) (h : TP 55 B w b) (hB : B ≤ w.heap.size) :
    Calls Try.prog 10 #[.pointer (some ⟨b, 0, none⟩)] w (SomeStamp B b w) := by
  have hlt := h.lt
  have q1 : Chg (· < w.heap.size) w (w.alloc (.cells #[.int .i64 0, .int .i64 0] 23)) := (Chg.refl _ _).alloc _ (by simp)
  have n0 : ¬ w.heap.size = b := by omega
  go_enter Try.func10, Try.ntmps10
  go_wp2_with fail
  refine (stamp_x _ (h.chg q1 (by omega)) (by simp; omega)).mono ?_
  rintro e w1 ⟨x, y, rfl, x0, x1, y0, y1, k1, t1⟩
  have q1 := (q1.mono (fun k hk => hk.1)).then k1 (S := fun k => k < w.heap.size ∧ k ≠ b) (by simp; omega)
  obtain ⟨r1, r2⟩ := k1.rules
  have z1 : w.heap.size < w1.heap.size := by have := k1.size; (try simp at this); omega
  have n1 : ¬ w1.heap.size = b := by omega
  have q2 := q1.alloc (.cells #[.int .i64 x, .int .i64 y] 23) (by simp; omega)
  have t1 := t1.chg ((Chg.refl (· < B) _).alloc (.cells #[.int .i64 x, .int .i64 y] 23) (by first | omega | (simp; omega))) (fun k hk => hk)
  clear k1
  go_wp2_with fail
  refine (next_x _ _ t1 (by omega)).mono ?_
  rintro e w2 ⟨r, rfl, _, _, k2, t2⟩
  have q2 := q2.then k2 (by simp; omega)
  obtain ⟨s1, s2⟩ := k2.rules
  have z2 : w1.heap.size < w2.heap.size := by have := k2.size; (try simp at this); omega
  have z3 : w.heap.size < w1.heap.size + 1 := by omega
  have z4 : w.heap.size < w2.heap.size := by omega
  have n2 : ¬ w2.heap.size = b := by omega
  clear k2
  by_cases e6 : r = 6
  · subst e6
    go_wp2_with fail
    refine (pick_lit (-1) 1099511627777 [-1, 1099511627777] t2 (by omega) (by simp) (by rfl) (by rfl) (by omega) (by omega) (by simp)).mono ?_
    rintro e w3 ⟨r, rfl, _, _, k3, t3⟩
    have q3 := q2.then k3 (by simp; omega)
    obtain ⟨u1, u2⟩ := k3.rules
    go_wp2
    refine bodyPost_ret (v := .agg #[.int .i64 r, .int .i64 y]) (by simp [results, Try.results10, go_sem, *]) rfl ⟨r, y, rfl, by omega, by omega, by omega, by omega, ?_, ?_⟩
    · refine Chg.setCell (Chg.setCell (Chg.setCell q3 _ ?_) _ ?_) _ ?_ <;> simp <;> omega
    · exact t3.chg (S := (· < B)) (by refine Chg.setCell (Chg.setCell (Chg.setCell (Chg.refl _ _) _ ?_) _ ?_) _ ?_ <;> simp <;> omega) (fun k hk => hk)
  · have d6 : (r == 6) = false := by simp [e6]
    by_cases e7 : r = 7
    · subst e7
      go_wp2_with fail
      refine (pick_lit (-1) 1099511627777 [-1, 1099511627777] t2 (by omega) (by simp) (by rfl) (by rfl) (by omega) (by omega) (by simp)).mono ?_
      rintro e w3 ⟨r, rfl, _, _, k3, t3⟩
      have q3 := q2.then k3 (by simp; omega)
      obtain ⟨u1, u2⟩ := k3.rules
      go_wp2
      refine bodyPost_ret (v := .agg #[.int .i64 x, .int .i64 r]) (by simp [results, Try.results10, go_sem, *]) rfl ⟨x, r, rfl, by omega, by omega, by omega, by omega, ?_, ?_⟩
      · refine Chg.setCell (Chg.setCell (Chg.setCell q3 _ ?_) _ ?_) _ ?_ <;> simp <;> omega
      · exact t3.chg (S := (· < B)) (by refine Chg.setCell (Chg.setCell (Chg.setCell (Chg.refl _ _) _ ?_) _ ?_) _ ?_ <;> simp <;> omega) (fun k hk => hk)
    · have d7 : (r == 7) = false := by simp [e7]
      clear e6 e7
      go_wp2
      refine bodyPost_ret (v := .agg #[.int .i64 x, .int .i64 y]) (by simp [results, Try.results10, go_sem, *]) rfl ⟨x, y, rfl, by omega, by omega, by omega, by omega, ?_, ?_⟩
      · refine Chg.setCell (Chg.setCell q2 _ ?_) _ ?_ <;> simp <;> omega
      · exact t2.chg (S := (· < B)) (by refine Chg.setCell (Chg.setCell (Chg.refl _ _) _ ?_) _ ?_ <;> simp <;> omega) (fun k hk => hk)
end Go.Proofs.Ytgpoikklnbmpkaa
