/- The walk over the statement StampAfter. -/
import Derived.Test.YtgpoikklnbmpkaaAwake
import Derived.Test.YtgpoikklnbmpkaaTape
import Derived.Test.YtgpoikklnbmpkaaRising
import Derived.Test.YtgpoikklnbmpkaaOrder
namespace Go.Proofs.Ytgpoikklnbmpkaa
open Go.RowKit

theorem next_p3 {a b x y z : Int} (h : nextS a b = ((x, y), z)) (w : World) :
    Calls Try.prog 12 #[.agg #[.int .i64 a, .int .i64 b]] w fun e w' => e = .returned (.tuple #[.agg #[.int .i64 x, .int .i64 y], .int .i64 z]) ∧ Chg (· < w.heap.size) w w' := by
  have := next_p a b w; rw [h] at this; exact this
theorem renew_p3 {S : Nat → Prop} {a : Option Addr} {n cap : Nat} {l : List (Int × Int)} {x y z : Int} (H : renewS l = ((x, y), z)) (w : World) (h : Rd 2 encS S w a n l) (hS : ∀ k, S k → k < w.heap.size) (hn : n ≤ 100) :
    Calls Try.prog 15 #[.slice a n cap] w fun e w' => e = .returned (.tuple #[.agg #[.int .i64 x, .int .i64 y], .int .i64 z]) ∧ Chg (· < w.heap.size) w w' := by
  have := renew_p a n cap l w h hS hn; rw [H] at this; exact this
theorem rising_p3 {S : Nat → Prop} {a : Option Addr} {n cap : Nat} {l : List (Int × Int)} {v : Bool} (H : risingS l = v) (w : World) (h : Rd 2 encS S w a n l) (hS : ∀ k, S k → k < w.heap.size) (hn : n ≤ 100) :
    Calls Try.prog 22 #[.slice a n cap] w fun e w' => e = .returned (.bool v) ∧ Chg (· < w.heap.size) w w' := by
  have := rising_p a n cap l w h hS hn; rw [H] at this; exact this

theorem cmp_p3 {a b c d m : Int} (h : cmpS a b c d = m) (w : World) :
    Calls Try.prog 17 #[.agg #[.int .i64 a, .int .i64 b], .agg #[.int .i64 c, .int .i64 d]] w fun e w' => e = .returned (.int .i64 m) ∧ Chg (· < w.heap.size) w w' := by
  have := cmp_p a b c d w; rw [h] at this; exact this

theorem after_renew (a b c d : Int) (ha : 0 ≤ a) (ha' : a ≤ 4) (hb : 0 ≤ b) (hb' : b ≤ 4) (hc : 0 ≤ c) (hc' : c ≤ 4) (hd : 0 ≤ d) (hd' : d ≤ 4) :
    ∃ M, renewS [(a, b), (c, d)] = ((M + 1, 0), 0) ∧ a ≤ M ∧ c ≤ M ∧ 0 ≤ M ∧ M ≤ 4 := by
  have hv : allV [(a, b), (c, d)] = true := by
    have h1 := (validS_iff a b).2 ⟨by omega, by omega, by omega, by omega⟩
    have h2 := (validS_iff c d).2 ⟨by omega, by omega, by omega, by omega⟩
    simp [allV, h1, h2]
  have hf : foldE [(a, b), (c, d)] = if (if 0 < a then a else 0) < c then c else (if 0 < a then a else 0) := rfl
  refine ⟨foldE [(a, b), (c, d)], ?_, ?_, ?_, ?_, ?_⟩
  · unfold renewS
    rw [if_pos hv, if_neg]
    rw [hf]
    split <;> (try split) <;> omega
  all_goals (rw [hf]; split <;> (try split) <;> omega)
theorem after_next (a b : Int) (ha : 0 ≤ a) (ha' : a ≤ 4) (hb : 0 ≤ b) (hb' : b ≤ 1000) : nextS a b = ((a, b + 1), 0) := by
  unfold nextS
  rw [if_pos ((validS_iff a b).2 ⟨by omega, by omega, by omega, by omega⟩), if_neg (by omega)]
theorem cmp_lt1 (a b c d : Int) (h : a < c) : cmpS a b c d = -1 := by
  unfold cmpS; rw [if_neg (by omega), if_pos (.inl h)]
theorem cmp_lt2 (a b d : Int) (h : b < d) : cmpS a b a d = -1 := by
  unfold cmpS; rw [if_neg (by omega), if_pos (.inr ⟨rfl, h⟩)]
theorem rising_two (a b c d : Int) (h : a < c) : risingS [(a, b), (c, d)] = true := by
  unfold risingS
  rw [decide_eq_true_eq]
  intro j hj hj1
  have : j = 1 := by simp at hj; omega
  subst this
  show cmpS a b c d < 0
  rw [cmp_lt1 a b c d h]; omega

/-- at the head of the loop: block g holds a after i steps -/
def AfterRel (x0 x1 : Int) (n g kb ks : Nat) (y0 y1 s0 : Int) (w2 : World) (i : Value) (wr : World) : Prop :=
  ∃ k : Nat, k ≤ n ∧ i = .int .i64 k ∧ wr.heap[g]? = some (.cells #[.int .i64 x0, .int .i64 (x1 + k)] 23 (0, 0)) ∧ wr.heap[kb]? = some (.cells #[.int .i64 y0, .int .i64 y1] 23 (0, 0)) ∧
    wr.heap[ks]? = some (.cells #[.int .i64 s0, .int .i64 0] 23 (0, 0)) ∧ Chg (fun k => k < w2.heap.size ∧ k ≠ g) w2 wr

set_option maxHeartbeats 2000000 in
theorem after_walk (a2 : Option Addr) (n2 c2 : Nat) (l2 : List Int) (n : Nat) (w : World) (hn : n ≤ 255)
    (h2 : Rd 1 encI (· < w.heap.size) w a2 n2 l2) (hc2 : n2 ≤ c2) (hm2 : c2 ≤ maxLen) :
    Calls Try.prog 6 #[.slice a2 n2 c2, .int .u8 n] w fun e w' => e = .returned (.bool true) ∧ Chg (· < w.heap.size) w w' := by
  go_enter Try.func6, Try.ntmps6
  go_wp2_with (go_at_call 9; refine (new_x _ _ _ l2 _ h2 (fun _ h => h) hc2 hm2).mono ?_; rintro e w1 ⟨rfl, t1, q1⟩)
  have z1 : w.heap.size < w1.heap.size := by
    obtain ⟨_, _, _, _, _, _, hb, _⟩ := t1
    exact heap_lt hb
  refine (next_x _ _ t1 (by omega)).mono ?_
  rintro e w2 ⟨x0, rfl, x00, x01, k2, t2⟩
  rw [if_neg (by omega)] at x01
  have q2 := q1.then k2 (by intro k hk; omega)
  have z2 := k2.size
  clear k2 q1 t1
  go_wp2_with fail
  refine (next_x _ _ t2 (by omega)).mono ?_
  rintro e w3 ⟨x1, rfl, x10, x11, k3, t3⟩
  rw [if_neg (by omega)] at x11
  have q3 := q2.then k3 (by intro k hk; omega)
  have z3 := k3.size
  clear k3 q2 t2
  go_wp2_with fail
  refine (next_x _ _ t3 (by omega)).mono ?_
  rintro e w4 ⟨y0, rfl, y00, y01, k4, t4⟩
  rw [if_neg (by omega)] at y01
  have q4 := q3.then k4 (by intro k hk; omega)
  have z4 := k4.size
  clear k4 q3 t3
  go_wp2_with fail
  refine (next_x _ _ t4 (by omega)).mono ?_
  rintro e w5 ⟨y1, rfl, y10, y11, k5, t5⟩
  rw [if_neg (by omega)] at y11
  have q5 := q4.then k5 (by intro k hk; omega)
  have z5 := k5.size
  clear k5 q4 t4 t5
  obtain ⟨M, hM, m1, m2, m3, m4⟩ := after_renew x0 x1 y0 y1 (by omega) (by omega) (by omega) (by omega) (by omega) (by omega) (by omega) (by omega)
  have HM := Lib.hid hM
  clear hM
  go_wp2_with fail
  have b0 : ((w5.alloc (.cells #[.int .i64 x0, .int .i64 x1] 23)).alloc (.cells #[.int .i64 y0, .int .i64 y1] 23)).heap[w5.heap.size]? = some (.cells #[.int .i64 x0, .int .i64 x1] 23 (0, 0)) := heap_push (heap_new _ _)
  have b1 : ((w5.alloc (.cells #[.int .i64 x0, .int .i64 x1] 23)).alloc (.cells #[.int .i64 y0, .int .i64 y1] 23)).heap[w5.heap.size + 1]? = some (.cells #[.int .i64 y0, .int .i64 y1] 23 (0, 0)) := by simpa using heap_new (w5.alloc (.cells #[.int .i64 x0, .int .i64 x1] 23)) (.cells #[.int .i64 y0, .int .i64 y1] 23)
  refine (renew_p3 HM.out _ (Rd.lit (S := (· = w5.heap.size + 2)) [(x0, x1), (y0, y1)] (by simp) (by simp) rfl (fun _ => rfl) rfl) (by simp) (by simp)).mono ?_
  rintro e w6 ⟨rfl, k6⟩
  have b0 := (k6.block _ (by simp; omega)).trans (heap_push b0)
  have b1 := (k6.block _ (by simp)).trans (heap_push b1)
  have q6 : Chg (· < w.heap.size) w w6 := (((q5.alloc _ (by intro k hk; omega)).alloc _ (by intro k hk; simp; omega)).alloc _ (by intro k hk; simp; omega)).then k6 (by intro k hk; simp; omega)
  have z6 := k6.size
  simp at z6
  have z7 : w5.heap.size + 1 < w6.heap.size := by omega
  have z8 : w5.heap.size < w6.heap.size := by omega
  have B0 := Lib.hid (heap_push (o := .cells #[.int .i64 (M + 1), .int .i64 0] 23) b0)
  have B1 := Lib.hid (heap_push (o := .cells #[.int .i64 (M + 1), .int .i64 0] 23) b1)
  have B2 := Lib.hid (heap_new w6 (.cells #[.int .i64 (M + 1), .int .i64 0] 23))
  have q7 := q6.alloc (.cells #[.int .i64 (M + 1), .int .i64 0] 23) (by intro k hk; omega)
  clear k6 q5 q6 b0 b1 z6
  go_wp2_with fail
  go_loopw [10] (fun i wr => AfterRel x0 x1 n w5.heap.size (w5.heap.size + 1) w6.heap.size y0 y1 (M + 1) (w6.alloc (.cells #[.int .i64 (M + 1), .int .i64 0] 23)) i wr) (fun i _ => n - (intOf i).toNat)
  case atStart => exact ⟨0, by omega, rfl, by simpa using B0.out, B1.out, B2.out, Chg.refl _ _⟩
  case round =>
    obtain ⟨k, hk, rfl, h0, h1, h2, hc⟩ := hrel
    obtain ⟨wo, rfl⟩ : ∃ wo : World, wo = wr := ⟨_, rfl⟩
    obtain ⟨c0, c1, f0, f1⟩ := cells2 h0
    have hsz := hc.size
    simp at hsz
    have zo : w6.heap.size < wo.heap.size := by omega
    have zo1 : w5.heap.size + 1 < wo.heap.size := by omega
    have zo0 : w5.heap.size < wo.heap.size := by omega
    have H0 := Lib.hid h0
    have H1 := Lib.hid h1
    have H2 := Lib.hid h2
    clear h0 h1 h2 B0 B1 B2
    by_cases hlt : k < n
    · go_wp2_with fail
      refine (next_p3 (after_next x0 (x1 + k) (by omega) (by omega) (by omega) (by omega)) _).mono ?_
      rintro e v1 ⟨rfl, k1⟩
      have H0 := Lib.hid ((k1.block _ zo0).trans H0.out)
      have H1 := Lib.hid ((k1.block _ zo1).trans H1.out)
      have H2 := Lib.hid ((k1.block _ zo).trans H2.out)
      have hc := hc.then k1 (by simp; omega)
      have y1' := k1.size
      have y2 : w5.heap.size < v1.heap.size := by omega
      have y3 : w5.heap.size + 1 < v1.heap.size := by omega
      have y4 : w6.heap.size < v1.heap.size := by omega
      obtain ⟨c0, c1, f0, f1⟩ := cells2 H0.out
      obtain ⟨d0, d1, _, _⟩ := cells2 H2.out
      clear k1
      go_wp2_with fail
      have hc := hc.alloc (.cells #[.int .i64 x0, .int .i64 (x1 + k + 1)] 23) (by simp; omega)
      have N0 := heap_new v1 (.cells #[.int .i64 x0, .int .i64 (x1 + k + 1)] 23)
      have H0 := heap_push (o := .cells #[.int .i64 x0, .int .i64 (x1 + k + 1)] 23) H0.out
      have H1 := heap_push (o := .cells #[.int .i64 x0, .int .i64 (x1 + k + 1)] 23) H1.out
      have H2 := heap_push (o := .cells #[.int .i64 x0, .int .i64 (x1 + k + 1)] 23) H2.out
      refine (cmp_p3 (cmp_lt2 x0 (x1 + k) (x1 + k + 1) (by omega)) _).mono ?_
      rintro e v2 ⟨rfl, k2⟩
      have H0 := (k2.block _ (by simp; omega)).trans H0
      have H1 := (k2.block _ (by simp; omega)).trans H1
      have H2 := (k2.block _ (by simp; omega)).trans H2
      have N0 := (k2.block _ (by simp)).trans N0
      have hc := hc.then k2 (by simp; omega)
      have y5 := k2.size
      simp at y5
      obtain ⟨n0, n1, g0, g1⟩ := cells2 N0
      obtain ⟨d0, d1, _, _⟩ := cells2 H2
      have H0 := Lib.hid H0
      have H1 := Lib.hid H1
      have H2 := Lib.hid H2
      have N0 := Lib.hid N0
      clear k2
      go_wp2_with fail
      refine (cmp_p3 (cmp_lt1 x0 (x1 + k + 1) (M + 1) 0 (by omega)) _).mono ?_
      rintro e v3 ⟨rfl, k3⟩
      have H0 := (k3.block _ (by omega)).trans H0.out
      have H1 := (k3.block _ (by omega)).trans H1.out
      have H2 := (k3.block _ (by omega)).trans H2.out
      have N0 := (k3.block _ (by omega)).trans N0.out
      have hc := hc.then k3 (by simp; omega)
      obtain ⟨c0, c1, f0, f1⟩ := cells2 H0
      obtain ⟨n0, n1, g0, g1⟩ := cells2 N0
      have y6 := k3.size
      have H0 := Lib.hid H0
      have H1 := Lib.hid H1
      have H2 := Lib.hid H2
      clear k3 N0
      go_wp2_with fail
      refine ⟨⟨k + 1, by omega, by go_num, ?_, ?_, ?_, ?_⟩, by simp [intOf]; omega⟩
      · have := heap_set (heap_set H0.out 0 (.int .i64 x0)) 1 (.int .i64 (x1 + k + 1))
        rw [show x1 + ((k + 1 : Nat) : Int) = x1 + k + 1 by omega]
        simpa using this
      · exact heap_set_ne (heap_set_ne H1.out (by simp)) (by simp)
      · exact heap_set_ne (heap_set_ne H2.out (by simp; omega)) (by simp; omega)
      · exact (hc.setCell _ (by simp)).setCell _ (by simp)
    · obtain rfl : k = n := by omega
      obtain ⟨d0, d1, _, _⟩ := cells2 H1.out
      obtain ⟨e0, e1, _, _⟩ := cells2 H2.out
      have qo : Chg (· < w.heap.size) w wo := q7.then hc (by intro k hk; simp; omega)
      clear f0 f1 hc q7
      go_wp2_with fail
      refine (cmp_p3 (cmp_lt1 y0 y1 (M + 1) 0 (by omega)) _).mono ?_
      rintro e v1 ⟨rfl, k1⟩
      have H0 := (k1.block _ (by omega)).trans H0.out
      have H2 := (k1.block _ (by omega)).trans H2.out
      have qo := qo.next k1
      obtain ⟨c0, c1, _, _⟩ := cells2 H0
      obtain ⟨e0, e1, _, _⟩ := cells2 H2
      clear k1 H0 H2 H1
      go_wp2_with fail
      refine (rising_p3 (rising_two x0 (x1 + k) (M + 1) 0 (by omega)) _ (Rd.lit (S := (· = v1.heap.size)) [(x0, x1 + (k : Int)), (M + 1, 0)] rfl rfl rfl (fun _ => rfl) rfl) (by simp) (by simp)).mono ?_
      rintro e v2 ⟨rfl, k2⟩
      have qo := (qo.alloc (.cells #[.int .i64 x0, .int .i64 (x1 + k), .int .i64 (M + 1), .int .i64 0] 23) (by intro k hk; have := qo.size; omega)).next k2
      go_wp2_with fail
      refine (awake_x _).mono ?_
      rintro e v3 ⟨rfl, k3⟩
      have qo := qo.next k3
      go_wp2_with fail
      go_ret
      exact ⟨rfl, qo⟩
end Go.Proofs.Ytgpoikklnbmpkaa
