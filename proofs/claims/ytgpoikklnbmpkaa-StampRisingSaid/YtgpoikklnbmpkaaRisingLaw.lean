/- The walk over the statement StampRising. -/
import Derived.Test.YtgpoikklnbmpkaaAwake
import Derived.Test.YtgpoikklnbmpkaaSome
import Derived.Test.YtgpoikklnbmpkaaRising
namespace Go.Proofs.Ytgpoikklnbmpkaa
open Go.RowKit

theorem some_x4' {B b : Nat} (w : World) (h : TP 55 B w b) (hB : B ≤ w.heap.size) :
    Calls Try.prog 14 #[.pointer (some ⟨b, 0, none⟩), .int .i64 4] w (SomeStamps 4 B b w) := some_x 4 w h hB (by omega)
theorem rising_p2 {S : Nat → Prop} {a : Option Addr} {n cap : Nat} {l : List (Int × Int)} {v : Bool} (H : Hid (risingS l = v)) (w : World) (h : Rd 2 encS S w a n l) (hS : ∀ k, S k → k < w.heap.size) (hn : n ≤ 100) :
    Calls Try.prog 22 #[.slice a n cap] w fun e w' => e = .returned (.bool v) ∧ Chg (· < w.heap.size) w w' := by
  have := rising_p a n cap l w h hS hn; rw [H.out] at this; exact this
theorem rising_r2 {S : Nat → Prop} {a : Option Addr} {n cap : Nat} {l : List (Int × Int)} {v : Bool} (H : Hid (risingS l = v)) (w : World) (h : Rd 2 encS S w a n l) (hS : ∀ k, S k → k < w.heap.size) (hn : n ≤ 100) :
    Calls Try.prog 23 #[.slice a n cap] w fun e w' => e = .returned (.bool v) ∧ Chg (· < w.heap.size) w w' := by
  have := rising_r a n cap l w h hS hn; rw [H.out] at this; exact this

set_option maxHeartbeats 2000000 in
theorem risinglaw_walk (a1 : Option Addr) (n1 c1 : Nat) (l1 : List (Int × Int)) (a2 : Option Addr) (n2 c2 : Nat) (l2 : List Int) (w : World)
    (h1 : Rd 2 encS (· < w.heap.size) w a1 n1 l1) (h2 : Rd 1 encI (· < w.heap.size) w a2 n2 l2) (hc2 : n2 ≤ c2) (hm2 : c2 ≤ maxLen) :
    Calls Try.prog 5 #[.slice a1 n1 c1, .slice a2 n2 c2] w fun e w' => e = .returned (.bool true) ∧ Chg (· < w.heap.size) w w' := by
  by_cases hn : 100 < n1
  · go_enter Try.func5, Try.ntmps5
    go_wp2_with (go_at_call 8; refine (awake_x _).mono ?_; rintro e w1 ⟨rfl, k1⟩)
    go_ret
    exact ⟨rfl, k1⟩
  · go_enter Try.func5, Try.ntmps5
    go_wp2_with (go_at_call 9; refine (new_x _ _ _ l2 _ h2 (fun _ h => h) hc2 hm2).mono ?_; rintro e w1 ⟨rfl, t1, q1⟩)
    have z1 : w.heap.size < w1.heap.size := by
      obtain ⟨_, _, _, _, _, _, hb, _⟩ := t1
      exact heap_lt hb
    refine (some_x4' _ t1 (by omega)).mono ?_
    rintro e w2 ⟨a5, n5, cap5, l5, rfl, rd2, hn5, _, k2, t2⟩
    have q2 := q1.then k2 (by intro k hk; omega)
    have z2 := k2.size
    clear k2 q1 t1
    go_wp2_with fail
    refine (next_x _ _ t2 (by omega)).mono ?_
    rintro e w3 ⟨r3, rfl, _, _, k3, t3⟩
    have q3 := q2.then k3 (by intro k hk; omega)
    have rd3 := rd2.chg k3 (by intro k hk; omega)
    have z3 := k3.size
    clear k3 q2 rd2 t2
    go_wp2_with fail
    refine (next_x _ _ t3 (by omega)).mono ?_
    rintro e w4 ⟨r4, rfl, r40, r41, k4, t4⟩
    rw [if_neg (by omega)] at r41
    have q4 := q3.then k4 (by intro k hk; omega)
    have rd4 := rd3.chg k4 (by intro k hk; omega)
    have z4 := k4.size
    clear k4 q3 rd3 t3
    go_wp2_with fail
    refine (next_x _ _ t4 (by omega)).mono ?_
    rintro e w5 ⟨r5, rfl, _, _, k5, t5⟩
    have q5 := q4.then k5 (by intro k hk; omega)
    have rd5 := rd4.chg k5 (by intro k hk; omega)
    have z5 := k5.size
    clear k5 q4 rd4 t4 t5
    obtain ⟨b1, hb1⟩ : ∃ b, risingS l1 = b := ⟨_, rfl⟩
    obtain ⟨b2, hb2⟩ : ∃ b, risingS l5 = b := ⟨_, rfl⟩
    obtain ⟨b3, hb3⟩ : ∃ b, risingS [(1, 0), (1, r3), (2 - r4, r5), (3, 0)] = b := ⟨_, rfl⟩
    have B1 := Lib.hid hb1
    have B2 := Lib.hid hb2
    have B3 := Lib.hid hb3
    clear hb1 hb2 hb3
    have cl := (Chg.refl (· < w5.heap.size) w5).alloc (.cells #[.int .i64 1, .int .i64 0, .int .i64 1, .int .i64 r3, .int .i64 (2 - r4), .int .i64 r5, .int .i64 3, .int .i64 0] 23) (by simp)
    have rl : Rd 2 encS (· = w5.heap.size) (w5.alloc (.cells #[.int .i64 1, .int .i64 0, .int .i64 1, .int .i64 r3, .int .i64 (2 - r4), .int .i64 r5, .int .i64 3, .int .i64 0] 23)) (some ⟨w5.heap.size, 0, none⟩) 4 [(1, 0), (1, r3), (2 - r4, r5), (3, 0)] :=
      Rd.lit _ rfl rfl rfl (fun _ => rfl) rfl
    have rd6 := rd5.chg cl (by intro k hk; omega)
    have q6 := q5.then cl (by intro k hk; omega)
    have h6 := h1.chg q6 (fun _ h => h)
    clear cl rd5 q5 h1
    go_wp2_with fail
    refine (rising_p2 B1 _ h6 (by intro k hk; simp; omega) (by omega)).mono ?_
    rintro e w7 ⟨rfl, k7⟩
    have q7 := q6.then k7 (by intro k hk; simp; omega)
    have h7 := h6.chg k7 (by intro k hk; simp; omega)
    have rd7 := rd6.chg k7 (by intro k hk; simp; omega)
    have rl7 := rl.chg k7 (by intro k hk; simp; omega)
    have z7 : w5.heap.size < w7.heap.size := by have := k7.size; simp at this; omega
    clear k7 q6 h6 rd6 rl
    go_wp2_with fail
    refine (rising_r2 B1 _ h7 (by intro k hk; omega) (by omega)).mono ?_
    rintro e w8 ⟨rfl, k8⟩
    have q8 := q7.then k8 (by intro k hk; omega)
    have rd8 := rd7.chg k8 (by intro k hk; omega)
    have rl8 := rl7.chg k8 (by intro k hk; omega)
    have z8 := k8.size
    clear k8 q7 h7 rd7 rl7
    go_wp2_with fail
    refine (rising_p2 B2 _ rd8 (by intro k hk; omega) (by omega)).mono ?_
    rintro e w9 ⟨rfl, k9⟩
    have q9 := q8.then k9 (by intro k hk; omega)
    have rd9 := rd8.chg k9 (by intro k hk; omega)
    have rl9 := rl8.chg k9 (by intro k hk; omega)
    have z9 := k9.size
    clear k9 q8 rd8 rl8
    go_wp2_with fail
    refine (rising_r2 B2 _ rd9 (by intro k hk; omega) (by omega)).mono ?_
    rintro e v1 ⟨rfl, k1⟩
    have p1 := q9.then k1 (by intro k hk; omega)
    have rl1 := rl9.chg k1 (by intro k hk; omega)
    have y1 := k1.size
    clear k1 q9 rd9 rl9
    go_wp2_with fail
    refine (rising_p2 B3 _ rl1 (by intro k hk; omega) (by omega)).mono ?_
    rintro e v2 ⟨rfl, k2⟩
    have p2 := p1.then k2 (by intro k hk; omega)
    have rl2 := rl1.chg k2 (by intro k hk; omega)
    have y2 := k2.size
    clear k2 p1 rl1
    go_wp2_with fail
    refine (rising_r2 B3 _ rl2 (by intro k hk; omega) (by omega)).mono ?_
    rintro e v3 ⟨rfl, k3⟩
    have p3 := p2.then k3 (by intro k hk; omega)
    clear k3 p2 rl2
    go_wp2_with fail
    refine (awake_x _).mono ?_
    rintro e v4 ⟨rfl, k4⟩
    have p4 := p3.next k4
    go_wp2_with fail
    go_ret
    exact ⟨rfl, p4⟩
end Go.Proofs.Ytgpoikklnbmpkaa
