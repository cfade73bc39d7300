/- The walk over SuspectPlays. -/
import Derived.Test.YtgfnngdkoecciaaSaneV
import Derived.Test.YtgfnngdkoecciaaPlayR
namespace Go.Proofs.Ytgfnngdkoecciaa
open Go.RowKit

theorem events_x30 {B b : Nat} (w : World) (h : TP 46 B w b) (hB : B ≤ w.heap.size) :
    Calls Try.prog 18 #[.pointer (some ⟨b, 0, none⟩), .int .i64 30] w (SomeEvents 30 B b w) := events_x 30 w h hB (by omega)
theorem events_x40 {B b : Nat} (w : World) (h : TP 46 B w b) (hB : B ≤ w.heap.size) :
    Calls Try.prog 18 #[.pointer (some ⟨b, 0, none⟩), .int .i64 40] w (SomeEvents 40 B b w) := events_x 40 w h hB (by omega)
theorem TP.lt2 {ty B : Nat} {w : World} {b : Nat} (h : TP ty B w b) : b < w.heap.size := by
  obtain ⟨a, cap, i, x, o, l, h1, _⟩ := h
  exact heap_lt h1
theorem playW_length (m : Int) (l : List Int) : (playW m l).1.length ≤ 4096 := by
  unfold playW
  split
  · split
    · simp
    · rw [statesW_length]; omega
  · simp
theorem sameI_refl (l : List Int) : sameI l l = true := by simp [sameI]
theorem play_p {S : Nat → Prop} (m : Int) (a : Option Addr) (n cap : Nat) (l : List Int) (w : World) (h : Rd 1 encI S w a n l) (hS : ∀ k, S k → k < w.heap.size) :
    Calls Try.prog 19 #[.int .i64 m, .slice a n cap] w (IntsErrPost (playW m l) w) := by
  by_cases hm : 1 ≤ m ∧ m ≤ 64
  · by_cases hn : 4096 < n
    · exact play_p_long m a n cap l w h hm hn
    · exact play_p_ok m a n cap l w h hS hm (by omega)
  · exact play_p_bad m a n cap l w h (by omega)
theorem play_r {S : Nat → Prop} (m : Int) (a : Option Addr) (n cap : Nat) (l : List Int) (w : World) (h : Rd 1 encI S w a n l) (hS : ∀ k, S k → k < w.heap.size) :
    Calls Try.prog 20 #[.int .i64 m, .slice a n cap] w (IntsErrPost (playW m l) w) := by
  by_cases hm : 1 ≤ m ∧ m ≤ 64
  · by_cases hn : 4096 < n
    · exact play_r_long m a n cap l w h hm hn
    · exact play_r_ok m a n cap l w h hS hm (by omega)
  · exact play_r_bad m a n cap l w h (by omega)

def PlaysRel (b : Nat) (w : World) (i : Value) (wr : World) : Prop :=
  ∃ k : Nat, k ≤ 3 ∧ i = .int .i64 k ∧ Chg (· < w.heap.size) w wr ∧ TP 46 (b + 1) wr b

set_option maxHeartbeats 4000000 in
theorem plays_walk (a1 : Option Addr) (n1 c1 : Nat) (l1 : List Int) (m : Int) (a2 : Option Addr) (n2 c2 : Nat) (l2 : List Int) (w : World)
    (h1 : Rd 1 encI (· < w.heap.size) w a1 n1 l1) (hc1 : n1 ≤ c1) (hm1 : c1 ≤ maxLen) (h2 : Rd 1 encI (· < w.heap.size) w a2 n2 l2) (hn2 : n2 ≤ maxLen) :
    Calls Try.prog 4 #[.slice a1 n1 c1, .int .i64 m, .slice a2 n2 c2] w fun e w' => e = .returned (.bool true) ∧ Chg (· < w.heap.size) w w' := by
  unfold maxLen at hn2
  obtain ⟨b, hb⟩ : ∃ b, b = w.heap.size := ⟨_, rfl⟩
  go_enter Try.func4, Try.ntmps4
  go_wp2_with fail
  refine (new_x _ _ _ l1 _ h1 (by simp) hc1 hm1).mono ?_
  rintro e w1 ⟨rfl, t1, k1⟩
  rw [← hb] at t1 ⊢
  have HB := Lib.hid hb
  have zw : w.heap.size < w1.heap.size := by have := t1.lt2; omega
  have zb : w.heap.size ≤ b := by omega
  clear hb
  go_wp2_with fail
  go_loopw [8] (fun i wr => PlaysRel b w i wr) (fun i _ => 3 - (intOf i).toNat)
  case atStart => exact ⟨0, by omega, rfl, k1, t1⟩
  case round =>
    obtain ⟨k, hk, rfl, hc, ht⟩ := hrel
    obtain ⟨wo, rfl⟩ : ∃ wo : World, wo = wr := ⟨_, rfl⟩
    have hsz := hc.size
    have hbo := ht.lt2
    by_cases hlt : k < 3
    · have hwo := h2.chg hc (fun k hk => hk)
      go_wp2_with fail
      refine (next_x _ _ ht (by omega)).mono ?_
      rintro e w2 ⟨x, rfl, x0, x1, k2, t2⟩
      rw [if_neg (by omega)] at x1
      have z2 := k2.size
      have q2 := hc.then k2 (by intro k hk; omega)
      go_wp2_with fail
      refine (events_x30 _ t2 (by omega)).mono ?_
      rintro e w3 ⟨a, n, cap, l, rfl, hrd, hn, hn', hn'', k3, t3⟩
      have z3 := k3.size
      have q3 := q2.then k3 (by intro k hk; omega)
      have hS := hrd.mono (S' := (· < w3.heap.size)) (fun k hk => hk.2)
      have h23 := h2.chg q3 (fun k hk => hk)
      have h23 := h23.mono (S' := (· < w3.heap.size)) (fun k hk => by omega)
      clear k2 k3 hc ht hwo t2 q2 hrd h1 h2 t1 k1
      by_cases hkk : k = 2 ∧ n2 ≤ 5000
      · obtain ⟨rfl, hn5⟩ := hkk
        go_wp2_with fail
        refine (play_p m a2 n2 c2 l2 _ h23 (fun k hk => hk)).mono ?_
        rintro e w4 ⟨a4, n4, c4, rfl, r4, hn4, hm4, k4⟩
        have z4 := k4.size
        have R4 := h23.chg k4 (fun k hk => hk)
        have q4 := q3.then k4 (by intro k hk; omega)
        have t4 := t3.chg k4 (by intro k hk; omega)
        clear q3 t3 hS h23 k4
        go_wp2_with fail
        refine (play_r m a2 n2 c2 l2 _ R4 (fun k hk => by omega)).mono ?_
        rintro e w5 ⟨a5, n5, c5, rfl, r5, hn5, hm5, k5⟩
        have z5 := k5.size
        have R5 := R4.chg k5 (fun k hk => by omega)
        have s4 := (r4.chg k5 (fun k hk => hk.2)).mono (S' := (· < w5.heap.size)) (fun k hk => by omega)
        have s5 := r5.mono (S' := (· < w5.heap.size)) (fun k hk => hk.2)
        have q5 := q4.then k5 (by intro k hk; omega)
        have t5 := t4.chg k5 (by intro k hk; omega)
        have hb4 : n4 ≤ 4096 := by rw [← r4.1]; exact playW_length _ _
        clear q4 t4 k5 r4 r5 R4
        go_wp2_with fail
        refine (same_x _ _ n4 _ n5 _ (playW m l2).1 (playW m l2).1 _ s4 s5 (fun k hk => hk) (fun k hk => hk) (by omega)).mono ?_
        rintro e w6 ⟨rfl, k6⟩
        have z6 := k6.size
        have R6 := R5.chg k6 (fun k hk => by omega)
        have q6 := q5.then k6 (by intro k hk; omega)
        have t6 := t5.chg k6 (by intro k hk; omega)
        rw [sameI_refl]
        clear q5 t5 k6 s4 s5 R5
        go_wp2_with fail
        refine (silent_p a2 n2 c2 l2 _ R6 (by omega)).mono ?_
        rintro e w7 ⟨rfl, rfl⟩
        go_wp2_with fail
        refine (silent_r a2 n2 c2 l2 _ R6 (by omega)).mono ?_
        rintro e w8 ⟨rfl, rfl⟩
        go_wp2_with fail
        refine ⟨⟨2 + 1, by omega, by go_num, q6, t6⟩, by simp [intOf]; try omega⟩
      · have hd : k = 2 → ¬ n2 ≤ 5000 := fun h h' => hkk ⟨h, h'⟩
        clear hkk
        by_cases hk2 : k = 2
        · have hd2 := hd hk2
          subst hk2
          have d2 : decide ((n2 : Int) ≤ 5000) = false := by simp; omega
          clear hd hd2
          go_wp2_with fail
          refine (play_p x a n cap l _ hS (fun k hk => hk)).mono ?_
          rintro e w4 ⟨a4, n4, c4, rfl, r4, hn4, hm4, k4⟩
          have z4 := k4.size
          have R4 := hS.chg k4 (fun k hk => hk)
          have q4 := q3.then k4 (by intro k hk; omega)
          have t4 := t3.chg k4 (by intro k hk; omega)
          clear q3 t3 hS h23 k4
          go_wp2_with fail
          refine (play_r x a n cap l _ R4 (fun k hk => by omega)).mono ?_
          rintro e w5 ⟨a5, n5, c5, rfl, r5, hn5, hm5, k5⟩
          have z5 := k5.size
          have R5 := R4.chg k5 (fun k hk => by omega)
          have s4 := (r4.chg k5 (fun k hk => hk.2)).mono (S' := (· < w5.heap.size)) (fun k hk => by omega)
          have s5 := r5.mono (S' := (· < w5.heap.size)) (fun k hk => hk.2)
          have q5 := q4.then k5 (by intro k hk; omega)
          have t5 := t4.chg k5 (by intro k hk; omega)
          have hb4 : n4 ≤ 4096 := by rw [← r4.1]; exact playW_length _ _
          clear q4 t4 k5 r4 r5 R4
          go_wp2_with fail
          refine (same_x _ _ n4 _ n5 _ (playW x l).1 (playW x l).1 _ s4 s5 (fun k hk => hk) (fun k hk => hk) (by omega)).mono ?_
          rintro e w6 ⟨rfl, k6⟩
          have z6 := k6.size
          have R6 := R5.chg k6 (fun k hk => by omega)
          have q6 := q5.then k6 (by intro k hk; omega)
          have t6 := t5.chg k6 (by intro k hk; omega)
          rw [sameI_refl]
          clear q5 t5 k6 s4 s5 R5
          go_wp2_with fail
          refine (silent_p a n cap l _ R6 (by omega)).mono ?_
          rintro e w7 ⟨rfl, rfl⟩
          go_wp2_with fail
          refine (silent_r a n cap l _ R6 (by omega)).mono ?_
          rintro e w8 ⟨rfl, rfl⟩
          go_wp2_with fail
          refine ⟨⟨2 + 1, by omega, by go_num, q6, t6⟩, by simp [intOf]; try omega⟩
        · have d2 : ((k : Int) == 2) = false := by simp; omega
          clear hd
          go_wp2_with fail
          refine (play_p x a n cap l _ hS (fun k hk => hk)).mono ?_
          rintro e w4 ⟨a4, n4, c4, rfl, r4, hn4, hm4, k4⟩
          have z4 := k4.size
          have R4 := hS.chg k4 (fun k hk => hk)
          have q4 := q3.then k4 (by intro k hk; omega)
          have t4 := t3.chg k4 (by intro k hk; omega)
          clear q3 t3 hS h23 k4
          go_wp2_with fail
          refine (play_r x a n cap l _ R4 (fun k hk => by omega)).mono ?_
          rintro e w5 ⟨a5, n5, c5, rfl, r5, hn5, hm5, k5⟩
          have z5 := k5.size
          have R5 := R4.chg k5 (fun k hk => by omega)
          have s4 := (r4.chg k5 (fun k hk => hk.2)).mono (S' := (· < w5.heap.size)) (fun k hk => by omega)
          have s5 := r5.mono (S' := (· < w5.heap.size)) (fun k hk => hk.2)
          have q5 := q4.then k5 (by intro k hk; omega)
          have t5 := t4.chg k5 (by intro k hk; omega)
          have hb4 : n4 ≤ 4096 := by rw [← r4.1]; exact playW_length _ _
          clear q4 t4 k5 r4 r5 R4
          go_wp2_with fail
          refine (same_x _ _ n4 _ n5 _ (playW x l).1 (playW x l).1 _ s4 s5 (fun k hk => hk) (fun k hk => hk) (by omega)).mono ?_
          rintro e w6 ⟨rfl, k6⟩
          have z6 := k6.size
          have R6 := R5.chg k6 (fun k hk => by omega)
          have q6 := q5.then k6 (by intro k hk; omega)
          have t6 := t5.chg k6 (by intro k hk; omega)
          rw [sameI_refl]
          clear q5 t5 k6 s4 s5 R5
          go_wp2_with fail
          refine (silent_p a n cap l _ R6 (by omega)).mono ?_
          rintro e w7 ⟨rfl, rfl⟩
          go_wp2_with fail
          refine (silent_r a n cap l _ R6 (by omega)).mono ?_
          rintro e w8 ⟨rfl, rfl⟩
          go_wp2_with fail
          refine ⟨⟨k + 1, by omega, by go_num, q6, t6⟩, by simp [intOf]; try omega⟩
    · obtain rfl : k = 3 := by omega
      clear h1 h2 t1 k1
      go_wp2_with fail
      refine (sane15_x _).mono ?_
      rintro e w9 ⟨rfl, k9⟩
      go_wp2_with fail
      go_ret
      exact ⟨rfl, hc.then k9 (by intro k hk; omega)⟩
end Go.Proofs.Ytgfnngdkoecciaa
