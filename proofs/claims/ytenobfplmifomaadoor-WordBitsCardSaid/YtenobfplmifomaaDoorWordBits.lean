/- The walk over the statement WordBits. -/
import Derived.Test.YtenobfplmifomaaDoorSaneW
import Derived.Test.YtenobfplmifomaaDoorTWord
namespace Go.Proofs.YtenobfplmifomaaDoor
open Go.RowKit

def TapeRel (N : Nat) (b : Nat) (w : World) (i : Value) (wr : World) : Prop :=
  ∃ k : Nat, k ≤ N ∧ i = .int .i64 k ∧ Chg (· < w.heap.size) w wr ∧ TP 51 (b + 1) wr b

set_option maxHeartbeats 2000000 in
theorem wordbits_walk (a0 : Option Addr) (n0 c0 : Nat) (l0 : List Int) (a b : Nat) (i : Int) (w : World)
    (h0 : Rd 1 encI (· < w.heap.size) w a0 n0 l0) (hc0 : n0 ≤ c0) (hm0 : c0 ≤ maxLen) (ha : a < 4294967296) (hb : b < 4294967296) (hi1 : -9223372036854775808 ≤ i) (hi2 : i ≤ 9223372036854775807) (hT : TabG w) :
    Calls Tryd.prog 3 #[.slice a0 n0 c0, .int .u32 a, .int .u32 b, .int .i64 i] w fun e w' => e = .returned (.bool true) ∧ Chg (· < w.heap.size) w w' := by
  have hlt := hT.lt
  have HT := Lib.hid hT
  clear hT
  go_enter Tryd.func3, Tryd.ntmps3
  go_wp2_with (go_at_call 8; refine (new_x _ _ _ l0 _ h0 (fun _ h => h) hc0 hm0).mono ?_; rintro e w1 ⟨rfl, t1, q1⟩)
  go_loopw [10] (fun i wr => TapeRel 5 w.heap.size w i wr) (fun i _ => 5 - (intOf i).toNat)
  case atStart => exact ⟨0, by omega, rfl, q1, t1⟩
  case round =>
    obtain ⟨k, hk, rfl, hc, ht⟩ := hrel
    obtain ⟨wo, rfl⟩ : ∃ wo : World, wo = wr := ⟨_, rfl⟩
    have hsz := hc.size
    have hbl : w.heap.size < wo.heap.size := by
      obtain ⟨_, _, _, _, _, _, hb, _⟩ := ht
      exact heap_lt hb
    clear q1 t1
    by_cases hlt' : k < 5
    · go_wp2_with fail
      refine (word_x _ ht (by omega)).mono ?_
      rintro e w2 ⟨x, rfl, hx, k2, t2⟩
      have hc2 := hc.then k2 (by intro k hk; omega)
      have z2 := k2.size
      clear k2 ht
      go_wp2_with fail
      refine (word_x _ t2 (by omega)).mono ?_
      rintro e w3 ⟨y, rfl, hy, k3, t3⟩
      have hc3 := hc2.then k3 (by intro k hk; omega)
      have z3 := k3.size
      clear k3 t2 hc2
      go_wp2_with fail
      refine (next_x _ _ t3 (by omega)).mono ?_
      rintro e w4 ⟨r, rfl, r0, r1, k4, t3⟩
      rw [if_neg (by omega)] at r1
      have hc3 := hc3.then k4 (by intro k hk; omega)
      have HT3 := Lib.hid (HT.out.chg hc3 hlt)
      clear k4 hc
      by_cases e4 : k = 4
      · subst e4
        go_wp2_with fail
        refine (wvalid_p a _).mono ?_
        rintro e v1 ⟨rfl, rfl⟩
        go_wp2_with fail
        refine (wvalid_r a _).mono ?_
        rintro e v1 ⟨rfl, rfl⟩
        go_wp2_with fail
        refine (bit_p a i _ ha (by omega) (by omega)).mono ?_
        rintro e v1 ⟨rfl, rfl⟩
        go_wp2_with fail
        refine (bit_r a i _ ha (by omega) (by omega)).mono ?_
        rintro e v1 ⟨rfl, rfl⟩
        go_wp2_with fail
        refine (common_p a b _ ha hb HT3.out).mono ?_
        rintro e v1 ⟨rfl, rfl⟩
        go_wp2_with fail
        refine (common_r a b _ ha hb).mono ?_
        rintro e v1 ⟨rfl, rfl⟩
        go_wp2_with fail
        refine (same_p a b i _ ha hb HT3.out).mono ?_
        rintro e v1 ⟨rfl, rfl⟩
        go_wp2_with fail
        refine (same_r a b i _ ha hb).mono ?_
        rintro e v1 ⟨rfl, rfl⟩
        go_wp2_with fail
        go_roundw
        case rel => exact ⟨4 + 1, by omega, by go_num, hc3, t3⟩
        case measure => simp [intOf]

      · have d4 : ((k : Int) == 4) = false := beq_eq_false_iff_ne.2 (by omega)
        have hx' : x < 4294967296 := by omega
        have hy' : y < 4294967296 := by omega
        clear e4
        go_wp2_with fail
        refine (wvalid_p x _).mono ?_
        rintro e v1 ⟨rfl, rfl⟩
        go_wp2_with fail
        refine (wvalid_r x _).mono ?_
        rintro e v1 ⟨rfl, rfl⟩
        go_wp2_with fail
        refine (bit_p x (r - 2) _ hx' (by omega) (by omega)).mono ?_
        rintro e v1 ⟨rfl, rfl⟩
        go_wp2_with fail
        refine (bit_r x (r - 2) _ hx' (by omega) (by omega)).mono ?_
        rintro e v1 ⟨rfl, rfl⟩
        go_wp2_with fail
        refine (common_p x y _ hx' hy' HT3.out).mono ?_
        rintro e v1 ⟨rfl, rfl⟩
        go_wp2_with fail
        refine (common_r x y _ hx' hy').mono ?_
        rintro e v1 ⟨rfl, rfl⟩
        go_wp2_with fail
        refine (same_p x y (r - 2) _ hx' hy' HT3.out).mono ?_
        rintro e v1 ⟨rfl, rfl⟩
        go_wp2_with fail
        refine (same_r x y (r - 2) _ hx' hy').mono ?_
        rintro e v1 ⟨rfl, rfl⟩
        go_wp2_with fail
        go_roundw
        case rel => exact ⟨k + 1, by omega, by go_num, hc3, t3⟩
        case measure => simp [intOf]; omega

    · obtain rfl : k = 5 := by omega
      have HT3 := Lib.hid (HT.out.chg hc hlt)
      go_wp2_with (go_at_call 19; refine (sanew_x _ HT3.out).mono ?_; rintro e w9 ⟨rfl, k9⟩)
      go_ret
      exact ⟨rfl, hc.next k9⟩
end Go.Proofs.YtenobfplmifomaaDoor
