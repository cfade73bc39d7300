/- Walks over the signed numbers of the package wire and of its reference. -/
import Derived.Test.YtjaemckdfoaopaaDoorWireD
namespace Go.Proofs.YtjaemckdfoaopaaDoor
open Go.RowKit

def zig (n : Int) : Nat := if n < 0 then (-(n + 1)).toNat * 2 + 1 else n.toNat * 2
def unzig (N : Nat) : Int := if N % 2 = 1 then -((N / 2 : Nat) : Int) - 1 else ((N / 2 : Nat) : Int)
theorem unzig_zig (n : Int) : unzig (zig n) = n := by unfold zig unzig; split <;> (split <;> omega)
theorem zig_lt {n : Int} (h1 : -9223372036854775808 ≤ n) (h2 : n ≤ 9223372036854775807) : zig n < 18446744073709551616 := by unfold zig; split <;> omega
def intR (b : List UInt8) : Int × Nat × Nat := match decU b with | some (n, k) => (unzig n, k, 0) | none => (0, 0, 4)

theorem bits_xor_u64n (a b : Nat) (ha : a < 18446744073709551616) (hb : b < 18446744073709551616) : bits .xor .u64 (a : Int) (b : Int) = ((a ^^^ b : Nat) : Int) := by
  have h1 : ∀ a : Nat, a < 18446744073709551616 → (BitVec.ofInt 64 (a : Int)).toNat = a := fun a ha => by
    rw [BitVec.ofInt_natCast, BitVec.toNat_ofNat]; exact Nat.mod_eq_of_lt (by omega)
  have h2 := Nat.xor_lt_two_pow (n := 64) (x := a) (y := b) (by omega) (by omega)
  show IntKind.u64.wrap ((BitVec.ofInt 64 (a : Int) ^^^ BitVec.ofInt 64 (b : Int)).toNat : Int) = _
  rw [BitVec.toNat_xor, h1 a ha, h1 b hb, wrap_u64n]
  omega

theorem xor_ones (x : Int) (h0 : 0 ≤ x) (h1 : x < 18446744073709551616) : bits .xor .u64 x 18446744073709551615 = 18446744073709551615 - x := by
  obtain ⟨x, rfl⟩ := Int.eq_ofNat_of_zero_le h0
  have e1 : (BitVec.ofInt 64 (x : Int)).toNat = x := by
    rw [BitVec.ofInt_natCast, BitVec.toNat_ofNat]; exact Nat.mod_eq_of_lt (by omega)
  have e2 : BitVec.ofInt 64 (18446744073709551615 : Int) = BitVec.allOnes 64 := by decide
  show IntKind.u64.wrap ((BitVec.ofInt 64 (x : Int) ^^^ BitVec.ofInt 64 (18446744073709551615 : Int)).toNat : Int) = _
  rw [e2, BitVec.xor_allOnes, BitVec.toNat_not, e1, wrap_u64n]
  omega
theorem xor_zero (x : Int) (h0 : 0 ≤ x) (h1 : x < 18446744073709551616) : bits .xor .u64 x 0 = x := by
  obtain ⟨x, rfl⟩ := Int.eq_ofNat_of_zero_le h0
  have := bits_xor_u64n x 0 (by omega) (by omega)
  rw [Nat.xor_zero] at this
  exact this
theorem sign_key (n : Int) (h1 : -9223372036854775808 ≤ n) (h2 : n ≤ 9223372036854775807) :
    bits BinOp.xor IntKind.u64 (IntKind.u64.wrap (IntKind.u64.wrap n * 2)) (IntKind.u64.wrap (n / 9223372036854775808)) = (zig n : Int) := by
  unfold zig
  rcases Int.lt_or_le n 0 with h | h
  · have e1 : n / 9223372036854775808 = -1 := by omega
    have e2 : IntKind.u64.wrap (IntKind.u64.wrap n * 2) = 2 * n + 18446744073709551616 := by rw [wrap_u64n, wrap_u64n]; omega
    have e3 : IntKind.u64.wrap (-1) = 18446744073709551615 := by rw [wrap_u64n]; omega
    rw [e1, e2, e3, xor_ones _ (by omega) (by omega), if_pos h]
    omega
  · have e1 : n / 9223372036854775808 = 0 := by omega
    have e2 : IntKind.u64.wrap (IntKind.u64.wrap n * 2) = 2 * n := by rw [wrap_u64n, wrap_u64n]; omega
    have e3 : IntKind.u64.wrap 0 = 0 := by rw [wrap_u64n]; omega
    rw [e1, e2, e3, xor_zero _ (by omega) (by omega), if_neg (by omega)]
    omega

set_option maxRecDepth 100000 in
set_option maxHeartbeats 1000000 in
theorem signless_p (n : Int) (w : World) (h1 : -9223372036854775808 ≤ n) (h2 : n ≤ 9223372036854775807) :
    Calls Tryd.prog 34 #[.int .i64 n] w fun e w' => e = .returned (.int .u64 (zig n)) ∧ w = w' := by
  go_enter Tryd.func34, Tryd.ntmps34
  go_wp2
  go_ret
  exact ⟨by rw [← sign_key n h1 h2]; rfl, rfl⟩

set_option maxRecDepth 100000 in
set_option maxHeartbeats 1000000 in
theorem appint_p (a : Option Addr) (n cap : Nat) (b : List UInt8) (N : Int) (w : World) (h : Sl 1 encB w a n b) (hn : n ≤ 200000) (hnil : a = none → cap = 0) (h1 : -9223372036854775808 ≤ N) (h2 : N ≤ 9223372036854775807) :
    Calls Tryd.prog 18 #[.slice a n cap, .int .i64 N] w (BytesPost (b ++ encU (zig N)) w) := by
  have HZ := Lib.hid (zig_lt h1 h2)
  have HS := Lib.hid (signless_p N w h1 h2)
  clear h1 h2
  go_enter Tryd.func18, Tryd.ntmps18
  go_wp2_with fail
  refine HS.out.mono ?_
  rintro e w1 ⟨rfl, rfl⟩
  go_wp2_with fail
  refine (appuint_p _ _ _ _ _ _ h hn hnil HZ.out).mono ?_
  rintro e w1 ⟨v, rfl, hown, hc⟩
  go_wp2_with fail
  go_ret
  exact ⟨_, rfl, hown, hc⟩

set_option maxRecDepth 100000 in
set_option maxHeartbeats 1000000 in
theorem appint_r (a : Option Addr) (n cap : Nat) (b : List UInt8) (N : Int) (w : World) (h : Sl 1 encB w a n b) (hn : n ≤ 200000) (hnil : a = none → cap = 0) (h1 : -9223372036854775808 ≤ N) (h2 : N ≤ 9223372036854775807) :
    Calls Tryd.prog 42 #[.slice a n cap, .int .i64 N] w (BytesPost (b ++ encU (zig N)) w) := by
  have HZ := Lib.hid (zig_lt h1 h2)
  rcases Int.lt_or_le N 0 with hz | hz
  · have HE : Hid ((-(N + 1)) * 2 + 1 = (zig N : Int)) := by
      show (-(N + 1)) * 2 + 1 = (zig N : Int)
      unfold zig; rw [if_pos hz]; omega
    have e1 : IntKind.u64.wrap (-(N + 1)) = -(N + 1) := by rw [wrap_u64n]; omega
    have e2 : IntKind.u64.wrap (-(N + 1) * 2) = -(N + 1) * 2 := by rw [wrap_u64n]; omega
    have e3 : IntKind.u64.wrap (-(N + 1) * 2 + 1) = -(N + 1) * 2 + 1 := by rw [wrap_u64n]; omega
    go_enter Tryd.func42, Tryd.ntmps42
    go_wp2_with fail
    rw [HE.out]
    refine (appuint_r _ _ _ _ _ _ h hn hnil HZ.out).mono ?_
    rintro e w1 ⟨v, rfl, hown, hc⟩
    go_wp2_with fail
    go_ret
    exact ⟨_, rfl, hown, hc⟩
  · have HE : Hid (N * 2 = (zig N : Int)) := by
      show N * 2 = (zig N : Int)
      unfold zig; rw [if_neg (by omega)]; omega
    have e1 : IntKind.u64.wrap N = N := by rw [wrap_u64n]; omega
    have e2 : IntKind.u64.wrap (N * 2) = N * 2 := by rw [wrap_u64n]; omega
    go_enter Tryd.func42, Tryd.ntmps42
    go_wp2_with fail
    rw [HE.out]
    refine (appuint_r _ _ _ _ _ _ h hn hnil HZ.out).mono ?_
    rintro e w1 ⟨v, rfl, hown, hc⟩
    go_wp2_with fail
    go_ret
    exact ⟨_, rfl, hown, hc⟩

theorem wrap_i64n (n : Int) : IntKind.i64.wrap n = wrap64 n := by rw [IntKind.wrap_i64]; unfold wrap64; rfl
theorem xor_ones_i (x : Int) (h0 : 0 ≤ x) (h1 : x < 9223372036854775808) : bits .xor .i64 x (-1) = -x - 1 := by
  obtain ⟨x, rfl⟩ := Int.eq_ofNat_of_zero_le h0
  have e1 : (BitVec.ofInt 64 (x : Int)).toNat = x := by
    rw [BitVec.ofInt_natCast, BitVec.toNat_ofNat]; exact Nat.mod_eq_of_lt (by omega)
  have e2 : BitVec.ofInt 64 (-1 : Int) = BitVec.allOnes 64 := by decide
  show IntKind.i64.wrap ((BitVec.ofInt 64 (x : Int) ^^^ BitVec.ofInt 64 (-1 : Int)).toNat : Int) = _
  rw [e2, BitVec.xor_allOnes, BitVec.toNat_not, e1, wrap_i64n]
  unfold wrap64
  omega
theorem xor_zero_i (x : Int) (h0 : 0 ≤ x) (h1 : x < 9223372036854775808) : bits .xor .i64 x 0 = x := by
  obtain ⟨x, rfl⟩ := Int.eq_ofNat_of_zero_le h0
  have e1 : (BitVec.ofInt 64 (x : Int)).toNat = x := by
    rw [BitVec.ofInt_natCast, BitVec.toNat_ofNat]; exact Nat.mod_eq_of_lt (by omega)
  show IntKind.i64.wrap ((BitVec.ofInt 64 (x : Int) ^^^ BitVec.ofInt 64 (0 : Int)).toNat : Int) = _
  rw [show BitVec.ofInt 64 (0 : Int) = 0#64 by decide, BitVec.xor_zero, e1, wrap_i64n]
  unfold wrap64
  omega
theorem bits_and1 (N : Nat) (h : N < 18446744073709551616) : bits BinOp.and IntKind.u64 (N : Int) 1 = ((N % 2 : Nat) : Int) := by
  have h1 : (BitVec.ofInt 64 (N : Int)).toNat = N := by
    rw [BitVec.ofInt_natCast, BitVec.toNat_ofNat]; exact Nat.mod_eq_of_lt (by omega)
  have h2 : (BitVec.ofInt 64 (1 : Int)).toNat = 1 := by decide
  show IntKind.u64.wrap ((BitVec.ofInt 64 (N : Int) &&& BitVec.ofInt 64 (1 : Int)).toNat : Int) = _
  rw [BitVec.toNat_and, h1, h2, wrap_u64n, Nat.and_one_is_mod]
  omega
theorem int_key (N : Nat) (h : N < 18446744073709551616) : bits BinOp.xor IntKind.i64 (wrap64 ((N : Int) / 2)) (wrap64 (-wrap64 (bits BinOp.and IntKind.u64 (N : Int) 1))) = unzig N := by
  rw [bits_and1 N h]
  have e1 : wrap64 ((N : Int) / 2) = ((N / 2 : Nat) : Int) := by unfold wrap64; omega
  rw [e1]
  unfold unzig
  by_cases hz : N % 2 = 1
  · rw [if_pos hz, hz, show wrap64 (-wrap64 ((1 : Nat) : Int)) = -1 by unfold wrap64; omega, xor_ones_i _ (by omega) (by omega)]
  · rw [if_neg hz, show N % 2 = 0 by omega, show wrap64 (-wrap64 ((0 : Nat) : Int)) = 0 by unfold wrap64; omega, xor_zero_i _ (by omega) (by omega)]
theorem int_of_dec (b : List UInt8) : bits BinOp.xor IntKind.i64 (wrap64 (((decR b).1 : Int) / 2)) (wrap64 (-wrap64 (bits BinOp.and IntKind.u64 ((decR b).1 : Int) 1))) = (intR b).1 ∧ (intR b).2 = (decR b).2 := by
  unfold decR intR
  cases hd : decU b with
  | none => exact ⟨int_key 0 (by omega), rfl⟩
  | some r =>
    obtain ⟨N, K⟩ := r
    obtain ⟨l1, l2⟩ := decU_lt hd
    exact ⟨int_key N l1, rfl⟩

set_option maxRecDepth 100000 in
set_option maxHeartbeats 1000000 in
theorem int_p (a : Option Addr) (n cap : Nat) (b : List UInt8) (w : World) (h : Sl 1 encB w a n b) (hn : n ≤ 200000) :
    Calls Tryd.prog 64 #[.slice a n cap] w fun e w' => e = .returned (.tuple #[.int .i64 (intR b).1, .int .i64 (intR b).2.1, .int .i64 (intR b).2.2]) ∧ w = w' := by
  go_enter Tryd.func64, Tryd.ntmps64
  go_wp2_with fail
  refine (uint_p _ _ _ _ _ h hn).mono ?_
  rintro e w1 ⟨rfl, rfl⟩
  go_wp2_with fail
  go_ret3
  obtain ⟨k1, k2⟩ := int_of_dec b
  exact ⟨by rw [← k1, k2]; rfl, rfl⟩

set_option maxRecDepth 100000 in
set_option maxHeartbeats 1000000 in
theorem int_r (a : Option Addr) (n cap : Nat) (b : List UInt8) (w : World) (h : Sl 1 encB w a n b) (hn : n ≤ 200000) :
    Calls Tryd.prog 65 #[.slice a n cap] w fun e w' => e = .returned (.tuple #[.int .i64 (intR b).1, .int .i64 (intR b).2.1, .int .i64 (intR b).2.2]) ∧ w = w' := by
  go_enter Tryd.func65, Tryd.ntmps65
  go_wp2_with fail
  refine (uint_r _ _ _ _ _ h hn).mono ?_
  rintro e w1 ⟨rfl, rfl⟩
  cases hd : decU b with
  | none =>
    have h1 : Hid (intR b = (0, 0, 4)) := by show intR b = _; unfold intR; rw [hd]
    have h2 : decR b = (0, 0, 4) := by unfold decR; rw [hd]; rfl
    rw [h2]
    clear hd h2
    go_wp2_with fail
    go_ret3
    exact ⟨by rw [h1.out]; rfl, rfl⟩
  | some r =>
    obtain ⟨N, K⟩ := r
    obtain ⟨l1, l2⟩ := decU_lt hd
    have h1 : Hid (intR b = (unzig N, K, 0)) := by show intR b = _; unfold intR; rw [hd]
    have h2 : decR b = (N, K, 0) := by unfold decR; rw [hd]; rfl
    rw [h2]
    clear hd h2
    by_cases hz : N % 2 = 1
    · have hz1 : ((N : Int) % 2 == 1) = true := by simp; omega
      have HU : Hid (unzig N = -((N : Int) / 2) - 1) := by show unzig N = _; unfold unzig; rw [if_pos hz]; omega
      clear hz
      go_wp2_with fail
      go_ret3
      exact ⟨by rw [h1.out, HU.out]; rfl, rfl⟩
    · have hz1 : ((N : Int) % 2 == 1) = false := by simp; omega
      have HU : Hid (unzig N = ((N : Int) / 2)) := by show unzig N = _; unfold unzig; rw [if_neg hz]; omega
      clear hz
      go_wp2_with fail
      go_ret3
      exact ⟨by rw [h1.out, HU.out]; rfl, rfl⟩
end Go.Proofs.YtjaemckdfoaopaaDoor
