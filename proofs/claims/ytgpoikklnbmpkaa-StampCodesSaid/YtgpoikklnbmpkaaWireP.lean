/- Numbers as bytes, in plain Lean. -/
import Derived.WalkKit
namespace Go.Proofs.Ytgpoikklnbmpkaa
open Go.RowKit

def byt (n : Nat) : UInt8 := UInt8.ofNat n
theorem byt_toNat (n : Nat) : (byt n).toNat = n % 256 := by simp [byt]
def encF : Nat → Nat → List UInt8
  | 0, n => [byt n]
  | f + 1, n => if n < 128 then [byt n] else byt (n % 128 + 128) :: encF f (n / 128)
/-- the bytes of a number below 2^64 -/
def encU (n : Nat) : List UInt8 := encF 9 n
theorem encF_lt (f n : Nat) (h : n < 128) : encF f n = [byt n] := by cases f <;> simp [encF, h]
theorem encF_length : ∀ f n, (encF f n).length ≤ f + 1
  | 0, n => by simp [encF]
  | f + 1, n => by
    unfold encF
    split
    · simp
    · have := encF_length f (n / 128); simp; omega
theorem encU_length (n : Nat) : (encU n).length ≤ 10 := encF_length 9 n
theorem encF_pos (f n : Nat) : 0 < (encF f n).length := by
  cases f <;> simp only [encF] <;> (try split) <;> simp
theorem encU_pos (n : Nat) : 0 < (encU n).length := encF_pos 9 n
theorem wrap_u8n (n : Int) : IntKind.u8.wrap n = n % 256 := by simp [IntKind.wrap, IntKind.signed, IntKind.bits]
theorem wrap_u64n (n : Int) : IntKind.u64.wrap n = n % 18446744073709551616 := by rw [IntKind.wrap_u64]
/-- the byte that goes on -/
theorem byte_or (n : Nat) : bits BinOp.or IntKind.u8 ((n : Int) % 256) 128 = ((byt (n % 128 + 128)).toNat : Int) := by
  have h0 : (n : Int) % 256 = ((n % 256 : Nat) : Int) := by omega
  rw [h0]
  have h1 : (BitVec.ofInt 8 ((n % 256 : Nat) : Int)).toNat = n % 256 := by
    rw [BitVec.ofInt_natCast, BitVec.toNat_ofNat]; omega
  have h2 : (BitVec.ofInt 8 (128 : Int)).toNat = 128 := by decide
  show IntKind.u8.wrap ((BitVec.ofInt 8 ((n % 256 : Nat) : Int) ||| BitVec.ofInt 8 (128 : Int)).toNat : Int) = _
  rw [BitVec.toNat_or, h1, h2, wrap_u8n, byt_toNat]
  have key : ∀ m, m < 256 → m ||| 128 = m % 128 + 128 := by decide +kernel
  rw [key (n % 256) (by omega)]
  omega
theorem byte_add (n : Nat) : (n : Int) % 128 + 128 = ((byt (n % 128 + 128)).toNat : Int) := by
  rw [byt_toNat]; omega
theorem byte_last (n : Nat) (h : n < 128) : IntKind.u8.wrap (n : Int) = ((byt n).toNat : Int) := by rw [wrap_u8n, byt_toNat]; omega

/-- the number at the head of some bytes, and how many bytes it takes -/
def decA : List UInt8 → Nat → Nat → Option (Nat × Nat)
  | [], _, _ => none
  | c :: r, i, n =>
    if (i = 9 ∧ 1 < c.toNat) ∨ (0 < i ∧ c.toNat = 0) then none
    else if c.toNat < 128 then some (n + c.toNat * 2 ^ (7 * i), i + 1)
    else decA r (i + 1) (n + c.toNat % 128 * 2 ^ (7 * i))
def decU (b : List UInt8) : Option (Nat × Nat) := decA b 0 0

theorem pow_lt64 {c i : Nat} (h : c < 128) (hi : i ≤ 9) (h9 : i = 9 → c ≤ 1) : c * 2 ^ (7 * i) < 18446744073709551616 := by
  rcases Nat.lt_or_ge i 9 with h8 | h8
  · have : 2 ^ (7 * i) ≤ 2 ^ 56 := Nat.pow_le_pow_right (by omega) (by omega)
    have : c * 2 ^ (7 * i) ≤ 127 * 2 ^ 56 := Nat.mul_le_mul (by omega) this
    omega
  · have : i = 9 := by omega
    subst this
    have := h9 rfl
    have : c * 2 ^ (7 * 9) ≤ 1 * 2 ^ 63 := Nat.mul_le_mul this (by omega)
    omega
theorem or_add {n c i : Nat} (h : n < 2 ^ (7 * i)) : n ||| c * 2 ^ (7 * i) = n + c * 2 ^ (7 * i) := by
  have := Nat.two_pow_add_eq_or_of_lt h c
  rw [Nat.or_comm, Nat.mul_comm c, ← this, Nat.add_comm]
theorem next_lt {n c i : Nat} (h : n < 2 ^ (7 * i)) (hc : c < 128) : n + c * 2 ^ (7 * i) < 2 ^ (7 * (i + 1)) := by
  have : 2 ^ (7 * (i + 1)) = 128 * 2 ^ (7 * i) := by rw [show 7 * (i + 1) = 7 * i + 7 by omega, Nat.pow_add]; omega
  rw [this]
  have : c * 2 ^ (7 * i) ≤ 127 * 2 ^ (7 * i) := Nat.mul_le_mul (by omega) (Nat.le_refl _)
  omega
theorem decA_take {b : List UInt8} {i n N K : Nat} (h : decA b i n = some (N, K)) : i < K ∧ K ≤ i + b.length := by
  induction b generalizing i n with
  | nil => simp [decA] at h
  | cons c r ih =>
    unfold decA at h
    split at h
    · cases h
    · split at h
      · cases h; simp
      · have := ih h; simp; omega
theorem decU_take {b : List UInt8} {N K : Nat} (h : decU b = some (N, K)) : 0 < K ∧ K ≤ b.length := by
  have := decA_take h; omega
theorem decA_lt {b : List UInt8} {i n N K : Nat} (h : decA b i n = some (N, K)) (hi : i ≤ 9) (hn : n < 2 ^ (7 * i)) : N < 18446744073709551616 ∧ K ≤ 10 := by
  induction b generalizing i n with
  | nil => simp [decA] at h
  | cons c r ih =>
    unfold decA at h
    split at h
    · cases h
    · rename_i hg
      split at h
      · rename_i hc
        cases h
        refine ⟨?_, by omega⟩
        rcases Nat.lt_or_ge i 9 with h8 | h8
        · have := next_lt hn hc
          have : 2 ^ (7 * (i + 1)) ≤ 2 ^ 63 := Nat.pow_le_pow_right (by omega) (by omega)
          omega
        · have : i = 9 := by omega
          subst this
          have hc1 : c.toNat ≤ 1 := by omega
          have : c.toNat * 2 ^ (7 * 9) ≤ 1 * 2 ^ 63 := Nat.mul_le_mul hc1 (by omega)
          omega
      · rename_i hc
        have hi9 : i ≠ 9 := by omega
        exact ih h (by omega) (next_lt hn (by omega))
theorem decU_lt {b : List UInt8} {N K : Nat} (h : decU b = some (N, K)) : N < 18446744073709551616 ∧ K ≤ 10 := decA_lt h (by omega) (by simp)

/-- what was written is read back -/
theorem decA_encF : ∀ (f m i n : Nat) (r : List UInt8), m < 128 * 128 ^ f → f + i = 9 → (0 < i → 0 < m) → (i = 9 → m ≤ 1) → (f = 9 - i → m * 2 ^ (7 * i) < 18446744073709551616) → decA (encF f m ++ r) i n = some (n + m * 2 ^ (7 * i), i + (encF f m).length)
  | 0, m, i, n, r, hm, hfi, h0, h9, hb => by
    have hm1 : m ≤ 1 := h9 (by omega)
    simp only [encF, List.cons_append, List.nil_append, decA]
    rw [byt_toNat, Nat.mod_eq_of_lt (by omega), if_neg (by omega), if_pos (by omega)]
    simp
  | f + 1, m, i, n, r, hm, hfi, h0, h9, hb => by
    unfold encF
    by_cases h : m < 128
    · rw [if_pos h]
      simp only [List.cons_append, List.nil_append, decA]
      rw [byt_toNat, Nat.mod_eq_of_lt (by omega), if_neg (by omega), if_pos (by omega)]
      simp
    · rw [if_neg h]
      simp only [List.cons_append, decA]
      rw [byt_toNat, Nat.mod_eq_of_lt (by omega), if_neg (by omega), if_neg (by omega)]
      have e1 : 2 ^ (7 * (i + 1)) = 128 * 2 ^ (7 * i) := by rw [show 7 * (i + 1) = 7 * i + 7 by omega, Nat.pow_add]; omega
      have hsum : m / 128 * 2 ^ (7 * (i + 1)) + m % 128 * 2 ^ (7 * i) = m * 2 ^ (7 * i) := by
        rw [e1, ← Nat.mul_assoc, ← Nat.add_mul]
        congr 1
        omega
      have hb' : m / 128 * 2 ^ (7 * (i + 1)) < 18446744073709551616 := by
        have := hb (by omega)
        omega
      rw [decA_encF f (m / 128) (i + 1) _ r (by rw [Nat.pow_succ] at hm; omega) (by omega) (by omega) ?_ (fun _ => hb')]
      · rw [List.length_cons]
        have : (m % 128 + 128) % 128 = m % 128 := by omega
        rw [this]
        congr 2
        · omega
        · omega
      · intro h9'
        rw [show (7 * (i + 1)) = 63 by omega] at hb'
        omega
theorem decU_encU (n : Nat) (r : List UInt8) (h : n < 18446744073709551616) : decU (encU n ++ r) = some (n, (encU n).length) := by
  unfold decU encU
  rw [decA_encF 9 n 0 0 r (by omega) (by omega) (by omega) (by omega) (by intro _; simpa using h)]
  simp
end Go.Proofs.Ytgpoikklnbmpkaa
