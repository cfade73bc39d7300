/- Walks over the package word and its reference: bits, common beginnings. -/
import Derived.Test.YtenobfplmifomaaDoorRows
import Derived.Test.YtenobfplmifomaaDoorBase
import Derived.Test.YtenobfplmifomaaDoorWordP
namespace Go.Proofs.YtenobfplmifomaaDoor
open Go.RowKit

/-- the table of math/bits, as it is laid -/
def TabG (w : World) : Prop := ∀ j, j < 32 → w.cell? ⟨0, j, none⟩ = some (.int .u8 (Lib.deBruijn32tab.getD j 0))
theorem TabG.lt {w : World} (h : TabG w) : 0 < w.heap.size := World.block_lt_of_cell? w _ (h 0 (by omega))
theorem TabG.chg {w w' : World} (h : TabG w) {S : Nat → Prop} (k : Chg S w w') (hs : S 0) : TabG w' := fun j hj => k.cellv (h j hj) hs

set_option maxHeartbeats 1000000 in
theorem tz32_core (x k idx : Nat) (w : World) (hx0 : ((x : Int) == 0) = false)
    (key : bits BinOp.and IntKind.u32 (x : Int) (-(x : Int) % 4294967296) * 125613361 % 4294967296 / 134217728 = (idx : Int))
    (hi : idx < 32) (hcell : w.cell? ⟨0, idx, none⟩ = some (.int .u8 k)) (_hk : k < 32) :
    Calls Tryd.prog 31 #[.int .u32 x] w fun e w' => e = .returned (.int .i64 k) ∧ w = w' := by
  go_enter Tryd.func31, Tryd.ntmps31
  go_wp2_with (simp only [key])
  go_ret
  exact ⟨rfl, rfl⟩
theorem tz32_zero (w : World) : Calls Tryd.prog 31 #[.int .u32 0] w fun e w' => e = .returned (.int .i64 32) ∧ w = w' := by
  go_enter Tryd.func31, Tryd.ntmps31
  go_wp2
  go_ret
  exact ⟨rfl, rfl⟩
theorem tz32 (x : Nat) (hx : x < 4294967296) (w : World) (hT : TabG w) :
    Calls Tryd.prog 31 #[.int .u32 x] w fun e w' => e = .returned (.int .i64 (Lib.ctz 32 x)) ∧ w = w' := by
  by_cases hx0 : x = 0
  · subst hx0
    exact tz32_zero w
  · obtain ⟨hlow, hk⟩ := Lib.lowest_bit 32 x hx0 hx
    obtain ⟨hi, htab⟩ := Lib.deBruijn32_at _ hk
    have hcell := hT _ hi
    rw [htab] at hcell
    exact tz32_core x _ _ w (by simp; omega) (tz32_keyn x _ hx hx0 hlow) hi hcell hk

set_option maxHeartbeats 1000000 in
theorem common_p (a b : Nat) (w : World) (ha : a < 4294967296) (hb : b < 4294967296) (hT : TabG w) :
    Calls Tryd.prog 15 #[.int .u32 a, .int .u32 b] w fun e w' => e = .returned (.int .i64 (commonN a b)) ∧ w = w' := by
  have hx := bits_xor_u32n a b ha hb
  have HT := Lib.hid hT
  clear hT
  by_cases h16 : Lib.ctz 32 (a ^^^ b) ≤ 16
  · have HC : Hid (commonN a b = Lib.ctz 32 (a ^^^ b)) := Nat.min_eq_left h16
    generalize hk : Lib.ctz 32 (a ^^^ b) = k at *
    have HK := Lib.hid hk
    clear hk
    go_enter Tryd.func15, Tryd.ntmps15
    go_wp2_with fail
    refine (tz32 _ (xor_lt ha hb) _ HT.out).mono ?_
    rintro e w1 ⟨rfl, rfl⟩
    rw [HK.out]
    go_wp2_with fail
    go_ret
    exact ⟨by rw [HC.out]; rfl, rfl⟩
  · have HC : Hid (commonN a b = 16) := Nat.min_eq_right (by omega)
    generalize hk : Lib.ctz 32 (a ^^^ b) = k at *
    have HK := Lib.hid hk
    clear hk
    go_enter Tryd.func15, Tryd.ntmps15
    go_wp2_with fail
    refine (tz32 _ (xor_lt ha hb) _ HT.out).mono ?_
    rintro e w1 ⟨rfl, rfl⟩
    rw [HK.out]
    go_wp2_with fail
    go_ret
    exact ⟨by rw [HC.out]; rfl, rfl⟩

set_option maxHeartbeats 1000000 in
theorem bit_p (a : Nat) (i : Int) (w : World) (ha : a < 4294967296) (hi1 : -9223372036854775808 ≤ i) (hi2 : i ≤ 9223372036854775807) :
    Calls Tryd.prog 13 #[.int .u32 a, .int .i64 i] w fun e w' => e = .returned (.int .i64 (bitN a i)) ∧ w = w' := by
  by_cases hi : i < 0 ∨ 16 ≤ i
  · have hz := Lib.hid (bit_zero a i hi)
    rcases Int.lt_or_le i 0 with h | h
    · have d1 : decide (i < 0) = true := by simpa using h
      clear hi
      go_enter Tryd.func13, Tryd.ntmps13
      go_wp2
      go_ret
      exact ⟨by rw [hz.out]; rfl, rfl⟩
    · have d1 : decide (i < 0) = false := by simpa using h
      have d2 : decide (16 ≤ i) = true := by simp; omega
      clear hi
      go_enter Tryd.func13, Tryd.ntmps13
      go_wp2
      go_ret
      exact ⟨by rw [hz.out]; rfl, rfl⟩
  · have hk := Lib.hid (bit_key a i ha (by omega) (by omega))
    have d1 : decide (i < 0) = false := by simp; omega
    have d2 : decide (16 ≤ i) = false := by simp; omega
    have e1 : 0 ≤ i := by omega
    have e2 : i < 16 := by omega
    clear hi
    go_enter Tryd.func13, Tryd.ntmps13
    go_wp2
    go_ret
    exact ⟨by rw [← hk.out]; rfl, rfl⟩

set_option maxHeartbeats 1000000 in
theorem bit_r (a : Nat) (i : Int) (w : World) (ha : a < 4294967296) (hi1 : -9223372036854775808 ≤ i) (hi2 : i ≤ 9223372036854775807) :
    Calls Tryd.prog 14 #[.int .u32 a, .int .i64 i] w fun e w' => e = .returned (.int .i64 (bitN a i)) ∧ w = w' := by
  by_cases hi : i < 0 ∨ 16 ≤ i
  · have hz := Lib.hid (bit_zero a i hi)
    rcases Int.lt_or_le i 0 with h | h
    · have d1 : decide (i < 0) = true := by simpa using h
      clear hi
      go_enter Tryd.func14, Tryd.ntmps14
      go_wp2
      go_ret
      exact ⟨by rw [hz.out]; rfl, rfl⟩
    · have d1 : decide (i < 0) = false := by simpa using h
      have d2 : decide (16 ≤ i) = true := by simp; omega
      clear hi
      go_enter Tryd.func14, Tryd.ntmps14
      go_wp2
      go_ret
      exact ⟨by rw [hz.out]; rfl, rfl⟩
  · have hk := Lib.hid (bit_key a i ha (by omega) (by omega))
    have d1 : decide (i < 0) = false := by simp; omega
    have d2 : decide (16 ≤ i) = false := by simp; omega
    have e1 : 0 ≤ i := by omega
    have e2 : i < 16 := by omega
    clear hi
    go_enter Tryd.func14, Tryd.ntmps14
    go_wp2
    go_ret
    exact ⟨by rw [← hk.out]; rfl, rfl⟩

theorem bitN_nat (a k : Nat) : bitN a (k : Int) = if 16 ≤ k then 0 else a / 2 ^ k % 2 := by
  unfold bitN
  by_cases h : 16 ≤ k
  · rw [if_pos (by omega), if_pos h]
  · rw [if_neg (by omega), if_neg h]; simp

set_option maxHeartbeats 1000000 in
theorem common_r (a b : Nat) (w : World) (ha : a < 4294967296) (hb : b < 4294967296) :
    Calls Tryd.prog 16 #[.int .u32 a, .int .u32 b] w fun e w' => e = .returned (.int .i64 (commonN a b)) ∧ w = w' := by
  go_enter Tryd.func16, Tryd.ntmps16
  go_wp2
  go_loop [5] (fun i => ∃ k : Nat, k ≤ 16 ∧ i = .int .i64 k ∧ ∀ i, i < k → a.testBit i = b.testBit i) (fun i => 16 - (intOf i).toNat)
  case atStart => exact ⟨0, by omega, rfl, by omega⟩
  case round =>
    obtain ⟨k, hk, rfl, hbits⟩ := hrel
    have Hb := Lib.hid hbits
    clear hbits
    by_cases hlt : k < 16
    · by_cases heq : a.testBit k = b.testBit k
      · have H2 : Hid (bitN a (k : Int) = bitN b (k : Int)) := by
          show bitN a (k : Int) = bitN b (k : Int)
          rw [bitN_nat, bitN_nat, if_neg (by omega), if_neg (by omega)]
          exact (bit_eq_iff a b k).1 heq
        have Heq := Lib.hid heq
        clear heq
        go_wp2_with fail
        refine (bit_r _ _ _ ha (by omega) (by omega)).mono ?_
        rintro e w1 ⟨rfl, rfl⟩
        go_wp2_with fail
        refine (bit_r _ _ _ hb (by omega) (by omega)).mono ?_
        rintro e w1 ⟨rfl, rfl⟩
        rw [H2.out]
        go_wp2_with fail
        go_round
        case rel => exact ⟨k + 1, by omega, by go_num, fun i hi => by
          by_cases h : i = k
          · subst h; exact Heq.out
          · exact Hb.out i (by omega)⟩
        case measure => simp [intOf]; omega
      · have H2 : ((bitN a (k : Int) : Int) == (bitN b (k : Int) : Int)) = false := by
          rw [bitN_nat, bitN_nat, if_neg (by omega), if_neg (by omega)]
          have hne : ¬ a / 2 ^ k % 2 = b / 2 ^ k % 2 := fun h => heq ((bit_eq_iff a b k).2 h)
          generalize a / 2 ^ k % 2 = x at *
          generalize b / 2 ^ k % 2 = y at *
          exact beq_eq_false_iff_ne.2 (by omega)
        have HC : Hid (commonN a b = k) := (common_unique ha hb (by omega) Hb.out (fun _ => heq)).symm
        clear heq
        go_wp2_with fail
        refine (bit_r _ _ _ ha (by omega) (by omega)).mono ?_
        rintro e w1 ⟨rfl, rfl⟩
        go_wp2_with fail
        refine (bit_r _ _ _ hb (by omega) (by omega)).mono ?_
        rintro e w1 ⟨rfl, rfl⟩
        go_wp2_with fail
        go_ret
        exact ⟨by rw [HC.out]; rfl, rfl⟩
    · have HC : Hid (commonN a b = k) := (common_unique ha hb (by omega) Hb.out (fun h => absurd h (by omega))).symm
      have d1 : decide ((k : Int) < 16) = false := by simp; omega
      go_wp2_with fail
      go_ret
      exact ⟨by rw [HC.out]; rfl, rfl⟩

def sameN (a b : Nat) (h : Int) : Bool := decide (h ≤ (commonN a b : Int))
set_option maxHeartbeats 1000000 in
theorem same_p (a b : Nat) (h : Int) (w : World) (ha : a < 4294967296) (hb : b < 4294967296) (hT : TabG w) :
    Calls Tryd.prog 17 #[.int .u32 a, .int .u32 b, .int .i64 h] w fun e w' => e = .returned (.bool (sameN a b h)) ∧ w = w' := by
  have HT := Lib.hid hT
  clear hT
  go_enter Tryd.func17, Tryd.ntmps17
  go_wp2_with fail
  refine (common_p _ _ _ ha hb HT.out).mono ?_
  rintro e w1 ⟨rfl, rfl⟩
  go_wp2_with fail
  go_ret
  exact ⟨rfl, rfl⟩
set_option maxHeartbeats 1000000 in
theorem same_r (a b : Nat) (h : Int) (w : World) (ha : a < 4294967296) (hb : b < 4294967296) :
    Calls Tryd.prog 18 #[.int .u32 a, .int .u32 b, .int .i64 h] w fun e w' => e = .returned (.bool (sameN a b h)) ∧ w = w' := by
  go_enter Tryd.func18, Tryd.ntmps18
  go_wp2_with fail
  refine (common_r _ _ _ ha hb).mono ?_
  rintro e w1 ⟨rfl, rfl⟩
  go_wp2_with fail
  go_ret
  exact ⟨rfl, rfl⟩
def validN (a : Nat) : Bool := decide ((a : Int) ≤ 65535)
theorem wvalid_p (a : Nat) (w : World) : Calls Tryd.prog 11 #[.int .u32 a] w fun e w' => e = .returned (.bool (validN a)) ∧ w = w' := by
  go_enter Tryd.func11, Tryd.ntmps11
  go_wp2
  go_ret
  exact ⟨rfl, rfl⟩
theorem wvalid_r (a : Nat) (w : World) : Calls Tryd.prog 12 #[.int .u32 a] w fun e w' => e = .returned (.bool (validN a)) ∧ w = w' := by
  have HV : Hid (validN a = decide ((a : Int) < 65536)) := by
    show validN a = _
    unfold validN
    rw [decide_eq_decide]
    omega
  go_enter Tryd.func12, Tryd.ntmps12
  go_wp2
  go_ret
  exact ⟨by rw [HV.out]; rfl, rfl⟩
end Go.Proofs.YtenobfplmifomaaDoor
