/- Walks over Uint of the package wire and of its reference. -/
import Derived.Test.YtgpoikklnbmpkaaWireU
namespace Go.Proofs.Ytgpoikklnbmpkaa
open Go.RowKit

/-- a number, how many bytes it takes, and an error number -/
def numR (r : Option (Nat × Nat)) : Nat × Nat × Nat := match r with | some (n, k) => (n, k, 0) | none => (0, 0, 4)
def decR (b : List UInt8) : Nat × Nat × Nat := numR (decU b)

def DecRel (b : List UInt8) (nv iv : Value) : Prop :=
  ∃ (i m : Nat), nv = .int .u64 m ∧ iv = .int .i64 i ∧ i ≤ b.length ∧ i ≤ 9 ∧ m < 2 ^ (7 * i) ∧ decU b = decA (b.drop i) i m

theorem dec_bad {b r : List UInt8} {c : UInt8} {i m : Nat} (hd : decU b = decA (c :: r) i m) (h : (i = 9 ∧ 1 < c.toNat) ∨ (0 < i ∧ c.toNat = 0)) : decR b = (0, 0, 4) := by
  unfold decR; rw [hd]; unfold decA; rw [if_pos h]; rfl
theorem dec_end {b r : List UInt8} {c : UInt8} {i m : Nat} (hd : decU b = decA (c :: r) i m) (h : ¬ ((i = 9 ∧ 1 < c.toNat) ∨ (0 < i ∧ c.toNat = 0))) (hc : c.toNat < 128) : decR b = (m + c.toNat % 128 * 2 ^ (7 * i), i + 1, 0) := by
  unfold decR; rw [hd]; unfold decA; rw [if_neg h, if_pos hc, Nat.mod_eq_of_lt hc]; rfl
theorem dec_on {b r : List UInt8} {c : UInt8} {i m : Nat} (hd : decU b = decA (c :: r) i m) (h : ¬ ((i = 9 ∧ 1 < c.toNat) ∨ (0 < i ∧ c.toNat = 0))) (hc : ¬ c.toNat < 128) : decU b = decA r (i + 1) (m + c.toNat % 128 * 2 ^ (7 * i)) := by
  rw [hd]; conv => lhs; unfold decA
  rw [if_neg h, if_neg hc]
theorem bits_or_u64n (a b : Nat) (ha : a < 18446744073709551616) (hb : b < 18446744073709551616) : bits .or .u64 (a : Int) (b : Int) = ((a ||| b : Nat) : Int) := by
  have h1 : ∀ a : Nat, a < 18446744073709551616 → (BitVec.ofInt 64 (a : Int)).toNat = a := fun a ha => by
    rw [BitVec.ofInt_natCast, BitVec.toNat_ofNat]; exact Nat.mod_eq_of_lt (by omega)
  have h2 := Nat.or_lt_two_pow (n := 64) (x := a) (y := b) (by omega) (by omega)
  show IntKind.u64.wrap ((BitVec.ofInt 64 (a : Int) ||| BitVec.ofInt 64 (b : Int)).toNat : Int) = _
  rw [BitVec.toNat_or, h1 a ha, h1 b hb, wrap_u64n]
  omega
theorem bits_and127 (c : Nat) (hc : c < 256) : bits BinOp.and IntKind.u8 (c : Int) 127 = ((c % 128 : Nat) : Int) := by
  have h1 : (BitVec.ofInt 8 (c : Int)).toNat = c := by
    rw [BitVec.ofInt_natCast, BitVec.toNat_ofNat]; omega
  have h2 : (BitVec.ofInt 8 (127 : Int)).toNat = 127 := by decide
  show IntKind.u8.wrap ((BitVec.ofInt 8 (c : Int) &&& BitVec.ofInt 8 (127 : Int)).toNat : Int) = _
  rw [BitVec.toNat_and, h1, h2, wrap_u8n]
  rw [show (127 : Nat) = 2 ^ 7 - 1 from rfl, Nat.and_two_pow_sub_one_eq_mod]
  omega
theorem or_key {c i m : Nat} (hi : i ≤ 9) (h9 : i = 9 → c % 128 ≤ 1) (hm : m < 2 ^ (7 * i)) : bits BinOp.or IntKind.u64 (m : Int) (IntKind.u64.wrap ((c % 128 : Nat) * 2 ^ (7 * i))) = ((m + c % 128 * 2 ^ (7 * i) : Nat) : Int) := by
  have h1 := pow_lt64 (c := c % 128) (i := i) (by omega) hi (by omega)
  have h2 : 2 ^ (7 * i) ≤ 2 ^ 63 := Nat.pow_le_pow_right (by omega) (by omega)
  have h3 : ((c % 128 : Nat) : Int) * 2 ^ (7 * i) = ((c % 128 * 2 ^ (7 * i) : Nat) : Int) := by simp
  have h4 : IntKind.u64.wrap (((c % 128 * 2 ^ (7 * i) : Nat) : Int)) = ((c % 128 * 2 ^ (7 * i) : Nat) : Int) := by rw [wrap_u64n]; omega
  rw [h3, h4, bits_or_u64n _ _ (by omega) h1, or_add hm]
theorem or_key_p {c i m m' : Nat} (hi : i ≤ 9) (hc : c < 256) (h9 : i = 9 → c ≤ 1) (hm : m < 2 ^ (7 * i)) (hm' : m' = m + c % 128 * 2 ^ (7 * i)) :
    bits BinOp.or IntKind.u64 (m : Int) (IntKind.u64.wrap (IntKind.u64.wrap (bits BinOp.and IntKind.u8 (c : Int) 127) * 2 ^ (7 * i))) = (m' : Int) := by
  rw [bits_and127 c hc, show IntKind.u64.wrap ((c % 128 : Nat) : Int) = ((c % 128 : Nat) : Int) by rw [wrap_u64n]; omega, or_key hi (fun h => by have := h9 h; omega) hm, hm']

set_option maxRecDepth 100000 in
set_option maxHeartbeats 1000000 in
theorem uint_p (a : Option Addr) (n cap : Nat) (b : List UInt8) (w : World) (h : Sl 1 encB w a n b) (hn : n ≤ 200000) :
    Calls Try.prog 34 #[.slice a n cap] w fun e w' => e = .returned (.tuple #[.int .u64 (decR b).1, .int .i64 (decR b).2.1, .int .i64 (decR b).2.2]) ∧ w = w' := by
  have HBL := Lib.hid h.len
  go_enter Try.func34, Try.ntmps34
  go_wp2
  go_loop [5, 10] (fun nv iv => DecRel b nv iv) (fun _ i => n - (intOf i).toNat)
  case atStart => exact ⟨0, 0, rfl, rfl, by omega, by omega, by simp, rfl⟩
  case round =>
    obtain ⟨i, m, rfl, rfl, hi, hi9, hm, hd⟩ := hrel
    have hbl := HBL.out
    by_cases hlt : i < n
    · obtain ⟨x, o, c, rfl, hx, hy, hcell⟩ := h.at hlt
      have e0 : w.cell? ⟨x, o + i, none⟩ = some (.int .u8 c.toNat) := by simpa using hcell 0 _ rfl
      have hdr : b.drop i = c :: b.drop (i + 1) := by
        rw [List.drop_eq_getElem_cons (by omega)]
        congr 1
        rw [List.getElem?_eq_getElem (by omega)] at hy
        exact Option.some.inj hy
      rw [hdr] at hd
      have hc := c.toNat_lt
      by_cases hbad : (i = 9 ∧ 1 < c.toNat) ∨ (0 < i ∧ c.toNat = 0)
      · have HR := Lib.hid (dec_bad hd hbad)
        clear h hcell hy hdr hd hm hbl
        generalize c.toNat = c' at *
        rcases hbad with ⟨h9, h1⟩ | ⟨h0, h1⟩
        · have d9 : ((i : Int) == 9) = true := by simp; omega
          clear h9
          have d1 : decide (1 < (c' : Int)) = true := by simp; omega
          go_wp2
          go_ret3
          exact ⟨by rw [HR.out]; rfl, rfl⟩
        · subst h1
          have d1 : decide (0 < i) = true := by simp; omega
          go_wp2
          all_goals go_ret3
          all_goals exact ⟨by rw [HR.out]; rfl, rfl⟩
      obtain ⟨m', hm'⟩ : ∃ m', m' = m + c.toNat % 128 * 2 ^ (7 * i) := ⟨_, rfl⟩
      have HE := Lib.hid (dec_end hd hbad)
      have HO := Lib.hid (dec_on hd hbad)
      have hk := or_key_p hi9 hc (by omega) hm hm'
      have HML := Lib.hid (next_lt (c := c.toNat % 128) hm (by omega))
      rw [← hm'] at HE HO HML
      clear h hcell hy hdr hd hm hbl hm'
      generalize c.toNat = c' at *
      by_cases h9 : i = 9
      · have d9 : ((i : Int) == 9) = true := by simp; omega
        have d1 : decide (1 < (c' : Int)) = false := by simp; omega
        have d2 : c' < 128 := by omega
        have d0 : decide (0 < i) = true := by simp; omega
        have dc : ((c' : Int) == 0) = false := by simp; omega
        have z0 : 0 < i := by omega
        clear hbad h9
        go_wp2
        go_ret3
        exact ⟨by rw [HE.out (by omega)]; rfl, rfl⟩
      · have d9 : ((i : Int) == 9) = false := by simp; omega
        have z9 : i < 9 := by omega
        by_cases h0 : i = 0
        · have d0 : decide (0 < i) = false := by simp; omega
          have z0 : i ≤ 0 := by omega
          clear hbad h9 h0
          go_wp2
          · go_ret3
            exact ⟨by rw [HE.out (by omega)]; rfl, rfl⟩
          · go_round
            case rel => exact ⟨i + 1, m', rfl, by go_num, by have := HBL.out; omega, by omega, HML.out, HO.out (by omega)⟩
            case measure => simp [intOf]; omega
        · have d0 : decide (0 < i) = true := by simp; omega
          have dc : ((c' : Int) == 0) = false := by simp; omega
          have z0 : 0 < i := by omega
          clear hbad h9 h0
          go_wp2
          · go_ret3
            exact ⟨by rw [HE.out (by omega)]; rfl, rfl⟩
          · go_round
            case rel => exact ⟨i + 1, m', rfl, by go_num, by have := HBL.out; omega, by omega, HML.out, HO.out (by omega)⟩
            case measure => simp [intOf]; omega
    · have HR : Hid (decR b = (0, 0, 4)) := by
        show decR b = _
        unfold decR
        rw [hd, List.drop_of_length_le (by omega)]
        rfl
      clear h hd hm hbl
      go_wp2
      go_ret3
      exact ⟨by rw [HR.out]; rfl, rfl⟩

theorem or_key_r {c i m m' : Nat} (hi : i ≤ 9) (h9 : i = 9 → c % 128 ≤ 1) (hm : m < 2 ^ (7 * i)) (hm' : m' = m + c % 128 * 2 ^ (7 * i)) :
    bits BinOp.or IntKind.u64 (m : Int) (IntKind.u64.wrap ((c : Int) % 128 * 2 ^ (7 * i))) = (m' : Int) := by
  have := or_key hi h9 hm
  rw [show ((c % 128 : Nat) : Int) = (c : Int) % 128 by omega] at this
  rw [this, hm']

/-- behind the tenth byte there is nothing more to read -/
def DecRel2 (b : List UInt8) (nv iv : Value) : Prop := DecRel b nv iv ∨ ∃ m : Nat, nv = .int .u64 m ∧ iv = .int .i64 (10 : Nat) ∧ decR b = (0, 0, 4) ∧ 10 ≤ b.length
set_option maxRecDepth 100000 in
set_option maxHeartbeats 1000000 in
theorem uint_r (a : Option Addr) (n cap : Nat) (b : List UInt8) (w : World) (h : Sl 1 encB w a n b) (hn : n ≤ 200000) :
    Calls Try.prog 35 #[.slice a n cap] w fun e w' => e = .returned (.tuple #[.int .u64 (decR b).1, .int .i64 (decR b).2.1, .int .i64 (decR b).2.2]) ∧ w = w' := by
  have HBL := Lib.hid h.len
  go_enter Try.func35, Try.ntmps35
  go_wp2
  go_loop [5, 6] (fun nv iv => DecRel2 b nv iv) (fun _ i => n - (intOf i).toNat)
  case atStart => exact .inl ⟨0, 0, rfl, rfl, by omega, by omega, by simp, rfl⟩
  case round =>
    rcases hrel with ⟨i, m, rfl, rfl, hi, hi9, hm, hd⟩ | ⟨m, rfl, rfl, hd, h10⟩
    rotate_left
    · have HR := Lib.hid hd
      clear hd
      go_wp2
      all_goals go_ret3
      all_goals exact ⟨by rw [HR.out]; rfl, rfl⟩
    have hbl := HBL.out
    by_cases hlt : i < n
    · obtain ⟨x, o, c, rfl, hx, hy, hcell⟩ := h.at hlt
      have e0 : w.cell? ⟨x, o + i, none⟩ = some (.int .u8 c.toNat) := by simpa using hcell 0 _ rfl
      have hdr : b.drop i = c :: b.drop (i + 1) := by
        rw [List.drop_eq_getElem_cons (by omega)]
        congr 1
        rw [List.getElem?_eq_getElem (by omega)] at hy
        exact Option.some.inj hy
      rw [hdr] at hd
      have hc := c.toNat_lt
      have z10 : i < 10 := by omega
      by_cases hc8 : c.toNat < 128
      · by_cases hbad : (i = 9 ∧ 1 < c.toNat) ∨ (0 < i ∧ c.toNat = 0)
        · have HR := Lib.hid (dec_bad hd hbad)
          clear h hcell hy hdr hd hm hbl
          generalize c.toNat = c' at *
          rcases hbad with ⟨h9, h1⟩ | ⟨h0, h1⟩
          · have d9 : ((i : Int) == 9) = true := by simp; omega
            have d1 : decide (1 < (c' : Int) % 128) = true := by simp; omega
            clear h9
            go_wp2
            go_ret3
            exact ⟨by rw [HR.out]; rfl, rfl⟩
          · have dc : ((c' : Int) == 0) = true := by simp; omega
            have d1 : decide (0 < i) = true := by simp; omega
            have dl : decide (1 < (c' : Int) % 128) = false := by simp; omega
            clear h1
            by_cases h9 : i = 9
            · have d9 : ((i : Int) == 9) = true := by simp; omega
              clear h9
              go_wp2
              go_ret3
              exact ⟨by rw [HR.out]; rfl, rfl⟩
            · have d9 : ((i : Int) == 9) = false := by simp; omega
              clear h9
              go_wp2
              go_ret3
              exact ⟨by rw [HR.out]; rfl, rfl⟩
        · obtain ⟨m', hm'⟩ : ∃ m', m' = m + c.toNat % 128 * 2 ^ (7 * i) := ⟨_, rfl⟩
          have HE := Lib.hid (dec_end hd hbad hc8)
          have hk := or_key_r hi9 (by omega) hm hm'
          rw [← hm'] at HE
          clear h hcell hy hdr hd hm hbl hm'
          generalize c.toNat = c' at *
          by_cases h9 : i = 9
          · have d9 : ((i : Int) == 9) = true := by simp; omega
            have d1 : decide (1 < (c' : Int) % 128) = false := by simp; omega
            have dc : ((c' : Int) == 0) = false := by simp; omega
            clear h9 hbad
            go_wp2
            go_ret3
            exact ⟨by rw [HE.out]; rfl, rfl⟩
          · have d9 : ((i : Int) == 9) = false := by simp; omega
            by_cases h0 : i = 0
            · have d0 : decide (0 < i) = false := by simp; omega
              have z0 : i ≤ 0 := by omega
              clear hbad h9 h0
              go_wp2
              all_goals go_ret3
              all_goals exact ⟨by rw [HE.out]; rfl, rfl⟩
            · have dc : ((c' : Int) == 0) = false := by simp; omega
              clear hbad h9 h0
              go_wp2
              go_ret3
              exact ⟨by rw [HE.out]; rfl, rfl⟩
      · by_cases h9 : i = 9
        · have HR := Lib.hid (dec_bad hd (.inl ⟨h9, by omega⟩))
          have d9 : ((i : Int) == 9) = true := by simp; omega
          by_cases h1 : 1 < c.toNat % 128
          · clear h hcell hy hdr hd hm hbl
            generalize c.toNat = c' at *
            have d1 : decide (1 < (c' : Int) % 128) = true := by simp; omega
            clear h1 h9
            go_wp2
            go_ret3
            exact ⟨by rw [HR.out]; rfl, rfl⟩
          · obtain ⟨m', hm'⟩ : ∃ m', m' = m + c.toNat % 128 * 2 ^ (7 * i) := ⟨_, rfl⟩
            have hk := or_key_r hi9 (by omega) hm hm'
            clear h hcell hy hdr hd hm hbl hm'
            generalize c.toNat = c' at *
            have d1 : decide (1 < (c' : Int) % 128) = false := by simp; omega
            have e9 : (i : Int) + 1 = ((10 : Nat) : Int) := by omega
            have E9 := Lib.hid e9
            clear h1 h9 e9
            go_wp2
            go_round
            case rel => exact .inr ⟨m', rfl, congrArg (Value.int .i64) E9.out, HR.out, by have := E9.out; have := HBL.out; omega⟩
            case measure => simp [intOf]; omega
        · have d9 : ((i : Int) == 9) = false := by simp; omega
          have z9 : i < 9 := by omega
          obtain ⟨m', hm'⟩ : ∃ m', m' = m + c.toNat % 128 * 2 ^ (7 * i) := ⟨_, rfl⟩
          have HO := Lib.hid (dec_on hd (by omega) hc8)
          have hk := or_key_r hi9 (by omega) hm hm'
          have HML := Lib.hid (next_lt (c := c.toNat % 128) hm (by omega))
          rw [← hm'] at HO HML
          clear h hcell hy hdr hd hm hbl hm'
          generalize c.toNat = c' at *
          clear h9
          go_wp2
          go_round
          case rel => exact .inl ⟨i + 1, m', rfl, by go_num, by have := HBL.out; omega, by omega, HML.out, HO.out⟩
          case measure => simp [intOf]; omega
    · have HR : Hid (decR b = (0, 0, 4)) := by
        show decR b = _
        unfold decR
        rw [hd, List.drop_of_length_le (by omega)]
        rfl
      clear h hd hm hbl
      go_wp2
      go_ret3
      exact ⟨by rw [HR.out]; rfl, rfl⟩
end Go.Proofs.Ytgpoikklnbmpkaa
