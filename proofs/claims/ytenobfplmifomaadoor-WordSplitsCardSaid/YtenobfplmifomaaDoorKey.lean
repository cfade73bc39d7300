/- Keys of the tape. -/
import Derived.Test.YtenobfplmifomaaDoorTapeK
namespace Go.Proofs.YtenobfplmifomaaDoor
open Go.RowKit

/-- the letters, as they are laid: strings of one byte -/
def LetG (w : World) : Prop := ∀ j, j < 6 → ∃ s : ByteArray, s.size = 1 ∧ w.cell? ⟨1, j, none⟩ = some (.string s)
theorem LetG.lt {w : World} (h : LetG w) : 1 < w.heap.size := by
  obtain ⟨s, _, h⟩ := h 0 (by omega)
  exact World.block_lt_of_cell? w _ h
theorem LetG.nx {w w' : World} (h : LetG w) (k : Ex w w') : LetG w' := fun j hj => by
  obtain ⟨s, h1, h2⟩ := h j hj
  exact ⟨s, h1, Chg.cellv k h2 (World.block_lt_of_cell? w _ h2)⟩
theorem LetG.nxb {b : Nat} {w w' : World} (h : LetG w) (hb : ¬ 1 = b) (k : Exb b w w') : LetG w' := fun j hj => by
  obtain ⟨s, h1, h2⟩ := h j hj
  exact ⟨s, h1, Chg.cellv k h2 ⟨World.block_lt_of_cell? w _ h2, hb⟩⟩

def LongRel (k0 : Nat) (o i : Value) : Prop := ∃ (k : Nat) (s : ByteArray), k ≤ k0 ∧ i = .int .i64 k ∧ o = .string s ∧ s.size = k
set_option maxHeartbeats 400000 in
theorem long_x (s : ByteArray) (n : Nat) (w : World) (hs : s.size = 1) (hn : n ≤ 1000) :
    Calls Tryd.prog 36 #[.string s, .int .i64 n] w fun e w' => (∃ r : ByteArray, e = .returned (.string r) ∧ r.size = n) ∧ w = w' := by
  have HS := Lib.hid hs
  have hs1 : s.size ≤ 1 := Nat.le_of_eq hs
  clear hs
  go_enter Tryd.func36, Tryd.ntmps36
  go_wp2
  go_loop [5, 6] (fun o i => LongRel n o i) (fun _ i => n - (intOf i).toNat)
  case atStart => exact ⟨0, ⟨#[]⟩, by omega, rfl, rfl, rfl⟩
  case round =>
    obtain ⟨k, o, hk, rfl, rfl, ho⟩ := hrel
    have HO := Lib.hid ho
    have ho1 : o.size ≤ 1000 := by omega
    clear ho
    by_cases hlt : k < n
    · go_wp2
      go_round
      case rel => exact ⟨k + 1, _, by omega, by go_num, rfl, by rw [ByteArray.size_append, HO.out, HS.out]⟩
      case measure => simp [intOf]; omega
    · go_wp2
      go_ret
      exact ⟨⟨o, rfl, by rw [HO.out]; omega⟩, rfl⟩

def KeyPost (m b : Nat) (w : World) (e : Ending) (w' : World) : Prop := ∃ s : ByteArray, e = .returned (.string s) ∧ s.size ≤ m ∧ TK w' b ∧ Exb b w w'
def KeyRel (b : Nat) (w : World) (o i : Value) (wr : World) : Prop := ∃ (k : Nat) (s : ByteArray), k ≤ 3 ∧ i = .int .i64 k ∧ o = .string s ∧ s.size + k ≤ 3 ∧ TK wr b ∧ Exb b w wr

set_option maxHeartbeats 1000000 in
theorem key_t {b : Nat} (w : World) (h : TK w b) (hL : LetG w) (hgb : ¬ 1 = b) : Calls Tryd.prog 32 #[.pointer (some ⟨b, 0, none⟩)] w (KeyPost 64 b w) := by
  go_enter Tryd.func32, Tryd.ntmps32
  go_wp2_with fail
  refine (next_t 12 _ h (by omega) (by omega)).mono ?_
  rintro e w1 ⟨r, rfl, r0, r1, T, k1⟩
  have L1 := hL.nxb hgb k1
  clear h hL
  by_cases h10 : r = 10
  · subst h10
    go_wp2_with fail
    refine (next_t 6 _ T (by omega) (by omega)).mono ?_
    clear T
    rintro e w2 ⟨j, rfl, j0, j1, T, k2⟩
    obtain ⟨j, rfl⟩ := Int.eq_ofNat_of_zero_le j0
    obtain ⟨s, hs, hc⟩ := (L1.nxb hgb k2) j (by omega)
    have kk := k1.nxb k2
    have HS := Lib.hid hs
    clear hs k1 k2 L1
    go_wp2_with fail
    refine (long_x s 64 _ HS.out (by omega)).mono ?_
    rintro e w3 ⟨⟨r, rfl, hr⟩, rfl⟩
    have HR := Lib.hid hr
    clear hr
    go_wp2_with fail
    go_ret
    exact ⟨r, rfl, Nat.le_of_eq HR.out, T, kk⟩
  · have d10 : (r == 10) = false := by simp [h10]
    by_cases h11 : r = 11
    · subst h11
      clear h10
      go_wp2_with fail
      go_ret
      exact ⟨⟨#[]⟩, rfl, by simp [ByteArray.size], T, k1⟩
    · have d11 : (r == 11) = false := by simp [h11]
      clear h10 h11
      go_wp2_with fail
      refine (next_t 3 _ T (by omega) (by omega)).mono ?_
      clear T
      rintro e w2 ⟨m, rfl, m0, m1, T, k2⟩
      obtain ⟨m, rfl⟩ := Int.eq_ofNat_of_zero_le m0
      have L2 := L1.nxb hgb k2
      have kk := k1.nxb k2
      clear k1 k2 L1
      go_wp2_with fail
      go_loopw [3, 4] (fun o i wr => KeyRel b w2 o i wr) (fun _ i _ => (intOf i).toNat)
      case atStart => exact ⟨m + 1, ⟨#[]⟩, by omega, congrArg (Value.int .i64) (by omega), rfl, by show 0 + (m + 1) ≤ 3; omega, T, Exb.refl _ _⟩
      case round =>
        clear T
        obtain ⟨k, o, hk, rfl, rfl, ho, T, kw⟩ := hrel
        obtain ⟨wo, rfl⟩ : ∃ wo : World, wo = wr := ⟨_, rfl⟩
        have ho1 : o.size ≤ 3 := by omega
        by_cases hk0 : 0 < k
        · go_wp2_with fail
          refine (next_t 6 _ T (by omega) (by omega)).mono ?_
          clear T
          rintro e w4 ⟨j, rfl, j0, j1, T, k4⟩
          obtain ⟨j, rfl⟩ := Int.eq_ofNat_of_zero_le j0
          obtain ⟨s, hs, hc⟩ := ((L2.nxb hgb kw).nxb hgb k4) j (by omega)
          replace kw := kw.nxb k4
          have HS := Lib.hid hs
          have hs1 : s.size ≤ 1 := Nat.le_of_eq hs
          clear hs k4 L2
          go_wp2_with fail
          refine ⟨⟨k - 1, o ++ s, by omega, ?_, rfl, by rw [ByteArray.size_append, HS.out]; omega, T, kw⟩, by simp [intOf]; omega⟩
          rw [show ((k - 1 : Nat) : Int) = (k : Int) - 1 by omega]
        · clear L2
          go_wp2_with fail
          go_ret
          exact ⟨o, rfl, by omega, T, kk.nxb kw⟩
end Go.Proofs.YtenobfplmifomaaDoor
