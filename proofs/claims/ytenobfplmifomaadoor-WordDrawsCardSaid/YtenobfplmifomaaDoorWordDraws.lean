/- The walk over the statement WordDraws. -/
import Derived.Test.YtenobfplmifomaaDoorSaneW
import Derived.Test.YtenobfplmifomaaDoorTape
namespace Go.Proofs.YtenobfplmifomaaDoor
open Go.RowKit

def DrawRel (N : Nat) (w2 : World) (i : Value) (wr : World) : Prop := ∃ k : Nat, k ≤ N ∧ i = .int .i64 k ∧ Chg (· < w2.heap.size) w2 wr
theorem ex_draw (s n : Int) : ∃ d : Nat, drawS s n = d ∧ validN d = true := by
  obtain ⟨h0, h1⟩ := drawS_bd s n
  obtain ⟨d, hd⟩ := Int.eq_ofNat_of_zero_le h0
  refine ⟨d, hd, ?_⟩
  unfold validN
  simp; omega
theorem draw_p2 {s n : Int} {d : Nat} (h : Hid (drawS s n = d)) (w : World) (hs1 : 0 ≤ s) (hs2 : s ≤ 18446744073709551615) (hn1 : -9223372036854775808 ≤ n) (hn2 : n ≤ 9223372036854775807) :
    Calls Tryd.prog 21 #[.int .u64 s, .int .i64 n] w fun e w' => e = .returned (.int .u32 d) ∧ w = w' := by
  have := draw_p s n w hs1 hs2 hn1 hn2; rw [h.out] at this; exact this
theorem draw_r2 {s n : Int} {d : Nat} (h : Hid (drawS s n = d)) (w : World) (hs1 : 0 ≤ s) (hs2 : s ≤ 18446744073709551615) (hn1 : -9223372036854775808 ≤ n) (hn2 : n ≤ 9223372036854775807) :
    Calls Tryd.prog 22 #[.int .u64 s, .int .i64 n] w fun e w' => e = .returned (.int .u32 d) ∧ w = w' := by
  have := draw_r s n w hs1 hs2 hn1 hn2; rw [h.out] at this; exact this

set_option maxHeartbeats 2000000 in
theorem worddraws_walk (s n : Int) (w : World) (hs1 : 0 ≤ s) (hs2 : s ≤ 18446744073709551615) (hn1 : -9223372036854775808 ≤ n) (hn2 : n ≤ 9223372036854775807) (hT : TabG w) :
    Calls Tryd.prog 4 #[.int .u64 s, .int .i64 n] w fun e w' => e = .returned (.bool true) ∧ Chg (· < w.heap.size) w w' := by
  have hlt := hT.lt
  have HT := Lib.hid hT
  clear hT
  have m0 := Int.emod_nonneg n (show (1000 : Int) ≠ 0 by omega)
  have m1 := Int.emod_lt_of_pos n (show (0 : Int) < 1000 by omega)
  obtain ⟨m, hm⟩ : ∃ m, m = n % 1000 := ⟨_, rfl⟩
  rw [← hm] at m0 m1
  have HM := Lib.hid hm
  clear hm
  go_enter Tryd.func4, Tryd.ntmps4
  go_wp2_with fail
  refine (mod_any n 1000 _ (by omega) (by omega)).mono ?_
  rintro e w1 ⟨rfl, rfl⟩
  rw [← HM.out]
  go_wp2_with fail
  have hl : Rd 1 encI (· = w.heap.size) (w.alloc (.cells #[.int .i64 n, .int .i64 m, .int .i64 (-1), .int .i64 0] 3)) (some ⟨w.heap.size, 0, none⟩) 4 [n, m, -1, 0] := Rd.lit _ rfl rfl rfl (fun _ => rfl) rfl
  have ql := (Chg.refl (· < w.heap.size) w).alloc (.cells #[.int .i64 n, .int .i64 m, .int .i64 (-1), .int .i64 0] 3) (by simp)
  go_loopw [12] (fun i wr => DrawRel 4 (w.alloc (.cells #[.int .i64 n, .int .i64 m, .int .i64 (-1), .int .i64 0] 3)) i wr) (fun i _ => 4 - (intOf i).toNat)
  case atStart => exact ⟨0, by omega, rfl, Chg.refl _ _⟩
  case round =>
    obtain ⟨k, hk, rfl, hc⟩ := hrel
    obtain ⟨wo, rfl⟩ : ∃ wo : World, wo = wr := ⟨_, rfl⟩
    have qo := ql.then hc (by intro k hk; simp; omega)
    have HT3 := Lib.hid (HT.out.chg qo hlt)
    by_cases hlt' : k < 4
    · obtain ⟨x, o, y, hx, hxB, hy, hcell⟩ := (hl.chg hc (by intro k hk; simp; omega)).at hlt'
      cases hx
      have g0 : wo.cell? ⟨w.heap.size, k, none⟩ = some (.int .i64 y) := by simpa using hcell 0 _ rfl
      have hyb : -9223372036854775808 ≤ y ∧ y ≤ 9223372036854775807 := by
        rcases k with _ | _ | _ | _ | k
        · simp at hy; subst hy; omega
        · simp at hy; subst hy; omega
        · simp at hy; subst hy; omega
        · simp at hy; subst hy; omega
        · omega
      obtain ⟨d, hd, hv⟩ := ex_draw s y
      have HD := Lib.hid hd
      obtain ⟨y0, y1⟩ := hyb
      clear hd hy hcell hl ql
      go_wp2_with fail
      refine (draw_p2 HD _ hs1 hs2 y0 y1).mono ?_
      rintro e v1 ⟨rfl, rfl⟩
      go_wp2_with fail
      refine (draw_r2 HD _ hs1 hs2 y0 y1).mono ?_
      rintro e v1 ⟨rfl, rfl⟩
      go_wp2_with fail
      refine (draw_p2 HD _ hs1 hs2 y0 y1).mono ?_
      rintro e v1 ⟨rfl, rfl⟩
      go_wp2_with fail
      refine (wvalid_p d _).mono ?_
      rintro e v1 ⟨rfl, rfl⟩
      rw [hv]
      go_wp2_with fail
      go_roundw
      case rel => exact ⟨k + 1, by omega, by go_num, hc⟩
      case measure => simp [intOf]; omega
    · obtain rfl : k = 4 := by omega
      clear hl
      go_wp2_with (go_at_call 19; refine (sanew_x _ HT3.out).mono ?_; rintro e w9 ⟨rfl, k9⟩)
      go_ret
      exact ⟨rfl, qo.next k9⟩
end Go.Proofs.YtenobfplmifomaaDoor
