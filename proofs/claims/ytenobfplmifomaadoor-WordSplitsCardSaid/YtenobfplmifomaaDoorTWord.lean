/- A walk over the words that are drawn from a tape. -/
import Derived.Test.YtenobfplmifomaaDoorTape
namespace Go.Proofs.YtenobfplmifomaaDoor
open Go.RowKit

/-- some word -/
def SomeWord (ty B b : Nat) (w : World) (e : Ending) (w' : World) : Prop :=
  ∃ r : Nat, e = .returned (.int .u32 r) ∧ r < 65536 ∧ Chg (fun k => k < w.heap.size ∧ k ≠ b) w w' ∧ TP ty B w' b

theorem conv_u32 (r : Int) (h0 : 0 ≤ r) (h1 : r < 65536) : ∃ m : Nat, r = m ∧ m < 65536 ∧ IntKind.u32.wrap r = (m : Int) := by
  obtain ⟨m, rfl⟩ := Int.eq_ofNat_of_zero_le h0
  refine ⟨m, rfl, by omega, ?_⟩
  simp [IntKind.wrap, IntKind.signed, IntKind.bits]
  omega

set_option maxHeartbeats 1000000 in
theorem word_x {B b : Nat} (w : World) (h : TP 51 B w b) (hB : B ≤ w.heap.size) :
    Calls Tryd.prog 9 #[.pointer (some ⟨b, 0, none⟩)] w (SomeWord 51 B b w) := by
  go_enter Tryd.func9, Tryd.ntmps9
  go_wp2_with fail
  refine (next_x _ w h (by omega)).mono ?_
  rintro e w1 ⟨r, rfl, r0, r1, k1, t1⟩
  have z1 := k1.size
  by_cases e4 : r = 4
  · subst e4
    go_wp2_with fail
    refine (next_x _ _ t1 (by omega)).mono ?_
    rintro e w2 ⟨s, rfl, s0, s1, k2, t2⟩
    rw [if_neg (by omega)] at s1
    obtain ⟨m, rfl, hm, hw⟩ := conv_u32 s s0 (by omega)
    go_wp2_with fail
    go_ret
    exact ⟨m, rfl, hm, k1.then k2 (by intro k hk; omega), t2⟩
  · have d4 : (r == 4) = false := by simp [e4]
    by_cases e5 : r = 5
    · subst e5
      go_wp2_with fail
      refine (pick_lit 0 65535 [0, 65535, 32768] t1 (by omega) (by simp) (by rfl) (by rfl) (by omega) (by omega) (by simp)).mono ?_
      rintro e w2 ⟨s, rfl, s0, s1, k2, t2⟩
      obtain ⟨m, rfl, hm, hw⟩ := conv_u32 s s0 (by omega)
      go_wp2_with fail
      go_ret
      exact ⟨m, rfl, hm, k1.then k2 (by intro k hk; omega), t2⟩
    · have d5 : (r == 5) = false := by simp [e5]
      clear e4 e5
      go_wp2_with fail
      refine (next_x _ _ t1 (by omega)).mono ?_
      rintro e w2 ⟨s, rfl, s0, s1, k2, t2⟩
      rw [if_neg (by omega)] at s1
      obtain ⟨m, rfl, hm, hw⟩ := conv_u32 s s0 (by omega)
      go_wp2_with fail
      go_ret
      exact ⟨m, rfl, hm, k1.then k2 (by intro k hk; omega), t2⟩
end Go.Proofs.YtenobfplmifomaaDoor
