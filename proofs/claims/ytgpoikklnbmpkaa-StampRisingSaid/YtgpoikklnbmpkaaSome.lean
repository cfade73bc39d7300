/- A walk over the statements' own list of stamps. -/
import Derived.Test.YtgpoikklnbmpkaaTStamp
namespace Go.Proofs.Ytgpoikklnbmpkaa
open Go.RowKit

theorem Try.infoS : (Try.prog.info? 23).map (fun i => (i.zero, i.size, i.bytes)) = some (some (.agg #[.int .i64 0, .int .i64 0]), 2, 16) := by kernel_rfl
def smallS (s : Int × Int) : Prop := -1 ≤ s.1 ∧ s.1 ≤ 1099511627777 ∧ -1 ≤ s.2 ∧ s.2 ≤ 1099511627777

/-- some small stamps -/
def SomeStamps (N : Nat) (B b : Nat) (w : World) (e : Ending) (w' : World) : Prop :=
  ∃ (a : Option Addr) (n cap : Nat) (l : List (Int × Int)), e = .returned (.slice a n cap) ∧ Rd 2 encS (fun k => w.heap.size ≤ k ∧ k < w'.heap.size) w' a n l ∧ n ≤ N ∧ (∀ s ∈ l, smallS s) ∧ Chg (fun k => k < w.heap.size ∧ k ≠ b) w w' ∧ TP 55 B w' b

def SomeRel (N B b : Nat) (w w1 : World) (v i : Value) (wr : World) : Prop :=
  ∃ (k : Nat) (l : List (Int × Int)), i = .int .i64 k ∧ k + l.length ≤ N ∧ OwnL 2 encS 23 w1.heap.size wr v l ∧ (∀ s ∈ l, smallS s) ∧ Chg (fun k => k < w1.heap.size ∧ k ≠ b) w1 wr ∧ TP 55 B wr b

set_option maxHeartbeats 1000000 in
theorem some_x {B b : Nat} (N : Nat) (w : World) (h : TP 55 B w b) (hB : B ≤ w.heap.size) (hN : N ≤ 1000) :
    Calls Try.prog 14 #[.pointer (some ⟨b, 0, none⟩), .int .i64 N] w (SomeStamps N B b w) := by
  have hlt := h.lt
  go_enter Try.func14, Try.ntmps14
  go_wp2_with fail
  refine (next_x _ _ h (by omega)).mono ?_
  rintro e w1 ⟨r, rfl, r0, r1, k1, t1⟩
  rw [if_neg (by omega)] at r1
  obtain ⟨r, rfl⟩ := Int.eq_ofNat_of_zero_le r0
  have z1 := k1.size
  go_wp2_with fail
  go_loopw [5, 6] (fun v i wr => SomeRel N B b w w1 v i wr) (fun _ i _ => (intOf i).toNat)
  case atStart => exact ⟨r, [], rfl, by simp; omega, OwnL.nil _ _ _ _ _, by simp, Chg.refl _ _, t1⟩
  case round =>
    obtain ⟨k, l, rfl, hk, hown, hsm, hc, ht⟩ := hrel
    obtain ⟨wo, rfl⟩ : ∃ wo : World, wo = wr := ⟨_, rfl⟩
    have hz := hc.size
    by_cases hk0 : 0 < k
    · go_wp2_with fail
      refine (odd_x _ ht (by omega)).mono ?_
      rintro e w2 ⟨x, y, rfl, x0, x1, y0, y1, k2, t2⟩
      have hz2 := k2.size
      have hown2 := hown.chg k2 (fun k hk hv => ⟨hk, by have := (hown.lt k hv).1; omega⟩)
      go_wp2_with (at_builtin; go_loud (refine wpList_append_lit (enc := encS) w2 rfl _ _ 24 rfl w1.heap.size 23 (.agg #[.int .i64 0, .int .i64 0]) 2 16 Try.underlying24 Try.infoS rfl (by omega) (by omega) _ l hown2 rfl (x, y) _ rfl rfl (by simp [encS, Value.oneCell']) _ rfl rfl (by omega) (by omega) _ ?_); intro v' w3 hown3 _ hch3 hz3)
      go_roundw
      case rel =>
        refine ⟨k - 1, l ++ [(x, y)], ?_, by simp; omega, hown3, ?_, (hc.then k2 (by intro k hk; omega)).then hch3 (by intro k hk; exact hk.1), t2.chg hch3 (by intro k hk; omega)⟩
        · rw [show ((k - 1 : Nat) : Int) = (k : Int) - 1 by omega]
        · intro s hs
          rcases List.mem_append.1 hs with hs | hs
          · exact hsm s hs
          · simp at hs; subst hs; exact ⟨x0, x1, y0, y1⟩
      case measure => simp [intOf]; omega
    · obtain ⟨a, cap, rfl, hrd, _⟩ := hown.rd (fun _ => rfl)
      clear hown
      go_wp2
      go_ret
      exact ⟨a, l.length, cap, l, rfl, hrd.mono (by intro k hk; omega), by omega, hsm, k1.then hc (by intro k hk; omega), ht⟩
end Go.Proofs.Ytgpoikklnbmpkaa
