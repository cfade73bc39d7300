/- Walks over the statements' own list of events, and over SameInts. -/
import Derived.Test.YtgfnngdkoecciaaPlay
import Derived.Test.YtgfnngdkoecciaaTape
import Derived.BigQuiet
namespace Go.Proofs.Ytgfnngdkoecciaa
open Go.RowKit

/-- some ints -/
def SomeEvents (N : Nat) (B b : Nat) (w : World) (e : Ending) (w' : World) : Prop :=
  ∃ (a : Option Addr) (n cap : Nat) (l : List Int), e = .returned (.slice a n cap) ∧ Rd 1 encI (fun k => w.heap.size ≤ k ∧ k < w'.heap.size) w' a n l ∧ n ≤ N ∧ n ≤ cap ∧ cap ≤ maxLen ∧ Chg (fun k => k < w.heap.size ∧ k ≠ b) w w' ∧ TP 46 B w' b

def EvRel (N B b : Nat) (w1 : World) (v i : Value) (wr : World) : Prop :=
  ∃ (k : Nat) (l : List Int), i = .int .i64 k ∧ k + l.length ≤ N ∧ OwnL 1 encI 3 w1.heap.size wr v l ∧ Chg (fun k => k < w1.heap.size ∧ k ≠ b) w1 wr ∧ TP 46 B wr b

set_option maxHeartbeats 1000000 in
theorem events_x {B b : Nat} (N : Nat) (w : World) (h : TP 46 B w b) (hB : B ≤ w.heap.size) (hN : N ≤ 1000) :
    Calls Try.prog 18 #[.pointer (some ⟨b, 0, none⟩), .int .i64 N] w (SomeEvents N B b w) := by
  have hlt := h.lt
  go_enter Try.func18, Try.ntmps18
  go_wp2_with fail
  refine (next_x _ _ h (by omega)).mono ?_
  rintro e w1 ⟨r, rfl, r0, r1, k1, t1⟩
  rw [if_neg (by omega)] at r1
  obtain ⟨r, rfl⟩ := Int.eq_ofNat_of_zero_le r0
  have z1 := k1.size
  go_wp2_with fail
  go_loopw [5, 6] (fun v i wr => EvRel N B b w1 v i wr) (fun _ i _ => (intOf i).toNat)
  case atStart => exact ⟨r, [], rfl, by simp; omega, OwnL.nil _ _ _ _ _, Chg.refl _ _, t1⟩
  case round =>
    obtain ⟨k, l, rfl, hk, hown, hc, ht⟩ := hrel
    obtain ⟨wo, rfl⟩ : ∃ wo : World, wo = wr := ⟨_, rfl⟩
    have hz := hc.size
    by_cases hk0 : 0 < k
    · go_wp2_with fail
      refine (next_x _ _ ht (by omega)).mono ?_
      rintro e w2 ⟨x, rfl, x0, x1, k2, t2⟩
      rw [if_neg (by omega)] at x1
      have hz2 := k2.size
      go_wp2_with fail
      refine (pick_lit (n := 6) (W0 := w2) (-9223372036854775808) 9223372036854775807 [1, 1, 2, 1, 1, x] t2 (by omega) rfl rfl rfl (by omega) (by omega) (by intro z hz; simp at hz; omega)).mono ?_
      rintro e w3 ⟨y, rfl, y0, y1, k3, t3⟩
      have hz3 := k3.size
      have hown2 := (hown.chg k2 (fun k hk hv => ⟨hk, by have := (hown.lt k hv).1; omega⟩)).chg k3 (fun k hk hv => ⟨hk, by have := ((hown.chg k2 (fun k hk hv => ⟨hk, by have := (hown.lt k hv).1; omega⟩)).lt k hv).1; omega⟩)
      go_wp2_with (at_builtin; go_loud (refine wpList_append_lit (enc := encI) w3 rfl _ _ 22 rfl w1.heap.size 3 (.int .i64 0) 1 8 Try.underlying22 Try.infoI rfl (by omega) (by omega) _ l hown2 rfl y _ rfl rfl (by simp [encI, Value.oneCell']) _ rfl rfl (by omega) (by omega) _ ?_); intro v' w4 hown3 _ hch4 hz4)
      go_roundw
      case rel =>
        refine ⟨k - 1, l ++ [y], ?_, by simp; omega, hown3, ((hc.then k2 (by intro k hk; omega)).then k3 (by intro k hk; omega)).then hch4 (by intro k hk; exact hk.1), t3.chg hch4 (by intro k hk; omega)⟩
        rw [show ((k - 1 : Nat) : Int) = (k : Int) - 1 by omega]
      case measure => simp [intOf]; omega
    · obtain ⟨a, cap, rfl, hrd, hr1, hr2, _⟩ := hown.rd (fun _ => rfl)
      clear hown
      go_wp2
      go_ret
      exact ⟨a, l.length, cap, l, rfl, hrd.mono (by intro k hk; omega), by omega, hr1, hr2, k1.then hc (by intro k hk; omega), ht⟩

def sameI (l l' : List Int) : Bool := decide (l = l')
def SameRel (l l' : List Int) (w : World) (i : Value) (wr : World) : Prop := ∃ k : Nat, k ≤ l.length ∧ i = .int .i64 k ∧ l.take k = l'.take k ∧ Chg (· < w.heap.size) w wr

set_option maxHeartbeats 1000000 in
theorem same_x {S S' : Nat → Prop} (a a' : Option Addr) (n cap n' cap' : Nat) (l l' : List Int) (w : World) (h : Rd 1 encI S w a n l) (h' : Rd 1 encI S' w a' n' l') (hS : ∀ k, S k → k < w.heap.size) (hS' : ∀ k, S' k → k < w.heap.size) (hn : n ≤ 1000000) :
    Calls Try.prog 21 #[.slice a n cap, .slice a' n' cap'] w fun e w' => e = .returned (.bool (sameI l l')) ∧ Chg (· < w.heap.size) w w' := by
  have HL := Lib.hid h.1
  have HL' := Lib.hid h'.1
  by_cases hnn : n = n'
  · subst hnn
    go_enter Try.func21, Try.ntmps21
    go_wp2_with fail
    go_loopw [5] (fun i wr => SameRel l l' w i wr) (fun i _ => n - (intOf i).toNat)
    case atStart => exact ⟨0, by omega, rfl, by simp, Chg.refl _ _⟩
    case round =>
      obtain ⟨k, hk, rfl, he, hc⟩ := hrel
      obtain ⟨wo, rfl⟩ : ∃ wo : World, wo = wr := ⟨_, rfl⟩
      have hkl := HL.out
      by_cases hlt : k < n
      · obtain ⟨x, o, y, rfl, hx, hy, hcell⟩ := (h.chg hc hS).at hlt
        obtain ⟨x', o', y', rfl, hx', hy', hcell'⟩ := (h'.chg hc hS').at hlt
        have e0 : wo.cell? ⟨x, o + k, none⟩ = some (.int .i64 y) := by simpa using hcell 0 _ rfl
        have e0' : wo.cell? ⟨x', o' + k, none⟩ = some (.int .i64 y') := by simpa using hcell' 0 _ rfl
        have Hy := Lib.hid hy
        have Hy' := Lib.hid hy'
        have He := Lib.hid he
        have t1 : (k : Int) < (n : Int) := by omega
        have t2 : (0 : Int) ≤ (k : Int) := by omega
        have w1 : IntKind.i64.wrap (k : Int) = (k : Int) := IntWalk.i64_in _ (by omega)
        clear hy hcell hy' hcell' h h' hkl he
        by_cases hyy : y = y'
        · subst hyy
          have HN : Hid (l.take (k + 1) = l'.take (k + 1)) := by
            show l.take (k + 1) = _
            rw [take_snocI l k _ Hy.out, take_snocI l' k _ Hy'.out, He.out]
          go_wp2_with fail
          go_quiet (fail)
          go_wp2_with fail
          refine ⟨⟨k + 1, by have := HL.out; omega, by go_num, HN.out, hc.drewN _⟩, by simp [intOf]; omega⟩
        · have d1 : (y == y') = false := by simp [hyy]
          have HR : Hid (sameI l l' = false) := by
            show sameI l l' = false
            unfold sameI
            rw [decide_eq_false_iff_not]
            rintro rfl
            have := Hy.out.symm.trans Hy'.out
            exact hyy (by simpa using this)
          clear hyy
          go_wp2_with fail
          go_quiet (fail)
          go_wp2_with fail
          go_ret
          exact ⟨by rw [HR.out]; rfl, hc.drewN _⟩
      · have HR : Hid (sameI l l' = true) := by
          show sameI l l' = true
          unfold sameI
          rw [decide_eq_true_eq, ← List.take_of_length_le (show l.length ≤ k by omega), ← List.take_of_length_le (show l'.length ≤ k by have := HL'.out; omega), he]
        clear h h' hkl he
        go_wp2_with fail
        go_ret
        exact ⟨by rw [HR.out]; rfl, hc⟩
  · have HR : Hid (sameI l l' = false) := by
      show sameI l l' = false
      unfold sameI
      rw [decide_eq_false_iff_not]
      rintro rfl
      exact hnn (HL.out.symm.trans HL'.out)
    have d1 : ((n : Int) == (n' : Int)) = false := by simp; omega
    clear hnn h h'
    go_enter Try.func21, Try.ntmps21
    go_wp2_with fail
    go_ret
    exact ⟨by rw [HR.out]; rfl, Chg.refl _ _⟩

end Go.Proofs.Ytgfnngdkoecciaa
