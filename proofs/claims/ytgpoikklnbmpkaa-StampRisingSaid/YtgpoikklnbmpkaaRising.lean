/- Walks over Rising of the package stamp and of its reference. -/
import Derived.Test.YtgpoikklnbmpkaaStamp
import Derived.Deep.RegionHeld3
namespace Go.Proofs.Ytgpoikklnbmpkaa
open Go.RowKit

def upAt (l : List (Int × Int)) (j : Nat) : Prop := cmpS (l.getD (j - 1) (0, 0)).1 (l.getD (j - 1) (0, 0)).2 (l.getD j (0, 0)).1 (l.getD j (0, 0)).2 < 0
instance (l : List (Int × Int)) (j : Nat) : Decidable (upAt l j) := by unfold upAt; infer_instance
def risingS (l : List (Int × Int)) : Bool := decide (∀ j, j < l.length → 1 ≤ j → upAt l j)

theorem cmpS_bd (a b c d : Int) : -1 ≤ cmpS a b c d ∧ cmpS a b c d ≤ 1 := by
  unfold cmpS; split <;> (try split) <;> omega
theorem keep4a {w w' : World} {a0 a1 a2 a3 : Addr} {x0 x1 x2 x3 : Value} (k : Chg (· < w.heap.size) w w') (h : w.cell? a0 = some x0 ∧ w.cell? a1 = some x1 ∧ w.cell? a2 = some x2 ∧ w.cell? a3 = some x3) :
    w'.cell? a0 = some x0 ∧ w'.cell? a1 = some x1 ∧ w'.cell? a2 = some x2 ∧ w'.cell? a3 = some x3 :=
  ⟨k.cellv h.1 (World.block_lt_of_cell? w _ h.1), k.cellv h.2.1 (World.block_lt_of_cell? w _ h.2.1), k.cellv h.2.2.1 (World.block_lt_of_cell? w _ h.2.2.1), k.cellv h.2.2.2 (World.block_lt_of_cell? w _ h.2.2.2)⟩
def RiseRel (l : List (Int × Int)) (w : World) (i : Value) (wr : World) : Prop :=
  ∃ k : Nat, (k < l.length ∨ k = 0) ∧ i = .int .i64 ((k : Int) + 1) ∧ (∀ j, j < k + 1 → 1 ≤ j → upAt l j) ∧ Chg (· < w.heap.size) w wr

set_option maxHeartbeats 1000000 in
theorem rising_p {S : Nat → Prop} (a : Option Addr) (n cap : Nat) (l : List (Int × Int)) (w : World) (h : Rd 2 encS S w a n l) (hS : ∀ k, S k → k < w.heap.size) (hn : n ≤ 100) :
    Calls Try.prog 22 #[.slice a n cap] w fun e w' => e = .returned (.bool (risingS l)) ∧ Chg (· < w.heap.size) w w' := by
  have hlen := h.1
  go_enter Try.func22, Try.ntmps22
  go_wp2
  go_loopw [3] (fun i wr => RiseRel l w i wr) (fun i _ => n - (intOf i).toNat)
  case atStart => exact ⟨0, .inr rfl, rfl, by omega, Chg.refl _ _⟩
  case round =>
    obtain ⟨k, hk, rfl, hu, hc⟩ := hrel
    obtain ⟨wo, rfl⟩ : ∃ wo : World, wo = wr := ⟨_, rfl⟩
    have hwo := h.chg hc hS
    have Hu := Lib.hid hu
    have Hl := Lib.hid hlen
    clear hu
    by_cases hlt : k + 1 < n
    · obtain ⟨x, o, y, rfl, hx, hy, hcell⟩ := hwo.at hlt
      obtain ⟨x', o', y', e1, hx', hy', hcell'⟩ := hwo.at (show k < n by omega)
      cases e1
      have e0 : wo.cell? ⟨x, o + (k + 1) * 2, none⟩ = some (.int .i64 y.1) := hcell 0 _ rfl
      have e1 : wo.cell? ⟨x, o + (k + 1) * 2 + 1, none⟩ = some (.int .i64 y.2) := hcell 1 _ rfl
      have e0' : wo.cell? ⟨x, o + k * 2, none⟩ = some (.int .i64 y'.1) := hcell' 0 _ rfl
      have e1' : wo.cell? ⟨x, o + k * 2 + 1, none⟩ = some (.int .i64 y'.2) := hcell' 1 _ rfl
      have Hcmp : Hid (upAt l (k + 1) ↔ cmpS y'.1 y'.2 y.1 y.2 < 0) := by
        show upAt l (k + 1) ↔ _
        unfold upAt
        have hy' : l[k]? = some y' := hy'
        simp [List.getD, hy, hy']
      obtain ⟨b1, b2⟩ := cmpS_bd y'.1 y'.2 y.1 y.2
      have d1 : decide ((k : Int) + 1 < (n : Int)) = true := by simp; omega
      have w1 : IntKind.i64.wrap ((k : Int) + 1) = (k : Int) + 1 := IntWalk.i64_in _ (by omega)
      have w2 : IntKind.i64.wrap (k : Int) = (k : Int) := IntWalk.i64_in _ (by omega)
      have t1 : ((k : Int) + 1).toNat = k + 1 := by omega
      have t2 : (0 : Int) ≤ (k : Int) := by omega
      have t3 : (k : Int) < (n : Int) := by omega
      have t4 : (0 : Int) ≤ (k : Int) + 1 := by omega
      have t5 : (k : Int) + 1 < (n : Int) := by omega
      clear hy hcell hy' hcell' h hwo hlen
      go_wp2_with fail
      go_region_held3 (fun w' => w'.cell? ⟨x, o + k * 2, none⟩ = some (.int .i64 y'.1) ∧ w'.cell? ⟨x, o + k * 2 + 1, none⟩ = some (.int .i64 y'.2) ∧ w'.cell? ⟨x, o + (k + 1) * 2, none⟩ = some (.int .i64 y.1) ∧ w'.cell? ⟨x, o + (k + 1) * 2 + 1, none⟩ = some (.int .i64 y.2))
        (first | exact keep4a (by assumption) (by assumption) | go_keep)
        (first | (go_at_call 17; refine (cmp_p _ _ _ _ _).mono ?_; rintro e v1 ⟨rfl, kk⟩))
      have hc1 : Chg (· < w.heap.size) w v1 := hc.drew.next kk
      by_cases hup : cmpS y'.1 y'.2 y.1 y.2 < 0
      · have hge : ¬ 0 ≤ cmpS y'.1 y'.2 y.1 y.2 := by omega
        go_wp2_with fail
        refine ⟨⟨k + 1, .inl (by have := Hl.out; omega), ?_, ?_, hc1⟩, by simp [intOf]; omega⟩
        · simp
        · intro j hj hj1
          by_cases hjk : j = k + 1
          · subst hjk; exact Hcmp.out.2 hup
          · exact Hu.out j (by omega) hj1
      · have hge : 0 ≤ cmpS y'.1 y'.2 y.1 y.2 := by omega
        have HR : Hid (risingS l = false) := by
          show risingS l = false
          unfold risingS
          rw [decide_eq_false_iff_not]
          exact fun hall => hup (Hcmp.out.1 (hall (k + 1) (by have := Hl.out; omega) (by omega)))
        go_wp2_with fail
        go_ret
        exact ⟨by rw [HR.out]; rfl, hc1⟩
    · have HR : Hid (risingS l = true) := by
        show risingS l = true
        unfold risingS
        rw [decide_eq_true_eq]
        exact fun j hj hj1 => Hu.out j (by omega) hj1
      have d1 : decide ((k : Int) + 1 < (n : Int)) = false := by simp; omega
      go_wp2_with fail
      go_ret
      exact ⟨by rw [HR.out]; rfl, hc⟩

set_option maxHeartbeats 1000000 in
theorem rising_r {S : Nat → Prop} (a : Option Addr) (n cap : Nat) (l : List (Int × Int)) (w : World) (h : Rd 2 encS S w a n l) (hS : ∀ k, S k → k < w.heap.size) (hn : n ≤ 100) :
    Calls Try.prog 23 #[.slice a n cap] w fun e w' => e = .returned (.bool (risingS l)) ∧ Chg (· < w.heap.size) w w' := by
  have hlen := h.1
  go_enter Try.func23, Try.ntmps23
  go_wp2
  go_loopw [3] (fun i wr => RiseRel l w i wr) (fun i _ => n - (intOf i).toNat)
  case atStart => exact ⟨0, .inr rfl, rfl, by omega, Chg.refl _ _⟩
  case round =>
    obtain ⟨k, hk, rfl, hu, hc⟩ := hrel
    obtain ⟨wo, rfl⟩ : ∃ wo : World, wo = wr := ⟨_, rfl⟩
    have hwo := h.chg hc hS
    have Hu := Lib.hid hu
    have Hl := Lib.hid hlen
    clear hu
    by_cases hlt : k + 1 < n
    · obtain ⟨x, o, y, rfl, hx, hy, hcell⟩ := hwo.at hlt
      obtain ⟨x', o', y', e1, hx', hy', hcell'⟩ := hwo.at (show k < n by omega)
      cases e1
      have e0 : wo.cell? ⟨x, o + (k + 1) * 2, none⟩ = some (.int .i64 y.1) := hcell 0 _ rfl
      have e1 : wo.cell? ⟨x, o + (k + 1) * 2 + 1, none⟩ = some (.int .i64 y.2) := hcell 1 _ rfl
      have e0' : wo.cell? ⟨x, o + k * 2, none⟩ = some (.int .i64 y'.1) := hcell' 0 _ rfl
      have e1' : wo.cell? ⟨x, o + k * 2 + 1, none⟩ = some (.int .i64 y'.2) := hcell' 1 _ rfl
      have Hcmp : Hid (upAt l (k + 1) ↔ cmpS y'.1 y'.2 y.1 y.2 < 0) := by
        show upAt l (k + 1) ↔ _
        unfold upAt
        have hy' : l[k]? = some y' := hy'
        simp [List.getD, hy, hy']
      obtain ⟨b1, b2⟩ := cmpS_bd y'.1 y'.2 y.1 y.2
      have d1 : decide ((k : Int) + 1 < (n : Int)) = true := by simp; omega
      have w1 : IntKind.i64.wrap ((k : Int) + 1) = (k : Int) + 1 := IntWalk.i64_in _ (by omega)
      have w2 : IntKind.i64.wrap (k : Int) = (k : Int) := IntWalk.i64_in _ (by omega)
      have t1 : ((k : Int) + 1).toNat = k + 1 := by omega
      have t2 : (0 : Int) ≤ (k : Int) := by omega
      have t3 : (k : Int) < (n : Int) := by omega
      have t4 : (0 : Int) ≤ (k : Int) + 1 := by omega
      have t5 : (k : Int) + 1 < (n : Int) := by omega
      clear hy hcell hy' hcell' h hwo hlen
      go_wp2_with fail
      go_region_held3 (fun w' => w'.cell? ⟨x, o + k * 2, none⟩ = some (.int .i64 y'.1) ∧ w'.cell? ⟨x, o + k * 2 + 1, none⟩ = some (.int .i64 y'.2) ∧ w'.cell? ⟨x, o + (k + 1) * 2, none⟩ = some (.int .i64 y.1) ∧ w'.cell? ⟨x, o + (k + 1) * 2 + 1, none⟩ = some (.int .i64 y.2))
        (first | exact keep4a (by assumption) (by assumption) | go_keep)
        (first | (go_at_call 18; refine (cmp_r _ _ _ _ _).mono ?_; rintro e v1 ⟨rfl, kk⟩))
      have hc1 : Chg (· < w.heap.size) w v1 := hc.drew.next kk
      by_cases hup : cmpS y'.1 y'.2 y.1 y.2 < 0
      · have hge : ¬ 0 ≤ cmpS y'.1 y'.2 y.1 y.2 := by omega
        go_wp2_with fail
        refine ⟨⟨k + 1, .inl (by have := Hl.out; omega), ?_, ?_, hc1⟩, by simp [intOf]; omega⟩
        · simp
        · intro j hj hj1
          by_cases hjk : j = k + 1
          · subst hjk; exact Hcmp.out.2 hup
          · exact Hu.out j (by omega) hj1
      · have hge : 0 ≤ cmpS y'.1 y'.2 y.1 y.2 := by omega
        have HR : Hid (risingS l = false) := by
          show risingS l = false
          unfold risingS
          rw [decide_eq_false_iff_not]
          exact fun hall => hup (Hcmp.out.1 (hall (k + 1) (by have := Hl.out; omega) (by omega)))
        go_wp2_with fail
        go_ret
        exact ⟨by rw [HR.out]; rfl, hc1⟩
    · have HR : Hid (risingS l = true) := by
        show risingS l = true
        unfold risingS
        rw [decide_eq_true_eq]
        exact fun j hj hj1 => Hu.out j (by omega) hj1
      have d1 : decide ((k : Int) + 1 < (n : Int)) = false := by simp; omega
      go_wp2_with fail
      go_ret
      exact ⟨by rw [HR.out]; rfl, hc⟩

end Go.Proofs.Ytgpoikklnbmpkaa
