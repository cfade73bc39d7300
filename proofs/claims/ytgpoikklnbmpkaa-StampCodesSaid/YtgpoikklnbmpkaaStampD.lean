/- Walks over the decoding of stamps. -/
import Derived.Test.YtgpoikklnbmpkaaStampE
import Derived.Test.YtgpoikklnbmpkaaWireD
namespace Go.Proofs.Ytgpoikklnbmpkaa
open Go.RowKit

def decS (b : List UInt8) : (Int × Int) × Int × Int :=
  match decU b with
  | none => ((0, 0), 0, 4)
  | some (X, K) => if 1099511627776 < X then ((0, 0), 0, 4) else
    match decU (b.drop K) with
    | none => ((0, 0), 0, 4)
    | some (Y, M) => if 1099511627776 < Y then ((0, 0), 0, 4) else ((X, Y), (K : Int) + M, 0)

set_option maxRecDepth 100000 in
set_option maxHeartbeats 2000000 in
theorem dec_p (a : Option Addr) (n cap : Nat) (b : List UInt8) (w : World) (h : Sl 1 encB w a n b) (hn : n ≤ 200000) (hcap : n ≤ cap) (hcap2 : cap ≤ maxLen) :
    Calls Try.prog 27 #[.slice a n cap] w fun e w' => e = .returned (.tuple #[.agg #[.int .i64 (decS b).1.1, .int .i64 (decS b).1.2], .int .i64 (decS b).2.1, .int .i64 (decS b).2.2]) ∧ Ex w w' := by
  unfold maxLen at hcap2
  have q0 := Ex.new w (.cells #[.int .i64 0, .int .i64 0] 23)
  have h0 := h.nx q0
  have HL := Lib.hid h.len
  clear h
  go_enter Try.func27, Try.ntmps27
  go_wp2_with fail
  refine (uint_p _ _ _ _ _ h0 hn).mono ?_
  rintro e w1 ⟨rfl, rfl⟩
  cases hd : decU b with
  | none =>
    have HR : Hid (decS b = ((0, 0), 0, 4)) := by show decS b = _; unfold decS; rw [hd]
    have h2 : decR b = (0, 0, 4) := by unfold decR; rw [hd]; rfl
    rw [h2]
    have Q0 := Lib.hid q0
    clear hd h2 h0 q0
    go_wp2_with fail
    refine bodyPost_ret (v := .tuple #[.agg #[.int .i64 0, .int .i64 0], .int .i64 0, .int .i64 4]) (by simp [results, Try.results27, go_sem, *]) rfl ⟨by rw [HR.out], ?_⟩
    exact Q0.out
  | some r =>
    obtain ⟨X, K⟩ := r
    have l3 := decU_take hd
    have k10 : K ≤ 10 := (decU_lt hd).2
    have h2 : decR b = (X, K, 0) := by unfold decR; rw [hd]; rfl
    rw [h2]
    have hl := HL.out
    have kn : K ≤ n := by omega
    by_cases hX : 1099511627776 < X
    · have HR : Hid (decS b = ((0, 0), 0, 4)) := by show decS b = _; unfold decS; rw [hd]; simp only []; rw [if_pos hX]
      have d1 : decide (1099511627776 < (X : Int)) = true := by simp; omega
      have Q0 := Lib.hid q0
      clear hd h2 h0 q0 hX l3 hl
      go_wp2_with fail
      refine bodyPost_ret (v := .tuple #[.agg #[.int .i64 0, .int .i64 0], .int .i64 0, .int .i64 4]) (by simp [results, Try.results27, go_sem, *]) rfl ⟨by rw [HR.out], ?_⟩
      exact Q0.out
    · have d1 : decide (1099511627776 < (X : Int)) = false := by simp; omega
      have hs2 : ∃ a2 cap2, Sl 1 encB (w.alloc (.cells #[.int .i64 0, .int .i64 0] 23)) a2 (n - K) (b.drop K) ∧ (K = cap → a2 = a ∧ cap2 = 0) ∧ (K < cap → ∃ x o, a = some ⟨x, o, none⟩ ∧ a2 = some ⟨x, o + K, none⟩ ∧ cap2 = cap - K) := by
        obtain ⟨x, o, y, rfl, _⟩ := h0.at (j := 0) (by omega)
        by_cases hK : K = cap
        · exact ⟨_, 0, ⟨by rw [List.length_drop]; omega, .inl (by omega)⟩, fun _ => ⟨rfl, rfl⟩, fun h => by omega⟩
        · have := h0.drop (m := K) kn
          rw [Nat.mul_one] at this
          exact ⟨_, cap - K, this, fun h => absurd h hK, fun _ => ⟨x, o, rfl, rfl, rfl⟩⟩
      obtain ⟨a2, cap2, hs2, hc1, hc2⟩ := hs2
      have main : ∀ (A2 : Option Addr) (C2 : Nat), A2 = a2 → C2 = cap2 → True := fun _ _ _ _ => trivial
      by_cases hK : K = cap
      · have hdn : b.drop K = [] := List.drop_of_length_le (by omega)
        have HR : Hid (decS b = ((0, 0), 0, 4)) := by
          show decS b = _
          unfold decS; rw [hd]; simp only []; rw [if_neg hX, hdn]; rfl
        have h3 : decR [] = (0, 0, 4) := rfl
        have H3 := Lib.hid h3
        have Q0 := Lib.hid q0
        obtain rfl : K = n := by omega
        subst hK
        clear hc1 hc2 h0 main hd h2 q0 hX l3 hl hs2 hdn h3
        go_wp2_with fail
        (with_reducible refine (uint_p _ 0 0 [] _ (Sl.nil _ _ _ _) (by omega)).mono ?_)
        rintro e w2 ⟨rfl, rfl⟩
        rw [H3.out]
        go_wp2_with fail
        refine bodyPost_ret (v := .tuple #[.agg #[.int .i64 0, .int .i64 0], .int .i64 0, .int .i64 4]) (by simp [results, Try.results27, go_sem, *]) rfl ⟨by rw [HR.out], ?_⟩
        first | exact Q0.out | exact Ex.new _ _
      · obtain ⟨x, o, rfl, rfl, rfl⟩ := hc2 (by omega)
        have HC := Lib.hid hc1
        have HD2 := Lib.hid hc2
        have KC := Lib.hid hK
        clear hc1 hc2 h0 main
        go_wp2_with fail
        (with_reducible refine (uint_p _ _ _ _ _ hs2 (by omega)).mono ?_)
        rintro e w2 ⟨rfl, rfl⟩
        cases hd2 : decU (b.drop K) with
        | none =>
          have HR : Hid (decS b = ((0, 0), 0, 4)) := by show decS b = _; unfold decS; rw [hd]; simp only []; rw [if_neg hX, hd2]
          have h3 : decR (b.drop K) = (0, 0, 4) := by unfold decR; rw [hd2]; rfl
          rw [h3]
          have Q0 := Lib.hid q0
          clear hd h2 q0 hX l3 hl hs2 hd2 h3
          go_wp2_with fail
          refine bodyPost_ret (v := .tuple #[.agg #[.int .i64 0, .int .i64 0], .int .i64 0, .int .i64 4]) (by simp [results, Try.results27, go_sem, *]) rfl ⟨by rw [HR.out], ?_⟩
          first | exact Q0.out | exact Ex.new _ _
        | some r2 =>
          obtain ⟨Y, M⟩ := r2
          have h3 : decR (b.drop K) = (Y, M, 0) := by unfold decR; rw [hd2]; rfl
          have l4 := decU_take hd2
          have m10 : M ≤ 10 := (decU_lt hd2).2
          rw [List.length_drop] at l4
          rw [h3]
          have q1 := Lib.hid (((q0.setNew (p := ⟨w.heap.size, 0, none⟩) (.int .i64 X) (by simp)).setNew (p := ⟨w.heap.size, 1, none⟩) (.int .i64 Y) (by simp)))
          by_cases hY : 1099511627776 < Y
          · have HR : Hid (decS b = ((0, 0), 0, 4)) := by show decS b = _; unfold decS; rw [hd]; simp only []; rw [if_neg hX, hd2]; simp only []; rw [if_pos hY]
            have d2 : decide (1099511627776 < (Y : Int)) = true := by simp; omega
            have Q0 := Lib.hid q0
            clear hd h2 q0 hX l3 hl hs2 hd2 h3 hY
            go_wp2_with fail
            refine bodyPost_ret (v := .tuple #[.agg #[.int .i64 0, .int .i64 0], .int .i64 0, .int .i64 4]) (by simp [results, Try.results27, go_sem, *]) rfl ⟨by rw [HR.out], ?_⟩
            first | exact Q0.out | exact Ex.new _ _
          · have HR : Hid (decS b = (((X : Int), (Y : Int)), (K : Int) + M, 0)) := by show decS b = _; unfold decS; rw [hd]; simp only []; rw [if_neg hX, hd2]; simp only []; rw [if_neg hY]
            have d2 : decide (1099511627776 < (Y : Int)) = false := by simp; omega
            have e3 : wrap64 (X : Int) = X := by unfold wrap64; omega
            have e4 : wrap64 (Y : Int) = Y := by unfold wrap64; omega
            have Q0 := Lib.hid q0
            clear hd h2 q0 hX l3 hl hs2 hd2 h3 hY
            go_wp2_with fail
            refine bodyPost_ret (v := .tuple #[.agg #[.int .i64 X, .int .i64 Y], .int .i64 ((K : Int) + M), .int .i64 0]) (by simp [results, Try.results27, go_sem, *]) rfl ⟨by rw [HR.out], ?_⟩
            first | exact Q0.out | exact q1.out | exact Ex.new _ _

set_option maxRecDepth 100000 in
set_option maxHeartbeats 2000000 in
theorem dec_r (a : Option Addr) (n cap : Nat) (b : List UInt8) (w : World) (h : Sl 1 encB w a n b) (hn : n ≤ 200000) (hcap : n ≤ cap) (hcap2 : cap ≤ maxLen) :
    Calls Try.prog 28 #[.slice a n cap] w fun e w' => e = .returned (.tuple #[.agg #[.int .i64 (decS b).1.1, .int .i64 (decS b).1.2], .int .i64 (decS b).2.1, .int .i64 (decS b).2.2]) ∧ Ex w w' := by
  unfold maxLen at hcap2
  have q0 := Ex.new w (.cells #[.int .i64 0, .int .i64 0] 23)
  have h0 := h.nx q0
  have HL := Lib.hid h.len
  clear h
  go_enter Try.func28, Try.ntmps28
  go_wp2_with fail
  refine (uint_r _ _ _ _ _ h0 hn).mono ?_
  rintro e w1 ⟨rfl, rfl⟩
  cases hd : decU b with
  | none =>
    have HR : Hid (decS b = ((0, 0), 0, 4)) := by show decS b = _; unfold decS; rw [hd]
    have h2 : decR b = (0, 0, 4) := by unfold decR; rw [hd]; rfl
    rw [h2]
    have Q0 := Lib.hid q0
    clear hd h2 h0 q0
    go_wp2_with fail
    refine bodyPost_ret (v := .tuple #[.agg #[.int .i64 0, .int .i64 0], .int .i64 0, .int .i64 4]) (by simp [results, Try.results28, go_sem, *]) rfl ⟨by rw [HR.out], ?_⟩
    exact Q0.out
  | some r =>
    obtain ⟨X, K⟩ := r
    have l3 := decU_take hd
    have k10 : K ≤ 10 := (decU_lt hd).2
    have h2 : decR b = (X, K, 0) := by unfold decR; rw [hd]; rfl
    rw [h2]
    have hl := HL.out
    have kn : K ≤ n := by omega
    by_cases hX : 1099511627776 < X
    · have HR : Hid (decS b = ((0, 0), 0, 4)) := by show decS b = _; unfold decS; rw [hd]; simp only []; rw [if_pos hX]
      have d1 : decide (1099511627776 < (X : Int)) = true := by simp; omega
      have Q0 := Lib.hid q0
      clear hd h2 h0 q0 hX l3 hl
      go_wp2_with fail
      refine bodyPost_ret (v := .tuple #[.agg #[.int .i64 0, .int .i64 0], .int .i64 0, .int .i64 4]) (by simp [results, Try.results28, go_sem, *]) rfl ⟨by rw [HR.out], ?_⟩
      exact Q0.out
    · have d1 : decide (1099511627776 < (X : Int)) = false := by simp; omega
      have hs2 : ∃ a2 cap2, Sl 1 encB (w.alloc (.cells #[.int .i64 0, .int .i64 0] 23)) a2 (n - K) (b.drop K) ∧ (K = cap → a2 = a ∧ cap2 = 0) ∧ (K < cap → ∃ x o, a = some ⟨x, o, none⟩ ∧ a2 = some ⟨x, o + K, none⟩ ∧ cap2 = cap - K) := by
        obtain ⟨x, o, y, rfl, _⟩ := h0.at (j := 0) (by omega)
        by_cases hK : K = cap
        · exact ⟨_, 0, ⟨by rw [List.length_drop]; omega, .inl (by omega)⟩, fun _ => ⟨rfl, rfl⟩, fun h => by omega⟩
        · have := h0.drop (m := K) kn
          rw [Nat.mul_one] at this
          exact ⟨_, cap - K, this, fun h => absurd h hK, fun _ => ⟨x, o, rfl, rfl, rfl⟩⟩
      obtain ⟨a2, cap2, hs2, hc1, hc2⟩ := hs2
      have main : ∀ (A2 : Option Addr) (C2 : Nat), A2 = a2 → C2 = cap2 → True := fun _ _ _ _ => trivial
      by_cases hK : K = cap
      · have hdn : b.drop K = [] := List.drop_of_length_le (by omega)
        have HR : Hid (decS b = ((0, 0), 0, 4)) := by
          show decS b = _
          unfold decS; rw [hd]; simp only []; rw [if_neg hX, hdn]; rfl
        have h3 : decR [] = (0, 0, 4) := rfl
        have H3 := Lib.hid h3
        have Q0 := Lib.hid q0
        obtain rfl : K = n := by omega
        subst hK
        clear hc1 hc2 h0 main hd h2 q0 hX l3 hl hs2 hdn h3
        go_wp2_with fail
        (with_reducible refine (uint_r _ 0 0 [] _ (Sl.nil _ _ _ _) (by omega)).mono ?_)
        rintro e w2 ⟨rfl, rfl⟩
        rw [H3.out]
        go_wp2_with fail
        refine bodyPost_ret (v := .tuple #[.agg #[.int .i64 0, .int .i64 0], .int .i64 0, .int .i64 4]) (by simp [results, Try.results28, go_sem, *]) rfl ⟨by rw [HR.out], ?_⟩
        first | exact Q0.out | exact Ex.new _ _
      · obtain ⟨x, o, rfl, rfl, rfl⟩ := hc2 (by omega)
        have HC := Lib.hid hc1
        have HD2 := Lib.hid hc2
        have KC := Lib.hid hK
        clear hc1 hc2 h0 main
        go_wp2_with fail
        (with_reducible refine (uint_r _ _ _ _ _ hs2 (by omega)).mono ?_)
        rintro e w2 ⟨rfl, rfl⟩
        cases hd2 : decU (b.drop K) with
        | none =>
          have HR : Hid (decS b = ((0, 0), 0, 4)) := by show decS b = _; unfold decS; rw [hd]; simp only []; rw [if_neg hX, hd2]
          have h3 : decR (b.drop K) = (0, 0, 4) := by unfold decR; rw [hd2]; rfl
          rw [h3]
          have Q0 := Lib.hid q0
          clear hd h2 q0 hX l3 hl hs2 hd2 h3
          go_wp2_with fail
          refine bodyPost_ret (v := .tuple #[.agg #[.int .i64 0, .int .i64 0], .int .i64 0, .int .i64 4]) (by simp [results, Try.results28, go_sem, *]) rfl ⟨by rw [HR.out], ?_⟩
          first | exact Q0.out | exact Ex.new _ _
        | some r2 =>
          obtain ⟨Y, M⟩ := r2
          have h3 : decR (b.drop K) = (Y, M, 0) := by unfold decR; rw [hd2]; rfl
          have l4 := decU_take hd2
          have m10 : M ≤ 10 := (decU_lt hd2).2
          rw [List.length_drop] at l4
          rw [h3]
          have q1 := Lib.hid (((q0.setNew (p := ⟨w.heap.size, 0, none⟩) (.int .i64 X) (by simp)).setNew (p := ⟨w.heap.size, 1, none⟩) (.int .i64 Y) (by simp)))
          by_cases hY : 1099511627776 < Y
          · have HR : Hid (decS b = ((0, 0), 0, 4)) := by show decS b = _; unfold decS; rw [hd]; simp only []; rw [if_neg hX, hd2]; simp only []; rw [if_pos hY]
            have d2 : decide (1099511627776 < (Y : Int)) = true := by simp; omega
            have Q0 := Lib.hid q0
            clear hd h2 q0 hX l3 hl hs2 hd2 h3 hY
            go_wp2_with fail
            refine bodyPost_ret (v := .tuple #[.agg #[.int .i64 0, .int .i64 0], .int .i64 0, .int .i64 4]) (by simp [results, Try.results28, go_sem, *]) rfl ⟨by rw [HR.out], ?_⟩
            first | exact Q0.out | exact Ex.new _ _
          · have HR : Hid (decS b = (((X : Int), (Y : Int)), (K : Int) + M, 0)) := by show decS b = _; unfold decS; rw [hd]; simp only []; rw [if_neg hX, hd2]; simp only []; rw [if_neg hY]
            have d2 : decide (1099511627776 < (Y : Int)) = false := by simp; omega
            have e3 : wrap64 (X : Int) = X := by unfold wrap64; omega
            have e4 : wrap64 (Y : Int) = Y := by unfold wrap64; omega
            have Q0 := Lib.hid q0
            clear hd h2 q0 hX l3 hl hs2 hd2 h3 hY
            go_wp2_with fail
            refine bodyPost_ret (v := .tuple #[.agg #[.int .i64 X, .int .i64 Y], .int .i64 ((K : Int) + M), .int .i64 0]) (by simp [results, Try.results28, go_sem, *]) rfl ⟨by rw [HR.out], ?_⟩
            first | exact Q0.out | exact q1.out | exact Ex.new _ _
end Go.Proofs.Ytgpoikklnbmpkaa
