/- Walks over the strings of the reference of the package wire. -/
import Derived.Test.YtjaemckdfoaopaaDoorWireS
namespace Go.Proofs.YtjaemckdfoaopaaDoor
open Go.RowKit

set_option maxRecDepth 100000 in
set_option maxHeartbeats 1000000 in
theorem appstr_r (a : Option Addr) (n cap : Nat) (b : List UInt8) (s : ByteArray) (w : World) (h : Sl 1 encB w a n b) (hn : n ≤ 200000) (hnil : a = none → cap = 0) (hs : s.size ≤ 200000) :
    Calls Tryd.prog 8 #[.slice a n cap, .string s] w (BytesPost (b ++ encStr s) w) := by
  have HBL := Lib.hid h.len
  have e1 : IntKind.u64.wrap (s.size : Int) = (s.size : Int) := by rw [wrap_u64n]; omega
  have hN : s.size < 18446744073709551616 := by omega
  have HN := Lib.hid hN
  clear hN
  go_enter Tryd.func8, Tryd.ntmps8
  go_wp2_with fail
  refine (appuint_r _ _ _ _ _ _ h hn hnil HN.out).mono ?_
  rintro e w1 ⟨v, rfl, hown, hc⟩
  have hz := hc.size
  have hl : (b ++ encU s.size).length ≤ 200010 := by
    have := encU_length s.size
    have := HBL.out
    simp; omega
  clear h
  go_wp2_with (at_builtin; go_loud (refine wpList_append_string w1 rfl _ _ 23 9 rfl w.heap.size 5 Tryd.underlying23 Tryd.underlying9 Tryd.infoB _ _ hown rfl s rfl (by omega) (by omega) (by omega) ?_); intro v' w3 hown3 _ hch3)
  go_ret
  exact ⟨_, rfl, by unfold encStr; rw [← List.append_assoc]; exact hown3, Chg.trans hc hch3⟩

set_option maxRecDepth 100000 in
set_option maxHeartbeats 1000000 in
theorem string_r (a : Option Addr) (n cap : Nat) (b : List UInt8) (lim : Int) (w : World) (h : Sl 1 encB w a n b) (hn : n ≤ 200000) (hcap : n ≤ cap) (hcap2 : cap ≤ maxLen) (hl1 : lim ≤ 9223372036854775807) :
    Calls Tryd.prog 14 #[.slice a n cap, .int .i64 lim] w fun e w' => e = .returned (.tuple #[.string (strR b lim).1, .int .i64 (strR b lim).2.1, .int .i64 (strR b lim).2.2]) ∧ w = w' := by
  unfold maxLen at hcap2
  have HBL := Lib.hid h.len
  go_enter Tryd.func14, Tryd.ntmps14
  go_wp2_with fail
  refine (uint_r _ _ _ _ _ h hn).mono ?_
  rintro e w1 ⟨rfl, rfl⟩
  cases hd : decU b with
  | none =>
    have h1 : Hid (strR b lim = (ByteArray.empty, 0, 4)) := by show strR b lim = _; unfold strR; rw [hd]
    have h2 : decR b = (0, 0, 4) := by unfold decR; rw [hd]; rfl
    rw [h2]
    clear hd h2 h
    go_wp2_with fail
    go_ret3
    exact ⟨by rw [h1.out]; rfl, rfl⟩
  | some r =>
    obtain ⟨N, K⟩ := r
    have l3 := decU_take hd
    obtain ⟨l1, l2⟩ := decU_lt hd
    have h2 : decR b = (N, K, 0) := by unfold decR; rw [hd]; rfl
    rw [h2]
    have hbl := HBL.out
    by_cases hb1 : lim < 0 ∨ lim < (N : Int)
    · have h1 : Hid (strR b lim = (ByteArray.empty, 0, 3)) := by show strR b lim = _; unfold strR; rw [hd]; simp only []; rw [if_pos hb1]
      clear hd h2 h hbl
      by_cases hl : lim < 0
      · have d1 : decide (lim < 0) = true := by simp; omega
        clear hb1 l1
        go_wp2_with fail
        go_ret3
        exact ⟨by rw [h1.out]; rfl, rfl⟩
      · have d1 : decide (lim < 0) = false := by simp; omega
        have e1 : IntKind.u64.wrap lim = lim := by rw [wrap_u64n]; omega
        have d2 : decide (lim < (N : Int)) = true := by simp; omega
        clear hb1 hl l1
        go_wp2_with fail
        go_ret3
        exact ⟨by rw [h1.out]; rfl, rfl⟩
    · have d1 : decide (lim < 0) = false := by simp; omega
      have e1 : IntKind.u64.wrap lim = lim := by rw [wrap_u64n]; omega
      have d2 : decide (lim < (N : Int)) = false := by simp; omega
      have e2 : IntKind.u64.wrap ((n : Int) - (K : Int)) = (n : Int) - (K : Int) := by rw [wrap_u64n]; omega
      have k1 : (K : Int) ≤ (n : Int) := by omega
      by_cases hb2 : b.length - K < N
      · have h1 : Hid (strR b lim = (ByteArray.empty, 0, 4)) := by show strR b lim = _; unfold strR; rw [hd]; simp only []; rw [if_neg hb1, if_pos hb2]
        have d3 : decide ((n : Int) - (K : Int) < (N : Int)) = true := by simp; omega
        clear hd h2 h hbl hb1 hb2 l1
        go_wp2_with fail
        go_ret3
        exact ⟨by rw [h1.out]; rfl, rfl⟩
      · have h1 : Hid (strR b lim = (strB ((b.drop K).take N), (K : Int) + N, 0)) := by show strR b lim = _; unfold strR; rw [hd]; simp only []; rw [if_neg hb1, if_neg hb2]
        have d3 : decide ((n : Int) - (K : Int) < (N : Int)) = false := by simp; omega
        have k2 : N ≤ 200000 := by omega
        have k3 : K + N ≤ n := by omega
        have e3 : wrap64 (N : Int) = (N : Int) := by unfold wrap64; omega
        obtain ⟨x, o, y, rfl, _⟩ := h.at (j := 0) (by omega)
        have hs2 : Sl 1 encB w (some ⟨x, o + K, none⟩) N ((b.drop K).take N) := by
          have := (h.drop (m := K) (by omega)).take (m := N) (by omega)
          simpa using this
        by_cases hcK : cap = K
        · have hs3 : Sl 1 encB w (some ⟨x, o, none⟩) N ((b.drop K).take N) := ⟨hs2.1, .inl (by omega)⟩
          have hr := run_str (P := Tryd.prog) (cap := 0) Tryd.underlying23 Tryd.underlying5 Tryd.underlying9 hs3
          subst hcK
          clear hd h2 h hbl hb1 hb2 l1 hs2 hs3
          go_wp2_with fail
          go_ret3
          exact ⟨by rw [h1.out]; rfl, rfl⟩
        · have hr := run_str (P := Tryd.prog) (cap := cap - K) Tryd.underlying23 Tryd.underlying5 Tryd.underlying9 hs2
          clear hd h2 h hbl hb1 hb2 l1 hs2
          go_wp2_with fail
          go_ret3
          exact ⟨by rw [h1.out]; rfl, rfl⟩
end Go.Proofs.YtjaemckdfoaopaaDoor
