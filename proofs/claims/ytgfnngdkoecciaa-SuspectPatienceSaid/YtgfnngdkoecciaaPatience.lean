/- The walk over SuspectPatience. -/
import Derived.Test.YtgfnngdkoecciaaDown
namespace Go.Proofs.Ytgfnngdkoecciaa
open Go.RowKit

/-- no bounce; before the end at most n ticks without an answer; at the end s -/
def Pat (n s : Int) (l : List Int) : Prop := (∀ j : Nat, j < l.length → silentW (l.take j) ≤ n) ∧ bouncedW l = false ∧ silentW l = s
theorem Pat.nil (n : Int) : Pat n 0 [] := ⟨fun j hj => by simp at hj, rfl, rfl⟩
theorem Pat.snoc {n s : Int} {l : List Int} (h : Pat n s l) (hs : s ≤ n) (x : Int) (hx : (x == 3) = false) : Pat n (tickW s x) (l ++ [x]) := by
  obtain ⟨h1, h2, h3⟩ := h
  refine ⟨fun j hj => ?_, by rw [bouncedW_snoc, h2, hx]; rfl, by rw [silentW_snoc, h3]⟩
  rw [List.length_append, List.length_singleton] at hj
  rw [List.take_append_of_le_length (by omega)]
  rcases Nat.lt_or_ge j l.length with hl | hl
  · exact h1 j hl
  · rw [List.take_of_length_le hl, h3]; exact hs
theorem Pat.tick {n s : Int} {l : List Int} (h : Pat n s l) (hs : s ≤ n) : Pat n (s + 1) (l ++ [1]) := by
  have := h.snoc hs 1 rfl
  simpa [tickW] using this
theorem Pat.ack {n s : Int} {l : List Int} (h : Pat n s l) (hs : s ≤ n) : Pat n 0 (l ++ [2]) := by
  have := h.snoc hs 2 rfl
  simpa [tickW] using this
theorem bouncedW_take {l : List Int} (h : bouncedW l = false) (k : Nat) : bouncedW (l.take k) = false := by
  unfold bouncedW at *
  rw [List.any_eq_false] at *
  exact fun x hx => h x (List.mem_of_mem_take hx)

def PatOut (n : Int) (B b base : Nat) (w1 : World) (v i : Value) (wr : World) : Prop :=
  ∃ (k : Nat) (l : List Int), i = .int .i64 k ∧ l.length + 7 * k ≤ 49 ∧ Pat n 0 l ∧ OwnL 1 encI 3 base wr v l ∧ Chg (fun k => k < base ∧ k ≠ b) w1 wr ∧ TP 46 B wr b
def PatIn (n : Int) (K B b base : Nat) (w1 : World) (v i : Value) (wr : World) : Prop :=
  ∃ (k : Nat) (l : List Int) (s : Int), i = .int .i64 k ∧ l.length + k + 7 * K ≤ 48 ∧ 0 ≤ s ∧ s + k ≤ n ∧ Pat n s l ∧ OwnL 1 encI 3 base wr v l ∧ Chg (fun k => k < base ∧ k ≠ b) w1 wr ∧ TP 46 B wr b
def PatEnd (n : Int) (P B b base : Nat) (w1 : World) (v i : Value) (wr : World) : Prop :=
  ∃ (k : Nat) (l : List Int), i = .int .i64 k ∧ (k : Int) ≤ n + 1 ∧ l.length = P + k ∧ Pat n k l ∧ OwnL 1 encI 3 base wr v l ∧ Chg (fun k => k < base ∧ k ≠ b) w1 wr ∧ TP 46 B wr b
def PatChk (wl : World) (i : Value) (wr : World) : Prop :=
  ∃ k : Nat, i = .int .i64 k ∧ Chg (· < wl.heap.size) wl wr

set_option maxHeartbeats 4000000 in
theorem patience_walk (a1 : Option Addr) (n1 c1 : Nat) (l1 : List Int) (m : Int) (w : World)
    (h1 : Rd 1 encI (· < w.heap.size) w a1 n1 l1) (hc1 : n1 ≤ c1) (hm1 : c1 ≤ maxLen) :
    Calls Try.prog 6 #[.slice a1 n1 c1, .int .i64 m] w fun e w' => e = .returned (.bool true) ∧ Chg (· < w.heap.size) w w' := by
  obtain ⟨b, hb⟩ : ∃ b, b = w.heap.size := ⟨_, rfl⟩
  go_enter Try.func6, Try.ntmps6
  go_wp2_with fail
  refine (new_x _ _ _ l1 _ h1 (by simp) hc1 hm1).mono ?_
  rintro e w1 ⟨rfl, t1, k1⟩
  rw [← hb] at t1 ⊢
  have zb1 := t1.lt2
  have zw : w.heap.size < w1.heap.size := by omega
  have zb : w.heap.size ≤ b := by omega
  clear hb h1
  go_wp2_with fail
  refine (mod_any m 6 _ (by omega) (by omega)).mono ?_
  rintro e w2 ⟨rfl, rfl⟩
  have m0 := Int.emod_nonneg m (show (6 : Int) ≠ 0 by omega)
  have m1 := Int.emod_lt_of_pos m (show (0 : Int) < 6 by omega)
  generalize m % 6 = q at m0 m1 ⊢
  go_wp2_with fail
  refine (next_x _ _ t1 (by omega)).mono ?_
  rintro e w2 ⟨r, rfl, r0, r1, k2, t2⟩
  rw [if_neg (by omega)] at r1
  obtain ⟨r, rfl⟩ := Int.eq_ofNat_of_zero_le r0
  have q2 := k1.then k2 (by intro k hk; omega)
  have z2 := k2.size
  clear k1 k2 t1
  go_wp2_with fail
  go_loopw [7, 8] (fun v i wr => PatOut (1 + q) (b + 1) b w2.heap.size w2 v i wr) (fun _ i _ => (intOf i).toNat)
  case atStart => exact ⟨r, [], rfl, by simp; omega, Pat.nil _, OwnL.nil _ _ _ _ _, Chg.refl _ _, t2⟩
  case round =>
    obtain ⟨k, l, rfl, hk, hp, hown, hc, ht⟩ := hrel
    obtain ⟨wo, rfl⟩ : ∃ wo : World, wo = wr := ⟨_, rfl⟩
    have hz := hc.size
    by_cases hk0 : 0 < k
    · go_wp2_with fail
      refine (next_x _ _ ht (by omega)).mono ?_
      rintro e w3 ⟨x, rfl, x0, x1, k3, t3⟩
      rw [if_neg (by omega)] at x1
      obtain ⟨x, rfl⟩ := Int.eq_ofNat_of_zero_le x0
      have hz3 := k3.size
      have hown3 := hown.chg k3 (fun k hk hv => ⟨hk, by have := (hown.lt k hv).1; omega⟩)
      have hc3 := hc.then k3 (by intro k hk; omega)
      clear hown ht hc k3
      go_wp2_with fail
      go_loopw [7, 9] (fun v i wr => PatIn (1 + q) (k - 1) (b + 1) b w2.heap.size w2 v i wr) (fun _ i _ => (intOf i).toNat)
      case atStart => exact ⟨x, l, 0, rfl, by omega, by omega, by omega, hp, hown3, hc3, t3⟩
      case round =>
        clear hp hown3 hc3 t3 hk
        obtain ⟨j, l, s, rfl, hk, s0, s1, hp, hown, hc, ht⟩ := hrel
        obtain ⟨wo, rfl⟩ : ∃ wo : World, wo = wr := ⟨_, rfl⟩
        have hz := hc.size
        by_cases hj0 : 0 < j
        · go_wp2_with (at_builtin; go_loud (refine wpList_append_lit (enc := encI) wo rfl _ _ 22 rfl w2.heap.size 3 (.int .i64 0) 1 8 Try.underlying22 Try.infoI rfl (by omega) (by omega) _ l hown rfl 1 _ rfl rfl (by simp [encI, Value.oneCell']) _ rfl rfl (by omega) (by omega) _ ?_); intro v' w4 hown4 hch4' hch4 hz4)
          go_roundw
          case rel =>
            refine ⟨j - 1, l ++ [1], s + 1, ?_, by simp; omega, by omega, by omega, hp.tick (by omega), hown4, hc.then hch4 (by intro k hk; omega), ht.chg hch4 (by intro k hk; omega)⟩
            rw [show ((j - 1 : Nat) : Int) = (j : Int) - 1 by omega]
          case measure => simp [intOf]; omega
        · go_wp2_with (at_builtin; go_loud (refine wpList_append_lit (enc := encI) wo rfl _ _ 22 rfl w2.heap.size 3 (.int .i64 0) 1 8 Try.underlying22 Try.infoI rfl (by omega) (by omega) _ l hown rfl 2 _ rfl rfl (by simp [encI, Value.oneCell']) _ rfl rfl (by omega) (by omega) _ ?_); intro v' w4 hown4 hch4' hch4 hz4)
          go_roundw
          case rel =>
            refine ⟨k - 1, l ++ [2], ?_, by simp; omega, hp.ack (by omega), hown4, hc.then hch4 (by intro k hk; omega), ht.chg hch4 (by intro k hk; omega)⟩
            rw [show ((k - 1 : Nat) : Int) = (k : Int) - 1 by omega]
          case measure => simp [intOf]; omega
    · obtain ⟨a, cap, rfl, hrd, hr1, hr2, _⟩ := hown.rd (fun _ => rfl)
      clear hrd
      unfold maxLen at hr2
      have hk0' : k = 0 := by omega
      subst hk0'
      rw [show ((0 : Nat) : Int) = 0 from rfl]
      obtain ⟨P, hP⟩ : ∃ P, P = l.length := ⟨_, rfl⟩
      rw [← hP] at hown hk hr1 ⊢
      have HPP := Lib.hid hP
      clear hP
      go_wp2_with fail
      go_loopw [7, 11] (fun v i wr => PatEnd (1 + q) P (b + 1) b w2.heap.size w2 v i wr) (fun _ i _ => 8 - (intOf i).toNat)
      case atStart => exact ⟨0, l, rfl, by omega, HPP.out.symm, hp, hown, hc, ht⟩
      case round =>
        clear hown hc ht hp hr1 hr2 HPP
        obtain ⟨j, l, rfl, hj, hlen, hp, hown, hc, ht⟩ := hrel
        obtain ⟨wo, rfl⟩ : ∃ wo : World, wo = wr := ⟨_, rfl⟩
        have hz := hc.size
        by_cases hj0 : (j : Int) ≤ 1 + q
        · go_wp2_with (at_builtin; go_loud (refine wpList_append_lit (enc := encI) wo rfl _ _ 22 rfl w2.heap.size 3 (.int .i64 0) 1 8 Try.underlying22 Try.infoI rfl (by omega) (by omega) _ l hown rfl 1 _ rfl rfl (by simp [encI, Value.oneCell']) _ rfl rfl (by omega) (by omega) _ ?_); intro v' w4 hown4 hch4' hch4 hz4)
          go_roundw
          case rel =>
            refine ⟨j + 1, l ++ [1], by go_num, by omega, by simp; omega, ?_, hown4, hc.then hch4 (by intro k hk; omega), ht.chg hch4 (by intro k hk; omega)⟩
            have := hp.tick hj0
            rwa [show (((j + 1 : Nat) : Int)) = (j : Int) + 1 by omega]
          case measure => simp [intOf]; omega
        · have hj1 : (j : Int) = 1 + q + 1 := by omega
          obtain ⟨a, cap, rfl, hrd, hr1, hr2, _⟩ := hown.rd (fun _ => rfl)
          have q5 := q2.then hc (by intro k hk; omega)
          have hll : l.length ≤ 60 := by omega
          have r3 := hrd.mono (S' := (· < wo.heap.size)) (fun k hk => hk.2)
          have HP : Hid (playW (1 + q) l = (statesW (1, 0, 1 + q) l, 0)) := by
            show playW (1 + q) l = _
            unfold playW; rw [if_pos (by omega), if_neg (by omega)]
          have HPat := Lib.hid hp
          obtain ⟨n, hn⟩ : ∃ n, n = l.length := ⟨_, rfl⟩
          have HN := Lib.hid hn
          rw [← hn] at r3 hlen hll hr1 ⊢
          clear hn hown hc ht hrd hp
          unfold maxLen at hr2
          have HJ := Lib.hid hj1
          have HLen := Lib.hid hlen
          have jl1 : (j : Int) ≤ 8 := by omega
          have jl2 : j ≤ n := by omega
          clear hj1 hlen
          go_wp2_with fail
          refine (play_p_ok (1 + q) a n cap l _ r3 (fun k hk => hk) (by omega) (by omega)).mono ?_
          rintro e w4 ⟨a4, n4, c4, rfl, r4, hn4, hm4, k4⟩
          rw [HP.out] at r4 ⊢
          have hn44 : n4 = n := by rw [← r4.1, ← r3.1]; exact statesW_length _ _
          subst hn44
          have z4 := k4.size
          have q4 := q5.then k4 (by intro k hk; omega)
          have s4 := r4.mono (S' := (· < w4.heap.size)) (fun k hk => hk.2)
          clear q5 r3 r4 k4
          unfold maxLen at hm4
          go_wp2_with fail
          go_loopw [14] (fun i wr => PatChk w4 i wr) (fun i _ => n4 - (intOf i).toNat)
          case atStart => exact ⟨0, rfl, Chg.refl _ _⟩
          case round =>
            obtain ⟨k, rfl, hc⟩ := hrel
            obtain ⟨wo, rfl⟩ : ∃ wo : World, wo = wr := ⟨_, rfl⟩
            have hsz := hc.size
            by_cases hlt : k < n4
            · have u4 := s4.chg hc (fun k hk => hk)
              obtain ⟨x', o', y', rfl, hx', hy', hcell'⟩ := u4.at hlt
              have e0' : wo.cell? ⟨x', o' + k, none⟩ = some (.int .i64 y') := by simpa using hcell' 0 _ rfl
              have hyy : y' = (afterW (1 + q) (l.take (k + 1))).1 := by
                rw [statesW_get _ _ _ (by have := HN.out; omega), fold_after _ (by omega) (by omega)] at hy'
                exact (Option.some.inj hy').symm
              have hb0 := bouncedW_take HPat.out.2.1 (k + 1)
              clear hcell' hy' u4
              by_cases hke : k + 1 = n4
              · have hs : 1 + q < silentW (l.take (k + 1)) := by
                  rw [List.take_of_length_le (by have := HN.out; omega), HPat.out.2.2, HJ.out]; omega
                have hy2 : y' = 2 := by rw [hyy]; unfold afterW; rw [hb0, if_neg (by simp), if_pos hs]
                subst hy2
                have d1 : ((k : Int) == (n4 : Int) - 1) = true := by simp; omega
                clear hyy hb0 hs hke
                go_wp2_with fail
                all_goals refine ⟨⟨k + 1, by go_num, hc⟩, by simp [intOf]; try omega⟩
              · have hs : ¬ 1 + q < silentW (l.take (k + 1)) := by
                  have := HPat.out.1 (k + 1) (by have := HN.out; omega)
                  omega
                have hy2 : y' = 1 := by rw [hyy]; unfold afterW; rw [hb0, if_neg (by simp), if_neg hs]
                subst hy2
                have d1 : ((k : Int) == (n4 : Int) - 1) = false := by simp; omega
                clear hyy hb0 hs hke
                go_wp2_with fail
                all_goals refine ⟨⟨k + 1, by go_num, hc⟩, by simp [intOf]; try omega⟩
            · clear s4
              have d1 : ((P : Int) + (1 + q) + 1 == (n4 : Int)) = true := by
                have := HLen.out; have := HJ.out; simp; omega
              go_wp2_with fail
              refine (sane15_x _).mono ?_
              rintro e w9 ⟨rfl, k9⟩
              go_wp2_with fail
              go_ret
              exact ⟨rfl, (q4.then hc (by intro k hk; omega)).then k9 (by intro k hk; omega)⟩
end Go.Proofs.Ytgfnngdkoecciaa
