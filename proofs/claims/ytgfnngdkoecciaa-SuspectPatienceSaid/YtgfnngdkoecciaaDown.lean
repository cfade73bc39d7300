/- The walk over SuspectDown. -/
import Derived.Test.YtgfnngdkoecciaaPlays
import Derived.Test.YtgfnngdkoecciaaWatchF
namespace Go.Proofs.Ytgfnngdkoecciaa
open Go.RowKit

theorem Rd.take {α : Type} {sz n m : Nat} {S : Nat → Prop} {enc : α → List Value} {w : World} {a : Option Addr} {l : List α} (h : Rd sz enc S w a n l) (hm : m ≤ n) : Rd sz enc S w a m (l.take m) := by
  refine ⟨by have := h.1; simp; omega, ?_⟩
  rcases h.2 with h2 | ⟨x, o, e1, e2, e3⟩
  · exact .inl (by omega)
  · refine .inr ⟨x, o, e1, e2, fun j y hj c u hu => e3 j y ?_ c u hu⟩
    rw [List.getElem?_take] at hj
    split at hj
    · exact hj
    · cases hj

def DownRel (l : List Int) (wl : World) (d i : Value) (wr : World) : Prop :=
  ∃ k : Nat, k ≤ l.length ∧ i = .int .i64 k ∧ d = .bool (bouncedW (l.take k)) ∧ Chg (· < wl.heap.size) wl wr

set_option maxHeartbeats 4000000 in
theorem down_walk (a1 : Option Addr) (n1 c1 : Nat) (l1 : List Int) (m : Int) (w : World)
    (h1 : Rd 1 encI (· < w.heap.size) w a1 n1 l1) (hc1 : n1 ≤ c1) (hm1 : c1 ≤ maxLen) :
    Calls Try.prog 5 #[.slice a1 n1 c1, .int .i64 m] w fun e w' => e = .returned (.bool true) ∧ Chg (· < w.heap.size) w w' := by
  obtain ⟨b, hb⟩ : ∃ b, b = w.heap.size := ⟨_, rfl⟩
  go_enter Try.func5, Try.ntmps5
  go_wp2_with fail
  refine (new_x _ _ _ l1 _ h1 (by simp) hc1 hm1).mono ?_
  rintro e w1 ⟨rfl, t1, k1⟩
  rw [← hb] at t1 ⊢
  have HB := Lib.hid hb
  have zb1 := t1.lt2
  have zw : w.heap.size < w1.heap.size := by omega
  have zb : w.heap.size ≤ b := by omega
  clear hb h1
  go_wp2_with fail
  refine (mod_any m 5 _ (by omega) (by omega)).mono ?_
  rintro e w2 ⟨rfl, rfl⟩
  have m0 := Int.emod_nonneg m (show (5 : Int) ≠ 0 by omega)
  have m1 := Int.emod_lt_of_pos m (show (0 : Int) < 5 by omega)
  generalize m % 5 = q at m0 m1 ⊢
  go_wp2_with fail
  refine (events_x40 _ t1 (by omega)).mono ?_
  rintro e w3 ⟨a, n, cap, l, rfl, hrd, hn, hn', hn'', k3, t3⟩
  have z3 := k3.size
  have q3 := k1.then k3 (by intro k hk; omega)
  have r3 := hrd.mono (S' := (· < w3.heap.size)) (fun k hk => hk.2)
  have hl := hrd.1
  have HP : Hid (playW (1 + q) l = (statesW (1, 0, 1 + q) l, 0)) := by
    show playW (1 + q) l = _
    unfold playW; rw [if_pos (by omega), if_neg (by omega)]
  unfold maxLen at hn''
  clear k1 t1 k3 t3 hrd hl
  go_wp2_with fail
  refine (play_p_ok (1 + q) a n cap l _ r3 (fun k hk => hk) (by omega) (by omega)).mono ?_
  rintro e w4 ⟨a4, n4, c4, rfl, r4, hn4, hm4, k4⟩
  rw [HP.out] at r4 ⊢
  have HL := Lib.hid r3.1
  have hn44 : n4 = n := by rw [← r4.1, ← r3.1]; exact statesW_length _ _
  subst hn44
  have z4 := k4.size
  have q4 := q3.then k4 (by intro k hk; omega)
  have s3 := (r3.chg k4 (fun k hk => hk)).mono (S' := (· < w4.heap.size)) (fun k hk => by omega)
  have s4 := r4.mono (S' := (· < w4.heap.size)) (fun k hk => hk.2)
  clear q3 r3 r4 k4
  unfold maxLen at hm4
  go_wp2_with fail
  go_loopw [10, 11] (fun d i wr => DownRel l w4 d i wr) (fun _ i _ => n4 - (intOf i).toNat)
  case atStart => exact ⟨0, by omega, rfl, rfl, Chg.refl _ _⟩
  case round =>
    obtain ⟨k, hk, rfl, rfl, hc⟩ := hrel
    obtain ⟨wo, rfl⟩ : ∃ wo : World, wo = wr := ⟨_, rfl⟩
    have hsz := hc.size
    have hkl := HL.out
    by_cases hlt : k < n4
    · have u3 := s3.chg hc (fun k hk => hk)
      have u4 := s4.chg hc (fun k hk => hk)
      obtain ⟨x, o, y, rfl, hx, hy, hcell⟩ := u3.at hlt
      obtain ⟨x', o', y', rfl, hx', hy', hcell'⟩ := u4.at hlt
      have e0 : wo.cell? ⟨x, o + k, none⟩ = some (.int .i64 y) := by simpa using hcell 0 _ rfl
      have e0' : wo.cell? ⟨x', o' + k, none⟩ = some (.int .i64 y') := by simpa using hcell' 0 _ rfl
      have hyy : y' = (afterW (1 + q) (l.take (k + 1))).1 := by
        rw [statesW_get _ _ _ (by omega), fold_after _ (by omega) (by omega)] at hy'
        exact (Option.some.inj hy').symm
      have hbs : bouncedW (l.take (k + 1)) = (bouncedW (l.take k) || y == 3) := by
        rw [take_snocI l k y hy, bouncedW_snoc]
      have HS := Lib.hid (u3.take (m := k + 1) (by omega))
      obtain ⟨sb0, sb1⟩ := silentW_bd (l.take (k + 1))
      have sb2 : ((l.take (k + 1)).length : Int) ≤ 40 := by simp; omega
      have sb3 : silentW (l.take (k + 1)) ≤ 40 := by omega
      clear hcell hcell' hy' hy u3 u4 s3 s4 hkl sb1 sb2
      have HX := Lib.hid hbs
      have HY := Lib.hid hyy
      clear hbs hyy
      have HE : Hid (l.take (k + 1) = l.take (k + 1)) := Lib.hid rfl
      have fin : k + 1 ≤ l.length := by have := HL.out; omega
      cases hbo : bouncedW (l.take k) with
      | true =>
        have hb1 : bouncedW (l.take (k + 1)) = true := by rw [HX.out, hbo]; rfl
        have hy3 : y' = 3 := by rw [HY.out]; unfold afterW; rw [if_pos hb1]
        subst hy3
        have HB1 := Lib.hid hb1
        clear hb1 hbo
        go_wp2_with fail
        refine (silent_p _ (k + 1) cap _ _ HS.out (by omega)).mono ?_
        rintro e w5 ⟨rfl, rfl⟩
        go_wp2_with fail
        all_goals refine ⟨⟨k + 1, fin, by go_num, by rw [HB1.out], hc⟩, by simp [intOf]; try omega⟩
      | false =>
        by_cases hy3 : y = 3
        · subst hy3
          have hb1 : bouncedW (l.take (k + 1)) = true := by rw [HX.out, hbo]; rfl
          have hy3 : y' = 3 := by rw [HY.out]; unfold afterW; rw [if_pos hb1]
          subst hy3
          have HB1 := Lib.hid hb1
          clear hb1 hbo
          go_wp2_with fail
          refine (silent_p _ (k + 1) cap _ _ HS.out (by omega)).mono ?_
          rintro e w5 ⟨rfl, rfl⟩
          go_wp2_with fail
          all_goals refine ⟨⟨k + 1, fin, by go_num, by rw [HB1.out], hc⟩, by simp [intOf]; try omega⟩
        · have d3 : (y == 3) = false := by simp [hy3]
          have hb1 : bouncedW (l.take (k + 1)) = false := by rw [HX.out, hbo, d3]; rfl
          have HB1 := Lib.hid hb1
          by_cases hs : 1 + q < silentW (l.take (k + 1))
          · have hy2 : y' = 2 := by rw [HY.out]; unfold afterW; rw [hb1, if_neg (by simp), if_pos hs]
            subst hy2
            have ds : decide (1 + q < silentW (l.take (k + 1))) = true := by simpa using hs
            clear hb1 hbo hy3 hs
            go_wp2_with fail
            refine (silent_p _ (k + 1) cap _ _ HS.out (by omega)).mono ?_
            rintro e w5 ⟨rfl, rfl⟩
            go_wp2_with fail
            all_goals refine ⟨⟨k + 1, fin, by go_num, by rw [HB1.out], hc⟩, by simp [intOf]; try omega⟩
          · have hy2 : y' = 1 := by rw [HY.out]; unfold afterW; rw [hb1, if_neg (by simp), if_neg hs]
            subst hy2
            have ds : decide (1 + q < silentW (l.take (k + 1))) = false := by simpa using hs
            clear hb1 hbo hy3 hs
            go_wp2_with fail
            refine (silent_p _ (k + 1) cap _ _ HS.out (by omega)).mono ?_
            rintro e w5 ⟨rfl, rfl⟩
            go_wp2_with fail
            all_goals refine ⟨⟨k + 1, fin, by go_num, by rw [HB1.out], hc⟩, by simp [intOf]; try omega⟩
    · clear s3 s4
      go_wp2_with fail
      refine (sane15_x _).mono ?_
      rintro e w9 ⟨rfl, k9⟩
      go_wp2_with fail
      go_ret
      exact ⟨rfl, (q4.then hc (by intro k hk; omega)).then k9 (by intro k hk; omega)⟩
end Go.Proofs.Ytgfnngdkoecciaa
