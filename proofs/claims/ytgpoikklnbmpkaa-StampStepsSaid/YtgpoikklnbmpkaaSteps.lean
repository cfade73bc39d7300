/- The walk over the statement StampSteps. -/
import Derived.Test.YtgpoikklnbmpkaaAwake
import Derived.Test.YtgpoikklnbmpkaaSome
import Derived.Deep.RegionHeld3
namespace Go.Proofs.Ytgpoikklnbmpkaa
open Go.RowKit

theorem next_p2 {a b x y z : Int} (h : Hid (nextS a b = ((x, y), z))) (w : World) :
    Calls Try.prog 12 #[.agg #[.int .i64 a, .int .i64 b]] w fun e w' => e = .returned (.tuple #[.agg #[.int .i64 x, .int .i64 y], .int .i64 z]) ∧ Chg (· < w.heap.size) w w' := by
  have := next_p a b w; rw [h.out] at this; exact this
theorem next_r2 {a b x y z : Int} (h : Hid (nextS a b = ((x, y), z))) (w : World) :
    Calls Try.prog 13 #[.agg #[.int .i64 a, .int .i64 b]] w fun e w' => e = .returned (.tuple #[.agg #[.int .i64 x, .int .i64 y], .int .i64 z]) ∧ Chg (· < w.heap.size) w w' := by
  have := next_r a b w; rw [h.out] at this; exact this
theorem renew_p2 {S : Nat → Prop} {a : Option Addr} {n cap : Nat} {l : List (Int × Int)} {x y z : Int} (H : Hid (renewS l = ((x, y), z))) (w : World) (h : Rd 2 encS S w a n l) (hS : ∀ k, S k → k < w.heap.size) (hn : n ≤ 100) :
    Calls Try.prog 15 #[.slice a n cap] w fun e w' => e = .returned (.tuple #[.agg #[.int .i64 x, .int .i64 y], .int .i64 z]) ∧ Chg (· < w.heap.size) w w' := by
  have := renew_p a n cap l w h hS hn; rw [H.out] at this; exact this
theorem renew_r2 {S : Nat → Prop} {a : Option Addr} {n cap : Nat} {l : List (Int × Int)} {x y z : Int} (H : Hid (renewS l = ((x, y), z))) (w : World) (h : Rd 2 encS S w a n l) (hS : ∀ k, S k → k < w.heap.size) (hn : n ≤ 100) :
    Calls Try.prog 16 #[.slice a n cap] w fun e w' => e = .returned (.tuple #[.agg #[.int .i64 x, .int .i64 y], .int .i64 z]) ∧ Chg (· < w.heap.size) w w' := by
  have := renew_r a n cap l w h hS hn; rw [H.out] at this; exact this
theorem ex_stamp (s : (Int × Int) × Int) : ∃ x y z, s = ((x, y), z) := ⟨s.1.1, s.1.2, s.2, rfl⟩

theorem some_x4 {B b : Nat} (w : World) (h : TP 55 B w b) (hB : B ≤ w.heap.size) :
    Calls Try.prog 14 #[.pointer (some ⟨b, 0, none⟩), .int .i64 4] w (SomeStamps 4 B b w) := some_x 4 w h hB (by omega)

def IdxRel (N : Nat) (w2 : World) (i : Value) (wr : World) : Prop := ∃ k : Nat, k ≤ N ∧ i = .int .i64 k ∧ Chg (· < w2.heap.size) w2 wr

set_option maxHeartbeats 2000000 in
theorem steps_walk (s0 s1 : Int) (a1 : Option Addr) (n1 c1 : Nat) (l1 : List (Int × Int)) (a2 : Option Addr) (n2 c2 : Nat) (l2 : List Int) (w : World)
    (h1 : Rd 2 encS (· < w.heap.size) w a1 n1 l1) (h2 : Rd 1 encI (· < w.heap.size) w a2 n2 l2) (hc2 : n2 ≤ c2) (hm2 : c2 ≤ maxLen) :
    Calls Try.prog 3 #[.agg #[.int .i64 s0, .int .i64 s1], .slice a1 n1 c1, .slice a2 n2 c2] w fun e w' => e = .returned (.bool true) ∧ Chg (· < w.heap.size) w w' := by
  have q0 : Chg (· < w.heap.size) w (w.alloc (.cells #[.int .i64 s0, .int .i64 s1] 23)) := (Chg.refl _ _).alloc _ (by simp)
  by_cases hn : 100 < n1
  · go_enter Try.func3, Try.ntmps3
    go_wp2_with (go_at_call 8; refine (awake_x _).mono ?_; rintro e w1 ⟨rfl, k1⟩)
    go_ret
    exact ⟨rfl, q0.then k1 (by simp; omega)⟩
  · go_enter Try.func3, Try.ntmps3
    go_wp2_with (go_at_call 9; refine (new_x _ _ _ l2 _ (h2.chg q0 (fun _ h => h)) (by simp; omega) hc2 hm2).mono ?_; rintro e w1 ⟨rfl, t1, k1⟩)
    have t1 : TP 55 (w.heap.size + 2) w1 (w.heap.size + 1) := by simpa using t1
    have q1 : Chg (· < w.heap.size) w w1 := q0.then k1 (by simp; omega)
    have c0 : w1.cell? ⟨w.heap.size, 0, none⟩ = some (.int .i64 s0) := k1.cellv (by simp) (by simp)
    have c1 : w1.cell? ⟨w.heap.size, 1, none⟩ = some (.int .i64 s1) := k1.cellv (by simp) (by simp)
    have z1 : w.heap.size + 1 < w1.heap.size := by
      obtain ⟨_, _, _, _, _, _, hb, _⟩ := t1
      exact heap_lt hb
    clear k1 q0
    go_region_held3 (fun w' => w'.cell? ⟨w.heap.size, 0, none⟩ = some (.int .i64 s0) ∧ w'.cell? ⟨w.heap.size, 1, none⟩ = some (.int .i64 s1))
      (first | exact ⟨by assumption, by assumption⟩ | go_keep)
      (first
        | (go_at_call 10; refine (odd_x _ (show TP _ _ w1.drew _ from t1) (by simp; omega)).mono ?_; rintro e w2 ⟨x1, y1, rfl, _, _, _, _, k2, t2⟩; have d0 := k2.cellv c0 (by simp; omega); have d1 := k2.cellv c1 (by simp; omega))
        | (go_at_call 11; refine (stamp_x _ t2 (by have := k2.size; simp at this; omega)).mono ?_; rintro e w3 ⟨x2, y2, rfl, _, _, _, _, k3, t3⟩; have f0 := k3.cellv d0 (by have := k2.size; simp at this; simp; omega); have f1 := k3.cellv d1 (by have := k2.size; simp at this; simp; omega)))
    have q2 : Chg (· < w.heap.size) w w2 := q1.drew.then k2 (by intro k hk; show k < w1.heap.size ∧ _; omega)
    have q3 : Chg (· < w.heap.size) w w3 := q2.then k3 (by intro k hk; have := q2.size; omega)
    have z2 : w.heap.size + 1 < w2.heap.size := by have : w1.heap.size ≤ _ := k2.size; omega
    have z3 : w.heap.size + 1 < w3.heap.size := by have := k3.size; omega
    have hl : Rd 2 encS (· = w3.heap.size) (w3.alloc (.cells #[.int .i64 s0, .int .i64 s1, .int .i64 x1, .int .i64 y1, .int .i64 x2, .int .i64 y2] 23)) (some ⟨w3.heap.size, 0, none⟩) 3 [(s0, s1), (x1, y1), (x2, y2)] :=
      Rd.lit _ rfl rfl rfl (fun _ => rfl) rfl
    clear k2 k3 c0 c1 d0 d1 f0 f1 q1 q2 t1 t2
    go_wp2_with fail
    obtain ⟨wl, hwl⟩ : ∃ wl, wl = w3.alloc (.cells #[.int .i64 s0, .int .i64 s1, .int .i64 x1, .int .i64 y1, .int .i64 x2, .int .i64 y2] 23) := ⟨_, rfl⟩
    have ql : Chg (· < w.heap.size) w wl := by rw [hwl]; exact q3.alloc _ (by intro k hk; omega)
    have tl : TP 55 (w.heap.size + 2) wl (w.heap.size + 1) := by rw [hwl]; exact t3.chg ((Chg.refl (· < w3.heap.size) _).alloc _ (by simp)) (by intro k hk; omega)
    have zl : w3.heap.size < wl.heap.size := by rw [hwl]; simp
    rw [← hwl] at hl
    have HW := Lib.hid hwl
    clear hwl q3 t3
    go_loopw [33] (fun i wr => IdxRel 3 wl i wr) (fun i _ => 3 - (intOf i).toNat)
    case atStart => exact ⟨0, by omega, rfl, by rw [HW.out]; exact Chg.refl _ _⟩
    case round =>
      obtain ⟨k, hk, rfl, hc⟩ := hrel
      obtain ⟨wo, rfl⟩ : ∃ wo : World, wo = wr := ⟨_, rfl⟩
      have hsz := hc.size
      by_cases hlt : k < 3
      · obtain ⟨x, o, ⟨e0, e1⟩, hx, hxB, hy, hcell⟩ := (hl.chg hc (by intro k hk; omega)).at hlt
        cases hx
        have g0 : wo.cell? ⟨w3.heap.size, k * 2, none⟩ = some (.int .i64 e0) := by simpa using hcell 0 _ rfl
        have g1 : wo.cell? ⟨w3.heap.size, k * 2 + 1, none⟩ = some (.int .i64 e1) := by simpa using hcell 1 _ rfl
        obtain ⟨x, y, z, hs⟩ := ex_stamp (nextS e0 e1)
        have Hs := Lib.hid hs
        clear hs hy hcell
        go_wp2_with fail
        refine (next_p2 Hs _).mono ?_
        rintro e w4 ⟨rfl, k4⟩
        have r0 : w4.cell? ⟨wo.heap.size, 0, none⟩ = some (.int .i64 e0) := k4.cellv (by simp) (by simp)
        have r1 : w4.cell? ⟨wo.heap.size, 1, none⟩ = some (.int .i64 e1) := k4.cellv (by simp) (by simp)
        have z4 : wo.heap.size < w4.heap.size := by have := k4.size; simp at this; omega
        have hc4 := (hc.alloc _ (by intro k hk; omega)).then k4 (by intro k hk; simp; omega)
        clear k4 g0 g1
        go_wp2_with fail
        refine (next_r2 Hs _).mono ?_
        rintro e w5 ⟨rfl, k5⟩
        have r2 : w5.cell? ⟨w4.heap.size, 0, none⟩ = some (.int .i64 x) := k5.cellv (by simp) (by simp)
        have r3 : w5.cell? ⟨w4.heap.size, 1, none⟩ = some (.int .i64 y) := k5.cellv (by simp) (by simp)
        have z5 : w4.heap.size < w5.heap.size := by have := k5.size; simp at this; omega
        have hc5 := (hc4.alloc _ (by intro k hk; omega)).then k5 (by intro k hk; simp; omega)
        clear k5 r0 r1
        go_wp2_with fail
        go_roundw
        case rel => exact ⟨k + 1, by omega, by go_num, hc5.alloc _ (by intro k hk; omega)⟩
        case measure => simp [intOf]; omega
      · obtain rfl : k = 3 := by omega
        have q4 : Chg (· < w.heap.size) w wo := ql.then hc (by intro k hk; omega)
        have t4 := tl.chg hc (by intro k hk; omega)
        have z4 : w.heap.size + 1 < wo.heap.size := by omega
        clear HW hl ql tl hsz hc
        go_wp2_with fail
        refine (some_x4 _ t4 (by omega)).mono ?_
        rintro e w5 ⟨a5, n5, cap5, l5, rfl, rd5, hn5, _, k5, t5⟩
        have q5 := q4.then k5 (by intro k hk; omega)
        have z5 := k5.size
        clear q4 t4 k5
        go_wp2_with fail
        refine (stamp_x _ t5 (by omega)).mono ?_
        rintro e w6 ⟨x3, y3, rfl, _, _, _, _, k6, t6⟩
        have q6 := q5.then k6 (by intro k hk; omega)
        have z6 := k6.size
        have rd6 := rd5.chg k6 (by intro k hk; omega)
        clear q5 t5 k6 rd5
        go_wp2_with fail
        refine (stamp_x _ t6 (by omega)).mono ?_
        rintro e w7 ⟨x4, y4, rfl, _, _, _, _, k7, t7⟩
        have q7 := q6.then k7 (by intro k hk; omega)
        have z7 := k7.size
        have rd7 := rd6.chg k7 (by intro k hk; omega)
        clear q6 t6 k7 rd6 t7
        have lt8 : Rd 2 encS (· = w7.heap.size) (w7.alloc (.cells #[.int .i64 x3, .int .i64 y3, .int .i64 x4, .int .i64 y4] 23)) (some ⟨w7.heap.size, 0, none⟩) 2 [(x3, y3), (x4, y4)] :=
          Rd.lit _ rfl rfl rfl (fun _ => rfl) rfl
        have q8 := q7.alloc (.cells #[.int .i64 x3, .int .i64 y3, .int .i64 x4, .int .i64 y4] 23) (by intro k hk; omega)
        have rd8 := rd7.chg ((Chg.refl (· < w7.heap.size) w7).alloc (.cells #[.int .i64 x3, .int .i64 y3, .int .i64 x4, .int .i64 y4] 23) (by simp)) (by intro k hk; omega)
        clear rd7 q7
        go_wp2_with fail
        obtain ⟨wm, hwm⟩ : ∃ wm, wm = (w7.alloc (.cells #[.int .i64 x3, .int .i64 y3, .int .i64 x4, .int .i64 y4] 23)).alloc (.cells #[.slice a1 n1 c1, .slice a5 n5 cap5, .slice (some ⟨w7.heap.size, 0, none⟩) 2 2, .slice none 0 0] 24) := ⟨_, rfl⟩
        have qm : Chg (· < w.heap.size) w wm := by rw [hwm]; exact q8.alloc _ (by intro k hk; simp; omega)
        have zm : wm.heap.size = w7.heap.size + 2 := by rw [hwm]; simp
        have cm : Chg (· < w7.heap.size + 1) (w7.alloc (.cells #[.int .i64 x3, .int .i64 y3, .int .i64 x4, .int .i64 y4] 23)) wm := by rw [hwm]; exact (Chg.refl _ _).alloc _ (by simp)
        have fm : ∀ j, j < 4 → ∃ a n cap l, wm.cell? ⟨w7.heap.size + 1, j, none⟩ = some (.slice a n cap) ∧ Rd 2 encS (· < wm.heap.size) wm a n l ∧ n ≤ 100 := by
          intro j hj
          have hm : wm.heap[w7.heap.size + 1]? = some (.cells #[.slice a1 n1 c1, .slice a5 n5 cap5, .slice (some ⟨w7.heap.size, 0, none⟩) 2 2, .slice none 0 0] 24 (0, 0)) := by
            rw [hwm]; simpa using heap_new (w7.alloc (.cells #[.int .i64 x3, .int .i64 y3, .int .i64 x4, .int .i64 y4] 23)) _
          rcases j with _ | _ | _ | _ | j
          · exact ⟨a1, n1, c1, l1, by simp [World.cell?, hm], (h1.chg qm (fun _ h => h)).mono (by intro k hk; omega), by omega⟩
          · exact ⟨a5, n5, cap5, l5, by simp [World.cell?, hm], (rd8.chg cm (by intro k hk; omega)).mono (by intro k hk; omega), by omega⟩
          · exact ⟨_, 2, 2, _, by simp [World.cell?, hm], (lt8.chg cm (by intro k hk; omega)).mono (by intro k hk; omega), by omega⟩
          · exact ⟨none, 0, 0, [], by simp [World.cell?, hm], Rd.nil _ _ _ _ _, by omega⟩
          · omega
        have HM := Lib.hid hwm
        have Zm := Lib.hid zm
        clear hwm zm cm q8 rd8 lt8 h1 h2
        go_loopw [66] (fun i wr => IdxRel 4 wm i wr) (fun i _ => 4 - (intOf i).toNat)
        case atStart => exact ⟨0, by omega, rfl, by rw [HM.out]; exact Chg.refl _ _⟩
        case round =>
          obtain ⟨k, hk, rfl, hc⟩ := hrel
          obtain ⟨wo, rfl⟩ : ∃ wo : World, wo = wr := ⟨_, rfl⟩
          have hsz := hc.size
          have qo := qm.then hc (by intro k hk; have := qm.size; omega)
          have hzz := qm.size
          by_cases hlt : k < 4
          · obtain ⟨a, n, cap, l, g0, rd, hn⟩ := fm k hlt
            have g0 := hc.cellv g0 (show w7.heap.size + 1 < wm.heap.size by have := Zm.out; omega)
            have rd := (rd.chg hc (fun _ h => h))
            obtain ⟨x, y, z, hs⟩ := ex_stamp (renewS l)
            have Hs := Lib.hid hs
            clear hs fm
            go_wp2_with fail
            refine (renew_p2 Hs _ rd (by intro k hk; omega) hn).mono ?_
            rintro e v4 ⟨rfl, k4⟩
            have hc4 := hc.then k4 (by intro k hk; omega)
            have rd4 := rd.chg k4 (by intro k hk; omega)
            have z4 := k4.size
            clear k4 g0
            have hc4' := hc4.alloc (.cells #[.int .i64 x, .int .i64 y] 23) (by intro k hk; omega)
            have rd4' := rd4.chg ((Chg.refl (· < wm.heap.size) v4).alloc (.cells #[.int .i64 x, .int .i64 y] 23) (by intro k hk; omega)) (fun _ h => h)
            go_wp2_with fail
            refine (renew_r2 Hs _ rd4' (by intro k hk; simp; omega) hn).mono ?_
            rintro e v5 ⟨rfl, k5⟩
            have r2 : v5.cell? ⟨v4.heap.size, 0, none⟩ = some (.int .i64 x) := k5.cellv (by simp) (by simp)
            have r3 : v5.cell? ⟨v4.heap.size, 1, none⟩ = some (.int .i64 y) := k5.cellv (by simp) (by simp)
            have z5 : v4.heap.size < v5.heap.size := by have := k5.size; simp at this; omega
            have hc5 := hc4'.then k5 (by intro k hk; simp; omega)
            clear k5
            go_wp2_with fail
            go_roundw
            case rel => exact ⟨k + 1, by omega, by go_num, hc5.alloc _ (by intro k hk; omega)⟩
            case measure => simp [intOf]; omega
          · obtain rfl : k = 4 := by omega
            clear fm
            go_wp2_with (go_at_call 8; refine (awake_x _).mono ?_; rintro e w9 ⟨rfl, k9⟩)
            go_ret
            exact ⟨rfl, qo.then k9 (by intro k hk; omega)⟩
end Go.Proofs.Ytgpoikklnbmpkaa
