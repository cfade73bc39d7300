/- The walk over the statement StampOrder. -/
import Derived.Test.YtgpoikklnbmpkaaAwake
import Derived.Test.YtgpoikklnbmpkaaTStamp
import Derived.Deep.RegionHeld3
namespace Go.Proofs.Ytgpoikklnbmpkaa
open Go.RowKit

theorem cmpS_neg (a b c d : Int) : cmpS a b c d = -cmpS c d a b := by
  unfold cmpS; split <;> split <;> (try split) <;> (try split) <;> omega
theorem cmpS_bd (a b c d : Int) : -1 ≤ cmpS a b c d ∧ cmpS a b c d ≤ 1 := by
  unfold cmpS; split <;> (try split) <;> omega
theorem cmp_p2 {a b c d m : Int} (h : Hid (cmpS a b c d = m)) (w : World) :
    Calls Try.prog 17 #[.agg #[.int .i64 a, .int .i64 b], .agg #[.int .i64 c, .int .i64 d]] w fun e w' => e = .returned (.int .i64 m) ∧ Chg (· < w.heap.size) w w' := by
  have := cmp_p a b c d w; rw [h.out] at this; exact this
theorem cmp_r2 {a b c d m : Int} (h : Hid (cmpS a b c d = m)) (w : World) :
    Calls Try.prog 18 #[.agg #[.int .i64 a, .int .i64 b], .agg #[.int .i64 c, .int .i64 d]] w fun e w' => e = .returned (.int .i64 m) ∧ Chg (· < w.heap.size) w w' := by
  have := cmp_r a b c d w; rw [h.out] at this; exact this
theorem valid_p2 {a b : Int} {v : Bool} (h : Hid (validS a b = v)) (w : World) :
    Calls Try.prog 19 #[.agg #[.int .i64 a, .int .i64 b]] w fun e w' => e = .returned (.bool v) ∧ Chg (· < w.heap.size) w w' := by
  have := valid_p a b w; rw [h.out] at this; exact this
theorem valid_r2 {a b : Int} {v : Bool} (h : Hid (validS a b = v)) (w : World) :
    Calls Try.prog 20 #[.agg #[.int .i64 a, .int .i64 b]] w fun e w' => e = .returned (.bool v) ∧ Chg (· < w.heap.size) w w' := by
  have := valid_r a b w; rw [h.out] at this; exact this
def encP (p : (Int × Int) × (Int × Int)) : List Value := [.int .i64 p.1.1, .int .i64 p.1.2, .int .i64 p.2.1, .int .i64 p.2.2]
def IdxRelO (N : Nat) (w2 : World) (i : Value) (wr : World) : Prop := ∃ k : Nat, k ≤ N ∧ i = .int .i64 k ∧ Chg (· < w2.heap.size) w2 wr

set_option maxHeartbeats 4000000 in
theorem order_walk (s0 s1 s2 s3 : Int) (a2 : Option Addr) (n2 c2 : Nat) (l2 : List Int) (w : World)
    (h2 : Rd 1 encI (· < w.heap.size) w a2 n2 l2) (hc2 : n2 ≤ c2) (hm2 : c2 ≤ maxLen) :
    Calls Try.prog 4 #[.agg #[.int .i64 s0, .int .i64 s1], .agg #[.int .i64 s2, .int .i64 s3], .slice a2 n2 c2] w fun e w' => e = .returned (.bool true) ∧ Chg (· < w.heap.size) w w' := by
  have q0 := ((Chg.refl (· < w.heap.size) w).alloc (.cells #[.int .i64 s0, .int .i64 s1] 23) (by simp)).alloc (.cells #[.int .i64 s2, .int .i64 s3] 23) (by simp; omega)
  go_enter Try.func4, Try.ntmps4
  go_wp2_with (go_at_call 9; refine (new_x _ _ _ l2 _ (h2.chg q0 (fun _ h => h)) (by simp; omega) hc2 hm2).mono ?_; rintro e w1 ⟨rfl, t1, k1⟩)
  have t1 : TP 55 (w.heap.size + 3) w1 (w.heap.size + 2) := by simpa using t1
  have q1 : Chg (· < w.heap.size) w w1 := q0.then k1 (by simp; omega)
  have c0 : w1.cell? ⟨w.heap.size, 0, none⟩ = some (.int .i64 s0) := k1.cellv (by simp [go_sem]) (by simp; omega)
  have c1 : w1.cell? ⟨w.heap.size, 1, none⟩ = some (.int .i64 s1) := k1.cellv (by simp [go_sem]) (by simp; omega)
  have c2' : w1.cell? ⟨w.heap.size + 1, 0, none⟩ = some (.int .i64 s2) := k1.cellv (by simp [go_sem]) (by simp)
  have c3 : w1.cell? ⟨w.heap.size + 1, 1, none⟩ = some (.int .i64 s3) := k1.cellv (by simp [go_sem]) (by simp)
  have z1 : w.heap.size + 2 < w1.heap.size := by
    obtain ⟨_, _, _, _, _, _, hb, _⟩ := t1
    exact heap_lt hb
  clear k1 q0
  go_wp2_with fail
  refine (odd_x _ t1 (by omega)).mono ?_
  rintro e w2 ⟨x1, y1, rfl, _, _, _, _, k2, t2⟩
  have c0 := k2.cellv c0 (by simp; omega)
  have c1 := k2.cellv c1 (by simp; omega)
  have c2' := k2.cellv c2' (by simp; omega)
  have c3 := k2.cellv c3 (by simp; omega)
  have q2 := q1.then k2 (by intro k hk; omega)
  have z2 := k2.size
  clear k2 q1 t1
  go_wp2_with fail
  refine (odd_x _ t2 (by omega)).mono ?_
  rintro e w3 ⟨x2, y2, rfl, _, _, _, _, k3, t3⟩
  have c0 := k3.cellv c0 (by simp; omega)
  have c1 := k3.cellv c1 (by simp; omega)
  have c2' := k3.cellv c2' (by simp; omega)
  have c3 := k3.cellv c3 (by simp; omega)
  have q3 := q2.then k3 (by intro k hk; omega)
  have z3 := k3.size
  have zz : w.heap.size < w3.heap.size := by omega
  have zz1 : w.heap.size + 1 < w3.heap.size := by omega
  clear k3 q2 t2 t3
  go_wp2_with fail
  have hl : Rd 4 encP (· = w3.heap.size + 2) (((w3.alloc (.cells #[.int .i64 x1, .int .i64 y1] 23)).alloc (.cells #[.int .i64 x2, .int .i64 y2] 23)).alloc (.cells #[.int .i64 s0, .int .i64 s1, .int .i64 s2, .int .i64 s3, .int .i64 x1, .int .i64 y1, .int .i64 x2, .int .i64 y2, .int .i64 s0, .int .i64 s1, .int .i64 x1, .int .i64 y1, .int .i64 s0, .int .i64 s1, .int .i64 s0, .int .i64 s1] 37)) (some ⟨w3.heap.size + 2, 0, none⟩) 4 [((s0, s1), (s2, s3)), ((x1, y1), (x2, y2)), ((s0, s1), (x1, y1)), ((s0, s1), (s0, s1))] :=
    Rd.lit _ (by simp) (by simp) rfl (fun _ => rfl) rfl
  have ql : Chg (· < w.heap.size) w (((w3.alloc (.cells #[.int .i64 x1, .int .i64 y1] 23)).alloc (.cells #[.int .i64 x2, .int .i64 y2] 23)).alloc (.cells #[.int .i64 s0, .int .i64 s1, .int .i64 s2, .int .i64 s3, .int .i64 x1, .int .i64 y1, .int .i64 x2, .int .i64 y2, .int .i64 s0, .int .i64 s1, .int .i64 x1, .int .i64 y1, .int .i64 s0, .int .i64 s1, .int .i64 s0, .int .i64 s1] 37)) := ((q3.alloc _ (by intro k hk; omega)).alloc _ (by intro k hk; simp; omega)).alloc _ (by intro k hk; simp; omega)
  obtain ⟨wl, hwl⟩ : ∃ wl, wl = ((w3.alloc (.cells #[.int .i64 x1, .int .i64 y1] 23)).alloc (.cells #[.int .i64 x2, .int .i64 y2] 23)).alloc (.cells #[.int .i64 s0, .int .i64 s1, .int .i64 s2, .int .i64 s3, .int .i64 x1, .int .i64 y1, .int .i64 x2, .int .i64 y2, .int .i64 s0, .int .i64 s1, .int .i64 x1, .int .i64 y1, .int .i64 s0, .int .i64 s1, .int .i64 s0, .int .i64 s1] 37) := ⟨_, rfl⟩
  have zl : wl.heap.size = w3.heap.size + 3 := by rw [hwl]; simp
  rw [← hwl] at hl ql
  have HW := Lib.hid hwl
  have ZL := Lib.hid zl
  clear hwl q3 zl
  go_loopw [32] (fun i wr => IdxRelO 4 wl i wr) (fun i _ => 4 - (intOf i).toNat)
  case atStart => exact ⟨0, by omega, rfl, by rw [HW.out]; exact Chg.refl _ _⟩
  case round =>
    obtain ⟨k, hk, rfl, hc⟩ := hrel
    obtain ⟨wo, rfl⟩ : ∃ wo : World, wo = wr := ⟨_, rfl⟩
    have hsz := hc.size
    have hq := ql.then hc (by intro k hk; have := ZL.out; omega)
    have hwz := ql.size
    by_cases hlt : k < 4
    · obtain ⟨x, o, ⟨⟨a, b⟩, c, d⟩, hx, hxB, hy, hcell⟩ := (hl.chg hc (by intro k hk; have := ZL.out; omega)).at hlt
      cases hx
      have g0 : wo.cell? ⟨w3.heap.size + 2, k * 4, none⟩ = some (.int .i64 a) := by simpa using hcell 0 _ rfl
      have g1 : wo.cell? ⟨w3.heap.size + 2, k * 4 + 1, none⟩ = some (.int .i64 b) := by simpa using hcell 1 _ rfl
      have g2 : wo.cell? ⟨w3.heap.size + 2, k * 4 + 1 + 1, none⟩ = some (.int .i64 c) := by simpa [Nat.add_assoc] using hcell 2 _ rfl
      have g3 : wo.cell? ⟨w3.heap.size + 2, k * 4 + 1 + 1 + 1, none⟩ = some (.int .i64 d) := by simpa [Nat.add_assoc] using hcell 3 _ rfl
      clear hy hcell hl c0 c1 c2' c3
      go_wp2_with fail
      obtain ⟨m, hm⟩ : ∃ m, cmpS a b c d = m := ⟨_, rfl⟩
      obtain ⟨v, hv⟩ : ∃ v, validS a b = v := ⟨_, rfl⟩
      have hm' : cmpS c d a b = -m := by rw [cmpS_neg, hm]
      obtain ⟨m0, m1⟩ := cmpS_bd a b c d
      rw [hm] at m0 m1
      have hwr : IntKind.i64.wrap m = m := IntWalk.i64_in _ (by omega)
      have H1 := Lib.hid hm
      have H2 := Lib.hid hm'
      have H3 := Lib.hid hv
      have hch : Chg (· < wl.heap.size) wl (wo.alloc (.cells #[.int .i64 a, .int .i64 b, .int .i64 c, .int .i64 d] 37)).drew := (hc.alloc _ (by intro k hk; omega)).drew
      clear hm hm' hv g0 g1 g2 g3
      go_region_held3 (fun w' => w'.cell? ⟨wo.heap.size, 0, none⟩ = some (.int .i64 a) ∧ w'.cell? ⟨wo.heap.size, 1, none⟩ = some (.int .i64 b) ∧ w'.cell? ⟨wo.heap.size, 2, none⟩ = some (.int .i64 c) ∧ w'.cell? ⟨wo.heap.size, 3, none⟩ = some (.int .i64 d))
        (first | exact keep4 (by assumption) (by assumption) | go_keep)
        (first
          | (go_at_call 17; ((first | with_reducible refine (cmp_p2 H1 _).mono ?_ | with_reducible refine (cmp_p2 H2 _).mono ?_)); rintro e v1 ⟨rfl, kk'⟩; have hch := hch.next kk'; have kk := kk')
          | (go_at_call 18; refine (cmp_r2 H1 _).mono ?_; rintro e v1 ⟨rfl, kk'⟩; have hch := hch.next kk'; have kk := kk')
          | (go_at_call 19; refine (valid_p2 H3 _).mono ?_; rintro e v1 ⟨rfl, kk'⟩; have hch := hch.next kk'; have kk := kk')
          | (go_at_call 20; refine (valid_r2 H3 _).mono ?_; rintro e v1 ⟨rfl, kk'⟩; have hch := hch.next kk'; have kk := kk'))
      go_wp2_with fail
      refine ⟨⟨k + 1, by omega, by go_num, hch⟩, by simp [intOf]; omega⟩
    · obtain rfl : k = 4 := by omega
      clear hl c0 c1 c2' c3
      go_wp2_with (go_at_call 8; refine (awake_x _).mono ?_; rintro e w9 ⟨rfl, k9⟩)
      go_ret
      exact ⟨rfl, hq.next k9⟩
end Go.Proofs.Ytgpoikklnbmpkaa
