/- The walk over SuspectWatches. -/
import Derived.Test.YtgfnngdkoecciaaPlays
import Derived.Test.YtgfnngdkoecciaaWatchW
import Derived.Deep.RegionHeld3
namespace Go.Proofs.Ytgfnngdkoecciaa
open Go.RowKit

theorem keep15 {w w' : World} {a0 a1 a2 a3 a4 a5 a6 a7 a8 a9 a10 a11 a12 a13 a14 : Addr} {x0 x1 x2 x3 x4 x5 x6 x7 x8 x9 x10 x11 x12 x13 x14 : Value} (k : Chg (· < w.heap.size) w w') (h : w.cell? a0 = some x0 ∧ w.cell? a1 = some x1 ∧ w.cell? a2 = some x2 ∧ w.cell? a3 = some x3 ∧ w.cell? a4 = some x4 ∧ w.cell? a5 = some x5 ∧ w.cell? a6 = some x6 ∧ w.cell? a7 = some x7 ∧ w.cell? a8 = some x8 ∧ w.cell? a9 = some x9 ∧ w.cell? a10 = some x10 ∧ w.cell? a11 = some x11 ∧ w.cell? a12 = some x12 ∧ w.cell? a13 = some x13 ∧ w.cell? a14 = some x14) :
    w'.cell? a0 = some x0 ∧ w'.cell? a1 = some x1 ∧ w'.cell? a2 = some x2 ∧ w'.cell? a3 = some x3 ∧ w'.cell? a4 = some x4 ∧ w'.cell? a5 = some x5 ∧ w'.cell? a6 = some x6 ∧ w'.cell? a7 = some x7 ∧ w'.cell? a8 = some x8 ∧ w'.cell? a9 = some x9 ∧ w'.cell? a10 = some x10 ∧ w'.cell? a11 = some x11 ∧ w'.cell? a12 = some x12 ∧ w'.cell? a13 = some x13 ∧ w'.cell? a14 = some x14 := by
  obtain ⟨h0, h1, h2, h3, h4, h5, h6, h7, h8, h9, h10, h11, h12, h13, h14⟩ := h
  exact ⟨k.cellv h0 (World.block_lt_of_cell? w _ h0), k.cellv h1 (World.block_lt_of_cell? w _ h1), k.cellv h2 (World.block_lt_of_cell? w _ h2), k.cellv h3 (World.block_lt_of_cell? w _ h3), k.cellv h4 (World.block_lt_of_cell? w _ h4), k.cellv h5 (World.block_lt_of_cell? w _ h5), k.cellv h6 (World.block_lt_of_cell? w _ h6), k.cellv h7 (World.block_lt_of_cell? w _ h7), k.cellv h8 (World.block_lt_of_cell? w _ h8), k.cellv h9 (World.block_lt_of_cell? w _ h9), k.cellv h10 (World.block_lt_of_cell? w _ h10), k.cellv h11 (World.block_lt_of_cell? w _ h11), k.cellv h12 (World.block_lt_of_cell? w _ h12), k.cellv h13 (World.block_lt_of_cell? w _ h13), k.cellv h14 (World.block_lt_of_cell? w _ h14)⟩
theorem keep16 {w0 w w' : World} {a0 a1 a2 a3 a4 a5 a6 a7 a8 a9 a10 a11 a12 a13 a14 : Addr} {x0 x1 x2 x3 x4 x5 x6 x7 x8 x9 x10 x11 x12 x13 x14 : Value} (k : Chg (· < w.heap.size) w w') (h : w.cell? a0 = some x0 ∧ w.cell? a1 = some x1 ∧ w.cell? a2 = some x2 ∧ w.cell? a3 = some x3 ∧ w.cell? a4 = some x4 ∧ w.cell? a5 = some x5 ∧ w.cell? a6 = some x6 ∧ w.cell? a7 = some x7 ∧ w.cell? a8 = some x8 ∧ w.cell? a9 = some x9 ∧ w.cell? a10 = some x10 ∧ w.cell? a11 = some x11 ∧ w.cell? a12 = some x12 ∧ w.cell? a13 = some x13 ∧ w.cell? a14 = some x14 ∧ Chg (· < w0.heap.size) w0 w) :
    w'.cell? a0 = some x0 ∧ w'.cell? a1 = some x1 ∧ w'.cell? a2 = some x2 ∧ w'.cell? a3 = some x3 ∧ w'.cell? a4 = some x4 ∧ w'.cell? a5 = some x5 ∧ w'.cell? a6 = some x6 ∧ w'.cell? a7 = some x7 ∧ w'.cell? a8 = some x8 ∧ w'.cell? a9 = some x9 ∧ w'.cell? a10 = some x10 ∧ w'.cell? a11 = some x11 ∧ w'.cell? a12 = some x12 ∧ w'.cell? a13 = some x13 ∧ w'.cell? a14 = some x14 ∧ Chg (· < w0.heap.size) w0 w' := by
  obtain ⟨h0, h1, h2, h3, h4, h5, h6, h7, h8, h9, h10, h11, h12, h13, h14, hc⟩ := h
  exact ⟨k.cellv h0 (World.block_lt_of_cell? w _ h0), k.cellv h1 (World.block_lt_of_cell? w _ h1), k.cellv h2 (World.block_lt_of_cell? w _ h2), k.cellv h3 (World.block_lt_of_cell? w _ h3), k.cellv h4 (World.block_lt_of_cell? w _ h4), k.cellv h5 (World.block_lt_of_cell? w _ h5), k.cellv h6 (World.block_lt_of_cell? w _ h6), k.cellv h7 (World.block_lt_of_cell? w _ h7), k.cellv h8 (World.block_lt_of_cell? w _ h8), k.cellv h9 (World.block_lt_of_cell? w _ h9), k.cellv h10 (World.block_lt_of_cell? w _ h10), k.cellv h11 (World.block_lt_of_cell? w _ h11), k.cellv h12 (World.block_lt_of_cell? w _ h12), k.cellv h13 (World.block_lt_of_cell? w _ h13), k.cellv h14 (World.block_lt_of_cell? w _ h14), hc.next k⟩

def newW (n : Int) : (Int × Int × Int) × Int := if 1 ≤ n ∧ n ≤ 64 then ((1, 0, n), 0) else ((0, 0, 0), 2)
theorem wt_new_p (n : Int) (w : World) : Calls Try.prog 13 #[.int .i64 n] w fun e w' => e = .returned (.tuple #[.agg #[.int .i64 (newW n).1.1, .int .i64 (newW n).1.2.1, .int .i64 (newW n).1.2.2], .int .i64 (newW n).2]) ∧ Chg (· < w.heap.size) w w' := by
  unfold newW
  by_cases h : 1 ≤ n ∧ n ≤ 64
  · rw [if_pos h]; exact wt_new_p_ok n w h
  · rw [if_neg h]; exact wt_new_p_bad n w (by omega)
theorem wt_new_r (n : Int) (w : World) : Calls Try.prog 14 #[.int .i64 n] w fun e w' => e = .returned (.tuple #[.agg #[.int .i64 (newW n).1.1, .int .i64 (newW n).1.2.1, .int .i64 (newW n).1.2.2], .int .i64 (newW n).2]) ∧ Chg (· < w.heap.size) w w' := by
  unfold newW
  by_cases h : 1 ≤ n ∧ n ≤ 64
  · rw [if_pos h]; exact wt_new_r_ok n w h
  · rw [if_neg h]; exact wt_new_r_bad n w (by omega)

def WatRel (b : Nat) (s m l : Int) (w : World) (i : Value) (wr : World) : Prop :=
  ∃ k : Nat, k ≤ 8 ∧ i = .int .i64 k ∧ Chg (· < w.heap.size) w wr ∧ TP 46 (b + 1) wr b ∧ wr.heap[w.heap.size]? = some (.cells #[.int .i64 s, .int .i64 m, .int .i64 l] 24 (0, 0))

set_option maxRecDepth 100000 in
set_option maxHeartbeats 4000000 in
theorem watches_walk (a1 : Option Addr) (n1 c1 : Nat) (l1 : List Int) (s m l e0 n0 : Int) (w : World)
    (h1 : Rd 1 encI (· < w.heap.size) w a1 n1 l1) (hc1 : n1 ≤ c1) (hm1 : c1 ≤ maxLen) :
    Calls Try.prog 3 #[.slice a1 n1 c1, .agg #[.int .i64 s, .int .i64 m, .int .i64 l], .int .i64 e0, .int .i64 n0] w fun e w' => e = .returned (.bool true) ∧ Chg (· < w.heap.size) w w' := by
  have k0 : Chg (· < w.heap.size) w (w.alloc (.cells #[.int .i64 s, .int .i64 m, .int .i64 l] 24)) := (Chg.refl _ _).alloc _ (by simp)
  have G0 := heap_new w (.cells #[.int .i64 s, .int .i64 m, .int .i64 l] 24)
  have h2 := h1.chg k0 (fun k hk => hk)
  go_enter Try.func3, Try.ntmps3
  go_wp2_with fail
  refine (new_x _ _ _ l1 _ h2 (by simp; omega) hc1 hm1).mono ?_
  rintro e w1 ⟨rfl, t1, k1⟩
  have G1 := (k1.block w.heap.size (by simp)).trans G0
  have q1 := k0.then k1 (by intro k hk; simp; omega)
  have t1 : TP 46 (w.heap.size + 1 + 1) w1 (w.heap.size + 1) := by simpa using t1
  obtain ⟨b, hb⟩ : ∃ b, b = w.heap.size + 1 := ⟨_, rfl⟩
  rw [← hb] at t1
  rw [World.size_alloc, ← hb]
  have zb : w.heap.size < b := by omega
  clear hb k0 k1 G0 h1 h2
  go_wp2_with fail
  go_loopw [10] (fun i wr => WatRel b s m l w i wr) (fun i _ => 8 - (intOf i).toNat)
  case atStart => exact ⟨0, by omega, rfl, q1, t1, G1⟩
  case round =>
    obtain ⟨k, hk, rfl, hc, ht, hg⟩ := hrel
    obtain ⟨wo, rfl⟩ : ∃ wo : World, wo = wr := ⟨_, rfl⟩
    have hsz := hc.size
    have hbo := ht.lt2
    have HG := Lib.hid hg
    clear hg t1 G1 q1
    by_cases hlt : k < 8
    · go_wp2_with fail
      refine (next_x _ _ ht (by omega)).mono ?_
      rintro e w2 ⟨x, rfl, x0, x1, k2, t2⟩
      rw [if_neg (by omega)] at x1
      have z2 := k2.size
      have q2 := hc.then k2 (by intro k hk; omega)
      have G2 := Lib.hid ((k2.block w.heap.size (by omega)).trans HG.out)
      clear k2 hc ht HG
      go_wp2_with fail
      refine (next_x _ _ t2 (by omega)).mono ?_
      rintro e w3 ⟨y, rfl, y0, y1, k3, t3⟩
      rw [if_neg (by omega)] at y1
      have z3 := k3.size
      have q3 := q2.then k3 (by intro k hk; omega)
      have G3 := Lib.hid ((k3.block w.heap.size (by omega)).trans G2.out)
      clear k3 q2 t2 G2
      go_wp2_with fail
      refine (next_x _ _ t3 (by omega)).mono ?_
      rintro e w4 ⟨z, rfl, zz0, zz1, k4, t4⟩
      rw [if_neg (by omega)] at zz1
      have z4 := k4.size
      have q4 := q3.then k4 (by intro k hk; omega)
      have G4 := Lib.hid ((k4.block w.heap.size (by omega)).trans G3.out)
      clear k4 q3 t3 G3
      go_wp2_with fail
      refine (next_x _ _ t4 (by omega)).mono ?_
      rintro e w5 ⟨ev, rfl, ev0, ev1, k5, t5⟩
      rw [if_neg (by omega)] at ev1
      have z5 := k5.size
      have q5 := q4.then k5 (by intro k hk; omega)
      have G5 := Lib.hid ((k5.block w.heap.size (by omega)).trans G4.out)
      clear k5 q4 t4 G4
      go_wp2_with fail
      refine (pick_lit (n := 4) (W0 := w5) (-9223372036854775808) 9223372036854775807 [0, 1, 64, 65] t5 (by omega) rfl rfl rfl (by omega) (by omega) (by intro z hz; simp at hz; omega)).mono ?_
      rintro e w7 ⟨mi, rfl, mi0, mi1, k7, t7⟩
      have y7 := k7.size
      have q7 := q5.then k7 (by intro k hk; omega)
      have G7 := (k7.block w.heap.size (by omega)).trans G5.out
      clear k7 q5 t5 G5
      by_cases h7 : k = 7
      · subst h7
        obtain ⟨c0, c1, c2, f0, f1, f2⟩ := cells3 G7
        have hl7 : w.heap.size < w7.heap.size := by omega
        have hn7 : ¬ w.heap.size = w7.heap.size := by omega
        have hn7' : ¬ w7.heap.size = w.heap.size := by omega
        have z7 := t7.lt2
        have B0 := G7
        clear G7
        go_wp2_with fail
        refine (wt_next_p _ _ _ _ _).mono ?_
        rintro e w8 ⟨rfl, j8⟩
        have hx7 : Chg (· < w7.heap.size) w7 (w7.alloc (.cells #[.int .i64 s, .int .i64 m, .int .i64 l] 24)) := (Chg.refl (· < w7.heap.size) w7).alloc _ (by simp)
        have k8 := hx7.then j8 (by intro k hk; simp; omega)
        have B11 := (j8.block w7.heap.size (by simp)).trans (heap_new w7 (.cells #[.int .i64 s, .int .i64 m, .int .i64 l] 24))
        have y8 : w7.heap.size < w8.heap.size := by have := j8.size; simp at this; omega
        obtain ⟨g11, hg11⟩ : ∃ g, g = w7.heap.size := ⟨_, rfl⟩
        rw [← hg11] at B11 ⊢
        have q8 := q7.then k8 (by intro k hk; omega)
        have t8 := t7.chg k8 (by intro k hk; omega)
        have lb11 : w.heap.size ≤ g11 := by omega
        have lg11 : g11 < w8.heap.size := by omega
        have z8 : b < w8.heap.size := by omega
        have ne11 : w7.heap.size ≤ g11 := by omega
        have D0 := (k8.block w.heap.size (by omega)).trans B0
        have B0 := D0
        clear D0
        clear hx7 j8 k8 q7 t7 z7 hg11
        obtain ⟨c110, c111, c112, f110, f111, f112⟩ := cells3 B11
        go_wp2_with fail
        refine (wt_next_r _ _ _ _ _).mono ?_
        rintro e w9 ⟨rfl, j9⟩
        have hx8 : Chg (· < w8.heap.size) w8 (w8.alloc (.cells #[.int .i64 (nextW s m l e0).1.1, .int .i64 (nextW s m l e0).1.2.1, .int .i64 (nextW s m l e0).1.2.2] 24)) := (Chg.refl (· < w8.heap.size) w8).alloc _ (by simp)
        have k9 := hx8.then j9 (by intro k hk; simp; omega)
        have B14 := (j9.block w8.heap.size (by simp)).trans (heap_new w8 (.cells #[.int .i64 (nextW s m l e0).1.1, .int .i64 (nextW s m l e0).1.2.1, .int .i64 (nextW s m l e0).1.2.2] 24))
        have y9 : w8.heap.size < w9.heap.size := by have := j9.size; simp at this; omega
        obtain ⟨g14, hg14⟩ : ∃ g, g = w8.heap.size := ⟨_, rfl⟩
        rw [← hg14] at B14 ⊢
        have q9 := q8.then k9 (by intro k hk; omega)
        have t9 := t8.chg k9 (by intro k hk; omega)
        have lb14 : w.heap.size ≤ g14 := by omega
        have lg14 : g14 < w9.heap.size := by omega
        have z9 : b < w9.heap.size := by omega
        have ne14 : w8.heap.size ≤ g14 := by omega
        have D11 := (k9.block g11 (by omega)).trans B11
        have B11 := D11
        have lg11 : g11 < w9.heap.size := by omega
        have D0 := (k9.block w.heap.size (by omega)).trans B0
        have B0 := D0
        clear D0
        clear hx8 j9 k9 q8 t8 z8 hg14 D11
        clear c110 c111 c112 f110 f111 f112
        go_wp2_with fail
        refine (wt_new_p n0 _).mono ?_
        rintro e w10 ⟨rfl, j10⟩
        have hx9 : Chg (· < w9.heap.size) w9 (w9.alloc (.cells #[.int .i64 (nextW s m l e0).1.1, .int .i64 (nextW s m l e0).1.2.1, .int .i64 (nextW s m l e0).1.2.2] 24)) := (Chg.refl (· < w9.heap.size) w9).alloc _ (by simp)
        have k10 := hx9.then j10 (by intro k hk; simp; omega)
        have B16 := (j10.block w9.heap.size (by simp)).trans (heap_new w9 (.cells #[.int .i64 (nextW s m l e0).1.1, .int .i64 (nextW s m l e0).1.2.1, .int .i64 (nextW s m l e0).1.2.2] 24))
        have y10 : w9.heap.size < w10.heap.size := by have := j10.size; simp at this; omega
        obtain ⟨g16, hg16⟩ : ∃ g, g = w9.heap.size := ⟨_, rfl⟩
        rw [← hg16] at B16 ⊢
        have q10 := q9.then k10 (by intro k hk; omega)
        have t10 := t9.chg k10 (by intro k hk; omega)
        have lb16 : w.heap.size ≤ g16 := by omega
        have lg16 : g16 < w10.heap.size := by omega
        have z10 : b < w10.heap.size := by omega
        have ne16 : w9.heap.size ≤ g16 := by omega
        have D11 := (k10.block g11 (by omega)).trans B11
        have B11 := D11
        have lg11 : g11 < w10.heap.size := by omega
        have D14 := (k10.block g14 (by omega)).trans B14
        have B14 := D14
        have lg14 : g14 < w10.heap.size := by omega
        have D0 := (k10.block w.heap.size (by omega)).trans B0
        have B0 := D0
        clear D0
        clear hx9 j10 k10 q9 t9 z9 hg16 D11 D14
        go_wp2_with fail
        refine (wt_new_r n0 _).mono ?_
        rintro e w11 ⟨rfl, j11⟩
        have hx10 : Chg (· < w10.heap.size) w10 (w10.alloc (.cells #[.int .i64 (newW n0).1.1, .int .i64 (newW n0).1.2.1, .int .i64 (newW n0).1.2.2] 24)) := (Chg.refl (· < w10.heap.size) w10).alloc _ (by simp)
        have k11 := hx10.then j11 (by intro k hk; simp; omega)
        have B18 := (j11.block w10.heap.size (by simp)).trans (heap_new w10 (.cells #[.int .i64 (newW n0).1.1, .int .i64 (newW n0).1.2.1, .int .i64 (newW n0).1.2.2] 24))
        have y11 : w10.heap.size < w11.heap.size := by have := j11.size; simp at this; omega
        obtain ⟨g18, hg18⟩ : ∃ g, g = w10.heap.size := ⟨_, rfl⟩
        rw [← hg18] at B18 ⊢
        have q11 := q10.then k11 (by intro k hk; omega)
        have t11 := t10.chg k11 (by intro k hk; omega)
        have lb18 : w.heap.size ≤ g18 := by omega
        have lg18 : g18 < w11.heap.size := by omega
        have z11 : b < w11.heap.size := by omega
        have ne18 : w10.heap.size ≤ g18 := by omega
        have D11 := (k11.block g11 (by omega)).trans B11
        have B11 := D11
        have lg11 : g11 < w11.heap.size := by omega
        have D14 := (k11.block g14 (by omega)).trans B14
        have B14 := D14
        have lg14 : g14 < w11.heap.size := by omega
        have D16 := (k11.block g16 (by omega)).trans B16
        have B16 := D16
        have lg16 : g16 < w11.heap.size := by omega
        have D0 := (k11.block w.heap.size (by omega)).trans B0
        have B0 := D0
        clear D0
        clear hx10 j11 k11 q10 t10 z10 hg18 D11 D14 D16
        have hx11 : Chg (· < w11.heap.size) w11 (w11.alloc (.cells #[.int .i64 (newW n0).1.1, .int .i64 (newW n0).1.2.1, .int .i64 (newW n0).1.2.2] 24)) := (Chg.refl (· < w11.heap.size) w11).alloc _ (by simp)
        have zx11 : (w11.alloc (.cells #[.int .i64 (newW n0).1.1, .int .i64 (newW n0).1.2.1, .int .i64 (newW n0).1.2.2] 24)).heap.size = w11.heap.size + 1 := by simp
        have B20 := heap_new w11 (.cells #[.int .i64 (newW n0).1.1, .int .i64 (newW n0).1.2.1, .int .i64 (newW n0).1.2.2] 24)
        have D11 := (hx11.block g11 lg11).trans B11
        have D14 := (hx11.block g14 lg14).trans B14
        have D16 := (hx11.block g16 lg16).trans B16
        have D18 := (hx11.block g18 lg18).trans B18
        have D0 := (hx11.block w.heap.size (by omega)).trans B0
        have ql := q11.then hx11 (by intro k hk; omega)
        have tl := t11.chg hx11 (by intro k hk; omega)
        obtain ⟨g20, hg20⟩ : ∃ g, g = w11.heap.size := ⟨_, rfl⟩
        have l20 : w.heap.size < g20 := by omega
        obtain ⟨wl, hwl⟩ : ∃ wl, wl = w11.alloc (.cells #[.int .i64 (newW n0).1.1, .int .i64 (newW n0).1.2.1, .int .i64 (newW n0).1.2.2] 24) := ⟨_, rfl⟩
        rw [← hwl] at B20 D0 ql tl zx11 D11 D14 D16 D18
        rw [← hg20] at B20
        go_wp2_with fail
        rw [← hg20, ← hwl]
        have bl : b < wl.heap.size := by omega
        have HQ := Lib.hid ql
        have HT := Lib.hid tl
        have H0 := Lib.hid D0
        obtain ⟨c110, c111, c112, _⟩ := cells3 D11
        obtain ⟨c140, c141, c142, _⟩ := cells3 D14
        obtain ⟨c160, c161, c162, _⟩ := cells3 D16
        obtain ⟨c180, c181, c182, _⟩ := cells3 D18
        obtain ⟨c200, c201, c202, _⟩ := cells3 B20
        clear hg20 hwl zx11 hx11 q11 t11 ql tl D0 B0 B20 z11 D11 B11 D14 B14 D16 B16 D18 B18
        have hS0 : wl.cell? ⟨g11, 0, none⟩ = some (.int .i64 s) ∧ wl.cell? ⟨g11, 1, none⟩ = some (.int .i64 m) ∧ wl.cell? ⟨g11, 2, none⟩ = some (.int .i64 l) ∧ wl.cell? ⟨g14, 0, none⟩ = some (.int .i64 (nextW s m l e0).1.1) ∧ wl.cell? ⟨g14, 1, none⟩ = some (.int .i64 (nextW s m l e0).1.2.1) ∧ wl.cell? ⟨g14, 2, none⟩ = some (.int .i64 (nextW s m l e0).1.2.2) ∧ wl.cell? ⟨g16, 0, none⟩ = some (.int .i64 (nextW s m l e0).1.1) ∧ wl.cell? ⟨g16, 1, none⟩ = some (.int .i64 (nextW s m l e0).1.2.1) ∧ wl.cell? ⟨g16, 2, none⟩ = some (.int .i64 (nextW s m l e0).1.2.2) ∧ wl.cell? ⟨g18, 0, none⟩ = some (.int .i64 (newW n0).1.1) ∧ wl.cell? ⟨g18, 1, none⟩ = some (.int .i64 (newW n0).1.2.1) ∧ wl.cell? ⟨g18, 2, none⟩ = some (.int .i64 (newW n0).1.2.2) ∧ wl.cell? ⟨g20, 0, none⟩ = some (.int .i64 (newW n0).1.1) ∧ wl.cell? ⟨g20, 1, none⟩ = some (.int .i64 (newW n0).1.2.1) ∧ wl.cell? ⟨g20, 2, none⟩ = some (.int .i64 (newW n0).1.2.2) ∧ Chg (· < wl.heap.size) wl wl := ⟨c110, c111, c112, c140, c141, c142, c160, c161, c162, c180, c181, c182, c200, c201, c202, Chg.refl _ _⟩
        clear c110 c111 c112 c140 c141 c142 c160 c161 c162 c180 c181 c182 c200 c201 c202
        go_region_held3 (fun w' => w'.cell? ⟨g11, 0, none⟩ = some (.int .i64 s) ∧ w'.cell? ⟨g11, 1, none⟩ = some (.int .i64 m) ∧ w'.cell? ⟨g11, 2, none⟩ = some (.int .i64 l) ∧ w'.cell? ⟨g14, 0, none⟩ = some (.int .i64 (nextW s m l e0).1.1) ∧ w'.cell? ⟨g14, 1, none⟩ = some (.int .i64 (nextW s m l e0).1.2.1) ∧ w'.cell? ⟨g14, 2, none⟩ = some (.int .i64 (nextW s m l e0).1.2.2) ∧ w'.cell? ⟨g16, 0, none⟩ = some (.int .i64 (nextW s m l e0).1.1) ∧ w'.cell? ⟨g16, 1, none⟩ = some (.int .i64 (nextW s m l e0).1.2.1) ∧ w'.cell? ⟨g16, 2, none⟩ = some (.int .i64 (nextW s m l e0).1.2.2) ∧ w'.cell? ⟨g18, 0, none⟩ = some (.int .i64 (newW n0).1.1) ∧ w'.cell? ⟨g18, 1, none⟩ = some (.int .i64 (newW n0).1.2.1) ∧ w'.cell? ⟨g18, 2, none⟩ = some (.int .i64 (newW n0).1.2.2) ∧ w'.cell? ⟨g20, 0, none⟩ = some (.int .i64 (newW n0).1.1) ∧ w'.cell? ⟨g20, 1, none⟩ = some (.int .i64 (newW n0).1.2.1) ∧ w'.cell? ⟨g20, 2, none⟩ = some (.int .i64 (newW n0).1.2.2) ∧ Chg (· < wl.heap.size) wl w')
          (first | exact keep16 (by assumption) (by assumption) | exact keep16 (Chg.refl _ _).drew hS0)
          (first
            | (go_at_call 15; refine (wt_valid_p _ _ _ _).mono ?_; rintro e v1 ⟨rfl, kk⟩; have kc := (keep16 kk (by assumption)).2.2.2.2.2.2.2.2.2.2.2.2.2.2.2)
            | (go_at_call 16; refine (wt_valid_r _ _ _ _).mono ?_; rintro e v1 ⟨rfl, kk⟩; have kc := (keep16 kk (by assumption)).2.2.2.2.2.2.2.2.2.2.2.2.2.2.2))
        have qf := HQ.out.then kc (by intro k hk; omega)
        have tf := HT.out.chg kc (by intro k hk; omega)
        have gf := Lib.hid ((kc.block w.heap.size (by omega)).trans H0.out)
        have qf := Lib.hid qf
        have tf := Lib.hid tf
        clear kk kc hS0
        go_wp2_with fail
        refine ⟨⟨7 + 1, by omega, by go_num, qf.out, tf.out, gf.out⟩, by simp [intOf]; try omega⟩
      · have d7 : ((k : Int) == 7) = false := by simp; omega
        have z7 := t7.lt2
        have B0 := G7
        clear G7
        go_wp2_with fail
        refine (wt_next_p _ _ _ _ _).mono ?_
        rintro e w8 ⟨rfl, j8⟩
        have hx7 : Chg (· < w7.heap.size) w7 (w7.alloc (.cells #[.int .i64 (1 + x), .int .i64 y, .int .i64 (1 + z)] 24)) := (Chg.refl (· < w7.heap.size) w7).alloc _ (by simp)
        have k8 := hx7.then j8 (by intro k hk; simp; omega)
        have B11 := (j8.block w7.heap.size (by simp)).trans (heap_new w7 (.cells #[.int .i64 (1 + x), .int .i64 y, .int .i64 (1 + z)] 24))
        have y8 : w7.heap.size < w8.heap.size := by have := j8.size; simp at this; omega
        obtain ⟨g11, hg11⟩ : ∃ g, g = w7.heap.size := ⟨_, rfl⟩
        rw [← hg11] at B11 ⊢
        have q8 := q7.then k8 (by intro k hk; omega)
        have t8 := t7.chg k8 (by intro k hk; omega)
        have lb11 : w.heap.size ≤ g11 := by omega
        have lg11 : g11 < w8.heap.size := by omega
        have z8 : b < w8.heap.size := by omega
        have ne11 : w7.heap.size ≤ g11 := by omega
        have D0 := (k8.block w.heap.size (by omega)).trans B0
        have B0 := D0
        clear D0
        clear hx7 j8 k8 q7 t7 z7 hg11
        obtain ⟨c110, c111, c112, f110, f111, f112⟩ := cells3 B11
        go_wp2_with fail
        refine (wt_next_r _ _ _ _ _).mono ?_
        rintro e w9 ⟨rfl, j9⟩
        have hx8 : Chg (· < w8.heap.size) w8 (w8.alloc (.cells #[.int .i64 (nextW (1 + x) y (1 + z) ev).1.1, .int .i64 (nextW (1 + x) y (1 + z) ev).1.2.1, .int .i64 (nextW (1 + x) y (1 + z) ev).1.2.2] 24)) := (Chg.refl (· < w8.heap.size) w8).alloc _ (by simp)
        have k9 := hx8.then j9 (by intro k hk; simp; omega)
        have B14 := (j9.block w8.heap.size (by simp)).trans (heap_new w8 (.cells #[.int .i64 (nextW (1 + x) y (1 + z) ev).1.1, .int .i64 (nextW (1 + x) y (1 + z) ev).1.2.1, .int .i64 (nextW (1 + x) y (1 + z) ev).1.2.2] 24))
        have y9 : w8.heap.size < w9.heap.size := by have := j9.size; simp at this; omega
        obtain ⟨g14, hg14⟩ : ∃ g, g = w8.heap.size := ⟨_, rfl⟩
        rw [← hg14] at B14 ⊢
        have q9 := q8.then k9 (by intro k hk; omega)
        have t9 := t8.chg k9 (by intro k hk; omega)
        have lb14 : w.heap.size ≤ g14 := by omega
        have lg14 : g14 < w9.heap.size := by omega
        have z9 : b < w9.heap.size := by omega
        have ne14 : w8.heap.size ≤ g14 := by omega
        have D11 := (k9.block g11 (by omega)).trans B11
        have B11 := D11
        have lg11 : g11 < w9.heap.size := by omega
        have D0 := (k9.block w.heap.size (by omega)).trans B0
        have B0 := D0
        clear D0
        clear hx8 j9 k9 q8 t8 z8 hg14 D11
        clear c110 c111 c112 f110 f111 f112
        go_wp2_with fail
        refine (wt_new_p mi _).mono ?_
        rintro e w10 ⟨rfl, j10⟩
        have hx9 : Chg (· < w9.heap.size) w9 (w9.alloc (.cells #[.int .i64 (nextW (1 + x) y (1 + z) ev).1.1, .int .i64 (nextW (1 + x) y (1 + z) ev).1.2.1, .int .i64 (nextW (1 + x) y (1 + z) ev).1.2.2] 24)) := (Chg.refl (· < w9.heap.size) w9).alloc _ (by simp)
        have k10 := hx9.then j10 (by intro k hk; simp; omega)
        have B16 := (j10.block w9.heap.size (by simp)).trans (heap_new w9 (.cells #[.int .i64 (nextW (1 + x) y (1 + z) ev).1.1, .int .i64 (nextW (1 + x) y (1 + z) ev).1.2.1, .int .i64 (nextW (1 + x) y (1 + z) ev).1.2.2] 24))
        have y10 : w9.heap.size < w10.heap.size := by have := j10.size; simp at this; omega
        obtain ⟨g16, hg16⟩ : ∃ g, g = w9.heap.size := ⟨_, rfl⟩
        rw [← hg16] at B16 ⊢
        have q10 := q9.then k10 (by intro k hk; omega)
        have t10 := t9.chg k10 (by intro k hk; omega)
        have lb16 : w.heap.size ≤ g16 := by omega
        have lg16 : g16 < w10.heap.size := by omega
        have z10 : b < w10.heap.size := by omega
        have ne16 : w9.heap.size ≤ g16 := by omega
        have D11 := (k10.block g11 (by omega)).trans B11
        have B11 := D11
        have lg11 : g11 < w10.heap.size := by omega
        have D14 := (k10.block g14 (by omega)).trans B14
        have B14 := D14
        have lg14 : g14 < w10.heap.size := by omega
        have D0 := (k10.block w.heap.size (by omega)).trans B0
        have B0 := D0
        clear D0
        clear hx9 j10 k10 q9 t9 z9 hg16 D11 D14
        go_wp2_with fail
        refine (wt_new_r mi _).mono ?_
        rintro e w11 ⟨rfl, j11⟩
        have hx10 : Chg (· < w10.heap.size) w10 (w10.alloc (.cells #[.int .i64 (newW mi).1.1, .int .i64 (newW mi).1.2.1, .int .i64 (newW mi).1.2.2] 24)) := (Chg.refl (· < w10.heap.size) w10).alloc _ (by simp)
        have k11 := hx10.then j11 (by intro k hk; simp; omega)
        have B18 := (j11.block w10.heap.size (by simp)).trans (heap_new w10 (.cells #[.int .i64 (newW mi).1.1, .int .i64 (newW mi).1.2.1, .int .i64 (newW mi).1.2.2] 24))
        have y11 : w10.heap.size < w11.heap.size := by have := j11.size; simp at this; omega
        obtain ⟨g18, hg18⟩ : ∃ g, g = w10.heap.size := ⟨_, rfl⟩
        rw [← hg18] at B18 ⊢
        have q11 := q10.then k11 (by intro k hk; omega)
        have t11 := t10.chg k11 (by intro k hk; omega)
        have lb18 : w.heap.size ≤ g18 := by omega
        have lg18 : g18 < w11.heap.size := by omega
        have z11 : b < w11.heap.size := by omega
        have ne18 : w10.heap.size ≤ g18 := by omega
        have D11 := (k11.block g11 (by omega)).trans B11
        have B11 := D11
        have lg11 : g11 < w11.heap.size := by omega
        have D14 := (k11.block g14 (by omega)).trans B14
        have B14 := D14
        have lg14 : g14 < w11.heap.size := by omega
        have D16 := (k11.block g16 (by omega)).trans B16
        have B16 := D16
        have lg16 : g16 < w11.heap.size := by omega
        have D0 := (k11.block w.heap.size (by omega)).trans B0
        have B0 := D0
        clear D0
        clear hx10 j11 k11 q10 t10 z10 hg18 D11 D14 D16
        have hx11 : Chg (· < w11.heap.size) w11 (w11.alloc (.cells #[.int .i64 (newW mi).1.1, .int .i64 (newW mi).1.2.1, .int .i64 (newW mi).1.2.2] 24)) := (Chg.refl (· < w11.heap.size) w11).alloc _ (by simp)
        have zx11 : (w11.alloc (.cells #[.int .i64 (newW mi).1.1, .int .i64 (newW mi).1.2.1, .int .i64 (newW mi).1.2.2] 24)).heap.size = w11.heap.size + 1 := by simp
        have B20 := heap_new w11 (.cells #[.int .i64 (newW mi).1.1, .int .i64 (newW mi).1.2.1, .int .i64 (newW mi).1.2.2] 24)
        have D11 := (hx11.block g11 lg11).trans B11
        have D14 := (hx11.block g14 lg14).trans B14
        have D16 := (hx11.block g16 lg16).trans B16
        have D18 := (hx11.block g18 lg18).trans B18
        have D0 := (hx11.block w.heap.size (by omega)).trans B0
        have ql := q11.then hx11 (by intro k hk; omega)
        have tl := t11.chg hx11 (by intro k hk; omega)
        obtain ⟨g20, hg20⟩ : ∃ g, g = w11.heap.size := ⟨_, rfl⟩
        have l20 : w.heap.size < g20 := by omega
        obtain ⟨wl, hwl⟩ : ∃ wl, wl = w11.alloc (.cells #[.int .i64 (newW mi).1.1, .int .i64 (newW mi).1.2.1, .int .i64 (newW mi).1.2.2] 24) := ⟨_, rfl⟩
        rw [← hwl] at B20 D0 ql tl zx11 D11 D14 D16 D18
        rw [← hg20] at B20
        go_wp2_with fail
        rw [← hg20, ← hwl]
        have bl : b < wl.heap.size := by omega
        have HQ := Lib.hid ql
        have HT := Lib.hid tl
        have H0 := Lib.hid D0
        obtain ⟨c110, c111, c112, _⟩ := cells3 D11
        obtain ⟨c140, c141, c142, _⟩ := cells3 D14
        obtain ⟨c160, c161, c162, _⟩ := cells3 D16
        obtain ⟨c180, c181, c182, _⟩ := cells3 D18
        obtain ⟨c200, c201, c202, _⟩ := cells3 B20
        clear hg20 hwl zx11 hx11 q11 t11 ql tl D0 B0 B20 z11 D11 B11 D14 B14 D16 B16 D18 B18
        have hS0 : wl.cell? ⟨g11, 0, none⟩ = some (.int .i64 (1 + x)) ∧ wl.cell? ⟨g11, 1, none⟩ = some (.int .i64 y) ∧ wl.cell? ⟨g11, 2, none⟩ = some (.int .i64 (1 + z)) ∧ wl.cell? ⟨g14, 0, none⟩ = some (.int .i64 (nextW (1 + x) y (1 + z) ev).1.1) ∧ wl.cell? ⟨g14, 1, none⟩ = some (.int .i64 (nextW (1 + x) y (1 + z) ev).1.2.1) ∧ wl.cell? ⟨g14, 2, none⟩ = some (.int .i64 (nextW (1 + x) y (1 + z) ev).1.2.2) ∧ wl.cell? ⟨g16, 0, none⟩ = some (.int .i64 (nextW (1 + x) y (1 + z) ev).1.1) ∧ wl.cell? ⟨g16, 1, none⟩ = some (.int .i64 (nextW (1 + x) y (1 + z) ev).1.2.1) ∧ wl.cell? ⟨g16, 2, none⟩ = some (.int .i64 (nextW (1 + x) y (1 + z) ev).1.2.2) ∧ wl.cell? ⟨g18, 0, none⟩ = some (.int .i64 (newW mi).1.1) ∧ wl.cell? ⟨g18, 1, none⟩ = some (.int .i64 (newW mi).1.2.1) ∧ wl.cell? ⟨g18, 2, none⟩ = some (.int .i64 (newW mi).1.2.2) ∧ wl.cell? ⟨g20, 0, none⟩ = some (.int .i64 (newW mi).1.1) ∧ wl.cell? ⟨g20, 1, none⟩ = some (.int .i64 (newW mi).1.2.1) ∧ wl.cell? ⟨g20, 2, none⟩ = some (.int .i64 (newW mi).1.2.2) ∧ Chg (· < wl.heap.size) wl wl := ⟨c110, c111, c112, c140, c141, c142, c160, c161, c162, c180, c181, c182, c200, c201, c202, Chg.refl _ _⟩
        clear c110 c111 c112 c140 c141 c142 c160 c161 c162 c180 c181 c182 c200 c201 c202
        go_region_held3 (fun w' => w'.cell? ⟨g11, 0, none⟩ = some (.int .i64 (1 + x)) ∧ w'.cell? ⟨g11, 1, none⟩ = some (.int .i64 y) ∧ w'.cell? ⟨g11, 2, none⟩ = some (.int .i64 (1 + z)) ∧ w'.cell? ⟨g14, 0, none⟩ = some (.int .i64 (nextW (1 + x) y (1 + z) ev).1.1) ∧ w'.cell? ⟨g14, 1, none⟩ = some (.int .i64 (nextW (1 + x) y (1 + z) ev).1.2.1) ∧ w'.cell? ⟨g14, 2, none⟩ = some (.int .i64 (nextW (1 + x) y (1 + z) ev).1.2.2) ∧ w'.cell? ⟨g16, 0, none⟩ = some (.int .i64 (nextW (1 + x) y (1 + z) ev).1.1) ∧ w'.cell? ⟨g16, 1, none⟩ = some (.int .i64 (nextW (1 + x) y (1 + z) ev).1.2.1) ∧ w'.cell? ⟨g16, 2, none⟩ = some (.int .i64 (nextW (1 + x) y (1 + z) ev).1.2.2) ∧ w'.cell? ⟨g18, 0, none⟩ = some (.int .i64 (newW mi).1.1) ∧ w'.cell? ⟨g18, 1, none⟩ = some (.int .i64 (newW mi).1.2.1) ∧ w'.cell? ⟨g18, 2, none⟩ = some (.int .i64 (newW mi).1.2.2) ∧ w'.cell? ⟨g20, 0, none⟩ = some (.int .i64 (newW mi).1.1) ∧ w'.cell? ⟨g20, 1, none⟩ = some (.int .i64 (newW mi).1.2.1) ∧ w'.cell? ⟨g20, 2, none⟩ = some (.int .i64 (newW mi).1.2.2) ∧ Chg (· < wl.heap.size) wl w')
          (first | exact keep16 (by assumption) (by assumption) | exact keep16 (Chg.refl _ _).drew hS0)
          (first
            | (go_at_call 15; refine (wt_valid_p _ _ _ _).mono ?_; rintro e v1 ⟨rfl, kk⟩; have kc := (keep16 kk (by assumption)).2.2.2.2.2.2.2.2.2.2.2.2.2.2.2)
            | (go_at_call 16; refine (wt_valid_r _ _ _ _).mono ?_; rintro e v1 ⟨rfl, kk⟩; have kc := (keep16 kk (by assumption)).2.2.2.2.2.2.2.2.2.2.2.2.2.2.2))
        have qf := HQ.out.then kc (by intro k hk; omega)
        have tf := HT.out.chg kc (by intro k hk; omega)
        have gf := Lib.hid ((kc.block w.heap.size (by omega)).trans H0.out)
        have qf := Lib.hid qf
        have tf := Lib.hid tf
        clear kk kc hS0
        go_wp2_with fail
        refine ⟨⟨k + 1, by omega, by go_num, qf.out, tf.out, gf.out⟩, by simp [intOf]; try omega⟩
    · obtain rfl : k = 8 := by omega
      go_wp2_with fail
      refine (sane15_x _).mono ?_
      rintro e w9 ⟨rfl, k9⟩
      go_wp2_with fail
      go_ret
      exact ⟨rfl, hc.then k9 (by intro k hk; omega)⟩
end Go.Proofs.Ytgfnngdkoecciaa
