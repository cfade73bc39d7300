/- The walk over SuspectProbes. -/
import Derived.Test.YtgfnngdkoecciaaDown
import Derived.Test.YtgfnngdkoecciaaWatchW
import Derived.Deep.RegionHeld3
import Derived.Deep.DeepCutAuto
namespace Go.Proofs.Ytgfnngdkoecciaa
open Go.RowKit

theorem afterW_valid {n : Int} (h1 : 1 ≤ n) (h2 : n ≤ 64) (l : List Int) : validW (afterW n l).1 (afterW n l).2.1 (afterW n l).2.2 = true ∧ (afterW n l).2.2 = n := by
  have hb := silentW_bd l
  unfold afterW
  split
  · exact ⟨by simp [validW]; omega, rfl⟩
  · split
    · exact ⟨by simp [validW]; omega, rfl⟩
    · exact ⟨by simp [validW]; omega, rfl⟩
theorem probe_law {n : Int} (h1 : 1 ≤ n) (h2 : n ≤ 64) (l : List Int) (y : Int) :
    (nextW (afterW n l).1 (afterW n l).2.1 (afterW n l).2.2 y).2 = (!bouncedW l && y == 1) := by
  have hv := (afterW_valid h1 h2 l).1
  unfold nextW
  rw [if_pos hv]
  have hb := silentW_bd l
  unfold afterW
  by_cases hbo : bouncedW l = true
  · simp [hbo]
  · simp only [if_neg hbo]
    have hbo' : bouncedW l = false := by simpa using hbo
    rw [hbo']
    split <;> (simp only []; by_cases y1 : y = 1 <;> simp [y1] <;> (repeat split) <;> (first | rfl | (simp_all; done) | (by_cases y3 : y = 3 <;> simp [y1, y3])))

theorem keepP {w w' : World} {a0 a1 a2 a3 : Addr} {x0 x1 x2 x3 : Value} (k : Chg (· < w.heap.size) w w') (h : w.cell? a0 = some x0 ∧ w.cell? a1 = some x1 ∧ w.cell? a2 = some x2 ∧ w.cell? a3 = some x3) :
    w'.cell? a0 = some x0 ∧ w'.cell? a1 = some x1 ∧ w'.cell? a2 = some x2 ∧ w'.cell? a3 = some x3 := by
  obtain ⟨h0, h1, h2, h3⟩ := h
  exact ⟨k.cellv h0 (World.block_lt_of_cell? w _ h0), k.cellv h1 (World.block_lt_of_cell? w _ h1), k.cellv h2 (World.block_lt_of_cell? w _ h2), k.cellv h3 (World.block_lt_of_cell? w _ h3)⟩

theorem keepQ {S : Nat → Prop} {w w' : World} {a0 a1 a2 a3 : Addr} {x0 x1 x2 x3 : Value} (k : Chg S w w') (hs : S a0.block ∧ S a1.block ∧ S a2.block ∧ S a3.block) (h : w.cell? a0 = some x0 ∧ w.cell? a1 = some x1 ∧ w.cell? a2 = some x2 ∧ w.cell? a3 = some x3) :
    w'.cell? a0 = some x0 ∧ w'.cell? a1 = some x1 ∧ w'.cell? a2 = some x2 ∧ w'.cell? a3 = some x3 :=
  ⟨k.cellv h.1 hs.1, k.cellv h.2.1 hs.2.1, k.cellv h.2.2.1 hs.2.2.1, k.cellv h.2.2.2 hs.2.2.2⟩
theorem new_of {W v : World} {o : Obj} (h : Chg (· < (W.alloc o).heap.size) (W.alloc o) v) : v.heap[W.heap.size]? = some o :=
  (h.block _ (by simp)).trans (heap_new W o)
theorem new_ofd {W v : World} {o : Obj} (h : Chg (· < (W.alloc o).drew.heap.size) (W.alloc o).drew v) : v.heap[W.heap.size]? = some o := new_of (W := W) ⟨h.os, h.tape, h.output, h.size, h.block⟩
def ProbRel (n : Int) (l : List Int) (g : Nat) (wl : World) (d i : Value) (wr : World) : Prop :=
  ∃ k : Nat, k ≤ l.length ∧ i = .int .i64 k ∧ d = .bool (bouncedW (l.take k)) ∧ Chg (fun k => k < wl.heap.size ∧ k ≠ g) wl wr ∧
    wr.heap[g]? = some (.cells #[.int .i64 (afterW n (l.take k)).1, .int .i64 (afterW n (l.take k)).2.1, .int .i64 (afterW n (l.take k)).2.2] 24 (0, 0))

def ProbCut (Q : (Int × Int × Int) × Bool) (old : Int × Int × Int) (g : Nat) (w4 : World) (p c : Value) (wx : World) : Prop :=
  ∃ G : Nat, p = .pointer (some ⟨G, 0, none⟩) ∧ c = .bool Q.2 ∧ Chg (fun k => k < w4.heap.size ∧ k ≠ g) w4 wx ∧
    wx.heap[G]? = some (.cells #[.int .i64 Q.1.1, .int .i64 Q.1.2.1, .int .i64 Q.1.2.2] 24 (0, 0)) ∧
    wx.heap[g]? = some (.cells #[.int .i64 old.1, .int .i64 old.2.1, .int .i64 old.2.2] 24 (0, 0)) ∧ G ≠ g

set_option maxHeartbeats 4000000 in
theorem probes_walk (a1 : Option Addr) (n1 c1 : Nat) (l1 : List Int) (m : Int) (w : World)
    (h1 : Rd 1 encI (· < w.heap.size) w a1 n1 l1) (hc1 : n1 ≤ c1) (hm1 : c1 ≤ maxLen) :
    Calls Try.prog 7 #[.slice a1 n1 c1, .int .i64 m] w fun e w' => e = .returned (.bool true) ∧ Chg (· < w.heap.size) w w' := by
  obtain ⟨b, hb⟩ : ∃ b, b = w.heap.size := ⟨_, rfl⟩
  go_enter Try.func7, Try.ntmps7
  go_wp2_with fail
  refine (new_x _ _ _ l1 _ h1 (by simp) hc1 hm1).mono ?_
  rintro e w1 ⟨rfl, t1, k1⟩
  rw [← hb] at t1 ⊢
  have zb1 := t1.lt2
  have zw : w.heap.size < w1.heap.size := by omega
  have zb : w.heap.size ≤ b := by omega
  clear hb h1
  go_wp2_with fail
  refine (mod_any m 64 _ (by omega) (by omega)).mono ?_
  rintro e w2 ⟨rfl, rfl⟩
  have m0 := Int.emod_nonneg m (show (64 : Int) ≠ 0 by omega)
  have m1 := Int.emod_lt_of_pos m (show (0 : Int) < 64 by omega)
  generalize m % 64 = q at m0 m1 ⊢
  go_wp2_with fail
  refine (wt_new_p_ok (1 + q) _ (by omega)).mono ?_
  rintro e w2 ⟨rfl, k2⟩
  have z2 := k2.size
  have q2 := k1.then k2 (by intro k hk; omega)
  have t2 := t1.chg k2 (by intro k hk; omega)
  clear k1 k2 t1
  have B2 := heap_new w2 (.cells #[.int .i64 1, .int .i64 0, .int .i64 (1 + q)] 24)
  have hx := (Chg.refl (· < w2.heap.size) w2).alloc (.cells #[.int .i64 1, .int .i64 0, .int .i64 (1 + q)] 24) (by simp)
  have q3 := q2.then hx (by intro k hk; omega)
  have t3 := t2.chg hx (by intro k hk; omega)
  obtain ⟨g, hg⟩ : ∃ g, g = w2.heap.size := ⟨_, rfl⟩
  obtain ⟨wl, hwl⟩ : ∃ wl, wl = w2.alloc (.cells #[.int .i64 1, .int .i64 0, .int .i64 (1 + q)] 24) := ⟨_, rfl⟩
  have zl : g < wl.heap.size := by rw [hwl, hg]; simp
  have zgb : b < g := by omega
  rw [← hwl] at B2 q3 t3
  rw [← hg] at B2
  clear hx q2 t2
  have HWL := Lib.hid hwl
  have HG0 := Lib.hid hg
  have HB2 := Lib.hid B2
  clear hwl hg B2
  go_wp2_with fail
  rw [← HG0.out, ← HWL.out]
  refine (events_x40 _ t3 (by omega)).mono ?_
  rintro e w4 ⟨a, n, cap, l, rfl, hrd, hn, hn', hn'', k4, t4⟩
  have z4 := k4.size
  have q4 := q3.then k4 (by intro k hk; omega)
  have B4 := (k4.block g (by omega)).trans HB2.out
  have r4 := hrd
  have HL := Lib.hid r4.1
  unfold maxLen at hn''
  clear k4 t4 hrd q3 t3 HB2 HWL
  have HB4 := Lib.hid B4
  clear B4
  go_wp2_with fail
  go_loopw [9, 10] (fun d i wr => ProbRel (1 + q) l g w4 d i wr) (fun _ i _ => n - (intOf i).toNat)
  case atStart =>
    refine ⟨0, by omega, rfl, rfl, Chg.refl _ _, ?_⟩
    rw [HB4.out]
    have : ¬ (1 + q < 0) := by omega
    simp [afterW, bouncedW, silentW, this]
  case round =>
    obtain ⟨k, hk, rfl, rfl, hc, hg⟩ := hrel
    obtain ⟨wo, rfl⟩ : ∃ wo : World, wo = wr := ⟨_, rfl⟩
    have hsz := hc.size
    have hkl := HL.out
    have zg : g < wo.heap.size := heap_lt hg
    by_cases hlt : k < n
    · have u3 := r4.chg hc (fun k hk => by omega)
      obtain ⟨x, o, y, rfl, hx, hy, hcell⟩ := u3.at hlt
      have e0 : wo.cell? ⟨x, o + k, none⟩ = some (.int .i64 y) := by simpa using hcell 0 _ rfl
      have hbs : bouncedW (l.take (k + 1)) = (bouncedW (l.take k) || y == 3) := by
        rw [take_snocI l k y hy, bouncedW_snoc]
      have ha : afterW (1 + q) (l.take (k + 1)) = (nextW (afterW (1 + q) (l.take k)).1 (afterW (1 + q) (l.take k)).2.1 (afterW (1 + q) (l.take k)).2.2 y).1 := by
        rw [← fold_after _ (by omega) (by omega), ← fold_after _ (by omega) (by omega), take_snocI l k y hy, foldW_snoc]
        rfl
      have hv := afterW_valid (n := 1 + q) (by omega) (by omega) (l.take (k + 1))
      have hp := probe_law (n := 1 + q) (by omega) (by omega) (l.take k) y
      have hv0 := (afterW_valid (n := 1 + q) (by omega) (by omega) (l.take k)).2
      rw [ha] at hv
      have fin : k + 1 ≤ l.length := by omega
      have HX := Lib.hid hbs
      have HA := Lib.hid ha
      generalize hQ : nextW (afterW (1 + q) (l.take k)).1 (afterW (1 + q) (l.take k)).2.1 (afterW (1 + q) (l.take k)).2.2 y = Q at *
      have HQ := Lib.hid hQ
      have HV := Lib.hid hv.1
      have HV2 := Lib.hid hv.2
      have HV0 := Lib.hid hv0
      have HP := Lib.hid hp
      obtain ⟨c0, c1, c2, f0, f1, f2⟩ := cells3 hg
      have hS0 : wo.cell? ⟨g, 0, none⟩ = some (.int .i64 (afterW (1 + q) (l.take k)).1) ∧ wo.cell? ⟨g, 1, none⟩ = some (.int .i64 (afterW (1 + q) (l.take k)).2.1) ∧ wo.cell? ⟨g, 2, none⟩ = some (.int .i64 (afterW (1 + q) (l.take k)).2.2) ∧ wo.cell? ⟨x, o + k, none⟩ = some (.int .i64 y) := ⟨c0, c1, c2, e0⟩
      have HGB := Lib.hid hg
      have hgz : ¬ g = wo.heap.size := by omega
      have hxz : ¬ x = wo.heap.size := by omega
      have hSz : (¬ g = wo.heap.size) ∧ (¬ g = wo.heap.size) ∧ (¬ g = wo.heap.size) ∧ (¬ x = wo.heap.size) := ⟨hgz, hgz, hgz, hxz⟩
      have t1 : (k : Int) < (n : Int) := by omega
      have t2 : (0 : Int) ≤ (k : Int) := by omega
      have w1 : IntKind.i64.wrap (k : Int) = (k : Int) := IntWalk.i64_in _ (by omega)
      clear hcell hy u3 hbs ha hv hp hv0 hQ hg c0 c1 c2 f0 f1 f2 e0 hkl
      go_wp2_with fail
      go_cut [11, 12] from 32 to 40 (fun p c wx => ProbCut Q (afterW (1 + q) (l.take k)) g w4 p c wx)
      case first =>
        go_region_held3 (fun w' => w'.cell? ⟨g, 0, none⟩ = some (.int .i64 (afterW (1 + q) (l.take k)).1) ∧ w'.cell? ⟨g, 1, none⟩ = some (.int .i64 (afterW (1 + q) (l.take k)).2.1) ∧ w'.cell? ⟨g, 2, none⟩ = some (.int .i64 (afterW (1 + q) (l.take k)).2.2) ∧ w'.cell? ⟨x, o + k, none⟩ = some (.int .i64 y))
          (first | exact keepP (by assumption) (by assumption) | exact keepP (Chg.refl _ _).drew (by assumption) | exact keepP ((Chg.refl _ _).alloc _ (by simp)) (by assumption) | exact keepP ((Chg.refl _ _).alloc _ (by simp)) HS.out | exact keepQ ((((Chg.refl (fun k => ¬ k = wo.heap.size) _).setCell _ (fun _ h => h)).setCell _ (fun _ h => h)).setCell _ (fun _ h => h)) hSz HS.out | go_keep)
          (first
            | (go_at_call 12; fail)
            | (go_at_call 11; refine (wt_next_p _ _ _ _ _).mono ?_; rintro e v1 ⟨rfl, kk⟩; have HS := Lib.hid (keepP kk (by assumption)); (first | (with_reducible have nb := new_ofd kk; have nc := cells3 nb; have HNB := Lib.hid nb; clear nb) | skip)))
        · have k1 : Chg (· < wo.heap.size) wo v1 := (Chg.refl (· < wo.heap.size) wo).drew.next kk
          have z1 := k1.size
          have zz1 : g < v1.heap.size := by omega
          rw [HQ.out]
          have ka := (Chg.refl (· < v1.heap.size) v1).alloc (.cells #[.int .i64 Q.1.1, .int .i64 Q.1.2.1, .int .i64 Q.1.2.2] 24) (by simp)
          have BG := heap_new v1 (.cells #[.int .i64 Q.1.1, .int .i64 Q.1.2.1, .int .i64 Q.1.2.2] 24)
          have Bg := (ka.block g zz1).trans ((k1.block g zg).trans HGB.out)
          have hc5 := (hc.then k1 (by intro k hk; omega)).then ka (by intro k hk; omega)
          have R := Lib.hid (show ProbCut Q _ g w4 _ _ _ from ⟨v1.heap.size, rfl, rfl, hc5, BG, Bg, by omega⟩)
          clear ka kk k1 HS hSz hgz hxz hS0 BG Bg hc5
          go_wp2_with fail
          go_meet
          exact R.out
        · have k1 : Chg (· < wo.heap.size) wo v1 := ((Chg.refl (· < wo.heap.size) wo).alloc _ (by simp)).drew.then kk (by intro k hk; simp; omega)
          have z1 := k1.size
          rw [HQ.out]
          have ka := (((Chg.refl (fun k => ¬ k = wo.heap.size) v1).setCell (p := ⟨wo.heap.size, 0, none⟩) (.int .i64 Q.1.1) (fun _ h => h)).setCell (p := ⟨wo.heap.size, 1, none⟩) (.int .i64 Q.1.2.1) (fun _ h => h)).setCell (p := ⟨wo.heap.size, 2, none⟩) (.int .i64 Q.1.2.2) (fun _ h => h)
          have BG := heap_set (heap_set (heap_set HNB.out 0 (.int .i64 Q.1.1)) 1 (.int .i64 Q.1.2.1)) 2 (.int .i64 Q.1.2.2)
          have Bg := (ka.block g hgz).trans ((k1.block g zg).trans HGB.out)
          have hc5 := (hc.then k1 (by intro k hk; omega)).then ka (by intro k hk; omega)
          have R := Lib.hid (show ProbCut Q _ g w4 _ _ _ from ⟨wo.heap.size, rfl, rfl, hc5, by simpa using BG, Bg, by omega⟩)
          clear ka kk k1 HS hSz hgz hxz hS0 BG Bg hc5 nc
          go_wp2_with fail
          go_meet
          exact R.out
      case rest =>
        obtain ⟨G, rfl, rfl, hc5, BG, Bg, hne⟩ := hcut
        have z5 := hc5.size
        obtain ⟨c0, c1, c2, f0, f1, f2⟩ := cells3 Bg
        obtain ⟨d0, d1, d2, _⟩ := cells3 BG
        have hxg : x ≠ g := by have := hx.1; omega
        have hS1 := Lib.hid (hc5.cell (p := ⟨x, o + k, none⟩) ⟨hx.2, hxg⟩)
        have hS2 := Lib.hid (hc.cell (p := ⟨x, o + k, none⟩) ⟨hx.2, hxg⟩)
        have e0 : wc.cell? ⟨x, o + k, none⟩ = some (.int .i64 y) := by
          rw [hS1.out, ← hS2.out]; exact hS0.2.2.2
        have y5 : G < wc.heap.size := heap_lt BG
        have y6 : g < wc.heap.size := heap_lt Bg
        have HBG := Lib.hid BG
        have HBg := Lib.hid Bg
        have nb0 : (Q.1.2.2 == (afterW (1 + q) (l.take k)).2.2) = true := by rw [HV2.out, HV0.out]; simp
        have nb1 : (Q.1.2.2 != (afterW (1 + q) (l.take k)).2.2) = false := by rw [HV2.out, HV0.out]; simp
        have NB0 := Lib.hid nb0
        have NB1 := Lib.hid nb1
        have w1 : IntKind.i64.wrap (k : Int) = (k : Int) := IntWalk.i64_in _ (by omega)
        clear BG Bg hS1 hS2 hS0 nb0 nb1 hc r4 hgz hxz hSz
        have stp : ∀ d' : Bool, (bouncedW (l.take k) || y == 3) = d' → ∀ w6 : World, Chg (· < wc.heap.size) wc w6 →
            ProbRel (1 + q) l g w4 (.bool d') (.int .i64 ((k : Int) + 1)) (((w6.setCell ⟨g, 0, none⟩ (.int .i64 Q.1.1)).setCell ⟨g, 1, none⟩ (.int .i64 Q.1.2.1)).setCell ⟨g, 2, none⟩ (.int .i64 Q.1.2.2)) := by
          intro d' hd w6 k6
          refine ⟨k + 1, fin, by go_num, by rw [HX.out, hd], ?_, ?_⟩
          · exact (((hc5.then k6 (by intro k hk; omega)).setCell _ (fun k hk => hk.2)).setCell _ (fun k hk => hk.2)).setCell _ (fun k hk => hk.2)
          · rw [HA.out]
            simpa using heap_set (heap_set (heap_set ((k6.block g y6).trans HBg.out) 0 (.int .i64 Q.1.1)) 1 (.int .i64 Q.1.2.1)) 2 (.int .i64 Q.1.2.2)
        have STP := Lib.hid stp
        clear stp
        cases hbo : bouncedW (l.take k) with
        | true =>
          have hq : Q.2 = false := by rw [HP.out, hbo]; rfl
          have hd := STP.out true (by rw [hbo]; rfl)
          have HD := Lib.hid hd
          clear hd hbo
          go_wp2_with fail
          refine (wt_valid_p _ _ _ _).mono ?_
          rintro e w6 ⟨rfl, k6⟩
          rw [HV.out]
          obtain ⟨c0, c1, c2, f0, f1, f2⟩ := cells3 ((k6.block g y6).trans HBg.out)
          obtain ⟨d0, d1, d2, _⟩ := cells3 ((k6.block G y5).trans HBG.out)
          have e0 := k6.cellv e0 (World.block_lt_of_cell? wc _ e0)
          have nb0 := NB0.out
          have nb1 := NB1.out
          have HR := Lib.hid (HD.out w6 k6)
          clear k6
          go_wp2_with fail
          exact ⟨HR.out, by simp [intOf]; try omega⟩
        | false =>
          by_cases y1 : y = 1
          · subst y1
            have hq : Q.2 = true := by rw [HP.out, hbo]; rfl
            have hd := STP.out false (by rw [hbo]; rfl)
            have HD := Lib.hid hd
            clear hd hbo
            go_wp2_with fail
            refine (wt_valid_p _ _ _ _).mono ?_
            rintro e w6 ⟨rfl, k6⟩
            rw [HV.out]
            obtain ⟨c0, c1, c2, f0, f1, f2⟩ := cells3 ((k6.block g y6).trans HBg.out)
            obtain ⟨d0, d1, d2, _⟩ := cells3 ((k6.block G y5).trans HBG.out)
            have e0 := k6.cellv e0 (World.block_lt_of_cell? wc _ e0)
            have nb0 := NB0.out
            have nb1 := NB1.out
            have HR := Lib.hid (HD.out w6 k6)
            clear k6
            go_wp2_with fail
            exact ⟨HR.out, by simp [intOf]; try omega⟩
          · have d1 : (y == 1) = false := by simp [y1]
            have hq : Q.2 = false := by rw [HP.out, hbo, d1]; rfl
            by_cases y3 : y = 3
            · subst y3
              have hd := STP.out true (by rw [hbo]; rfl)
              have HD := Lib.hid hd
              clear hd hbo y1
              go_wp2_with fail
              refine (wt_valid_p _ _ _ _).mono ?_
              rintro e w6 ⟨rfl, k6⟩
              rw [HV.out]
              obtain ⟨c0, c1, c2, f0, f1, f2⟩ := cells3 ((k6.block g y6).trans HBg.out)
              obtain ⟨d0, d1, d2, _⟩ := cells3 ((k6.block G y5).trans HBG.out)
              have e0 := k6.cellv e0 (World.block_lt_of_cell? wc _ e0)
              have nb0 := NB0.out
              have nb1 := NB1.out
              have HR := Lib.hid (HD.out w6 k6)
              clear k6
              go_wp2_with fail
              exact ⟨HR.out, by simp [intOf]; try omega⟩
            · have d3 : (y == 3) = false := by simp [y3]
              have hd := STP.out false (by rw [hbo, d3]; rfl)
              have HD := Lib.hid hd
              clear hd hbo y1 y3
              go_wp2_with fail
              refine (wt_valid_p _ _ _ _).mono ?_
              rintro e w6 ⟨rfl, k6⟩
              rw [HV.out]
              obtain ⟨c0, c1, c2, f0, f1, f2⟩ := cells3 ((k6.block g y6).trans HBg.out)
              obtain ⟨d0, d1, d2, _⟩ := cells3 ((k6.block G y5).trans HBG.out)
              have e0 := k6.cellv e0 (World.block_lt_of_cell? wc _ e0)
              have nb0 := NB0.out
              have nb1 := NB1.out
              have HR := Lib.hid (HD.out w6 k6)
              clear k6
              go_wp2_with fail
              exact ⟨HR.out, by simp [intOf]; try omega⟩
    · clear r4
      go_wp2_with fail
      refine (sane15_x _).mono ?_
      rintro e w9 ⟨rfl, k9⟩
      go_wp2_with fail
      go_ret
      exact ⟨rfl, (q4.then hc (by intro k hk; omega)).then k9 (by intro k hk; omega)⟩
end Go.Proofs.Ytgfnngdkoecciaa
