/- Texts for BridgeRoundsProof. -/
import Derived.SizedLaws
import Derived.Test.YtlgdjigocopglaaGreatDoorRqAll14
import Derived.Test.YtlgdjigocopglaaGreatDoorRqADEF1
import Derived.Test.YtlgdjigocopglaaGreatDoorRqABC2
import Derived.Test.YtlgdjigocopglaaGreatDoorRqAB3
set_option linter.unusedSimpArgs false
set_option linter.unusedVariables false

namespace Go.Proofs.YtlgdjigocopglaaGreatDoor
open Go.RowKit
def rndsB (n h : Int) : Int := if 0 ≤ n ∧ n ≤ 64 ∧ 0 ≤ h ∧ h ≤ 16 then n * h else 0
theorem rounds17_p (n h : Int) (w : World) : Calls Tryz.prog 50 #[.int .i64 n, .int .i64 h] w fun e w' => e = .returned (.int .i64 (rndsB n h)) ∧ w = w' := by
 by_cases hb : 0 ≤ n ∧ n ≤ 64 ∧ 0 ≤ h ∧ h ≤ 16
 ·have E : Hid (rndsB n h = n * h) := lH (if_pos hb)
  obtain ⟨h1, h2, h3, h4⟩ := hb
  have hwr : IntKind.i64.wrap (n * h) = n * h := IntWalk.i64_in _ (by
   have a1 : 0 ≤ n * h := Int.mul_nonneg h1 h3
   have a2 : n * h ≤ 64 * 16 := Int.le_trans (Int.mul_le_mul_of_nonneg_right h2 h3) (Int.mul_le_mul_of_nonneg_left h4 (by omega))
   omega)
  have d1 : decide (n < 0) = false := by simp; omega
  have d2 : decide (n > 64) = false := by simp; omega
  have d3 : decide (h < 0) = false := by simp; omega
  have d4 : decide (h > 16) = false := by simp; omega
  clear h1 h2 h3 h4
  go_enter Tryz.func50, Tryz.ntmps50
  go_wp2_with fail
  go_ret
  exact ⟨by rw [E.out]; rfl, rfl⟩
 ·have E : Hid (rndsB n h = 0) := lH (if_neg hb)
  have hb2 : n < 0 ∨ n > 64 ∨ h < 0 ∨ h > 16 := by omega
  clear hb
  rcases hb2 with hb | hb | hb | hb
  ·have d1 : decide (n < 0) = true := by simpa using hb
   clear hb
   go_enter Tryz.func50, Tryz.ntmps50
   go_wp2_with fail
   go_ret
   exact ⟨by rw [E.out]; rfl, rfl⟩
  ·have d1 : decide (n < 0) = false := by simp; omega
   have d2 : decide (n > 64) = true := by simpa using hb
   clear hb
   go_enter Tryz.func50, Tryz.ntmps50
   go_wp2_with fail
   go_ret
   exact ⟨by rw [E.out]; rfl, rfl⟩
  ·by_cases h1 : n < 0
   ·clear hb
    go_enter Tryz.func50, Tryz.ntmps50
    go_wp2_with fail
    go_ret
    exact ⟨by rw [E.out]; rfl, rfl⟩
   by_cases h2 : n > 64
   ·clear hb
    go_enter Tryz.func50, Tryz.ntmps50
    go_wp2_with fail
    go_ret
    exact ⟨by rw [E.out]; rfl, rfl⟩
   go_enter Tryz.func50, Tryz.ntmps50
   go_wp2_with fail
   go_ret
   exact ⟨by rw [E.out]; rfl, rfl⟩
  ·have h3 : ¬ h < 0 := by omega
   by_cases h1 : n < 0
   ·clear hb
    go_enter Tryz.func50, Tryz.ntmps50
    go_wp2_with fail
    go_ret
    exact ⟨by rw [E.out]; rfl, rfl⟩
   by_cases h2 : n > 64
   ·clear hb
    go_enter Tryz.func50, Tryz.ntmps50
    go_wp2_with fail
    go_ret
    exact ⟨by rw [E.out]; rfl, rfl⟩
   go_enter Tryz.func50, Tryz.ntmps50
   go_wp2_with fail
   go_ret
   exact ⟨by rw [E.out]; rfl, rfl⟩
def threeN : List Nd := [⟨1, ⟨#[97]⟩, 0⟩, ⟨2, ⟨#[98]⟩, 1⟩, ⟨3, ⟨#[99]⟩, 2⟩]
def lowI : Nat → List Pr
 | 0 => [⟨1, 0, 2, [], []⟩, ⟨2, 1, 3, [], []⟩, ⟨3, 2, 0, [], []⟩]
 | k + 1 => bRoundN threeN (lowI k) 1
def thrP : List Pr := peersN threeN 1 1
theorem threeW : ∀ x ∈ threeN, x.word < 4294967296 := by decide +kernel
theorem thr_len : thrP.length = 3 := by decide +kernel
theorem thr_round : bRoundN threeN thrP 1 = thrP := by kernel_rfl
theorem smallA {P : List Pr} (h : P.all (fun p => decide (p.known.length ≤ 10) && decide (p.near.length ≤ 10)) = true) : ∀ p ∈ P, p.known.length ≤ 10 ∧ p.near.length ≤ 10 := fun p hp => by
 have := List.all_eq_true.1 h p hp
 simpa only [Bool.and_eq_true, decide_eq_true_eq] using this
theorem thr_small : ∀ p ∈ thrP, p.known.length ≤ 10 ∧ p.near.length ≤ 10 := smallA (by decide +kernel)
theorem low_small : ∀ k, k ≤ 3 → ∀ p ∈ lowI k, p.known.length ≤ 10 ∧ p.near.length ≤ 10
 | 0, _ => smallA (by decide +kernel)
 | 1, _ => smallA (by decide +kernel)
 | 2, _ => smallA (by decide +kernel)
 | 3, _ => smallA (by decide +kernel)
 | k + 4, h => absurd h (by omega)
theorem low_len : ∀ k, k ≤ 3 → (lowI k).length = 3
 | 0, _ => by decide +kernel
 | 1, _ => by decide +kernel
 | 2, _ => by decide +kernel
 | 3, _ => by decide +kernel
 | k + 4, h => absurd h (by omega)
theorem small10 {P : List Pr} (h : ∀ p ∈ P, p.known.length ≤ 10 ∧ p.near.length ≤ 10) : SmallP P := fun p hp => by have := h p hp; omega
theorem three_b : (buildN threeN 1).2 = 0 := by decide +kernel
theorem thr_exact : exactB threeN thrP 1 = true := by
 rw [exactB_eq three_b]
 exact decide_eq_true (by decide +kernel)
theorem low_exact : exactB threeN (lowI 3) 1 = true := by
 rw [exactB_eq three_b]
 exact decide_eq_true (by decide +kernel)
theorem low_link : ((lowI 3)[0]?).map (fun y => linkB threeN y 1) = some (0, 3) := by decide +kernel
theorem rnds_31 : rndsB 3 1 = 3 := by decide +kernel
def TnPost (w : World) (e : Ending) (w' : World) : Prop := ∃ a, e = .returned (.slice a 3 3) ∧ Sl 3 encN w' a 3 threeN ∧ Ex w w'
theorem three_x (w : World) : Calls Tryz.prog 52 #[] w (TnPost w) := by
 go_enter Tryz.func52, Tryz.ntmps52
 go_wp2_with fail
 go_ret
 exact ⟨_, rfl, Sl.lit threeN rfl rfl (fun _ => rfl) rfl, Ex.new _ _⟩
theorem lowLit (w : World) : ∃ g v, g = w.heap.size ∧ v = w.alloc (.cells #[.int .i64 1, .slice none 0 0, .int .i64 0, .int .i64 2, .slice none 0 0, .int .i64 2, .slice none 0 0, .int .i64 1, .int .i64 3, .slice none 0 0, .int .i64 3, .slice none 0 0, .int .i64 2, .int .i64 0, .slice none 0 0] 41) ∧
  PL v (some ⟨g, 0, none⟩) 3 (lowI 0) ∧ Ex w v := by
 refine ⟨_, _, rfl, rfl, ⟨[((1, 0, 2), (none, 0, 0), (none, 0, 0)), ((2, 1, 3), (none, 0, 0), (none, 0, 0)), ((3, 2, 0), (none, 0, 0), (none, 0, 0))], ?_, rfl, fun j q p hq hp => ?_⟩, Ex.new _ _⟩
 ·exact Sl.lit (enc := encQ) (sz := 5) (w := w) (s := w.heap.size) (ty := 41) (n := 3) [((1, 0, 2), (none, 0, 0), (none, 0, 0)), ((2, 1, 3), (none, 0, 0), (none, 0, 0)), ((3, 2, 0), (none, 0, 0), (none, 0, 0))] rfl rfl encQ_len rfl
 ·rcases j with _ | _ | _ | j
  ·simp only [List.getElem?_cons_zero, Option.some.injEq, lowI] at hq hp
   subst hq hp
   exact ⟨rfl, Sl.nil _ _ _ _, Sl.nil _ _ _ _⟩
  ·simp only [List.getElem?_cons_zero, List.getElem?_cons_succ, Option.some.injEq, lowI] at hq hp
   subst hq hp
   exact ⟨rfl, Sl.nil _ _ _ _, Sl.nil _ _ _ _⟩
  ·simp only [List.getElem?_cons_zero, List.getElem?_cons_succ, Option.some.injEq, lowI] at hq hp
   subst hq hp
   exact ⟨rfl, Sl.nil _ _ _ _, Sl.nil _ _ _ _⟩
  ·simp at hq
def LwRel (w : World) (o i : Value) (wr : World) : Prop :=
 ∃ (k : Nat) (a : Option Addr) (c : Nat), k ≤ 3 ∧ i = .int .i64 k ∧ o = .slice a 3 c ∧ PL wr a 3 (lowI k) ∧ Ex w wr
set_option maxRecDepth 100000 in
set_option maxHeartbeats 8000000 in
theorem sane17_x (w : World) (hT : TabG w) : Calls Tryz.prog 17 #[] w fun e w' => e = .returned (.bool true) ∧ Ex w w' := by
 go_enter Tryz.func17, Tryz.ntmps17
 have k := Ex.refl w
 go_wp2_with fail
 (with_reducible refine (three_x _).mono ?_)
 rintro e w1 ⟨a1, rfl, S1, kk⟩
 replace k := k.nx kk
 replace hT := hT.nx kk
 clear kk
 go_wp2_with fail
 (with_reducible refine (peers_p _ _ _ threeN 1 1 _ S1 (by omega) (by omega) (by unfold maxLen; omega) threeW hT).mono ?_)
 rintro e w2 ⟨v, qs, rfl, own, kk⟩
 replace k := k.nx kk
 replace hT := hT.nx kk
 clear kk S1
 replace own : OwnPr w1.heap.size w2 v qs thrP := own
 obtain ⟨aP, cP, rfl, PP, _, _, _, _⟩ := own.pl
 rw [thr_len] at PP ⊢
 clear own
 go_wp2_with fail
 (with_reducible refine (three_x _).mono ?_)
 rintro e w3 ⟨a1, rfl, S1, kk⟩
 replace k := k.nx kk
 replace hT := hT.nx kk
 replace PP := PP.nx kk
 clear kk
 go_wp2_with fail
 (with_reducible refine (bround_p _ _ _ threeN _ _ _ thrP 1 _ S1 (by omega) (by omega) (by unfold maxLen; omega) threeW PP (by omega) (small10 thr_small)).mono ?_)
 rintro e w4 ⟨v, qs, rfl, own, kk⟩
 replace k := k.nx kk
 replace hT := hT.nx kk
 replace PP := PP.nx kk
 clear kk S1
 rw [thr_round] at own
 obtain ⟨aQ, cQ, rfl, PQ, _, _, _, _⟩ := own.pl
 rw [thr_len] at PQ ⊢
 clear own
 obtain ⟨g5, w5, hg5, hw5, PL0, kk⟩ := lowLit w4
 replace k := k.nx kk
 replace hT := hT.nx kk
 replace PP := PP.nx kk
 replace PQ := PQ.nx kk
 have Hg5 := lH hg5
 have Hw5 := lH hw5
 have PP := lH PP
 have PQ := lH PQ
 have hT := lH hT
 have k := lH k
 clear kk hg5 hw5
 go_upto_region 5 with fail
 rw [← Hg5.out, ← Hw5.out]
 clear Hg5 Hw5
 go_loopw [3, 4] (fun o i wr => LwRel w5 o i wr) (fun _ i _ => 3 - (intOf i).toNat)
 case atStart => exact ⟨0, _, _, by omega, rfl, rfl, PL0, Ex.refl _⟩
 case round =>
  clear PL0
  obtain ⟨j, aL, cL, hj, rfl, rfl, PJ, ki⟩ := hrel
  obtain ⟨wi, rfl⟩ : ∃ wi : World, wi = wr := ⟨_, rfl⟩
  by_cases hjm : j < 3
  ·go_wp2_with fail
   (with_reducible refine (three_x _).mono ?_)
   rintro e w6 ⟨a1, rfl, S1, kk⟩
   replace ki := ki.nx kk
   replace PJ := PJ.nx kk
   clear kk
   go_wp2_with fail
   (with_reducible refine (bround_p _ _ _ threeN _ _ _ (lowI j) 1 _ S1 (by omega) (by omega) (by unfold maxLen; omega) threeW PJ (by omega) (small10 (low_small j (by omega)))).mono ?_)
   rintro e w7 ⟨v, qs, rfl, own, kk⟩
   replace ki := ki.nx kk
   replace own : OwnPr w6.heap.size w7 v qs (lowI (j + 1)) := own
   obtain ⟨aM, cM, rfl, PM, _, _, _, _⟩ := own.pl
   rw [low_len (j + 1) (by omega)] at PM ⊢
   have PM := lH PM
   have ki := lH ki
   clear kk own PJ S1
   go_wp2_with fail
   exact ⟨⟨j + 1, _, _, by omega, by go_num, rfl, PM.out, ki.out⟩, by simp [intOf]; omega⟩
  ·obtain rfl : j = 3 := by omega
   have PZ := lH PJ
   have K := lH (k.out.nx ki)
   replace PP := lH (PP.out.nx ki)
   replace PQ := lH (PQ.out.nx ki)
   have T := lH (hT.out.nx ki)
   obtain ⟨x5, o5, b1, m1, d1, b4, m4, d4, y, hea, hx5, hy, e0, e1, e2, e3, e4, s1, s4⟩ := PJ.rd (show 0 < 3 by omega)
   subst hea
   have HLK : Hid (linkB threeN y 1 = (0, 3)) := lH (by have h := low_link; rw [hy] at h; simpa using h)
   have hm4 : m4 ≤ 10 := by have := (low_small 3 (by omega) y (List.mem_of_getElem? hy)).2; have := s4.len; omega
   have S4 := lH s4
   have EY0 : Hid (∀ wq, Ex wi wq → wq.cell? ⟨x5, o5, none⟩ = some (.int .i64 y.id)) := lH (fun wq kq => Chg.cellv kq (by simpa using e0) hx5)
   have EY1 : Hid (∀ wq, Ex wi wq → wq.cell? ⟨x5, o5 + 1, none⟩ = some (.slice b1 m1 d1)) := lH (fun wq kq => Chg.cellv kq (by simpa using e1) hx5)
   have EY2 : Hid (∀ wq, Ex wi wq → wq.cell? ⟨x5, o5 + 1 + 1, none⟩ = some (.int .i64 y.left)) := lH (fun wq kq => Chg.cellv kq (by simpa using e2) hx5)
   have EY3 : Hid (∀ wq, Ex wi wq → wq.cell? ⟨x5, o5 + 1 + 1 + 1, none⟩ = some (.int .i64 y.right)) := lH (fun wq kq => Chg.cellv kq (by simpa using e3) hx5)
   have EY4 : Hid (∀ wq, Ex wi wq → wq.cell? ⟨x5, o5 + 1 + 1 + 1 + 1, none⟩ = some (.slice b4 m4 d4)) := lH (fun wq kq => Chg.cellv kq (by simpa using e4) hx5)
   clear e0 e1 e2 e3 e4 s1 s4 hy hx5 ki PJ hj hjm k hT
   go_wp2_with fail
   refine wp_region_held_drew (S := Ex wi) (by kernel_rfl) ((Ex.refl wi).drew) (fun hHeld => ?_)
   obtain ⟨wd, hwdx⟩ : ∃ wd : World, wd = World.drew wi := ⟨_, rfl⟩
   rw [← hwdx] at hHeld ⊢
   have hDrew : Ex wi wd := by rw [hwdx]; exact (Ex.refl wi).drew
   clear hwdx
   refine tkH 0 (v := ?_) rfl (by kernel_rfl) (fun _ _ _ h => h) (by rfl) ?y1x0q5 (by assumption) ?z1x0q5
   case y1x0q5 => intro wq hSw; (go_simp); (try with_reducible rfl)
   try simp only [Act.put, sA, sB, sC]
   refine tkH 1 (v := ?_) rfl (by kernel_rfl) (fun _ _ _ h => h) (by rfl) ?y1x1q8 (by assumption) ?z1x1q8
   case y1x1q8 => intro wq hSw; (go_simp); (try with_reducible rfl)
   try simp only [Act.put, sA, sB, sC]
   refine tkH 2 (v := ?_) rfl (by kernel_rfl) (fun _ _ _ h => h) (by rfl) ?y1x2q11 (by assumption) ?z1x2q11
   case y1x2q11 => intro wq hSw; (go_simp); (try with_reducible rfl)
   try simp only [Act.put, sA, sB, sC]
   refine tkH 3 (v := ?_) rfl (by kernel_rfl) (fun _ _ _ h => h) (by rfl) ?y1x3q14 (by assumption) ?z1x3q14
   case y1x3q14 => intro wq hSw; (go_simp); (try with_reducible rfl)
   try simp only [Act.put, sA, sB, sC]
   refine tkH 4 (v := ?_) rfl (by kernel_rfl) (fun _ _ _ h => h) (by rfl) ?y1x4q17 (by assumption) ?z1x4q17
   case y1x4q17 => intro wq hSw; (go_simp); (try with_reducible rfl)
   try simp only [Act.put, sA, sB, sC]
   refine tkH 5 (v := ?_) rfl (by kernel_rfl) (fun _ _ _ h => h) (by rfl) ?y1x5q20 (by assumption) ?z1x5q20
   case y1x5q20 => intro wq hSw; (go_simp); (try with_reducible rfl)
   try simp only [Act.put, sA, sB, sC]
   refine wpAnyH_ready (rs := [6]) (by kernel_rfl) (by simp) ?_
   refine AllReadyH.cons (o := ⟨_, _, _, _, _, _⟩) rfl (fun K hK => ?_) AllReadyH.nil
   go_simp
   (with_reducible refine (same14_r _ _ _ thrP _ _ _ (PP.out.nx hHeld) (PQ.out.nx hHeld) (by omega) (fun p hp => by have := thr_small p hp; omega)).mono ?_)
   rintro e wz ⟨rfl, kk⟩
   replace hHeld := hHeld.nx kk
   clear kk
   refine hK.out _ _ (hHeld) (fun hHeld => ?_)
   clear hK K
   try simp only [Act.put, sA, sB, sC]
   refine tkH 7 (v := ?_) rfl (by kernel_rfl) (fun _ _ _ h => h) (by rfl) ?y1x7q33 (by assumption) ?z1x7q33
   case y1x7q33 => intro wq hSw; (go_simp); (try with_reducible rfl)
   try simp only [Act.put, sA, sB, sC]
   refine tkH 8 (v := ?_) rfl (by kernel_rfl) (fun _ _ _ h => h) (by rfl) ?y1x8q36 (by assumption) ?z1x8q36
   case y1x8q36 => intro wq hSw; (go_simp); (try with_reducible rfl)
   try simp only [Act.put, sA, sB, sC]
   refine tkH 10 (v := ?_) rfl (by kernel_rfl) (fun _ _ _ h => h) (by rfl) ?y1x10q39 (by assumption) ?z1x10q39
   case y1x10q39 => intro wq hSw; (go_simp); (try with_reducible rfl)
   try simp only [Act.put, sA, sB, sC]
   refine wpAnyH_ready (rs := [9]) (by kernel_rfl) (by simp) ?_
   refine AllReadyH.cons (o := ⟨_, _, _, _, _, _⟩) rfl (fun K hK => ?_) AllReadyH.nil
   go_simp
   (with_reducible refine (three_x _).mono ?_)
   rintro e wz ⟨a5, rfl, s5, kk⟩
   replace hHeld := hHeld.nx kk
   clear kk
   refine hK.out _ _ (hHeld) (fun hHeld => ?_)
   clear hK K
   try simp only [Act.put, sA, sB, sC]
   refine wpAnyH_ready (rs := [11]) (by kernel_rfl) (by simp) ?_
   refine AllReadyH.cons (o := ⟨_, _, _, _, _, _⟩) rfl (fun K hK => ?_) AllReadyH.nil
   go_simp
   (with_reducible refine (bexact_p _ _ _ threeN _ _ _ thrP 1 _ s5 (by omega) (by omega) (by unfold maxLen; omega) threeW (T.out.nx hHeld) (PP.out.nx hHeld) (by omega) (small10 thr_small)).mono ?_)
   rintro e wz ⟨rfl, kk⟩
   rw [thr_exact]
   replace hHeld := hHeld.nx kk
   clear kk s5
   refine hK.out _ _ (hHeld) (fun hHeld => ?_)
   clear hK K
   try simp only [Act.put, sA, sB, sC]
   refine tkH 12 (v := ?_) rfl (by kernel_rfl) (fun _ _ _ h => h) (by rfl) ?y1x12q63 (by assumption) ?z1x12q63
   case y1x12q63 => intro wq hSw; (go_simp); (try with_reducible rfl)
   try simp only [Act.put, sA, sB, sC]
   refine tkH 13 (v := ?_) rfl (by kernel_rfl) (fun _ _ _ h => h) (by rfl) ?y1x13q66 (by assumption) ?z1x13q66
   case y1x13q66 => intro wq hSw; (go_simp); (try with_reducible rfl)
   try simp only [Act.put, sA, sB, sC]
   refine tkH 15 (v := ?_) rfl (by kernel_rfl) (fun _ _ _ h => h) (by rfl) ?y1x15q69 (by assumption) ?z1x15q69
   case y1x15q69 => intro wq hSw; (go_simp); (try with_reducible rfl)
   try simp only [Act.put, sA, sB, sC]
   refine wpAnyH_ready (rs := [14]) (by kernel_rfl) (by simp) ?_
   refine AllReadyH.cons (o := ⟨_, _, _, _, _, _⟩) rfl (fun K hK => ?_) AllReadyH.nil
   go_simp
   (with_reducible refine (three_x _).mono ?_)
   rintro e wz ⟨a5, rfl, s5, kk⟩
   replace hHeld := hHeld.nx kk
   clear kk
   refine hK.out _ _ (hHeld) (fun hHeld => ?_)
   clear hK K
   try simp only [Act.put, sA, sB, sC]
   refine wpAnyH_ready (rs := [16]) (by kernel_rfl) (by simp) ?_
   refine AllReadyH.cons (o := ⟨_, _, _, _, _, _⟩) rfl (fun K hK => ?_) AllReadyH.nil
   go_simp
   (with_reducible refine (bexact_p _ _ _ threeN _ _ _ (lowI 3) 1 _ s5 (by omega) (by omega) (by unfold maxLen; omega) threeW (T.out.nx hHeld) (PZ.out.nx hHeld) (by omega) (small10 (low_small 3 (by omega)))).mono ?_)
   rintro e wz ⟨rfl, kk⟩
   rw [low_exact]
   replace hHeld := hHeld.nx kk
   clear kk s5
   refine hK.out _ _ (hHeld) (fun hHeld => ?_)
   clear hK K
   try simp only [Act.put, sA, sB, sC]
   refine tkH 17 (v := ?_) rfl (by kernel_rfl) (fun _ _ _ h => h) (by rfl) ?y1x17q93 (by assumption) ?z1x17q93
   case y1x17q93 => intro wq hSw; (go_simp); (try with_reducible rfl)
   try simp only [Act.put, sA, sB, sC]
   refine tkH 18 (v := ?_) rfl (by kernel_rfl) (fun _ _ _ h => h) (by rfl) ?y1x18q96 (by assumption) ?z1x18q96
   case y1x18q96 => intro wq hSw; (go_simp); (try with_reducible rfl)
   try simp only [Act.put, sA, sB, sC]
   refine tkH 19 (v := ?_) rfl (by kernel_rfl) (fun _ _ _ h => h) (by rfl) ?y1x19q99 (by assumption) ?z1x19q99
   case y1x19q99 => intro wq hSw; (go_simp); (try with_reducible rfl)
   try simp only [Act.put, sA, sB, sC]
   refine tkH 20 (v := ?_) rfl (by kernel_rfl) (fun _ _ _ h => h) (by rfl) ?y1x20q102 (by assumption) ?z1x20q102
   case y1x20q102 => intro wq hSw; (go_simp); (try with_reducible rfl)
   try simp only [Act.put, sA, sB, sC]
   refine tkH 21 (v := ?_) rfl (by kernel_rfl) (fun _ _ _ h => h) (by rfl) ?y1x21q105 (by assumption) ?z1x21q105
   case y1x21q105 => intro wq hSw; (go_simp); (try with_reducible rfl)
   try simp only [Act.put, sA, sB, sC]
   refine tkH 22 (v := ?_) rfl (by kernel_rfl) (fun _ _ _ h => h) (by rfl) ?y1x22q108 (by assumption) ?z1x22q108
   case y1x22q108 => intro wq hSw; (go_simp); (try with_reducible rfl)
   try simp only [Act.put, sA, sB, sC]
   refine tkH 23 (v := ?_) rfl (by kernel_rfl) (fun _ _ _ h => h) (by rfl) ?y1x23q111 (by assumption) ?z1x23q111
   case y1x23q111 => intro wq hSw; (go_simp); (try with_reducible rfl)
   try simp only [Act.put, sA, sB, sC]
   refine tkH 25 (v := ?_) rfl (by kernel_rfl) (fun _ _ _ h => h) (by rfl) ?y1x25q114 (by assumption) ?z1x25q114
   case y1x25q114 => intro wq hSw; (go_simp); (try with_reducible rfl)
   try simp only [Act.put, sA, sB, sC]
   refine tkH 26 (v := ?_) rfl (by kernel_rfl) (fun _ _ _ h => h) (by rfl) ?y1x26q117 (by assumption) ?z1x26q117
   case y1x26q117 => intro wq hSw; (go_simp); (try with_reducible rfl)
   try simp only [Act.put, sA, sB, sC]
   refine tkH 27 (v := ?_) rfl (by kernel_rfl) (fun _ _ _ h => h) (by rfl) ?y1x27q120 (by assumption) ?z1x27q120
   case y1x27q120 => intro wq hSw; (have c0 := EY0.out wq hSw; have c1 := EY1.out wq hSw; have c2 := EY2.out wq hSw; have c3 := EY3.out wq hSw; have c4 := EY4.out wq hSw; go_simp); (try with_reducible rfl)
   try simp only [Act.put, sA, sB, sC]
   refine tkH 29 (v := ?_) rfl (by kernel_rfl) (fun _ _ _ h => h) (by rfl) ?y1x29q123 (by assumption) ?z1x29q123
   case y1x29q123 => intro wq hSw; (go_simp); (try with_reducible rfl)
   try simp only [Act.put, sA, sB, sC]
   refine wpAnyH_ready (rs := [24]) (by kernel_rfl) (by simp) ?_
   refine AllReadyH.cons (o := ⟨_, _, _, _, _, _⟩) rfl (fun K hK => ?_) AllReadyH.nil
   go_simp
   (with_reducible refine (three_x _).mono ?_)
   rintro e wz ⟨a5, rfl, s5, kk⟩
   replace hHeld := hHeld.nx kk
   clear kk
   refine hK.out _ _ (hHeld) (fun hHeld => ?_)
   clear hK K
   try simp only [Act.put, sA, sB, sC]
   refine wpAnyH_ready (rs := [28]) (by kernel_rfl) (by simp) ?_
   refine AllReadyH.cons (o := ⟨_, _, _, _, _, _⟩) rfl (fun K hK => ?_) AllReadyH.nil
   go_simp
   (with_reducible refine (link_p _ _ _ threeN y _ _ _ _ _ _ 1 _ s5 (by omega) (by omega) (by unfold maxLen; omega) threeW (S4.out.nx hHeld) (by omega)).mono ?_)
   rintro e wz ⟨rfl, kk⟩
   rw [HLK.out]
   replace hHeld := hHeld.nx kk
   clear kk s5
   refine hK.out _ _ (hHeld) (fun hHeld => ?_)
   clear hK K
   try simp only [Act.put, sA, sB, sC]
   refine tkH 30 (v := ?_) rfl (by kernel_rfl) (fun _ _ _ h => h) (by rfl) ?y1x30q147 (by assumption) ?z1x30q147
   case y1x30q147 => intro wq hSw; (go_simp); (try with_reducible rfl)
   try simp only [Act.put, sA, sB, sC]
   refine tkH 31 (v := ?_) rfl (by kernel_rfl) (fun _ _ _ h => h) (by rfl) ?y1x31q150 (by assumption) ?z1x31q150
   case y1x31q150 => intro wq hSw; (go_simp); (try with_reducible rfl)
   try simp only [Act.put, sA, sB, sC]
   refine tkH 32 (v := ?_) rfl (by kernel_rfl) (fun _ _ _ h => h) (by rfl) ?y1x32q153 (by assumption) ?z1x32q153
   case y1x32q153 => intro wq hSw; (go_simp); (try with_reducible rfl)
   try simp only [Act.put, sA, sB, sC]
   refine wpAnyH_ready (rs := [33]) (by kernel_rfl) (by simp) ?_
   refine AllReadyH.cons (o := ⟨_, _, _, _, _, _⟩) rfl (fun K hK => ?_) AllReadyH.nil
   go_simp
   (with_reducible refine (rounds17_p 3 1 _).mono ?_)
   rintro e wz ⟨rfl, rfl⟩
   rw [rnds_31]
   refine hK.out _ _ (hHeld) (fun hHeld => ?_)
   clear hK K
   try simp only [Act.put, sA, sB, sC]
   refine tkH 34 (v := ?_) rfl (by kernel_rfl) (fun _ _ _ h => h) (by rfl) ?y1x34q165 (by assumption) ?z1x34q165
   case y1x34q165 => intro wq hSw; (go_simp); (try with_reducible rfl)
   try simp only [Act.put, sA, sB, sC]
   refine tkH 35 (v := ?_) rfl (by kernel_rfl) (fun _ _ _ h => h) (by rfl) ?y1x35q168 (by assumption) ?z1x35q168
   case y1x35q168 => intro wq hSw; (go_simp); (try with_reducible rfl)
   try simp only [Act.put, sA, sB, sC]
   refine tkH 36 (v := ?_) rfl (by kernel_rfl) (fun _ _ _ h => h) (by rfl) ?y1x36q171 (by assumption) ?z1x36q171
   case y1x36q171 => intro wq hSw; (go_simp); (try with_reducible rfl)
   try simp only [Act.put, sA, sB, sC]
   refine wpAnyH_done (by kernel_rfl) ?_ _
   have KE := lH (K.out.nx hHeld)
   clear hHeld hDrew
   go_wp2_with fail
   go_ret
   exact ⟨rfl, KE.out⟩
theorem rounds17_r (n h : Int) (w : World) : Calls Tryz.prog 51 #[.int .i64 n, .int .i64 h] w fun e w' => e = .returned (.int .i64 (rndsB n h)) ∧ w = w' := by
 by_cases h1 : n < 0
 ·have E : Hid (rndsB n h = 0) := lH (if_neg (by omega))
  go_enter Tryz.func51, Tryz.ntmps51
  go_wp2_with fail
  go_ret
  exact ⟨by rw [E.out]; rfl, rfl⟩
 by_cases h2 : n > 64
 ·have E : Hid (rndsB n h = 0) := lH (if_neg (by omega))
  go_enter Tryz.func51, Tryz.ntmps51
  go_wp2_with fail
  go_ret
  exact ⟨by rw [E.out]; rfl, rfl⟩
 go_enter Tryz.func51, Tryz.ntmps51
 go_wp2_with fail
 refine (level_r h _).mono ?_
 rintro e wL ⟨rfl, hwL⟩
 subst hwL
 cases hlv : lvlN h with
 | false =>
  have E : Hid (rndsB n h = 0) := lH (if_neg (fun hh => by
   have h3 : lvlN h = true := by unfold lvlN; simp; omega
   rw [hlv] at h3
   cases h3))
  go_wp2_with fail
  go_ret
  exact ⟨by rw [E.out]; rfl, rfl⟩
 | true =>
  have hb : 0 ≤ h ∧ h ≤ 16 := by unfold lvlN at hlv; simpa using hlv
  have E : Hid (rndsB n h = n * h) := lH (if_pos (by omega))
  have hwr : IntKind.i64.wrap (n * h) = n * h := IntWalk.i64_in _ (by
   have a1 : 0 ≤ n * h := Int.mul_nonneg (by omega) hb.1
   have a2 : n * h ≤ 64 * 16 := Int.le_trans (Int.mul_le_mul_of_nonneg_right (show n ≤ 64 by omega) hb.1) (Int.mul_le_mul_of_nonneg_left hb.2 (by omega))
   omega)
  clear hb hlv
  go_wp2_with fail
  go_ret
  exact ⟨by rw [E.out]; rfl, rfl⟩
theorem bround_len17 (N : List Nd) (P : List Pr) (h : Int) : (bRoundN N P h).length ≤ N.length := by
 unfold bRoundN
 split
 ·rw [List.length_map]; exact (normal_le N P).1
 ·exact Nat.zero_le _
theorem bround_sizes {N : List Nd} {P : List Pr} (hP : SmallP P) (h : Int) : ∀ p ∈ bRoundN N P h, p.known.length ≤ 4000000000000000000 ∧ p.near.length ≤ 4000000000000000000 := by
 unfold bRoundN
 split
 ·rename_i hl
  intro p hp
  obtain ⟨q, hq, rfl⟩ := List.mem_map.1 hp
  have h1 := normal_small N hP q hq
  have h2 := nextB_len N (peerN (normalN N P)) q h.toNat
  have h3 : h ≤ 16 := by unfold lvlN at hl; simp at hl; omega
  refine ⟨by show q.known.length ≤ _; omega, ?_⟩
  show (nextB N (peerN (normalN N P)) q h.toNat).length ≤ _
  omega
 ·intro p hp; cases hp
def AgRel17 (n : Nat) (w : World) (i : Value) (wr : World) : Prop := ∃ k : Nat, k ≤ n ∧ k ≤ 10 ∧ i = .int .i64 k ∧ Ex w wr
def AgIn17 (w : World) (i : Value) (wr : World) : Prop := ∃ l : Int, -1 ≤ l ∧ l ≤ 5 ∧ i = .int .i64 l ∧ Ex w wr
set_option maxRecDepth 100000 in
set_option maxHeartbeats 16000000 in
theorem agrees17_x (a : Option Addr) (n c : Nat) (N : List Nd) (a2 : Option Addr) (n2 c2 : Nat) (P : List Pr) (m hh : Int) (w : World) (h : Sl 3 encN w a n N) (hn : n ≤ 1000) (hc : n ≤ c) (hm : c ≤ maxLen) (hw : ∀ x ∈ N, x.word < 4294967296) (hT : TabG w) (h2 : PL w a2 n2 P) (hn2 : n2 ≤ 1000000) (hP : SmallP P) :
  Calls Tryz.prog 15 #[.slice a n c, .slice a2 n2 c2, .int .i64 m, .int .i64 hh] w fun e w' => e = .returned (.bool true) ∧ Ex w w' := by
 have HL := lH h.len
 have HS := lH h
 have HW := lH hw
 have HT := lH hT
 have H2 := lH h2
 have SM := lH hP
 have BL := lH (Nat.le_trans (bround_len17 N P hh) (by have := HL.out; omega : N.length ≤ 1000))
 have BS := lH (bround_sizes (N := N) hP hh)
 have LR := lH (fun c hc => Nat.le_trans (links_rows N P hh c hc) (show 17 ≤ 1000000 by omega))
 have LL := lH (Nat.le_trans (links_len N P hh) (by have := HL.out; omega : N.length ≤ 1000000))
 clear h hw hT h2 hP
 go_enter Tryz.func15, Tryz.ntmps15
 go_wp2_with fail
 go_loopw [9] (fun i wr => AgRel17 n2 w i wr) (fun i _ => n2 - (intOf i).toNat)
 case atStart => exact ⟨0, by omega, by omega, rfl, Ex.refl _⟩
 case round =>
  obtain ⟨k, hk, hk10, rfl, ki⟩ := hrel
  obtain ⟨wi, rfl⟩ : ∃ wi : World, wi = wr := ⟨_, rfl⟩
  by_cases hkn : k < n2 ∧ k < 10
  ·obtain ⟨hk1, hk2⟩ := hkn
   obtain ⟨x5, o5, b1, m1, d1, b4, m4, d4, y, rfl, hx5, hy, e0, e1, e2, e3, e4, s1, s4⟩ := (H2.out.nx ki).rd hk1
   have hyP := SM.out y (List.mem_of_getElem? hy)
   have hl4 : m4 ≤ 4000000000000000000 := by have := s4.len; omega
   have E0 := lH (fun wq (kq : Ex wi wq) => Chg.cellv kq e0 hx5)
   have E1 := lH (fun wq (kq : Ex wi wq) => Chg.cellv kq e1 hx5)
   have E2 := lH (fun wq (kq : Ex wi wq) => Chg.cellv kq e2 hx5)
   have E3 := lH (fun wq (kq : Ex wi wq) => Chg.cellv kq e3 hx5)
   have E4 := lH (fun wq (kq : Ex wi wq) => Chg.cellv kq e4 hx5)
   have S4 := lH s4
   have KI := lH ki
   have hkc : (k : Int) < (n2 : Int) := by omega
   have hkd : (k : Int) < 10 := by omega
   clear hy hyP e0 e1 e2 e3 e4 s1 s4 hx5 ki
   go_wp2_with fail
   go_loopw [10] (fun i wr => AgIn17 wi i wr) (fun i _ => (5 - intOf i).toNat)
   case atStart => exact ⟨-1, by omega, by omega, rfl, Ex.refl _⟩
   case round =>
    obtain ⟨l, hl0, hl5, rfl, kz⟩ := hrel
    obtain ⟨wz, rfl⟩ : ∃ wz : World, wz = wr := ⟨_, rfl⟩
    have KZ := lH kz
    clear kz
    by_cases hlt : l < 5
    ·have hlw : IntKind.i64.wrap (l + 1) = l + 1 := IntWalk.i64_in _ (by omega)
     go_upto_region 7 with fail
     refine wp_region_held_drew (S := Ex wz) (by kernel_rfl) ((Ex.refl wz).drew) (fun hHeld => ?_)
     obtain ⟨wd, hwdx⟩ : ∃ wd : World, wd = World.drew wz := ⟨_, rfl⟩
     rw [← hwdx] at hHeld ⊢
     have hDrew : Ex wz wd := by rw [hwdx]; exact (Ex.refl wz).drew
     clear hwdx
     refine tkH 0 (v := ?_) rfl (by kernel_rfl) (fun _ _ _ h => h) (by rfl) ?y1x0q5 (by assumption) ?z1x0q5
     case y1x0q5 => intro wq hSw; (go_simp); (try with_reducible rfl)
     refine tkH 1 (v := ?_) rfl (by kernel_rfl) (fun _ _ _ h => h) (by rfl) ?y1x1q8 (by assumption) ?z1x1q8
     case y1x1q8 => intro wq hSw; (go_simp); (try with_reducible rfl)
     refine tkH 2 (v := ?_) rfl (by kernel_rfl) (fun _ _ _ h => h) (by rfl) ?y1x2q11 (by assumption) ?z1x2q11
     case y1x2q11 => intro wq hSw; (go_simp); (try with_reducible rfl)
     refine tkH 3 (v := ?_) rfl (by kernel_rfl) (fun _ _ _ h => h) (by rfl) ?y1x3q14 (by assumption) ?z1x3q14
     case y1x3q14 => intro wq hSw; (go_simp); (try with_reducible rfl)
     refine tkH 4 (v := ?_) rfl (by kernel_rfl) (fun _ _ _ h => h) (by rfl) ?y1x4q17 (by assumption) ?z1x4q17
     case y1x4q17 => intro wq hSw; (have kq := KZ.out.nx hSw; have c0 := E0.out wq kq; have c1 := E1.out wq kq; have c2 := E2.out wq kq; have c3 := E3.out wq kq; have c4 := E4.out wq kq; go_simp); (try with_reducible rfl)
     refine tkH 5 (v := ?_) rfl (by kernel_rfl) (fun _ _ _ h => h) (by rfl) ?y1x5q20 (by assumption) ?z1x5q20
     case y1x5q20 => intro wq hSw; (go_simp); (try with_reducible rfl)
     refine tkH 7 (v := ?_) rfl (by kernel_rfl) (fun _ _ _ h => h) (by rfl) ?y1x7q23 (by assumption) ?z1x7q23
     case y1x7q23 => intro wq hSw; (go_simp); (try with_reducible rfl)
     refine tkH 8 (v := ?_) rfl (by kernel_rfl) (fun _ _ _ h => h) (by rfl) ?y1x8q26 (by assumption) ?z1x8q26
     case y1x8q26 => intro wq hSw; (go_simp); (try with_reducible rfl)
     refine tkH 9 (v := ?_) rfl (by kernel_rfl) (fun _ _ _ h => h) (by rfl) ?y1x9q29 (by assumption) ?z1x9q29
     case y1x9q29 => intro wq hSw; (go_simp); (try with_reducible rfl)
     refine tkH 10 (v := ?_) rfl (by kernel_rfl) (fun _ _ _ h => h) (by rfl) ?y1x10q32 (by assumption) ?z1x10q32
     case y1x10q32 => intro wq hSw; (go_simp); (try with_reducible rfl)
     refine tkH 11 (v := ?_) rfl (by kernel_rfl) (fun _ _ _ h => h) (by rfl) ?y1x11q35 (by assumption) ?z1x11q35
     case y1x11q35 => intro wq hSw; (have kq := KZ.out.nx hSw; have c0 := E0.out wq kq; have c1 := E1.out wq kq; have c2 := E2.out wq kq; have c3 := E3.out wq kq; have c4 := E4.out wq kq; go_simp); (try with_reducible rfl)
     refine tkH 12 (v := ?_) rfl (by kernel_rfl) (fun _ _ _ h => h) (by rfl) ?y1x12q38 (by assumption) ?z1x12q38
     case y1x12q38 => intro wq hSw; (go_simp); (try with_reducible rfl)
     refine wpAnyH_ready (rs := [6]) (by kernel_rfl) (by simp) ?_
     refine AllReadyH.cons (o := ⟨_, _, _, _, _, _⟩) rfl (fun K hK => ?_) AllReadyH.nil
     go_simp
     (with_reducible refine (link_p _ _ _ N y _ _ _ _ _ _ l _ (HS.out.nx (KI.out.nx (KZ.out.nx hHeld))) hn hc hm HW.out (S4.out.nx (KZ.out.nx hHeld)) hl4).mono ?_)
     rintro e we ⟨rfl, kk⟩
     replace hHeld := hHeld.nx kk
     clear kk
     refine hK.out _ _ (hHeld) (fun hHeld => ?_)
     clear hK K
     refine wpAnyH_ready (rs := [13]) (by kernel_rfl) (by simp) ?_
     refine AllReadyH.cons (o := ⟨_, _, _, _, _, _⟩) rfl (fun K hK => ?_) AllReadyH.nil
     go_simp
     (with_reducible refine (link_r _ _ _ N y _ _ _ _ _ _ l _ (HS.out.nx (KI.out.nx (KZ.out.nx hHeld))) hn HW.out (S4.out.nx (KZ.out.nx hHeld)) hl4).mono ?_)
     rintro e we ⟨rfl, kk⟩
     replace hHeld := hHeld.nx kk
     clear kk
     refine hK.out _ _ (hHeld) (fun hHeld => ?_)
     clear hK K
     refine tkH 14 (v := ?_) rfl (by kernel_rfl) (fun _ _ _ h => h) (by rfl) ?y1x14q61 (by assumption) ?z1x14q61
     case y1x14q61 => intro wq hSw; (go_simp); (try with_reducible rfl)
     refine wpAnyH_done (by kernel_rfl) ?_ _
     have KD := lH (KZ.out.nx hHeld)
     clear hHeld hDrew
     go_wp2_with fail
     exact ⟨⟨l + 1, by omega, by omega, by go_num, KD.out⟩, by simp [intOf]; omega⟩
    ·have hl : ¬ l < 5 := hlt
     have KD := lH (KI.out.nx KZ.out)
     clear hlt
     go_wp2_with fail
     exact ⟨⟨k + 1, by omega, by omega, by go_num, KD.out⟩, by simp [intOf]; omega⟩
  ·have KI := lH ki
   have hout : ¬ (k : Int) < (n2 : Int) ∨ ((k : Int) < (n2 : Int) ∧ ¬ (k : Int) < 10) := by omega
   clear ki hkn
   have REST : Hid (∀ (K : Prop), (¬ (k : Int) < (n2 : Int) → K) → ((k : Int) < (n2 : Int) → ¬ (k : Int) < 10 → K) → K) := lH (fun K h1 h2 => by
    rcases hout with h | ⟨h, h'⟩
    ·exact h1 h
    ·exact h2 h h')
   clear hout
   by_cases g1 : (k : Int) < (n2 : Int)
   ·have g2 : ¬ (k : Int) < 10 := REST.out _ (fun h => absurd g1 h) (fun _ h => h)
    clear REST
    go_upto_region 9 with fail
    go_wp2_with fail
    (with_reducible refine (bround_p _ _ _ N _ _ _ P hh _ (HS.out.nx KI.out) hn hc hm HW.out (H2.out.nx KI.out) (by omega) SM.out).mono ?_)
    rintro e w1 ⟨v, qs, rfl, own, kk⟩
    obtain ⟨aA, cA, rfl, PA, _, _, _, _⟩ := own.pl
    replace KI := lH (KI.out.nx kk)
    clear own kk
    go_wp2_with fail
    (with_reducible refine (bround_r _ _ _ N _ _ _ P hh _ (HS.out.nx KI.out) hn HW.out (H2.out.nx KI.out) (by omega) SM.out).mono ?_)
    rintro e w2 ⟨v, qs, rfl, own, kk⟩
    obtain ⟨aB, cB, rfl, PB, _, _, _, _⟩ := own.pl
    replace KI := lH (KI.out.nx kk)
    replace PA := PA.nx kk
    clear own kk
    go_wp2_with fail
    (with_reducible refine (same14_r _ _ _ (bRoundN N P hh) _ _ _ PA PB BL.out BS.out).mono ?_)
    rintro e w3 ⟨rfl, kk⟩
    replace KI := lH (KI.out.nx kk)
    clear kk PA PB
    go_wp2_with fail
    (with_reducible refine (links_p _ _ _ N _ _ _ P hh _ (HS.out.nx KI.out) hn hc hm HW.out (H2.out.nx KI.out) (by omega) SM.out).mono ?_)
    rintro e w4 ⟨v, qs, rfl, own, kk⟩
    obtain ⟨aC, cC, rfl, LA⟩ := OwnLk.nl' own
    replace KI := lH (KI.out.nx kk)
    clear own kk
    go_wp2_with fail
    (with_reducible refine (links_r _ _ _ N _ _ _ P hh _ (HS.out.nx KI.out) hn HW.out (H2.out.nx KI.out) (by omega) SM.out).mono ?_)
    rintro e w5 ⟨v, qs, rfl, own, kk⟩
    obtain ⟨aD, cD, rfl, LB⟩ := OwnLk.nl' own
    replace KI := lH (KI.out.nx kk)
    replace LA := LA.nx kk
    clear own kk
    go_wp2_with fail
    (with_reducible refine (samelk_r _ _ _ _ _ _ _ _ _ LA LB LL.out LR.out).mono ?_)
    rintro e w6 ⟨rfl, kk⟩
    replace KI := lH (KI.out.nx kk)
    clear kk LA LB
    have dl : decide (linksB N P hh = linksB N P hh) = true := decide_eq_true rfl
    rw [dl]
    clear dl
    go_wp2_with fail
    (with_reducible refine (bexact_p _ _ _ N _ _ _ P hh _ (HS.out.nx KI.out) hn hc hm HW.out (HT.out.nx KI.out) (H2.out.nx KI.out) (by omega) SM.out).mono ?_)
    rintro e w7 ⟨rfl, kk⟩
    replace KI := lH (KI.out.nx kk)
    clear kk
    go_wp2_with fail
    (with_reducible refine (bexact_r _ _ _ N _ _ _ P hh _ (HS.out.nx KI.out) hn HW.out (H2.out.nx KI.out) (by omega) SM.out).mono ?_)
    rintro e w8 ⟨rfl, kk⟩
    replace KI := lH (KI.out.nx kk)
    clear kk
    generalize exactB N P hh = eb
    have hee : (eb == eb) = true := by cases eb <;> rfl
    go_wp2_with fail
    (with_reducible refine (rounds17_p m hh _).mono ?_)
    rintro e w9 ⟨rfl, hw9⟩
    subst hw9
    go_wp2_with fail
    (with_reducible refine (rounds17_r m hh _).mono ?_)
    rintro e w9 ⟨rfl, hw9⟩
    subst hw9
    generalize rndsB m hh = mm
    go_wp2_with fail
    go_ret
    exact ⟨rfl, KI.out⟩
   ·clear REST
    go_upto_region 9 with fail
    go_wp2_with fail
    (with_reducible refine (bround_p _ _ _ N _ _ _ P hh _ (HS.out.nx KI.out) hn hc hm HW.out (H2.out.nx KI.out) (by omega) SM.out).mono ?_)
    rintro e w1 ⟨v, qs, rfl, own, kk⟩
    obtain ⟨aA, cA, rfl, PA, _, _, _, _⟩ := own.pl
    replace KI := lH (KI.out.nx kk)
    clear own kk
    go_wp2_with fail
    (with_reducible refine (bround_r _ _ _ N _ _ _ P hh _ (HS.out.nx KI.out) hn HW.out (H2.out.nx KI.out) (by omega) SM.out).mono ?_)
    rintro e w2 ⟨v, qs, rfl, own, kk⟩
    obtain ⟨aB, cB, rfl, PB, _, _, _, _⟩ := own.pl
    replace KI := lH (KI.out.nx kk)
    replace PA := PA.nx kk
    clear own kk
    go_wp2_with fail
    (with_reducible refine (same14_r _ _ _ (bRoundN N P hh) _ _ _ PA PB BL.out BS.out).mono ?_)
    rintro e w3 ⟨rfl, kk⟩
    replace KI := lH (KI.out.nx kk)
    clear kk PA PB
    go_wp2_with fail
    (with_reducible refine (links_p _ _ _ N _ _ _ P hh _ (HS.out.nx KI.out) hn hc hm HW.out (H2.out.nx KI.out) (by omega) SM.out).mono ?_)
    rintro e w4 ⟨v, qs, rfl, own, kk⟩
    obtain ⟨aC, cC, rfl, LA⟩ := OwnLk.nl' own
    replace KI := lH (KI.out.nx kk)
    clear own kk
    go_wp2_with fail
    (with_reducible refine (links_r _ _ _ N _ _ _ P hh _ (HS.out.nx KI.out) hn HW.out (H2.out.nx KI.out) (by omega) SM.out).mono ?_)
    rintro e w5 ⟨v, qs, rfl, own, kk⟩
    obtain ⟨aD, cD, rfl, LB⟩ := OwnLk.nl' own
    replace KI := lH (KI.out.nx kk)
    replace LA := LA.nx kk
    clear own kk
    go_wp2_with fail
    (with_reducible refine (samelk_r _ _ _ _ _ _ _ _ _ LA LB LL.out LR.out).mono ?_)
    rintro e w6 ⟨rfl, kk⟩
    replace KI := lH (KI.out.nx kk)
    clear kk LA LB
    have dl : decide (linksB N P hh = linksB N P hh) = true := decide_eq_true rfl
    rw [dl]
    clear dl
    go_wp2_with fail
    (with_reducible refine (bexact_p _ _ _ N _ _ _ P hh _ (HS.out.nx KI.out) hn hc hm HW.out (HT.out.nx KI.out) (H2.out.nx KI.out) (by omega) SM.out).mono ?_)
    rintro e w7 ⟨rfl, kk⟩
    replace KI := lH (KI.out.nx kk)
    clear kk
    go_wp2_with fail
    (with_reducible refine (bexact_r _ _ _ N _ _ _ P hh _ (HS.out.nx KI.out) hn HW.out (H2.out.nx KI.out) (by omega) SM.out).mono ?_)
    rintro e w8 ⟨rfl, kk⟩
    replace KI := lH (KI.out.nx kk)
    clear kk
    generalize exactB N P hh = eb
    have hee : (eb == eb) = true := by cases eb <;> rfl
    go_wp2_with fail
    (with_reducible refine (rounds17_p m hh _).mono ?_)
    rintro e w9 ⟨rfl, hw9⟩
    subst hw9
    go_wp2_with fail
    (with_reducible refine (rounds17_r m hh _).mono ?_)
    rintro e w9 ⟨rfl, hw9⟩
    subst hw9
    generalize rndsB m hh = mm
    go_wp2_with fail
    go_ret
    exact ⟨rfl, KI.out⟩
def BrX (b : Nat) (w1 : World) (s9 : Value) (wx : World) : Prop :=
 ∃ (a : Option Addr) (n c : Nat) (LZ : List Nd), s9 = .slice a n c ∧ Slb 3 encN b wx a n LZ ∧ n ≤ 100 ∧ n ≤ c ∧ c ≤ maxLen ∧ (∀ x ∈ LZ, x.word < 4294967296) ∧ TK wx b ∧ Exb b w1 wx
def BrB (b : Nat) (w1 : World) (v : Value) (wx : World) : Prop := ∃ β : Bool, v = .bool β ∧ TK wx b ∧ Exb b w1 wx
theorem fewP_smallR {m : Nat} {P : List Pr} (h : FewP m P) (hm : m ≤ 1000) : SmallP P := fun p hp => by have := h p hp; omega
set_option maxRecDepth 100000 in
set_option maxHeartbeats 16000000 in
theorem bridgerounds_walk (a1 : Option Addr) (n1 c1 : Nat) (l1 : List Int) (a2 : Option Addr) (n2 c2 : Nat) (l2 : List Nd) (a3 : Option Addr) (n3 c3 : Nat) (P3 : List Pr) (m m2 : Int) (w : World) (h1 : Sl 1 encI w a1 n1 l1) (hc1 : n1 ≤ c1) (hm1 : c1 ≤ maxLen)
  (h2 : Sl 3 encN w a2 n2 l2) (hc2 : n2 ≤ c2) (hm2 : c2 ≤ maxLen) (hw2 : ∀ x ∈ l2, x.word < 4294967296) (h3 : PL w a3 n3 P3) (hP3 : SmallP P3) (hT : TabG w) (hL : LetG w) :
  Calls Tryz.prog 3 #[.slice a1 n1 c1, .slice a2 n2 c2, .slice a3 n3 c3, .int .i64 m, .int .i64 m2] w fun e w' => e = .returned (.bool true) ∧ Ex w w' := by
 go_enter Tryz.func3, Tryz.ntmps3
 go_wp2_with fail
 refine (new_t _ _ _ l1 _ h1 hc1 hm1).mono ?_
 rintro e w1 ⟨rfl, T, kk, z1⟩
 obtain ⟨b, hb⟩ : ∃ b, b = w.heap.size := ⟨_, rfl⟩
 rw [← hb] at T ⊢
 have hgt : ¬ 1 = b := by have := hT.lt; omega
 have hgl : ¬ 0 = b := by have := hL.lt; omega
 have T1 : Hid (TabG w1) := lH (hT.nx kk)
 have L1 : Hid (LetG w1) := lH (hL.nx kk)
 have QL : Hid (Exl b w w1) := lH ⟨kk, by omega⟩
 have S1 : Hid (Slb 3 encN b w1 a2 n2 l2) := lH ((h2.slb (by omega)).nxb (kk.b b))
 have P1 : Hid (PLb b w1 a3 n3 P3) := lH ((h3.plb (by omega)).nxb (kk.b b))
 have HW2 := lH hw2
 have HP3 := lH hP3
 clear h1 h2 h3 hT hL kk hb z1 hw2 hP3
 go_wp2_with fail
 go_loopw [12] (fun i wr => CtRel b 3 w1 i wr) (fun i _ => 3 - (intOf i).toNat)
 case atStart => exact ⟨0, by omega, rfl, Exb.refl _ _, T⟩
 case round =>
  clear T
  obtain ⟨k, hk, rfl, kw, T⟩ := hrel
  obtain ⟨wo, rfl⟩ : ∃ wo : World, wo = wr := ⟨_, rfl⟩
  by_cases hlt : k < 3
  case neg =>
   obtain rfl : k = 3 := by omega
   have TG := lH (T1.out.nxb hgt kw)
   have QX := lH (QL.out.nxb kw).1
   have SA := lH (S1.out.nxb kw).sl
   have PA := lH (P1.out.nxb kw).pl
   clear hk hlt kw T
   have SANE : Hid (∀ wq, Ex wo wq → Calls Tryz.prog 17 #[] wq fun e w' => e = .returned (.bool true) ∧ Ex wq w') := lH (fun wq kq => sane17_x wq (TG.out.nx kq))
   by_cases g10 : n2 > 10
   ·have d1 : (n2 : Int) > 10 := by omega
    have d2 : (10 : Int) < (n2 : Int) := by omega
    clear g10
    go_wp2_with fail
    (with_reducible refine (SANE.out _ (Ex.refl _)).mono ?_)
    rintro e wz ⟨rfl, kk⟩
    replace QX := lH (QX.out.nx kk)
    clear kk
    go_wp2_with fail
    go_ret
    exact ⟨rfl, QX.out⟩
   have d1 : ¬ (n2 : Int) > 10 := by omega
   have d2 : ¬ (10 : Int) < (n2 : Int) := by omega
   by_cases g20 : n3 > 20
   ·have d3 : (n3 : Int) > 20 := by omega
    have d4 : (20 : Int) < (n3 : Int) := by omega
    clear g20
    go_wp2_with fail
    (with_reducible refine (SANE.out _ (Ex.refl _)).mono ?_)
    rintro e wz ⟨rfl, kk⟩
    replace QX := lH (QX.out.nx kk)
    clear kk
    go_wp2_with fail
    go_ret
    exact ⟨rfl, QX.out⟩
   have d3 : ¬ (n3 : Int) > 20 := by omega
   have d4 : ¬ (20 : Int) < (n3 : Int) := by omega
   go_wp2_with fail
   (with_reducible refine (agrees17_x _ _ _ l2 _ _ _ P3 m m2 _ SA.out (by omega) hc2 hm2 HW2.out TG.out PA.out (by omega) HP3.out).mono ?_)
   rintro e w6 ⟨rfl, kk⟩
   replace QX := lH (QX.out.nx kk)
   have K5 := lH kk
   clear kk
   go_wp2_with fail
   (with_reducible refine (SANE.out _ K5.out).mono ?_)
   rintro e wz ⟨rfl, kk⟩
   replace QX := lH (QX.out.nx kk)
   clear kk
   go_wp2_with fail
   go_ret
   exact ⟨rfl, QX.out⟩
  have hbo := T.lt
  go_wp2_with fail
  refine (roster_t 7 _ T (L1.out.nxb hgl kw) hgl (by omega) (by omega)).mono ?_
  clear T
  rintro e x1 ⟨v1, LX, rfl, R⟩
  replace kw := kw.nxb R.k
  have T := R.tape
  obtain ⟨aX, cX, rfl, SX, hcX, hmX, hnX⟩ := R.own.slf (fun _ => rfl)
  have SX := SX.slb hbo
  have RL := R.len
  have RN := lH (roster_ok R.ok)
  have XW := lH (fun x hx => (RN.out x hx).1.2.1)
  have XI := lH (fun x hx => (RN.out x hx).1.1)
  have XO := lH (fun x hx => (RN.out x hx).1)
  clear R
  go_wp2_with fail
  refine (next_t 4 _ T (by omega) (by omega)).mono ?_
  clear T
  rintro e x2 ⟨hh, rfl, hh0, hh1, T, kk⟩
  replace kw := kw.nxb kk
  replace SX := SX.nxb kk
  clear kk
  obtain ⟨ht, rfl⟩ : ∃ t : Nat, hh = t := ⟨hh.toNat, by omega⟩
  have hb2 := T.lt
  go_wp2_with fail
  refine (peers_t ht _ _ _ _ _ T SX (by omega) XI.out (by omega)).mono ?_
  clear T
  rintro e x3 ⟨v3, qs, PX, rfl, RP⟩
  replace kw := kw.nxb RP.k
  replace SX := SX.nxb RP.k
  have T := RP.tape
  have hPl := RP.len
  have hPf := lH (fewP_smallR RP.few (by omega))
  obtain ⟨aP, cP, rfl, PP, _, _, hPg, _⟩ := RP.own.pl
  have OWP := lH RP.own
  clear RP
  have KW := lH kw
  have SXH := lH SX
  clear kw SX
  go_upto_region 7 with fail
  go_cut [35] from 30 to 55 (fun v wx => BrB b x3 v wx)
  case first =>
   by_cases hk2 : k = 2
   ·subst hk2
    go_wp2_with fail
    refine (bool_t 2 _ T (by omega) (by omega)).mono ?_
    clear T
    rintro e x4 ⟨rb, rfl, T, kk⟩
    have CUT := lH (show BrB b x3 (.bool rb) x4 from ⟨rb, rfl, T, kk⟩)
    clear T kk
    go_wp2_with fail
    go_meet
    exact CUT.out
   ·have d1 : ((k : Int) == 2) = false := by simp; omega
    have CUT := lH (show BrB b x3 (.bool false) x3 from ⟨false, rfl, T, Exb.refl _ _⟩)
    clear T hk2
    go_wp2_with fail
    go_meet
    exact CUT.out
  case rest =>
   rename World => x4
   obtain ⟨β, rfl, T4, k4⟩ := hcut
   clear T
   have T4H := lH T4
   have K4 := lH k4
   have SX4 := SXH.out.nxb k4
   have L4 := lH (L1.out.nxb hgl (KW.out.nxb k4))
   have hb4 := T4.lt
   clear T4 k4
   go_upto_if 35 with fail
   go_cut [13] from 36 to 55 (fun s9 wx => BrX b x3 s9 wx)
   case first =>
    cases β with
    | true =>
     go_wp2_with fail
     refine (oddroster_t _ _ _ _ _ T4H.out SX4 hnX (by omega) XO.out L4.out hgl).mono ?_
     rintro e x8 ⟨v8, LO, rfl, O⟩
     obtain ⟨aO, cO, rfl, SO, hcO, hmO, _⟩ := O.own.slf (fun _ => rfl)
     have OL := O.len
     have CUT := lH (show BrX b x3 (.slice aO LO.length cO) x8 from ⟨aO, _, cO, LO, rfl, SO.slb hb4, by omega, hcO, hmO, fun x hx => (O.ok x hx).2.1, O.tape, K4.out.nxb O.k⟩)
     clear O SO SX4
     go_wp2_with fail
     go_meet
     exact CUT.out
    | false =>
     have CUT := lH (show BrX b x3 (.slice aX LX.length cX) x4 from ⟨aX, _, cX, LX, rfl, SX4, by omega, hcX, hmX, XW.out, T4H.out, K4.out⟩)
     clear SX4
     go_wp2_with fail
     go_meet
     exact CUT.out
   case rest =>
    clear SX4 T4H K4 L4
    rename World => x5
    obtain ⟨aZ, nZ, cZ, LZ, rfl, SZ, hnZ, hcZ, hmZ, ZW, T5, k5⟩ := hcut
    have SZ := lH SZ
    have K5 := lH k5
    have ZW := lH ZW
    clear k5
    go_wp2_with fail
    refine (next_t 70 _ T5 (by omega) (by omega)).mono ?_
    clear T5
    rintro e x6 ⟨dd, rfl, dd0, dd1, T, kk⟩
    replace K5 := lH (K5.out.nxb kk)
    replace SZ := lH (SZ.out.nxb kk)
    have T := lH T
    have PZ : Hid (∀ wq, Exb b x3 wq → PL wq aP PX.length PX) := lH (fun wq kq => by
     obtain ⟨aQ, cQ, e, PQ, _⟩ := (OWP.out.nxb hb2 kq).pl
     cases e
     exact PQ)
    have hwd : IntKind.i64.wrap (dd - 2) = dd - 2 := IntWalk.i64_in _ (by omega)
    have TG := lH (fun wq (kq : Exb b x3 wq) => T1.out.nxb hgt (KW.out.nxb kq))
    clear kk
    go_wp2_with fail
    (with_reducible refine (agrees17_x _ _ _ LZ _ _ _ PX (dd - 2) ht _ SZ.out.sl (by omega) hcZ hmZ ZW.out (TG.out _ K5.out) (PZ.out _ K5.out) (by omega) hPf.out).mono ?_)
    rintro e x7 ⟨rfl, kk⟩
    replace K5 := lH (K5.out.nxb (kk.b b))
    replace SZ := lH (SZ.out.nxb (kk.b b))
    have T := T.out.nx kk
    clear kk
    go_wp2_with fail
    refine (pick_t (n := 3) (-1) 17 [0, -1, 17] T rfl rfl rfl (by omega) (by omega) (by intro x hx; simp at hx; omega)).mono ?_
    rintro e x8 ⟨r8, rfl, r80, r81, T, kk⟩
    replace K5 := lH (K5.out.nxb kk)
    replace SZ := lH (SZ.out.nxb kk)
    have T := lH T
    clear kk
    go_wp2_with fail
    (with_reducible refine (agrees17_x _ _ _ LZ _ _ _ PX 3 r8 _ SZ.out.sl (by omega) hcZ hmZ ZW.out (TG.out _ K5.out) (PZ.out _ K5.out) (by omega) hPf.out).mono ?_)
    rintro e x9 ⟨rfl, kk⟩
    have KF := lH ((KW.out.nxb K5.out).nxb (kk.b b))
    have TF := lH (T.out.nx kk)
    clear kk
    go_wp2_with fail
    exact ⟨⟨k + 1, by omega, by go_num, KF.out, TF.out⟩, by simp [intOf]; omega⟩
def bytesOf (s : ByteArray) : List UInt8 := s.data.toList
end Go.Proofs.YtlgdjigocopglaaGreatDoor
namespace Go.Proofs.YtlgdjigocopglaaGreatDoor
open Go.ChangeShapes Go.WideShapes Go.ChangeAt Go.RowKit Go.Deep Go.Joins
section
variable {H : Type} {enc : TypeId × Value → H} {P : Program} {w : World} {base : Nat} {spare : Nat → Bool} {held : Bool}
def Wle (P : Program) (t : TypeId) (d : DataW H) : Prop := ∀ n ∈ d.weights P t, n ≤ reachBytes
theorem wleAll_mem {e : TypeId} : ∀ {l : List (DataW H)} {d : DataW H}, d ∈ l → ∀ n ∈ d.weights P e, n ∈ DataW.weightsAll P e l
 | d' :: r, d, hd, n, hn => by
  simp only [DataW.weightsAll, List.mem_append]
  rcases List.mem_cons.1 hd with rfl | h
  ·exact Or.inl hn
  ·exact Or.inr (wleAll_mem h n hn)
theorem wle_len {t e : TypeId} {es sp : List (DataW H)} (hu : P.underlying t = some (.slice e)) (h : Wle P t (.slice es sp)) : (es.length + sp.length) * P.bytesOf e ≤ reachBytes := h _ (by simp [DataW.weights, hu])
theorem wle_elem {t e : TypeId} {es sp : List (DataW H)} (hu : P.underlying t = some (.slice e)) (h : Wle P t (.slice es sp)) {d : DataW H} (hd : d ∈ es ∨ d ∈ sp) : Wle P e d := fun n hn => h n (by
 simp only [DataW.weights, hu, List.mem_cons, List.mem_append]
 rcases hd with hd | hd
 ·exact Or.inr (Or.inl (wleAll_mem hd n hn))
 ·exact Or.inr (Or.inr (wleAll_mem hd n hn)))
theorem wle_field {e : TypeId} {fs : Array Field} {ps : List (DataW H)} (hu : P.underlying e = some (.struct fs)) (h : Wle P e (.agg ps)) {j : Nat} {f : Field} {d : DataW H} (hf : fs[j]? = some f) (hd : ps[j]? = some d) : Wle P f.type d := fun n hn => h n (by
 simp only [DataW.weights, hu]
 exact DataW.weights_mem_each (ts := fs.toList.map (·.type)) (by simp [hf]) hd n hn)
theorem wle_arg {ts : List TypeId} {ds : List (DataW H)} (h : (DataW.weightsEach P ts ds).all (· ≤ reachBytes) = true) {j : Nat} {t : TypeId} {d : DataW H} (ht : ts[j]? = some t) (hd : ds[j]? = some d) : Wle P t d := fun n hn =>
 of_decide_eq_true (List.all_eq_true.1 h _ (DataW.weights_mem_each ht hd n hn))
theorem open_slice_fields_v {t e : TypeId} {fs : Array Field} {fuel : Nat} {cs : List Value} {x : DataW H × List MemPlace} (ht : P.underlying t = some (.slice e)) (he : P.underlying e = some (.struct fs))
  (hone : oneCellFields P fs = true) (hC : P.cellsOf e = fs.size) (h : DataW.trod enc P w base spare held fuel t cs = some x) (hv : Wle P t x.1) :
  (cs = [.slice none 0 0] ∧ x = (.nil, [])) ∨
  ∃ (a : Addr) (len cap m : Nat), cs = [.slice (some a) len cap] ∧ len ≤ cap ∧ cap ≤ maxLen ∧ m = (if spare a.block then cap else len) ∧ len * P.bytesOf e ≤ reachBytes ∧
   ∀ i, i < m → ∃ (n : Nat), ∀ (j : Nat) (f : Field), fs[j]? = some f → ∃ (v : Value) (y : DataW H × List MemPlace), w.cell? (a.add (i * fs.size + j)) = some v ∧ DataW.trod enc P w base spare held n f.type [v] = some y ∧ Wle P f.type y.1 := by
 rcases open_slice ht h with h0 | ⟨a, len, cap, m, n, D, Pl, hcs, hb, hl, hm, hmm, hx, hi⟩
 ·exact .inl h0
 ·rw [hx] at hv
  have hsl : len * P.bytesOf e ≤ reachBytes := by
   have h1 := wle_len ht hv
   rw [List.length_map, List.length_range] at h1
   exact Nat.le_trans (Nat.mul_le_mul_right _ (by omega)) h1
  have hlm : len ≤ m := by rw [hmm]; split <;> omega
  have hD : ∀ i, i < m → Wle P e (D i) := fun i him => by
   by_cases hil : i < len
   ·exact wle_elem ht hv (.inl (List.mem_map.2 ⟨i, List.mem_range.2 hil, rfl⟩))
   ·exact wle_elem ht hv (.inr (List.mem_map.2 ⟨i - len, List.mem_range.2 (by omega), by rw [show len + (i - len) = i by omega]⟩))
  refine .inr ⟨a, len, cap, m, hcs, hl, hm, hmm, hsl, fun i him => ?_⟩
  obtain ⟨cs', hc, ht'⟩ := hi i him
  rw [hC] at hc
  obtain ⟨ys, n', hn', hy, hlen, hyl, hf⟩ := DataW.trod_struct he ht'
  obtain ⟨_, hcl, hat⟩ := World.cells?_some hc
  refine ⟨n', fun j f hj => ?_⟩
  obtain ⟨ho, hk⟩ := hone_of hone j f hj
  have hjl : j < fs.size := (Array.getElem?_eq_some_iff.1 hj).1
  have hcell := hat j hjl
  have hv : cs'[j]? = some (cs'[j]'(by omega)) := List.getElem?_eq_getElem (by omega)
  have h1 := hf j f hj
  rw [ho, hk] at h1
  have hone' : (cs'.drop j).take 1 = [cs'[j]'(by omega)] := by
   rw [List.drop_eq_getElem_cons (by omega)]
   rfl
  rw [hone'] at h1
  have hys : ys[j]? = some (ys[j]'(by omega)) := List.getElem?_eq_getElem (by omega)
  refine ⟨_, _, ?_, h1.trans hys, ?_⟩
  ·rw [← Go.Deep.add_add, hcell, hv]
  ·have e1 : D i = .agg (ys.map (·.1)) := congrArg Prod.fst hy
   exact wle_field he (e1 ▸ hD i him) hj (by rw [List.getElem?_map, hys]; rfl)
theorem rd_from_v {α : Type} {encS : α → List Value} {fs : Array Field} {x : Addr} {len m : Nat} (hk0 : 0 < fs.size) (hlm : len ≤ m) {Q : Value → TypeId → Nat → Prop}
  (hi : ∀ i, i < m → ∃ (n : Nat), ∀ (j : Nat) (f : Field), fs[j]? = some f → ∃ (v : Value), w.cell? (x.add (i * fs.size + j)) = some v ∧ Q v f.type n)
  (hel : ∀ (n : Nat) (cell : Nat → Option Value), (∀ (j : Nat) (f : Field), fs[j]? = some f → ∃ (v : Value), cell j = some v ∧ Q v f.type n) → ∃ y : α, ∀ c u, (encS y)[c]? = some u → cell c = some u) :
  ∃ l, Rd fs.size encS (· < w.heap.size) w (some x) len l := by
 obtain ⟨l, hll, hlp⟩ := list_of (p := fun i (y : α) => ∀ c u, (encS y)[c]? = some u → w.cell? (x.add (i * fs.size + c)) = some u) len (fun i hi' => by
  obtain ⟨n, hn⟩ := hi i (by omega)
  exact hel n (fun j => w.cell? (x.add (i * fs.size + j))) hn)
 refine ⟨l, hll, ?_⟩
 rcases Nat.eq_zero_or_pos len with h0 | h0
 ·exact .inl h0
 ·obtain ⟨n, hn⟩ := hi 0 (by omega)
  obtain ⟨v0, hv0, _⟩ := hn 0 (fs[0]) (by simp)
  have hv0 : w.cell? (x.add 0) = some v0 := by simpa using hv0
  have hx := addr_lit hv0
  refine .inr ⟨x.block, x.off, by rw [← hx], ?_, fun j y hj c u hu => ?_⟩
  ·have := World.block_lt_of_cell? w _ hv0
   rw [hx] at this
   simpa [Addr.add] using this
  ·have := hlp j y hj c u hu
   rw [hx, Addr.add_lit] at this
   simpa [Nat.add_assoc] using this
theorem rd_structs_v {α : Type} {k n0 : Nat} {encS : α → List Value} {t e : TypeId} {fs : Array Field} {v : Value} {y0 : DataW H × List MemPlace} (ht : P.underlying t = some (.slice e)) (he : P.underlying e = some (.struct fs))
  (hone : oneCellFields P fs = true) (hC : P.cellsOf e = fs.size) (hk : fs.size = k) (hk0 : 0 < k) (hf : DataW.trod enc P w base spare held n0 t [v] = some y0) (hM : Wle P t y0.1)
  (hel : ∀ (n : Nat) (cell : Nat → Option Value), (∀ (j : Nat) (f : Field), fs[j]? = some f → ∃ (v : Value), cell j = some v ∧ ∃ y : DataW H × List MemPlace, DataW.trod enc P w base spare held n f.type [v] = some y ∧ Wle P f.type y.1) → ∃ y : α, ∀ c u, (encS y)[c]? = some u → cell c = some u) :
  ∃ a n c l, v = .slice a n c ∧ Rd k encS (· < w.heap.size) w a n l ∧ n ≤ c ∧ c ≤ maxLen ∧ n * P.bytesOf e ≤ reachBytes := by
 subst hk
 rcases open_slice_fields_v ht he hone hC hf hM with ⟨hcs, _⟩ | ⟨x, len, cap, m, hcs, hl, hm, hmm, hsl, hi⟩
 ·simp at hcs
  subst hcs
  exact ⟨none, 0, 0, [], rfl, Rd.nil _ _ _ _ _, by omega, by unfold maxLen; omega, by simp⟩
 ·simp at hcs
  subst hcs
  have hlm : len ≤ m := by rw [hmm]; split <;> omega
  obtain ⟨l, hr⟩ := rd_from_v (w := w) (encS := encS) (fs := fs) (x := x) (len := len) (m := m) hk0 hlm (Q := fun v t n => ∃ y : DataW H × List MemPlace, DataW.trod enc P w base spare held n t [v] = some y ∧ Wle P t y.1)
   (fun i him => by
    obtain ⟨n, hn⟩ := hi i him
    exact ⟨n, fun j f hj => by
     obtain ⟨v, y, h1, h2, h3⟩ := hn j f hj
     exact ⟨v, h1, y, h2, h3⟩⟩) hel
  exact ⟨_, len, cap, l, rfl, hr, hl, hm, hsl⟩
theorem rd_ints_v {n0 : Nat} {t e : TypeId} {k : IntKind} {v : Value} {y0 : DataW H × List MemPlace} (ht : P.underlying t = some (.slice e)) (he : P.underlying e = some (.int k)) (hC : P.cellsOf e = 1)
  (hf : DataW.trod enc P w base spare held n0 t [v] = some y0) (hM : Wle P t y0.1) :
  ∃ a n c l, v = .slice a n c ∧ Rd 1 (fun x : Int => [Value.int k x]) (· < w.heap.size) w a n l ∧ n ≤ c ∧ c ≤ maxLen ∧ n * P.bytesOf e ≤ reachBytes ∧ ∀ x ∈ l, (Lit.int k x).wf = true := by
 have hb : ∀ a len cap, v = .slice (some a) len cap → len * P.bytesOf e ≤ reachBytes := by
  rcases open_slice ht hf with ⟨hcs, _⟩ | ⟨a, len, cap, m, n, D, Pl, hcs, _, hl, hm, hmm, hx, _⟩
  ·intro a len cap hv
   subst hv
   simp at hcs
  ·intro a' len' cap' hv
   subst hv
   simp at hcs
   obtain ⟨rfl, rfl, rfl⟩ := hcs
   rw [hx] at hM
   have h1 := wle_len ht hM
   rw [List.length_map, List.length_range] at h1
   exact Nat.le_trans (Nat.mul_le_mul_right _ (by omega)) h1
 rcases open_ints ht he hC hf with ⟨hcs, _⟩ | ⟨x, l, c, zs, hcs, _, hl, hm, hz, _, hcell, hwz⟩
 ·simp at hcs
  subst hcs
  exact ⟨none, 0, 0, [], rfl, Rd.nil _ _ _ _ _, by omega, by unfold maxLen; omega, by simp, by simp⟩
 ·simp at hcs
  subst hcs
  have hz' : l ≤ zs.length := by rw [hz]; split <;> omega
  refine ⟨_, l, c, zs.take l, rfl, ⟨by simp; omega, ?_⟩, hl, hm, hb _ _ _ rfl, fun y hy => hwz y (List.mem_of_mem_take hy)⟩
  rcases Nat.eq_zero_or_pos l with h0 | h0
  ·exact .inl h0
  ·have hx := addr_lit (hcell 0 (by omega))
   refine .inr ⟨x.block, x.off, by rw [← hx], ?_, fun j y hj d u hu => ?_⟩
   ·have := World.block_lt_of_cell? w _ (hcell 0 (by omega))
    rw [hx] at this
    simpa [Addr.add] using this
   ·have hj' : j < l := by
     have := (List.getElem?_eq_some_iff.1 hj).1
     simp at this; omega
    have hy : zs.getD j 0 = y := by
     rw [List.getElem?_take, if_pos hj'] at hj
     simp [List.getD, hj]
    have hc := hcell j (by omega)
    rw [hx, Addr.add_lit, hy] at hc
    rcases d with _ | d
    ·simp at hu; subst hu; simpa using hc
    ·simp at hu
end
theorem Tryz.cellsIntV : Tryz.prog.cellsOf 3 = 1 := by kernel_rfl
theorem Tryz.cellsNearV : Tryz.prog.cellsOf 50 = 4 := by kernel_rfl
theorem Tryz.cellsPeerV : Tryz.prog.cellsOf 41 = 5 := by kernel_rfl
theorem Tryz.bytesIntV : Tryz.prog.bytesOf 3 = 8 := by kernel_rfl
theorem Tryz.bytesNearV : Tryz.prog.bytesOf 50 = 32 := by kernel_rfl
def WtV (p : Pr) : Prop := p.known.length ≤ 17592186044416 ∧ p.near.length ≤ 4398046511104
set_option maxHeartbeats 1000000 in
theorem rd_peers_v {H : Type} {enc : TypeId × Value → H} {w : World} {base : Nat} {spare : Nat → Bool} {held : Bool} {n0 : Nat} {v : Value} {y0 : DataW H × List MemPlace}
  (hf : DataW.trod enc Tryz.prog w base spare held n0 24 [v] = some y0) (hM : Wle Tryz.prog 24 y0.1) :
  ∃ a n c P, v = .slice a n c ∧ PL w a n P ∧ n ≤ c ∧ c ≤ maxLen ∧ ∀ p ∈ P, WtV p := by
 obtain ⟨a, n, c, l, rfl, rd, hc, hm, _⟩ := rd_structs_v (encS := encPrIn w (WtV)) (k := 5) Tryz.underlying24 Tryz.underlying41 (by kernel_rfl) Tryz.cellsPeerV rfl (by omega) hf hM
  (fun n cell hf => by
   obtain ⟨v0, c0, y0, t0, _⟩ := hf 0 _ rfl
   obtain ⟨v1, c1, y1, t1, m1⟩ := hf 1 _ rfl
   obtain ⟨v2, c2, y2, t2, _⟩ := hf 2 _ rfl
   obtain ⟨v3, c3, y3, t3, _⟩ := hf 3 _ rfl
   obtain ⟨v4, c4, y4, t4, m4⟩ := hf 4 _ rfl
   obtain ⟨i0, e0, rfl, _⟩ := DataW.trod_int Tryz.underlying3 t0
   obtain ⟨i2, e2, rfl, _⟩ := DataW.trod_int Tryz.underlying3 t2
   obtain ⟨i3, e3, rfl, _⟩ := DataW.trod_int Tryz.underlying3 t3
   simp at e0 e2 e3
   subst e0 e2 e3
   obtain ⟨a1, n1, k1, l1, rfl, r1, _, _, h1, _⟩ := rd_ints_v Tryz.underlying22 Tryz.underlying3 Tryz.cellsIntV t1 m1
   obtain ⟨a4, n4, k4, l4, rfl, r4, _, _, h4⟩ := rd_structs_v (encS := encNr) (k := 4) Tryz.underlying39 Tryz.underlying50 (by kernel_rfl) Tryz.cellsNearV rfl (by omega) t4 m4
    (fun n cell hf => by
     obtain ⟨v0, c0, y0, t0, _⟩ := hf 0 _ rfl
     obtain ⟨v1, c1, y1, t1, _⟩ := hf 1 _ rfl
     obtain ⟨v2, c2, y2, t2, _⟩ := hf 2 _ rfl
     obtain ⟨v3, c3, y3, t3, _⟩ := hf 3 _ rfl
     obtain ⟨i0, e0, rfl, _⟩ := DataW.trod_int Tryz.underlying3 t0
     obtain ⟨i1, e1, rfl, _⟩ := DataW.trod_int Tryz.underlying3 t1
     obtain ⟨i2, e2, rfl, _⟩ := DataW.trod_int Tryz.underlying3 t2
     obtain ⟨i3, e3, rfl, _⟩ := DataW.trod_int Tryz.underlying3 t3
     simp at e0 e1 e2 e3
     subst e0 e1 e2 e3
     refine ⟨((i0, i1, i2, i3) : Nr), fun c u hu => ?_⟩
     rcases c with _ | _ | _ | _ | c
     ·simp [encNr] at hu; subst hu; exact c0
     ·simp [encNr] at hu; subst hu; exact c1
     ·simp [encNr] at hu; subst hu; exact c2
     ·simp [encNr] at hu; subst hu; exact c3
     ·simp [encNr] at hu)
   have q1 : l1.length = n1 := r1.1
   have q4 : l4.length = n4 := r4.1
   refine ⟨⟨(((i0, i2, i3), (a1, n1, k1), (a4, n4, k4)), ⟨i0, i2, i3, l1, l4⟩), ⟨rfl, r1, r4⟩, by show l1.length ≤ 17592186044416; rw [Tryz.bytesIntV] at h1; unfold reachBytes at h1; omega, by show l4.length ≤ 4398046511104; rw [Tryz.bytesNearV] at h4; unfold reachBytes at h4; omega⟩, fun c u hu => ?_⟩
   rcases c with _ | _ | _ | _ | _ | c
   ·simp [encPrIn, encQ] at hu; subst hu; exact c0
   ·simp [encPrIn, encQ, Hdr.val] at hu; subst hu; exact c1
   ·simp [encPrIn, encQ] at hu; subst hu; exact c2
   ·simp [encPrIn, encQ] at hu; subst hu; exact c3
   ·simp [encPrIn, encQ, Hdr.val] at hu; subst hu; exact c4
   ·simp [encPrIn, encQ] at hu)
 obtain ⟨P, hP, hw⟩ := peers_of rd
 exact ⟨a, n, c, P, rfl, hP, hc, hm, hw⟩
end Go.Proofs.YtlgdjigocopglaaGreatDoor
/-
 BridgeRounds returns true for every list of numbers, every list of nodes, every list of peers and all numbers, and leaves its arguments as they were.
 Condition: the table of math/bits and the letters of the keys are as the program text lays them (tied by the card).
-/
namespace Go.Proofs.YtlgdjigocopglaaGreatDoor
open Go.ChangeShapes Go.WideShapes Go.ChangeAt Go.RowKit Go.Deep Go.Joins
open Go.ChangeMaps (open_string shut_string)
set_option linter.unusedVariables false
theorem Tryz.cellsInt : Tryz.prog.cellsOf 3 = 1 := by kernel_rfl
theorem Tryz.cellsNode : Tryz.prog.cellsOf 56 = 3 := by kernel_rfl
set_option maxRecDepth 100000 in
set_option maxHeartbeats 1000000 in
theorem bridgeRounds_lifted (os : Os) (started : os.Started) (H : Type) (enc : TypeId × Value → H) :
  ReturnsInHanded {} Tryz.checked os 3 .any (fun w args => (Rows.bridgeRoundsSpec.pre enc Tryz.prog Tryz.f3 [] false w args ∧ laidMetH Tryz.prog Rows.bridgeRoundsRow.laid w) ∧ sizedMet enc Tryz.prog Tryz.f3 (OpenSpec.ofChange Rows.bridgeRoundsSpec) false w args)
   (Rows.bridgeRoundsSpec.post enc Tryz.prog Tryz.f3 false true false false) := by
 refine returnsInHanded_of_change_and (C := Tryz.checked) (X := fun w _ => laidMetH Tryz.prog Rows.bridgeRoundsRow.laid w) (fun _ _ _ hh h => h.of_heap hh) own started (by kernel_rfl) Tryz.func3
  (ChangeSpec.witness_shaped (enc := enc) (C := Tryz.checked) (os := os) (X := fun w _ => laidMetH Tryz.prog Rows.bridgeRoundsRow.laid w) false (World.doorLaid Tryz.prog 400 os) #[.slice none 0 0, .slice none 0 0, .slice none 0 0, .int .i64 0, .int .i64 0] 8 rfl (World.shaped_of_RefB (by kernel_rfl) (by kernel_rfl)) (by kernel_rfl) (by kernel_rfl) (by kernel_rfl) (laidMetH_of_parts3 (fuel := 8) (laidMet_of_run' 8 (by kernel_rfl) (by kernel_rfl)) (by kernel_rfl) (by kernel_rfl))) ?_
 intro W base args ds gs before hval0 hW _ hsz0 hL _
 have hval : ∀ (j : Nat) t v, Tryz.f3.params[j]? = some t → args[j]? = some v → Value.okWide Tryz.prog W .any base t v := hval0
 have hW' := hW
 obtain ⟨p, q, hA0, hV, rfl, hfz, hnd⟩ := hW
 have hA : DataW.TrodAll enc Tryz.prog W 0 (fun _ => true) true Tryz.f3.params.toList args.toList ds p := hA0
 have hsz : (DataW.weightsEach Tryz.prog (Tryz.f3.params.toList ++ Rows.bridgeRoundsSpec.plain.varTypes Tryz.prog) (ds ++ gs)).all (· ≤ reachBytes) = true := hsz0
 rw [Tryz.params3] at hA hval hsz
 obtain ⟨v0, vs0, d0, ds0, p0, q0, hargs, rfl, rfl, h0, r0⟩ := trodAll_cons hA
 obtain ⟨v1, vs1, d1, ds1, p1, q1, rfl, rfl, rfl, h1, r1⟩ := trodAll_cons r0
 obtain ⟨v2, vs2, d2, ds2, p2, q2, rfl, rfl, rfl, h2, r2⟩ := trodAll_cons r1
 obtain ⟨v3, vs3, d3, ds3, p3, q3, rfl, rfl, rfl, h3, r3⟩ := trodAll_cons r2
 obtain ⟨v4, vs4, d4, ds4, p4, q4, rfl, rfl, rfl, h4, r4⟩ := trodAll_cons r3
 obtain ⟨rfl, rfl, rfl⟩ := trodAll_nil r4
 obtain rfl : args = #[v0, v1, v2, v3, v4] := by cases args; simp_all
 obtain ⟨rfl, rfl⟩ := trodVars_none hV
 have k0 := h0
 have lt0 : ∀ x ∈ p0, x.block < W.heap.size := by obtain ⟨m, hm⟩ := k0; exact DataW.trod_lt m _ _ _ hm
 have k1 := h1
 have lt1 : ∀ x ∈ p1, x.block < W.heap.size := by obtain ⟨m, hm⟩ := k1; exact DataW.trod_lt m _ _ _ hm
 have k2 := h2
 have lt2 : ∀ x ∈ p2, x.block < W.heap.size := by obtain ⟨m, hm⟩ := k2; exact DataW.trod_lt m _ _ _ hm
 have k3 := h3
 have lt3 : ∀ x ∈ p3, x.block < W.heap.size := by obtain ⟨m, hm⟩ := k3; exact DataW.trod_lt m _ _ _ hm
 have k4 := h4
 have lt4 : ∀ x ∈ p4, x.block < W.heap.size := by obtain ⟨m, hm⟩ := k4; exact DataW.trod_lt m _ _ _ hm
 obtain ⟨A0, n0, cap0, l0, rfl, rd0, hc0, hm0, wf0, nl0⟩ := rd_ints Tryz.underlying22 Tryz.underlying3 Tryz.cellsInt (hval 0 22 v0 rfl rfl) h0
 obtain ⟨A1, n1, cap1, l1s, rfl, rd1s, hc1, hm1, nl1⟩ := rd_structs (encS := encN32) (k := 3) Tryz.underlying23 Tryz.underlying56 (by kernel_rfl) Tryz.cellsNode rfl (by omega) (hval 1 23 v1 rfl rfl) h1
  (fun n cell hf => by
   obtain ⟨v, y, hc, ht⟩ := hf 0 _ rfl
   obtain ⟨v', y', hc', ht'⟩ := hf 1 _ rfl
   obtain ⟨v'', y'', hc'', ht''⟩ := hf 2 _ rfl
   obtain ⟨a, e0, rfl, _⟩ := DataW.trod_int Tryz.underlying3 ht
   obtain ⟨s, e1, rfl, _⟩ := DataW.trod_string Tryz.underlying9 ht'
   obtain ⟨m, e2, rfl, wf⟩ := DataW.trod_int Tryz.underlying54 ht''
   simp at e0 e1 e2
   subst e0 e1 e2
   have hb := bounds_u32 wf
   obtain ⟨m, rfl⟩ := Int.eq_ofNat_of_zero_le hb.1
   refine ⟨⟨⟨a, s, m⟩, by show m < 4294967296; omega⟩, fun c u hu => ?_⟩
   rcases c with _ | _ | _ | c
   ·simp [encN32, encN] at hu; subst hu; exact hc
   ·simp [encN32, encN] at hu; subst hu; exact hc'
   ·simp [encN32, encN] at hu; subst hu; exact hc''
   ·simp [encN32, encN] at hu)
 obtain ⟨l1, rd1, wn1⟩ := nodes_of rd1s
 obtain ⟨mp2, hp2⟩ := h2
 obtain ⟨xa2, xl2, xc2, rfl⟩ := okWide_slice Tryz.underlying24 (hval 2 24 v2 rfl rfl)
 have hp2' : DataW.trod enc Tryz.prog W 0 (fun _ => true) true mp2 24 [.slice xa2 xl2 xc2] = some (d2, p2) := hp2
 obtain ⟨A2, n2, cap2, l2, hpe2, rd2, hc2, hm2, wl2⟩ := rd_peers_v hp2' (wle_arg (P := Tryz.prog) hsz (j := 2) (by kernel_rfl) rfl)
 injection hpe2 with hpa2 hpb2 hpc2
 replace hpa2 := hpa2.symm
 replace hpb2 := hpb2.symm
 replace hpc2 := hpc2.symm
 subst hpa2 hpb2 hpc2
 obtain ⟨a3, rfl, rfl, rfl, wa3⟩ := open_int Tryz.underlying3 (hval 3 3 v3 rfl rfl) h3
 obtain ⟨a4, rfl, rfl, rfl, wa4⟩ := open_int Tryz.underlying3 (hval 4 3 v4 rfl rfl) h4
 clear hA0 hval0
 have hT : TabG W := tabG_of hL (by kernel_rfl)
 have hL2 : LetG W := letG_second hL (by kernel_rfl) (by kernel_rfl)
 refine (bridgerounds_walk A0 n0 cap0 l0 A1 n1 cap1 l1 A2 n2 cap2 l2 a3 a4 W rd0 hc0 hm0 rd1 hc1 hm1 wn1 rd2 wl2 hT hL2).mono fun e W' ⟨he, hch⟩ => ?_
 have bel : Below W.heap.size W W' := hch.below (fun _ h => h)
 subst he
 exact ⟨_, rfl, _, _, _, [], _, [], hW', trodAll_mk1 (shut_bool Tryz.underlying4 _), (trodAll_cons_mk (Below.trod laidOut (by kernel_rfl) (of_decide_eq_true (by kernel_rfl)) k0 bel lt0) (trodAll_cons_mk (Below.trod laidOut (by kernel_rfl) (of_decide_eq_true (by kernel_rfl)) k1 bel lt1) (trodAll_cons_mk (Below.trod laidOut (by kernel_rfl) (of_decide_eq_true (by kernel_rfl)) k2 bel lt2) (trodAll_cons_mk (Below.trod laidOut (by kernel_rfl) (of_decide_eq_true (by kernel_rfl)) k3 bel lt3) (trodAll_cons_mk (Below.trod laidOut (by kernel_rfl) (of_decide_eq_true (by kernel_rfl)) k4 bel lt4) trodAll_mk0))))), rfl, bel.frame _, fun h => by cases h⟩
theorem bridgeRounds_over : Rows.bridgeRoundsRow.holds Tryz.pinned (OpenSpec.ofChange Rows.bridgeRoundsSpec) :=
 OpenClaim.holds_of_wide 3 Tryz.f3 rfl rfl rfl rfl rfl rfl rfl ⟨rfl, rfl, rfl, rfl, rfl⟩ rfl rfl rfl rfl rfl (by kernel_rfl) Tryz.func3 (by kernel_rfl)
  (of_decide_eq_true (by kernel_rfl)) (by unfold Func.isWrapper; first | (rw [if_pos (by decide +kernel)]; kernel_rfl) | (rw [if_neg (by decide +kernel)]; exact ⟨rfl, rfl⟩))
  (fun os started H enc _ => bridgeRounds_lifted os started H enc)
theorem BridgeRounds_holds : Rows.BridgeRoundsCardSaid :=
 Claim7.holds_tied_plain_at .later [] [.data, .data] true (true, "b790f26ef35c85b0afa36e3ca6ce5369a92ddcf9cf001d61a03045e2f3eaabbf") false
  bridgeRounds_over (fun _ h => by cases h) (by kernel_rfl) (fun _ h => by cases h) bridgeRounds_row_tie rfl ⟨rfl, rfl⟩ (by kernel_rfl) rfl
  (fun f fn hf hfn => by
   obtain rfl : f = 3 := Option.some.inj ((show Tryz.prog.funcNamed "skipgraph/skipgraphlaw17.BridgeRounds" = some 3 by kernel_rfl).symm.trans hf) |>.symm
   obtain rfl : fn = Tryz.f3 := (Option.some.inj (Tryz.func3.symm.trans hfn)).symm
   exact ⟨by kernel_rfl, fun j t ht => by
    rw [Tryz.params3] at ht
    have hm : t ∈ [22, 23, 24, 3, 3] := by simpa using Array.mem_of_getElem? ht
    have hall : ([22, 23, 24, 3, 3].all fun u => !Tryz.prog.wantsStandIn u) = true := by kernel_rfl
    exact (show Tryz.prog.wantsStandIn t = false by simpa using List.all_eq_true.1 hall t hm)⟩)
  (by kernel_rfl)
#print axioms BridgeRounds_holds
end Go.Proofs.YtlgdjigocopglaaGreatDoor
