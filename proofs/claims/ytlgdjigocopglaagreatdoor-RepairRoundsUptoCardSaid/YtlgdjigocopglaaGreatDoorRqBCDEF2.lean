/- Shared texts. -/
import Derived.WalkMore
import Derived.Test.YtlgdjigocopglaaGreatDoorRqAll20
import Derived.Test.YtlgdjigocopglaaGreatDoorRqAll22
import Derived.Test.YtlgdjigocopglaaGreatDoorRqBCDEF1
set_option linter.unusedSimpArgs false
set_option linter.unusedVariables false

namespace Go.Proofs.YtlgdjigocopglaaGreatDoor
open Go.RowKit Go.Maps
theorem told_grp (M : List (Int × Int)) (m : Int × Int) : toldN (M ++ [m]) = grp1 (toldN M) m.1 m.2 := by
 funext id
 rw [told_snoc]
 unfold grp1
 by_cases h : id = m.1
 ·subst h; simp
 ·rw [if_neg (fun h2 => h h2.symm), if_neg h, List.append_nil]
theorem flat_len (N : List Nd) (Q : List Pr) : (Q.flatMap (introsN N)).length ≤ Q.length * (2 * N.length) := by
 induction Q with
 | nil => simp
 | cons p Q ih =>
  rw [List.flatMap_cons, List.length_append, List.length_cons, Nat.succ_mul]
  have := intros_len N p
  omega
theorem flat_snoc {N : List Nd} {Q : List Pr} {j : Nat} {p : Pr} (hp : Q[j]? = some p) : (Q.take (j + 1)).flatMap (introsN N) = (Q.take j).flatMap (introsN N) ++ introsN N p := by
 rw [List.take_add_one, hp, List.flatMap_append]
 simp
theorem intros_ids {N : List Nd} {p : Pr} {q : Int × Int} (h : q ∈ introsN N p) : ∃ x ∈ N, x.id = q.1 := ar_ids p _ (prs_from h).1
theorem normal_ids (N : List Nd) (P : List Pr) : ∀ p ∈ normalN N P, ∃ x ∈ N, x.id = p.id := by
 intro p hp
 unfold normalN at hp
 split at hp
 ·obtain ⟨x, hx, rfl⟩ := List.mem_map.1 hp
  exact ⟨x, (sortN_mem N x).1 hx, (peer_id P x.id).symm⟩
 ·cases hp
theorem AccM.nxm {β lo hi bm : Nat} {w6 wr w9 : World} {f : Int → Value} (h : AccM β lo hi bm w6 wr f) (k : Ex wr w9) : AccM β lo hi bm w6 w9 f :=
 ⟨h.1.trans (Chg.mono k fun x hx => Nat.lt_of_lt_of_le hx.1 h.2.1), Nat.le_trans h.2.1 k.size, h.2.2⟩
def LrRel (N : List Nd) (Q : List Pr) (bm : Nat) (w : World) (i : Value) (wr : World) : Prop :=
 ∃ (j n : Nat) (f : Int → Value), j ≤ Q.length ∧ i = .int .i64 j ∧ GpM w.heap.size wr bm n f (toldN ((Q.take j).flatMap (introsN N))) ∧ n = ((Q.take j).flatMap (introsN N)).length ∧ Exb bm w wr
def LmRel (E M : List (Int × Int)) (bm lo : Nat) (w w6 : World) (i : Value) (wr : World) : Prop :=
 ∃ (j n : Nat) (f : Int → Value), j ≤ M.length ∧ i = .int .i64 j ∧ GpM w.heap.size wr bm n f (toldN (E ++ M.take j)) ∧ n = E.length + j ∧ AccM w.heap.size lo w6.heap.size bm w6 wr f
def LtRel (N : List Nd) (Q : List Pr) (M : List (Int × Int)) (qs : List PQ) (base : Nat) (w : World) (o i : Value) (wr : World) : Prop :=
 ∃ (j : Nat) (qz : List PQ), j ≤ Q.length ∧ i = .int .i64 j ∧ OwnPr base wr o qz ((Q.take j).map (rndP N M)) ∧ (∀ g, o.ownBlock = some g → w.heap.size ≤ g) ∧ (∀ (i : Nat) (q : PQ), qz[i]? = some q → ∃ q0, qs[i]? = some q0 ∧ q.2.2 = q0.2.2) ∧ Ex w wr
set_option maxRecDepth 100000 in
set_option maxHeartbeats 16000000 in
theorem lround_p (a : Option Addr) (n c : Nat) (N : List Nd) (a2 : Option Addr) (n2 c2 : Nat) (P : List Pr) (w : World) (h : Sl 3 encN w a n N) (hn : n ≤ 1000) (hc : n ≤ c) (hm : c ≤ maxLen) (h2 : PL w a2 n2 P) (hn2 : n2 ≤ 4000000000000000000) (hP : SmallP P) :
  Calls Tryz.prog 59 #[.slice a n c, .slice a2 n2 c2] w (PlPost (roundN N P) w) := by
 have HL := lH h.len
 go_enter Tryz.func59, Tryz.ntmps59
 go_wp2_with fail
 (with_reducible refine (normal_p _ _ _ N _ _ _ P _ h hn hc hm h2 hn2 hP).mono ?_)
 rintro e w3 ⟨v3, qs, rfl, OQ, kk⟩
 replace h := h.nx kk
 clear h2
 have K03 := lH kk
 obtain ⟨hQ1, hQ2⟩ := normal_le N P
 have HR := lH (roundN_eq N P)
 have HQS := lH (normal_small N hP)
 have HQI := lH (normal_ids N P)
 generalize normalN N P = Q at OQ hQ1 hQ2 HR HQS HQI
 have HQ2 := lH hQ2
 obtain ⟨aQ, cQ, rfl, PQ0, _, _, _, _⟩ := OQ.pl
 have HPQ := lH PQ0
 have HOQ := lH OQ
 have hQn : Q.length ≤ n := by have := HL.out; omega
 have hz3 := kk.size
 clear OQ PQ0 kk hQ1 hQ2 hP
 have HS3 := lH h
 clear h
 have G4 := GrpM.made w3 Tryz.prog 3 3
 have kk := Ex.new w3 (.map #[] 0)
 obtain ⟨w4, hw4⟩ : ∃ w4, w4 = w3.alloc (.map #[] 0) := ⟨_, rfl⟩
 obtain ⟨bm, hbm⟩ : ∃ bm, bm = w3.heap.size := ⟨_, rfl⟩
 have hsz4 : w4.heap.size = bm + 1 := by rw [hw4, hbm]; simp
 replace G4 : GpM w4.heap.size w4 bm 0 (fun _ => nilS) (fun _ => []) := by rw [hsz4, hw4, hbm]; exact G4
 rw [← hw4] at kk
 have Hw4 := lH hw4
 have Hbm := lH hbm
 have QL : Hid (Exl bm w3 w4) := lH ⟨kk, by omega⟩
 clear kk hw4 hbm
 have hmm := @run_makeMap Tryz.prog
 go_upto_region 3 with fail
 rw [← Hbm.out, ← Hw4.out]
 clear Hbm Hw4
 clear hmm
 have hbm4 : bm < w4.heap.size := by omega
 replace hsz4 := lH hsz4
 go_wp2_with fail
 go_loopw [22] (fun i wr => LrRel N Q bm w4 i wr) (fun i _ => Q.length - (intOf i).toNat)
 case atStart => exact ⟨0, 0, fun _ => nilS, by omega, rfl, G4, by simp, Exb.refl _ _⟩
 case round =>
  clear G4
  obtain ⟨j, nn, f, hj, rfl, GP, hnn, kw⟩ := hrel
  obtain ⟨wi, rfl⟩ : ∃ wi : World, wi = wr := ⟨_, rfl⟩
  have K3 := lH (QL.out.nxb kw).1
  have KW := lH kw
  have hbi : bm < wi.heap.size := Nat.lt_of_lt_of_le hbm4 kw.size
  have GW := lH GP
  have HNN := lH hnn
  clear kw GP hnn
  by_cases hjm : j < Q.length
  ·have HC := lH (HQ2.out (by omega))
   have hN64 : N.length ≤ 64 := check_len HC.out
   have HI : Hid (∀ x ∈ N, I64 x.id) := lH (fun x hx => (roster_ok HC.out x hx).1.1)
   obtain ⟨x3, o3, b1, m1, d1, b4, m4, d4, y, rfl, hx3, hy, e0, e1, e2, e3, e4, s1, s4⟩ := (HPQ.out.nx K3.out).rd hjm
   have FSn := lH (flat_snoc (N := N) hy)
   have hEl : ((Q.take j).flatMap (introsN N)).length ≤ 64 * 128 := by
    refine Nat.le_trans (flat_len N (Q.take j)) (Nat.mul_le_mul ?_ ?_)
    ·rw [List.length_take]; have := HL.out; omega
    ·omega
   have hyP := HQS.out y (List.mem_of_getElem? hy)
   have hl1 : m1 ≤ 4000000000000000000 := by have := s1.len; omega
   have hl4 : m4 ≤ 4000000000000000000 := by have := s4.len; omega
   have S1 := lH s1
   have S4 := lH s4
   generalize (Q.take j).flatMap (introsN N) = E at GW HNN FSn hEl
   clear hy s1 s4 hyP
   have B8 := Blk.new wi [.int .i64 y.id, .slice b1 m1 d1, .int .i64 y.left, .int .i64 y.right, .slice b4 m4 d4] 41
   have kk := Ex.new wi (.cells #[.int .i64 y.id, .slice b1 m1 d1, .int .i64 y.left, .int .i64 y.right, .slice b4 m4 d4] 41)
   obtain ⟨w5, hw5⟩ : ∃ w5, w5 = wi.alloc (.cells #[.int .i64 y.id, .slice b1 m1 d1, .int .i64 y.left, .int .i64 y.right, .slice b4 m4 d4] 41) := ⟨_, rfl⟩
   obtain ⟨g8, hg8⟩ : ∃ g8, g8 = wi.heap.size := ⟨_, rfl⟩
   replace B8 : Blk w5 g8 [.int .i64 y.id, .slice b1 m1 d1, .int .i64 y.left, .int .i64 y.right, .slice b4 m4 d4] 41 := by rw [hw5, hg8]; exact B8
   rw [← hw5] at kk
   have Hw5 := lH hw5
   have Hg8 := lH hg8
   have K5 := lH kk
   clear kk hw5 hg8
   go_upto_region 6 with fail
   rw [← Hg8.out, ← Hw5.out]
   clear Hg8 Hw5
   have q0 := B8.cell 0 _ rfl
   have q1 := B8.cell 1 _ rfl
   have q2 := B8.cell 2 _ rfl
   have q3 := B8.cell 3 _ rfl
   have q4 := B8.cell 4 _ rfl
   clear e0 e1 e2 e3 e4 B8
   go_wp2_with fail
   (with_reducible refine (intros_p _ _ _ N y _ _ _ _ _ _ _ (HS3.out.nx (K3.out.nx K5.out)) hn hc hm (S1.out.nx K5.out) (S4.out.nx K5.out) hl1 hl4).mono ?_)
   rintro e w9 ⟨v9, rfl, o9, kk⟩
   clear q0 q1 q2 q3 q4
   obtain ⟨A9, C9, rfl, r9, _, _, _, _⟩ := o9.rd (fun _ => rfl)
   have K9 := lH (K5.out.nx kk)
   have R9 : Hid (Slf 2 encS wi w9 A9 (introsN N y).length (introsN N y)) := lH (Slf.old r9 K5.out.size)
   have hMl := intros_len N y
   have HMI : Hid (∀ q ∈ introsN N y, I64 q.1) := lH (fun q hq => by obtain ⟨x, hx, he⟩ := intros_ids hq; rw [← he]; exact HI.out x hx)
   generalize introsN N y = M at R9 hMl HMI FSn r9 o9 ⊢
   have A0 : Hid (AccM w4.heap.size wi.heap.size w9.heap.size bm w9 w9 f) := lH ⟨Chg.refl _ _, Nat.le_refl _, fun v g hg => .inl ((GW.out.row v).lt g hg).2⟩
   have G9 := lH (GW.out.nx K9.out)
   clear r9 o9 kk
   go_wp2_with fail
   go_loopw [30] (fun i wr => LmRel E M bm wi.heap.size w4 w9 i wr) (fun i _ => M.length - (intOf i).toNat)
   case atStart => exact ⟨0, nn, f, by omega, rfl, by simpa using G9.out, by simpa using HNN.out, A0.out⟩
   case round =>
    clear A0 G9 GW
    obtain ⟨i, m, f2, hi, rfl, GP, hm2, ac⟩ := hrel
    obtain ⟨wp, rfl⟩ : ∃ wp : World, wp = wr := ⟨_, rfl⟩
    by_cases hil : i < M.length
    ·obtain ⟨xr, or, z, rfl, hxr, hz, hcr⟩ := (ac.sl hbi R9.out).at (j := i) hil
     have f0 : wp.cell? ⟨xr, or + i * 2, none⟩ = some (.int .i64 z.1) := by simpa using hcr 0 _ rfl
     have f1 : wp.cell? ⟨xr, or + i * 2 + 1, none⟩ = some (.int .i64 z.2) := by simpa using hcr 1 _ rfl
     have LS : Hid (M.take (i + 1) = M.take i ++ [z]) := lH (by rw [List.take_add_one, hz]; rfl)
     have hzI := HMI.out z (List.mem_of_getElem? hz)
     have wx1 := lH (wf_of hzI)
     have JX := lH (told_len (E ++ M.take i) z.1)
     have hEM : (E ++ M.take i).length ≤ 64 * 128 + 128 := by rw [List.length_append, List.length_take]; omega
     generalize hJ : toldN (E ++ M.take i) = J at GP JX
     have HJ := lH hJ
     have jlx : (J z.1).length ≤ 10000 := Nat.le_trans JX.out (by omega)
     have GPH := lH GP
     have AC := lH ac
     have M2 := lH hm2
     have hm100 : m < 1000000 := by omega
     clear hcr hz hzI hJ GP ac hm2 JX hEM
     have B10 := Blk.new wp [.int .i64 z.1, .int .i64 z.2] 111
     have kk := Ex.new wp (.cells #[.int .i64 z.1, .int .i64 z.2] 111)
     obtain ⟨w6, hw6⟩ : ∃ w6, w6 = wp.alloc (.cells #[.int .i64 z.1, .int .i64 z.2] 111) := ⟨_, rfl⟩
     obtain ⟨g10, hg10⟩ : ∃ g10, g10 = wp.heap.size := ⟨_, rfl⟩
     replace B10 : Blk w6 g10 [.int .i64 z.1, .int .i64 z.2] 111 := by rw [hw6, hg10]; exact B10
     rw [← hw6] at kk
     have Hw6 := lH hw6
     have Hg10 := lH hg10
     have zg10 : wp.heap.size ≤ g10 := by omega
     replace GPH := lH (GPH.out.nx kk)
     replace AC := lH (AC.out.nxm kk)
     clear kk hw6 hg10
     go_upto_region 9 with fail
     rw [← Hg10.out, ← Hw6.out]
     clear Hg10 Hw6
     have BP := lH B10
     have zbp : bm < w6.heap.size := GPH.out.1.lt
     have zgp : g10 < w6.heap.size := B10.lt
     have NB : Hid (∀ v, ¬ (f2 v).ownBlock = some bm ∧ ¬ (f2 v).ownBlock = some g10) := lH (fun v => ⟨fun hv => by have := ((GPH.out.row v).lt bm hv).1; omega, fun hv => OwnL.ne_blk (GPH.out.row v) BP.out (by decide) hv rfl⟩)
     clear f0 f1 B10
     refine wp_region_late_drew (S := Chg (fun k => k = bm ∨ k = g10) w6) [11] (by kernel_rfl) ((Chg.refl _ w6).drew) (fun hHeld => ?_)
     obtain ⟨wd, hwdx⟩ : ∃ wd : World, wd = World.drew w6 := ⟨_, rfl⟩
     rw [← hwdx] at hHeld ⊢
     have hDrew : Ex w6 wd := by rw [hwdx]; exact (Ex.refl w6).drew
     clear hwdx
     refine tkL 0 (v := ?_) rfl (by kernel_rfl) (fun _ _ _ h => h) (by rfl) ?y1x0q5 (by assumption) ?z1x0q5
     case y1x0q5 => intro wq hSw; (go_simp); (try with_reducible rfl)
     refine tkL 1 (v := ?_) rfl (by kernel_rfl) (fun _ _ _ h => h) (by rfl) ?y1x1q8 (by assumption) ?z1x1q8
     case y1x1q8 => intro wq hSw; (go_simp); (try with_reducible rfl)
     refine tkL 2 (v := ?_) rfl (by kernel_rfl) (fun _ _ _ h => h) (by rfl) ?y1x2q11 (by assumption) ?z1x2q11
     case y1x2q11 => intro wq hSw; (have cq := ((show Blk wq g10 _ _ from (hSw.block g10 (.inr rfl)).trans BP.out).cell 0 _ rfl); go_simp); (try with_reducible rfl)
     refine tkL 3 (v := ?_) rfl (by kernel_rfl) (fun _ _ _ h => h) (by rfl) ?y1x3q14 (by assumption) ?z1x3q14
     case y1x3q14 => intro wq hSw; (go_simp); (try with_reducible rfl)
     refine tkL 4 (v := ?_) rfl (by kernel_rfl) (fun _ _ _ h => h) (by rfl) ?y1x4q17 (by assumption) ?z1x4q17
     case y1x4q17 => intro wq hSw; (go_simp); (try with_reducible rfl)
     refine tkL 5 (v := ?_) rfl (by kernel_rfl) (fun _ _ _ h => h) (by rfl) ?y1x5q20 (by assumption) ?z1x5q20
     case y1x5q20 => intro wq hSw; (have cq := ((show Blk wq g10 _ _ from (hSw.block g10 (.inr rfl)).trans BP.out).cell 0 _ rfl); go_simp); (try with_reducible rfl)
     refine tkL 6 (v := ?_) rfl (by kernel_rfl) (fun _ _ _ h => h) (by rfl) ?y1x6q23 (by assumption) ?z1x6q23
     case y1x6q23 => intro wq hSw; (have lk := (RawM.same GPH.out.1 (hSw.block bm (.inl rfl))).get (t := 88) Tryz.underlying3 Tryz.underlying88 (Tryz.zeroS _) wx1.out; go_simp); (try with_reducible rfl)
     refine tkL 7 (v := ?_) rfl (by kernel_rfl) (fun _ _ _ h => h) (by rfl) ?y1x7q26 (by assumption) ?z1x7q26
     case y1x7q26 => intro wq hSw; (go_simp); (try with_reducible rfl)
     refine tkL 8 (v := ?_) rfl (by kernel_rfl) (fun _ _ _ h => h) (by rfl) ?y1x8q29 (by assumption) ?z1x8q29
     case y1x8q29 => intro wq hSw; (have cq := ((show Blk wq g10 _ _ from (hSw.block g10 (.inr rfl)).trans BP.out).cell 1 _ rfl); go_simp); (try with_reducible rfl)
     refine wpAnyL_ready (rs := [9]) (by kernel_rfl) (by simp) ?_
     refine AllReadyL.cons (o := ⟨_, _, _, _, _, _⟩) rfl (fun K hK => ?_) AllReadyL.nil
     go_simp
     obtain ⟨g8, wq, hg8, hwq, SX, kk⟩ := litF hHeld.size z.2
     rw [← hg8, ← hwq]
     clear hg8 hwq
     replace hDrew := hDrew.nx kk
     replace hHeld := hold_ex hHeld zbp zgp kk
     clear kk
     refine hK.out _ _ (hHeld) (fun hHeld => ?_)
     clear hK K
     refine wpAnyL_ready (rs := [10]) (by kernel_rfl) (by simp) ?_
     refine AllReadyL.cons (o := ⟨_, _, _, _, _, _⟩) rfl (fun K hK => ?_) AllReadyL.nil
     rw [if_pos (by rfl)]
     have rx := (GPH.out.row z.1).nx hDrew
     have zbase := Nat.le_trans GPH.out.2.2.1 hDrew.size
     refine wp_append_rda (enc := encI) _ (.tmp 40) (.tmp 43) 22 rfl w4.heap.size 3 (.int .i64 0) 1 8 Tryz.underlying22 Tryz.infoI6 rfl (by omega) (by omega) _ (J z.1) rx rfl _ _ 1 1 [z.2] SX (fun h => by cases h) (fun _ => rfl) (by simp [encI, Value.oneCell']) rfl (by omega) (by omega) zbase ?_
     intro va w1 A ch0 ch1 hva
     have KA : Chg (fun k => k < w6.heap.size ∧ ¬ (f2 z.1).ownBlock = some k) w6 w1 := Chg.trans (Chg.mono hDrew (fun k hk => hk.1)) (Chg.mono ch0 (fun k hk => ⟨Nat.lt_of_lt_of_le hk.1 hDrew.size, hk.2⟩))
     have la := own_hist hva hDrew.size
     replace hHeld := hold_row hHeld zbp zgp (NB.out z.1) ch0
     clear ch0 ch1 hva rx hDrew SX
     refine hK.out _ _ (hHeld) (fun hHeld => ?_)
     clear hK K
     refine wpAnyL_ready (rs := [11]) (by kernel_rfl) (by simp) ?_
     refine AllReadyL.consL (o := ⟨_, _, _, _, _, _⟩) rfl (by rfl) (fun K hK => ?_) AllReadyL.nil
     have R2 := RawM.same GPH.out.1 (hHeld.block bm (.inl rfl))
     obtain ⟨wg, hrun, R3, k5, sz5⟩ := R2.put (t := 88) Tryz.underlying3 Tryz.underlying88 (by omega) wx1.out va
     go_simp
     clear hrun sz5 R2
     refine hK.out _ _ ?_
     clear hK K
     refine wpAnyL_done (by kernel_rfl) ?_ _
     have GN := GPH.out.one (x := z.1) (y := z.2) A KA la k5 R3
     have AN := AC.out.one (fun v g hg => ((GPH.out.row v).lt g hg).1) KA la k5
     have RR := lH (show LmRel E M bm wi.heap.size w4 w9 (.int .i64 ((i : Int) + 1)) wg from ⟨i + 1, m + 1, _, by omega, by go_num, by rw [LS.out, ← List.append_assoc, told_grp, HJ.out]; exact GN, by rw [M2.out]; omega, AN⟩)
     clear GN AN A KA la R3 k5 hHeld
     go_wp2_with fail
     exact ⟨RR.out, by simp [intOf]; omega⟩
    ·obtain rfl : i = M.length := by omega
     rw [List.take_of_length_le (Nat.le_refl _), ← FSn.out] at GP
     have RR := lH (show LrRel N Q bm w4 (.int .i64 ((j : Int) + 1)) wp from ⟨j + 1, m, f2, by omega, by go_num, GP, by rw [FSn.out, List.length_append]; exact hm2, (ac.exb (KW.out.nxb (K9.out.b bm)) (Nat.le_refl _))⟩)
     clear GP ac
     go_wp2_with fail
     exact ⟨RR.out, by simp [intOf]; omega⟩
  ·obtain rfl : j = Q.length := by omega
   have GP := GW.out
   rw [List.take_of_length_le (Nat.le_refl _)] at GP
   have HFL := flat_len N Q
   generalize Q.flatMap (introsN N) = M at GP HR HFL
   have GP := lH GP
   clear GW HNN hj hjm
   go_wp2_with fail
   go_loopw [11, 49] (fun o i wr => LtRel N Q M qs w.heap.size wi o i wr) (fun _ i _ => Q.length - (intOf i).toNat)
   case atStart => exact ⟨0, [], by omega, rfl, OwnP.nil _ _ _ _ _, (fun g hg => by cases hg), (by intro i q h; simp at h), Ex.refl _⟩
   case round =>
    obtain ⟨j2, qz, hj2, rfl, own, hblk, hnear, ki⟩ := hrel
    obtain ⟨wk, rfl⟩ : ∃ wk : World, wk = wr := ⟨_, rfl⟩
    have HB := lH hblk
    have HN := lH hnear
    clear hblk hnear
    by_cases hjm : j2 < Q.length
    ·have HC := lH (HQ2.out (by omega))
     have hN64 : N.length ≤ 64 := check_len HC.out
     have own0 := HOQ.out.nx (K3.out.nx ki)
     obtain ⟨y, hy⟩ : ∃ y, Q[j2]? = some y := ⟨Q[j2], List.getElem?_eq_getElem hjm⟩
     obtain ⟨⟨A1, n1, c1⟩, ⟨A4, n4, c4⟩, hq, okn, onr⟩ := own0.get hy
     obtain ⟨a', cap', e', r', _⟩ := own0.1.rd encQ_len
     have hql : qs.length = Q.length := own0.2.1
     obtain ⟨x3, o3, q', ea, hx3, hq', hc3⟩ := Rd.at r' (j := j2) (by omega)
     obtain rfl : (y.nums, (A1, n1, c1), (A4, n4, c4)) = q' := Option.some.inj (hq.symm.trans hq')
     obtain rfl : aQ = some ⟨x3, o3, none⟩ := by injection e' with h1 h2 h3; rw [h1, ea]
     have e0 : wk.cell? ⟨x3, o3 + j2 * 5, none⟩ = some (.int .i64 y.id) := hc3 0 _ rfl
     have e1 : wk.cell? ⟨x3, o3 + j2 * 5 + 1, none⟩ = some (.slice A1 n1 c1) := hc3 1 _ rfl
     have e2 : wk.cell? ⟨x3, o3 + j2 * 5 + 1 + 1, none⟩ = some (.int .i64 y.left) := hc3 2 _ rfl
     have e3 : wk.cell? ⟨x3, o3 + j2 * 5 + 1 + 1 + 1, none⟩ = some (.int .i64 y.right) := hc3 3 _ rfl
     have e4 : wk.cell? ⟨x3, o3 + j2 * 5 + 1 + 1 + 1 + 1, none⟩ = some (.slice A4 n4 c4) := hc3 4 _ rfl
     have S1 : Hid (Sl 1 encI wk A1 n1 y.known) := lH (by obtain ⟨_, _, e, r, _⟩ := okn.rd (fun _ => rfl); injection e with h1 h2 h3; subst h1 h2 h3; exact r.mono (fun _ hk => hk.2))
     have S4 : Hid (Sl 4 encNr wk A4 n4 y.near) := lH (by obtain ⟨_, _, e, r, _⟩ := onr.rd (fun _ => rfl); injection e with h1 h2 h3; subst h1 h2 h3; exact r.mono (fun _ hk => hk.2))
     have hyP := HQS.out y (List.mem_of_getElem? hy)
     have hl1 : n1 ≤ 4000000000000000000 := by have := S1.out.len; omega
     have hl4 : n4 ≤ 4000000000000000000 := by have := S4.out.len; omega
     have ONR := lH onr
     have FN : Hid (∀ (j : Nat) (r : PQ) (g : Nat), qz[j]? = some r → j < j2 → r.2.2.val.ownBlock = some g → ¬ (Value.slice A4 n4 c4).ownBlock = some g) := lH (fun i r g hr hi hg hv => by
      obtain ⟨q0, h0, h1⟩ := HN.out i r hr
      rw [h1] at hg
      have := own0.2.2.2.2 i j2 q0 _ g h0 hq hg hv
      omega)
     have HQJ := lH hq
     have hqz : qz.length = j2 := by rw [own.2.1, List.length_map, List.length_take]; omega
     have hxN : ∃ x ∈ N, x.id = y.id := HQI.out y (List.mem_of_getElem? hy)
     have wx1 : Hid ((Lit.int .i64 y.id).wf = true) := lH (by obtain ⟨x, hx, he⟩ := hxN; rw [← he]; exact wf_of (roster_ok HC.out x hx).1.1)
     have SN : Hid ((Q.take (j2 + 1)).map (rndP N M) = (Q.take j2).map (rndP N M) ++ [rndP N M y]) := lH (by rw [List.take_add_one, hy, List.map_append]; rfl)
     have HRP : Hid (rndP N M y = { y with left := (keepN N y).1, right := (keepN N y).2, known := ordN N ([(keepN N y).1, (keepN N y).2] ++ toldN M y.id) y.id }) := lH rfl
     have OWN := lH own
     have KI := lH ki
     have hwi : w.heap.size ≤ wk.heap.size := (K03.out.nx (K3.out.nx ki)).size
     clear own0 hq okn onr e' r' hql hx3 hq' hc3 hyP hy own ki hxN
     have B13 := Blk.new wk [.int .i64 y.id, .slice A1 n1 c1, .int .i64 y.left, .int .i64 y.right, .slice A4 n4 c4] 41
     have kk := Ex.new wk (.cells #[.int .i64 y.id, .slice A1 n1 c1, .int .i64 y.left, .int .i64 y.right, .slice A4 n4 c4] 41)
     obtain ⟨w11, hw11⟩ : ∃ w11, w11 = wk.alloc (.cells #[.int .i64 y.id, .slice A1 n1 c1, .int .i64 y.left, .int .i64 y.right, .slice A4 n4 c4] 41) := ⟨_, rfl⟩
     obtain ⟨g13, hg13⟩ : ∃ g13, g13 = wk.heap.size := ⟨_, rfl⟩
     replace B13 : Blk w11 g13 [.int .i64 y.id, .slice A1 n1 c1, .int .i64 y.left, .int .i64 y.right, .slice A4 n4 c4] 41 := by rw [hw11, hg13]; exact B13
     rw [← hw11] at kk
     have Hw11 := lH hw11
     have Hg13 := lH hg13
     have K11 := lH kk
     clear kk hw11 hg13
     go_upto_region 16 with fail
     rw [← Hg13.out, ← Hw11.out]
     clear Hg13 Hw11
     have q0 := B13.cell 0 _ rfl
     have q1 := B13.cell 1 _ rfl
     have q2 := B13.cell 2 _ rfl
     have q3 := B13.cell 3 _ rfl
     have q4 := B13.cell 4 _ rfl
     clear e0 e1 e2 e3 e4
     go_wp2_with fail
     (with_reducible refine (keep_p _ _ _ N y _ _ _ _ _ _ _ (HS3.out.nx (K3.out.nx (KI.out.nx K11.out))) hn hc hm (S1.out.nx K11.out) (S4.out.nx K11.out) hl1 hl4).mono ?_)
     rintro e w12 ⟨rfl, kk⟩
     replace B13 := B13.nx kk
     replace K11 := lH (K11.out.nx kk)
     clear q0 q1 q2 q3 q4 kk
     generalize keepN N y = kl at HRP ⊢
     obtain ⟨kl, kr⟩ := kl
     simp only at HRP ⊢
     have B14 := Blk.new w12 [.int .i64 kl, .int .i64 kr] 69
     have kk := Ex.new w12 (.cells #[.int .i64 kl, .int .i64 kr] 69)
     obtain ⟨w13, hw13⟩ : ∃ w13, w13 = w12.alloc (.cells #[.int .i64 kl, .int .i64 kr] 69) := ⟨_, rfl⟩
     obtain ⟨g14, hg14⟩ : ∃ g14, g14 = w12.heap.size := ⟨_, rfl⟩
     replace B14 : Blk w13 g14 [.int .i64 kl, .int .i64 kr] 69 := by rw [hw13, hg14]; exact B14
     rw [← hw13] at kk
     have Hw13 := lH hw13
     have Hg14 := lH hg14
     replace B13 := B13.nx kk
     replace K11 := lH (K11.out.nx kk)
     clear kk hw13 hg14
     go_upto_region 17 with fail
     rw [← Hg14.out, ← Hw13.out]
     clear Hg14 Hw13
     have G13 := lH (GP.out.nx (KI.out.nx K11.out))
     have lk := G13.out.1.get (t := 88) Tryz.underlying3 Tryz.underlying88 (Tryz.zeroS _) wx1.out
     obtain ⟨aT, cT, eT, rT, _, _, _⟩ := (G13.out.row y.id).rd (fun _ => rfl)
     have ST : Hid (Sl 1 encI w13 aT (toldN M y.id).length (toldN M y.id)) := lH (rT.mono (fun _ hk => hk.2))
     have hlT : (toldN M y.id).length ≤ 4000000000000000000 := by
      have h1 := told_len M y.id
      have h2 : Q.length * (2 * N.length) ≤ 1000 * 128 := Nat.mul_le_mul (by omega) (by omega)
      omega
     rw [eT] at lk
     have q0 := B13.cell 0 _ rfl
     have q1 := B14.cell 0 _ rfl
     have q2 := B14.cell 1 _ rfl
     have KE := lH (known_eq HC.out y.id kl kr (toldN M y.id))
     generalize toldN M y.id = T at HRP lk ST hlT KE
     clear eT rT
     go_wp2_with fail
     (with_reducible refine (refs_p _ _ _ N ⟨y.id, kl, kr, T, []⟩ aT _ cT none 0 0 _ (HS3.out.nx (K3.out.nx (KI.out.nx K11.out))) (by omega) hc hm ST.out (Sl.nil _ _ _ _) hlT (by omega)).mono ?_)
     rintro e w14 ⟨vK, rfl, oK, kk⟩
     replace B13 := B13.nx kk
     replace B14 := B14.nx kk
     have hz13 := K11.out.size
     replace K11 := lH (K11.out.nx kk)
     rw [KE.out] at oK
     clear q0 q1 q2 lk ST kk
     have FK := lH (fun (j : Nat) (r : PQ) (g : Nat) (hr : qz[j]? = some r) (hg : r.2.1.val.ownBlock = some g) => (show g < wk.heap.size from by obtain ⟨_, _, _, r2, _⟩ := OWN.out.getp hr; exact (r2.lt g hg).2))
     obtain ⟨AK, CK, rfl, _, _, _, _⟩ := oK.slf (fun _ => rfl)
     have OKL := lH (fun g hg => (oK.lt g hg).1)
     replace oK := lH (oK.base (Nat.le_trans hwi hz13))
     generalize hkn : ordN N ([kl, kr] ++ T) y.id = kn at HRP oK OKL
     clear hkn
     have q0 := B13.cell 0 _ rfl
     have q4 := B13.cell 4 _ rfl
     have q1 := B14.cell 0 _ rfl
     have q2 := B14.cell 1 _ rfl
     clear B13 B14
     have kl2 := Ex.new w14 (.cells #[.int .i64 y.id, .slice AK kn.length CK, .int .i64 kl, .int .i64 kr, .slice A4 n4 c4] 41)
     have OP := OWN.out.nx (K11.out.nx kl2)
     have KN := lH (K11.out.nx kl2)
     have zn := Nat.le_trans hwi KN.out.size
     go_wp2_with (at_builtin; (refine wpList_append_W (enc := encQ) _ rfl _ _ 24 rfl w.heap.size 41 (.agg #[.int .i64 0, .slice none 0 0, .int .i64 0, .int .i64 0, .slice none 0 0]) 5 72 Tryz.underlying24 Tryz.infoPr rfl (by omega) (by omega) _ qz OP.row rfl _ 1 1 [((y.id, kl, kr), (AK, kn.length, CK), (A4, n4, c4))] (Sl.lit _ rfl rfl encQ_len rfl) encQ_len encQ_one rfl (by omega) (by omega) zn ?_); intro v9 w9 own9 ch0 ch1 hv)
     have RR := OP.push (p := ⟨y.id, kl, kr, kn, y.near⟩) (hk := (AK, kn.length, CK)) (hn := (A4, n4, c4)) (by decide) (by decide) own9 ch0 (oK.out.nx kl2) (ONR.out.nx KN.out)
      (fun j r g hr hg hv => by have h1 := FK.out j r g hr hg; have h2 := OKL.out g hv; omega)
      (fun j r g hr hg hv => FN.out j r g hr (by have := (List.getElem?_eq_some_iff.1 hr).1; omega) hg hv)
     have KF : Ex wi w9 := Chg.trans (KI.out.nx KN.out) (ch0.mono (fun k (hk : k < wi.heap.size) => ⟨Nat.lt_of_lt_of_le hk (KI.out.nx KN.out).size, fun hg => by have := HB.out k hg; omega⟩))
     refine ⟨⟨j2 + 1, _, by omega, by go_num, by rw [SN.out, HRP.out]; exact RR, fun g hg => ?_, fun i q hi => ?_, KF⟩, by simp [intOf]; omega⟩
     ·rcases hv with h1 | h1
      ·exact HB.out g (by rw [← h1]; exact hg)
      ·exact Nat.le_trans (KI.out.nx KN.out).size (h1 g hg)
     ·rcases Nat.lt_or_ge i qz.length with h1 | h1
      ·rw [List.getElem?_append_left h1] at hi
       exact HN.out i q hi
      ·have h2 := (List.getElem?_eq_some_iff.1 hi).1
       rw [List.length_append, List.length_singleton] at h2
       obtain rfl : i = j2 := by omega
       rw [List.getElem?_append_right (by omega), hqz, Nat.sub_self] at hi
       simp only [List.getElem?_cons_zero, Option.some.injEq] at hi
       subst hi
       exact ⟨_, HQJ.out, rfl⟩
    ·obtain rfl : j2 = Q.length := by omega
     rw [List.take_of_length_le (Nat.le_refl _)] at own
     have FO := lH own
     have FE := lH (K03.out.nx (K3.out.nx ki))
     clear own ki
     go_wp2_with fail
     go_ret
     exact ⟨_, qz, rfl, by rw [HR.out]; exact FO.out, FE.out⟩
section
variable {eP eI eN : TypeId} {base : Nat} {w w1 : World} {v : Value} {qs : List PQ} {P : List Pr}
theorem set_chg {g o : Nat} (w : World) (u : Value) : Chg (fun k => k < w.heap.size ∧ ¬ k = g) w (w.setCell ⟨g, o, none⟩ u) :=
 (Chg.refl _ w).setCell (p := ⟨g, o, none⟩) u (fun k hk => hk.2)
end
theorem wpList_append_rda {P : Program} {α : Type} {enc : α → List Value} {ops : Array Oper} {rest : List Oper} {o : Oper} {a : Act} {Q : Exit → Act → World → Prop} (w0 : World) (hgd : o.guard = none) (s x : Operand) (t : TypeId)
  (ho : o.op = .call { callee := .builtin .append, args := #[s, x], argTypes := #[t, t] })
  (base : Nat) (e : TypeId) (z : Value) (sz bytes : Nat) (ht : P.underlying t = some (.slice e)) (hi : (P.info? e).map (fun i => (i.zero, i.size, i.bytes)) = some (some z, sz, bytes))
  (hzs : z.cells.size = sz) (hsz : 0 < sz) (hby : bytes ≤ 65536)
  (v : Value) (l : List α) (hown : OwnL sz enc e base w0 v l) (hs : a.eval s = v) (S : Nat → Prop) (A : Option Addr) (n c : Nat) (news : List α) (hrd : Rd sz enc S w0 A n news) (hA : A = none → c = 0) (hlen : ∀ y, (enc y).length = sz) (h1 : ∀ y, ∀ u ∈ enc y, u.oneCell' = true)
  (hx : a.eval x = .slice A n c) (hl : l.length ≤ 100000000) (hn : n ≤ 100000000) (hbase : base ≤ w0.heap.size)
  (h : ∀ v' w', OwnL sz enc e base w' v' (l ++ news) → Chg (fun k => k < w0.heap.size ∧ ¬ v.ownBlock = some k) w0 w' → Chg (· < base) w0 w' → (v'.ownBlock = v.ownBlock ∨ v'.ownBlock = some w0.heap.size) → wpList P ops Q rest (a.put o.dst v') w') :
  wpList P ops Q (o :: rest) a w0 :=
 wpList_plain hgd fun _ hK => wp_append_rda w0 s x t ho base e z sz bytes ht hi hzs hsz hby v l hown hs S A n c news hrd hA hlen h1 hx hl hn hbase fun v' w' h2 h3 h4 h5 => hK _ _ (h v' w' h2 h3 h4 h5)
section
variable {eP eI eN : TypeId} {base : Nat} {w : World} {v : Value} {qs : List PQ} {P : List Pr}
theorem OwnP.swapN (hI : eP ≠ eI) (hN : eP ≠ eN) (hIN : eI ≠ eN) {g n cap : Nat} (h : OwnP eP eI eN base w (.slice (some ⟨g, 0, none⟩) n cap) qs P) {a : Nat} {p : Pr} {hk hn hn' : Hdr} {nr : List Nr} (hq : qs[a]? = some (p.nums, hk, hn)) (hp : P[a]? = some p)
  (A : OwnL 4 encNr eN base w hn'.val nr) (fn : ∀ (j : Nat) (r : PQ) (g' : Nat), j ≠ a → qs[j]? = some r → r.2.2.val.ownBlock = some g' → ¬ hn'.val.ownBlock = some g') :
  w.cell? ⟨g, a * 5 + 4, none⟩ = some hn.val ∧ w.frozen? ⟨g, a * 5 + 4, none⟩ = false ∧
   OwnP eP eI eN base (w.setCell ⟨g, a * 5 + 4, none⟩ hn'.val) (.slice (some ⟨g, 0, none⟩) n cap) (qs.set a (p.nums, hk, hn')) (P.set a { p with near := nr }) := by
 obtain ⟨s1, s2, s3⟩ := OwnW.set1 encQ_len h.1 hq (c := 4) (by omega)
 have ch := set_chg (g := g) (o := a * 5 + 4) w hn'.val
 have nN : ∀ (j : Nat) (r : PQ) (d : Pr), qs[j]? = some r → P[j]? = some d → OwnL 4 encNr eN base (w.setCell ⟨g, a * 5 + 4, none⟩ hn'.val) r.2.2.val d.near := fun j r d hr hd =>
  (h.2.2.1 j r d hr hd).2.2.chg ch (fun x hx hv => ⟨hx, fun he => by subst he; exact h.neN hN hr hv rfl⟩)
 have nK : ∀ (j : Nat) (r : PQ) (d : Pr), qs[j]? = some r → P[j]? = some d → OwnL 1 encI eI base (w.setCell ⟨g, a * 5 + 4, none⟩ hn'.val) r.2.1.val d.known := fun j r d hr hd =>
  (h.2.2.1 j r d hr hd).2.1.chg ch (fun x hx hv => ⟨hx, fun he => by subst he; exact h.neI hI hr hv rfl⟩)
 have A2 : OwnL 4 encNr eN base (w.setCell ⟨g, a * 5 + 4, none⟩ hn'.val) hn'.val nr := A.chg ch (fun x hx hv => ⟨hx, fun he => by
  subst he
  obtain ⟨_, c1, h1⟩ := A.blk hv
  obtain ⟨_, c2, h2⟩ := h.1.blk rfl
  exact blk_kind hN h2 h1⟩)
 refine ⟨s1, s2, h.upd (q' := (p.nums, hk, hn')) (p' := { p with near := nr }) (List.getElem?_eq_some_iff.1 hq).1 (s3 _ _ rfl) rfl (show OwnL 1 encI eI base _ hk.val p.known from nK a (p.nums, hk, hn) p hq hp) A2 (fun j r d hj hr hd => ⟨nK j r d hr hd, nN j r d hr hd⟩) (fun j r g' hj hr hg hv => ?_) (fun j r g' hj hr hg hv => fn j r g' hj hr hg hv)⟩
 exact hj (h.2.2.2.1 j a r _ g' hr hq hg hv)
end
def comb (p q : Pr) : Pr := { p with near := q.near }
def mixP (P Q : List Pr) (j : Nat) : List Pr := (List.zipWith comb P Q).take j ++ P.drop j
theorem mixP_zero (P Q : List Pr) : mixP P Q 0 = P := rfl
theorem mixP_len {P Q : List Pr} (h : P.length = Q.length) (j : Nat) : (mixP P Q j).length = P.length := by
 unfold mixP
 rw [List.length_append, List.length_take, List.length_zipWith, List.length_drop]
 omega
theorem mixP_all {P Q : List Pr} (h : P.length = Q.length) : mixP P Q P.length = (P.zip Q).map fun q => { q.1 with near := q.2.near } := by
 unfold mixP
 rw [List.drop_length, List.append_nil, List.take_of_length_le (by rw [List.length_zipWith]; omega), List.zip, List.map_zipWith]
 rfl
theorem mixP_at {P Q : List Pr} (h : P.length = Q.length) {j : Nat} {p : Pr} (hp : P[j]? = some p) : (mixP P Q j)[j]? = some p := by
 have hj := (List.getElem?_eq_some_iff.1 hp).1
 unfold mixP
 rw [List.getElem?_append_right (by rw [List.length_take]; omega), List.length_take, List.length_zipWith, show j - min j (min P.length Q.length) = 0 by omega, List.getElem?_drop, Nat.add_zero]
 exact hp
theorem mixP_set {P Q : List Pr} (h : P.length = Q.length) {j : Nat} {p q : Pr} (hp : P[j]? = some p) (hq : Q[j]? = some q) : (mixP P Q j).set j (comb p q) = mixP P Q (j + 1) := by
 have hj := (List.getElem?_eq_some_iff.1 hp).1
 apply List.ext_getElem?
 intro i
 unfold mixP
 by_cases hij : j = i
 ·subst hij
  rw [List.getElem?_set_self (by rw [List.length_append, List.length_take, List.length_zipWith, List.length_drop]; omega), List.getElem?_append_left (by rw [List.length_take, List.length_zipWith]; omega), List.getElem?_take, if_pos (by omega), List.getElem?_zipWith, hp, hq]
 ·rw [List.getElem?_set_ne hij]
  by_cases hl : i < j
  ·rw [List.getElem?_append_left (by rw [List.length_take, List.length_zipWith]; omega), List.getElem?_append_left (by rw [List.length_take, List.length_zipWith]; omega), List.getElem?_take, List.getElem?_take, if_pos hl, if_pos (by omega)]
  ·rw [List.getElem?_append_right (by rw [List.length_take, List.length_zipWith]; omega), List.getElem?_append_right (by rw [List.length_take, List.length_zipWith]; omega), List.getElem?_drop, List.getElem?_drop, List.length_take, List.length_take, List.length_zipWith]
   congr 1
   omega
def MixQ (S : Nat) (qs2 : List PQ) (j : Nat) (qs : List PQ) : Prop := ∀ (i : Nat) (q : PQ) (g : Nat), qs[i]? = some q → q.2.2.val.ownBlock = some g → g < S ∨ (i < j ∧ ∃ q2, qs2[i]? = some q2 ∧ q2.2.2 = q.2.2)
theorem MixQ.start {eP eI eN : TypeId} {base S : Nat} {w : World} {v : Value} {qs qs2 : List PQ} {P : List Pr} (h : OwnP eP eI eN base w v qs P) (hS : w.heap.size ≤ S) : MixQ S qs2 0 qs := fun i q g hq hg => by
 obtain ⟨p, _, _, _, r3⟩ := h.getp hq
 exact .inl (Nat.lt_of_lt_of_le (r3.lt g hg).2 hS)
theorem MixQ.fn {eP eI eN : TypeId} {S : Nat} {w : World} {v : Value} {qs qs2 : List PQ} {Q : List Pr} {j : Nat} {q2 : PQ} (h : MixQ S qs2 j qs) (h2 : OwnP eP eI eN S w v qs2 Q) (hq2 : qs2[j]? = some q2) :
  ∀ (i : Nat) (r : PQ) (g' : Nat), i ≠ j → qs[i]? = some r → r.2.2.val.ownBlock = some g' → ¬ q2.2.2.val.ownBlock = some g' := fun i r g hij hr hg hv => by
 obtain ⟨p, _, _, _, r3⟩ := h2.getp hq2
 have hS := (r3.lt g hv).1
 rcases h i r g hr hg with h1 | ⟨_, q3, h3, h4⟩
 ·omega
 ·exact hij (h2.2.2.2.2 i j q3 q2 g h3 hq2 (by rw [h4]; exact hg) hv)
theorem MixQ.step {S : Nat} {qs qs2 : List PQ} {j : Nat} {q2 q' : PQ} (h : MixQ S qs2 j qs) (hq2 : qs2[j]? = some q2) (he : q2.2.2 = q'.2.2) : MixQ S qs2 (j + 1) (qs.set j q') := fun i q g hq hg => by
 by_cases hij : j = i
 ·subst hij
  rw [List.getElem?_set] at hq
  simp at hq
  obtain ⟨_, rfl⟩ := hq
  exact .inr ⟨by omega, q2, hq2, he⟩
 ·rw [List.getElem?_set_ne hij] at hq
  rcases h i q g hq hg with h1 | ⟨h1, h2⟩
  ·exact .inl h1
  ·exact .inr ⟨by omega, h2⟩
theorem rround_no {N : List Nd} {P : List Pr} {h : Int} (hh : lvlN h = false) : rRoundN N P h = [] := by unfold rRoundN; rw [if_neg (by rw [hh]; simp)]
theorem rround_eq {N : List Nd} {P : List Pr} {h : Nat} (hh : h ≤ 16) : (roundN N P).length = (bRoundN N P h).length ∧ rRoundN N P h = mixP (roundN N P) (bRoundN N P h) (roundN N P).length := by
 have hl : (roundN N P).length = (bRoundN N P h).length := by rw [bround_eq hh, List.length_map, roundN_eq, List.length_map]
 refine ⟨hl, ?_⟩
 rw [mixP_all hl]
 unfold rRoundN
 rw [if_pos (lvl_of (by omega) (by omega))]
def RrRel (s S : Nat) (w : World) (v1 v2 : Value) (qs2 : List PQ) (P1 P2 : List Pr) (i : Value) (wr : World) : Prop :=
 ∃ (j : Nat) (qs : List PQ), j ≤ P2.length ∧ i = .int .i64 j ∧ OwnPr s wr v1 qs (mixP P1 P2 j) ∧ MixQ S qs2 j qs ∧ OwnPr S wr v2 qs2 P2 ∧ Ex w wr
set_option maxRecDepth 100000 in
set_option maxHeartbeats 8000000 in
theorem rround_p (a : Option Addr) (n c : Nat) (N : List Nd) (a2 : Option Addr) (n2 c2 : Nat) (P : List Pr) (hh : Int) (w : World) (h : Sl 3 encN w a n N) (hn : n ≤ 1000) (hc : n ≤ c) (hm : c ≤ maxLen) (hw : ∀ x ∈ N, x.word < 4294967296) (h2 : PL w a2 n2 P) (hn2 : n2 ≤ 4000000000000000000) (hP : SmallP P) :
  Calls Tryz.prog 23 #[.slice a n c, .slice a2 n2 c2, .int .i64 hh] w (PlPost (rRoundN N P hh) w) := by
 have HL := lH h.len
 have HW := lH hw
 clear hw
 have NO : Hid (lvlN hh = false → PlPost (rRoundN N P hh) w (.returned (.slice none 0 0)) w) := lH (fun h => by
  rw [rround_no h]
  exact ⟨_, [], rfl, OwnP.nil _ _ _ _ _, Ex.refl _⟩)
 by_cases h0 : hh < 0
 ·have FI := lH (NO.out (by unfold lvlN; simp; omega))
  clear h h2 hP NO
  go_enter Tryz.func23, Tryz.ntmps23
  go_wp2_with fail
  go_ret
  exact FI.out
 by_cases h1 : hh > 16
 ·have FI := lH (NO.out (by unfold lvlN; simp; omega))
  clear h h2 hP NO
  go_enter Tryz.func23, Tryz.ntmps23
  go_wp2_with fail
  go_ret
  exact FI.out
 obtain ⟨k, rfl⟩ := Int.eq_ofNat_of_zero_le (show 0 ≤ hh by omega)
 have hk16 : k ≤ 16 := by omega
 have HR := lH (rround_eq (N := N) (P := P) hk16)
 have hQl := lH (Nat.le_trans (by rw [roundN_eq, List.length_map]; exact (normal_le N P).1 : (roundN N P).length ≤ N.length) (by have := HL.out; omega : N.length ≤ 1000))
 clear NO
 go_enter Tryz.func23, Tryz.ntmps23
 go_wp2_with fail
 (with_reducible refine (lround_p _ _ _ N _ _ _ P _ h hn hc hm h2 hn2 hP).mono ?_)
 rintro e w1 ⟨v1, qs1, rfl, own1, kk⟩
 replace h := h.nx kk
 replace h2 := h2.nx kk
 have K1 := lH kk
 clear kk
 go_wp2_with fail
 (with_reducible refine (bround_p _ _ _ N _ _ _ P k _ h hn hc hm HW.out h2 hn2 hP).mono ?_)
 rintro e w2 ⟨v2, qs2, rfl, own2, kk⟩
 have K2 := lH kk
 have OWN1 := lH own1
 have M0 := lH (MixQ.start (qs2 := qs2) own1 (Nat.le_refl _))
 have hz1 := K1.out.size
 clear h h2 hP kk
 generalize roundN N P = P1 at own1 OWN1 HR hQl
 generalize bRoundN N P (k : Int) = P2 at own2 HR
 have hl := HR.out.1
 have hq := hQl.out
 obtain ⟨a1, cap1, rfl, _, _, _, _, _⟩ := own1.pl
 obtain ⟨a3, cap2, rfl, _, _, _, _, _⟩ := own2.pl
 have OWN2 := lH own2
 clear own1 own2
 rw [hl]
 go_wp2_with fail
 go_loopw [24] (fun i wr => RrRel w.heap.size w1.heap.size w (.slice a1 P2.length cap1) (.slice a3 P2.length cap2) qs2 P1 P2 i wr) (fun i _ => P2.length - (intOf i).toNat)
 case atStart => exact ⟨0, qs1, by omega, rfl, by rw [mixP_zero, ← hl]; exact OWN1.out.nx K2.out, M0.out, OWN2.out, K1.out.nx K2.out⟩
 case round =>
  obtain ⟨j, qs, hj, rfl, own1, hmx, own2, kz⟩ := hrel
  obtain ⟨wi, rfl⟩ : ∃ wi : World, wi = wr := ⟨_, rfl⟩
  have KZ := lH kz
  have MX := lH hmx
  have hml := mixP_len hl j
  clear hmx kz
  by_cases hjm : j < P2.length
  ·obtain ⟨a', c', e', _, _, _, hg', _⟩ := own1.pl
   obtain ⟨g, hge, hgb⟩ := hg' (fun h => by rw [h] at hml; simp at hml; omega)
   injection e' with e1 e2 e3
   subst e1 e3
   subst hge
   obtain ⟨a'', c'', e'', _, _, _, hg'', _⟩ := own2.pl
   obtain ⟨g2, hge, hgb2⟩ := hg'' (fun h => by rw [h] at hjm; simp at hjm)
   injection e'' with e4 e5 e6
   subst e4 e6
   subst hge
   obtain ⟨p, hp⟩ : ∃ p, P1[j]? = some p := ⟨P1[j]'(by omega), by simp⟩
   obtain ⟨q, hq2⟩ : ∃ q, P2[j]? = some q := ⟨P2[j], by simp⟩
   obtain ⟨⟨B1, k1, f1⟩, ⟨B4, k4, f4⟩, hqs2, _, _⟩ := own2.get hq2
   have c0 := (OwnW.set1 encQ_len own2.1 hqs2 (c := 0) (by omega)).1
   have c1 := (OwnW.set1 encQ_len own2.1 hqs2 (c := 1) (by omega)).1
   have c2 := (OwnW.set1 encQ_len own2.1 hqs2 (c := 2) (by omega)).1
   have c3 := (OwnW.set1 encQ_len own2.1 hqs2 (c := 3) (by omega)).1
   have c4 := (OwnW.set1 encQ_len own2.1 hqs2 (c := 4) (by omega)).1
   simp only [Hdr.val, encQ, Pr.nums, List.getElem?_cons_zero, List.getElem?_cons_succ] at c0 c1 c2 c3 c4
   rw [Nat.add_zero] at c0
   have hgne : g < w1.heap.size := by
    obtain ⟨_, _, hb⟩ := OWN1.out.1.blk rfl
    exact (Array.getElem?_eq_some_iff.1 hb).1
   have HQ := lH hqs2
   have HP := lH hp
   have HQ2 := lH hq2
   have OA := lH own1
   have OB := lH own2
   clear own1 own2 hqs2 hp hq2 e2 e5
   have B8 := Blk.new wi [.int .i64 q.id, .slice B1 k1 f1, .int .i64 q.left, .int .i64 q.right, .slice B4 k4 f4] 41
   have kk := Ex.new wi (.cells #[.int .i64 q.id, .slice B1 k1 f1, .int .i64 q.left, .int .i64 q.right, .slice B4 k4 f4] 41)
   obtain ⟨w7, hw7⟩ : ∃ w7, w7 = wi.alloc (.cells #[.int .i64 q.id, .slice B1 k1 f1, .int .i64 q.left, .int .i64 q.right, .slice B4 k4 f4] 41) := ⟨_, rfl⟩
   obtain ⟨g8, hg8⟩ : ∃ g8, g8 = wi.heap.size := ⟨_, rfl⟩
   replace B8 : Blk w7 g8 [.int .i64 q.id, .slice B1 k1 f1, .int .i64 q.left, .int .i64 q.right, .slice B4 k4 f4] 41 := by rw [hw7, hg8]; exact B8
   rw [← hw7] at kk
   have Hw7 := lH hw7
   have Hg8 := lH hg8
   have K8 := lH kk
   clear kk hw7 hg8
   go_upto_region 7 with fail
   rw [← Hg8.out, ← Hw7.out]
   clear Hg8 Hw7
   clear c0 c1 c2 c3 c4
   have hp' := mixP_at (Q := P2) hl HP.out
   have own1 := OA.out.nx K8.out
   have own2 := OB.out.nx K8.out
   obtain ⟨⟨A1, m1, d1⟩, ⟨A4, m4, d4⟩, hqs, _, _⟩ := own1.get hp'
   obtain ⟨_, _, hqs3, _, onr⟩ := own2.get HQ2.out
   rw [HQ.out] at hqs3
   cases hqs3
   obtain ⟨s1, s2, O9⟩ := own1.swapN (hn' := (B4, k4, f4)) (nr := q.near) (by decide) (by decide) (by decide) hqs hp' (onr.base (Nat.le_trans (by omega) hz1)) (MX.out.fn own2 HQ.out)
   have hset := mixP_set hl HP.out HQ2.out
   have FN := lH (show RrRel w.heap.size w1.heap.size w (.slice (some ⟨g, 0, none⟩) P2.length cap1) (.slice (some ⟨g2, 0, none⟩) P2.length cap2) qs2 P1 P2 (.int .i64 ((j : Int) + 1)) (w7.setCell ⟨g, j * 5 + 4, none⟩ (.slice B4 k4 f4)) from
    ⟨j + 1, qs.set j (p.nums, (A1, m1, d1), (B4, k4, f4)), by omega, by go_num, by rw [← hset]; exact O9, MX.out.step HQ.out rfl, own2.nxb hgne ((Exb.refl g _).setB (p := ⟨g, j * 5 + 4, none⟩) _ rfl), (KZ.out.nx K8.out).setNew (p := ⟨g, j * 5 + 4, none⟩) _ hgb⟩)
   simp only [Hdr.val] at s1
   have p4 := B8.cell 4 _ rfl
   clear O9 own1 own2 onr hset hqs hp'
   go_wp2_with fail
   exact ⟨FN.out, by simp [intOf]; omega⟩
  ·obtain rfl : j = P2.length := by omega
   rw [show P2.length = P1.length from hl.symm, ← HR.out.2] at own1
   have OWN := lH own1
   have KF := lH KZ.out
   clear own1 own2 hj hjm
   go_wp2_with fail
   go_ret
   exact ⟨_, qs, rfl, by rw [hl] at *; exact OWN.out, KF.out⟩
structure Fl where
 peers : List Pr
 msgs : List (Int × Int)
def nodeB (N : List Nd) (v : Int) : Prop := ∃ x ∈ N, x.id = v
section
variable {N : List Nd} {f : Fl}
end
section
variable {N : List Nd} {f g : Fl}
def DelTo (N : List Nd) (f g : Fl) (D : List (Int × Int)) : Prop :=
 (∀ x ∈ N, (peerN g.peers x.id).left = (peerN f.peers x.id).left ∧ (peerN g.peers x.id).right = (peerN f.peers x.id).right ∧ (peerN g.peers x.id).near = (peerN f.peers x.id).near ∧
  ∀ v, nodeB N v → v ≠ x.id → (v ∈ (peerN g.peers x.id).known ↔ v ∈ (peerN f.peers x.id).known ∨ (x.id, v) ∈ D)) ∧ ∀ m, m ∈ f.msgs ↔ m ∈ g.msgs ∨ m ∈ D
theorem DelTo.refl (N : List Nd) (f : Fl) : DelTo N f f [] := ⟨fun x hx => ⟨rfl, rfl, rfl, fun v _ _ => by simp⟩, fun m => by simp⟩
end
section
variable {N : List Nd} {P Q : List Pr}
theorem round_lenR (N : List Nd) (P : List Pr) : (roundN N P).length ≤ N.length := by rw [roundN_eq, List.length_map]; exact (normal_le N P).1
theorem rr_len (N : List Nd) (P : List Pr) (k : Int) : (rRoundN N P k).length ≤ N.length := by
 unfold rRoundN
 split
 ·rw [List.length_map, List.length_zip]; exact Nat.le_trans (Nat.min_le_left _ _) (round_lenR N P)
 ·exact Nat.zero_le _
theorem rr_few (N : List Nd) (P : List Pr) (k : Int) : ∀ p ∈ rRoundN N P k, p.known.length ≤ N.length ∧ p.near.length ≤ 16 := by
 unfold rRoundN
 split
 ·rename_i hl
  intro p hp
  obtain ⟨⟨a, b⟩, hab, rfl⟩ := List.mem_map.1 hp
  obtain ⟨ha, hb⟩ := List.of_mem_zip hab
  rw [roundN_eq] at ha
  obtain ⟨a', _, rfl⟩ := List.mem_map.1 ha
  unfold bRoundN at hb
  rw [if_pos hl] at hb
  obtain ⟨b', _, rfl⟩ := List.mem_map.1 hb
  refine ⟨ord_len _ _, ?_⟩
  show (nextB N (peerN (normalN N P)) b' k.toNat).length ≤ 16
  rw [nextB_len]
  unfold lvlN at hl; simp at hl; omega
 ·intro p hp; cases hp
theorem rr_small (hN : N.length ≤ 1000) (k : Int) : SmallP (rRoundN N P k) := fun p hp => by have := rr_few N P k p hp; omega
theorem rruns_small (hN : N.length ≤ 1000) (hP : SmallP P) (k : Int) : ∀ t, SmallP (rRunsN N P k t)
 | 0 => hP
 | _ + 1 => rr_small hN k
def repN (N : List Nd) (P : List Pr) (h r : Int) : List Pr := if lvlN h = true then rRunsN N (normalN N P) h (max (min r 4096) 0).toNat else []
def rndsR (n h : Int) : Int := if 0 ≤ n ∧ n ≤ 64 ∧ 0 ≤ h ∧ h ≤ 16 then n * (h + 1) else 0
noncomputable def needF (N : List Nd) (P : List Pr) (h : Int) : Nat → Nat → Int × Bool
 | 0, k => if exactB N (rRunsN N P h k) h = true then (k, true) else (0, false)
 | f + 1, k => if exactB N (rRunsN N P h k) h = true then (k, true) else needF N P h f (k + 1)
noncomputable def neededN (N : List Nd) (P : List Pr) (h : Int) : Int × Bool := if checkN N = 0 ∧ lvlN h = true then needF N (normalN N P) h (rndsR N.length h).toNat 0 else (0, false)
theorem need_law {h : Int} : ∀ {f k : Nat}, exactB N (rRunsN N P h (k + f)) h = true → ∃ m : Nat, needF N P h f k = ((m : Int), true) ∧ m ≤ k + f
 | 0, k, he => ⟨k, by unfold needF; rw [if_pos (by simpa using he)], by omega⟩
 | f + 1, k, he => by
  unfold needF
  by_cases h1 : exactB N (rRunsN N P h k) h = true
  ·exact ⟨k, by rw [if_pos h1], by omega⟩
  ·rw [if_neg h1]
   obtain ⟨m, h2, h3⟩ := need_law (h := h) (f := f) (k := k + 1) (by rw [show k + 1 + f = k + (f + 1) by omega]; exact he)
   exact ⟨m, h2, by omega⟩
theorem check_len64 (h0 : checkN N = 0) : N.length ≤ 64 := by
 unfold checkN at h0
 split at h0
 ·cases h0
 ·omega
theorem rnds_nodes (h0 : checkN N = 0) {h : Nat} (hh : h ≤ 16) : rndsR N.length h = ((N.length * (h + 1) : Nat) : Int) := by
 have := check_len64 h0
 unfold rndsR
 rw [if_pos ⟨by omega, by omega, by omega, by omega⟩]
 push_cast
 rfl
theorem rnds_le (h0 : checkN N = 0) {h : Nat} (hh : h ≤ 16) : N.length * (h + 1) ≤ 1088 := by
 have := check_len64 h0
 exact Nat.le_trans (Nat.mul_le_mul (show N.length ≤ 64 by omega) (show h + 1 ≤ 17 by omega)) (by omega)
def staleP (N : List Nd) (p : Pr) : Nat := ((([p.left, p.right] ++ p.known) ++ p.near.flatMap nums4).filter fun id => !(id == 0) && (!(findN N id).2 || id == p.id)).length
def staleN (N : List Nd) (P : List Pr) : Nat := ((normalN N P).map (staleP N)).sum
end
theorem rounds18_p (n h : Int) (w : World) : Calls Tryz.prog 19 #[.int .i64 n, .int .i64 h] w fun e w' => e = .returned (.int .i64 (rndsR n h)) ∧ w = w' := by
 by_cases hb : 0 ≤ n ∧ n ≤ 64 ∧ 0 ≤ h ∧ h ≤ 16
 ·have E : Hid (rndsR n h = n * (h + 1)) := lH (if_pos hb)
  obtain ⟨h1, h2, h3, h4⟩ := hb
  have hw1 : IntKind.i64.wrap (h + 1) = h + 1 := IntWalk.i64_in _ (by omega)
  have hwr : IntKind.i64.wrap (n * (h + 1)) = n * (h + 1) := IntWalk.i64_in _ (by
   have a1 : 0 ≤ n * (h + 1) := Int.mul_nonneg h1 (by omega)
   have a2 : n * (h + 1) ≤ 64 * 17 := Int.le_trans (Int.mul_le_mul_of_nonneg_right h2 (by omega)) (Int.mul_le_mul_of_nonneg_left (by omega) (by omega))
   omega)
  have d1 : decide (n < 0) = false := by simp; omega
  have d2 : decide (n > 64) = false := by simp; omega
  have d3 : decide (h < 0) = false := by simp; omega
  have d4 : decide (h > 16) = false := by simp; omega
  clear h1 h2 h3 h4
  go_enter Tryz.func19, Tryz.ntmps19
  go_wp2_with fail
  go_ret
  exact ⟨by rw [E.out]; rfl, rfl⟩
 ·have E : Hid (rndsR n h = 0) := lH (if_neg hb)
  have hb2 : n < 0 ∨ n > 64 ∨ h < 0 ∨ h > 16 := by omega
  clear hb
  rcases hb2 with hb | hb | hb | hb
  ·have d1 : decide (n < 0) = true := by simpa using hb
   clear hb
   go_enter Tryz.func19, Tryz.ntmps19
   go_wp2_with fail
   go_ret
   exact ⟨by rw [E.out]; rfl, rfl⟩
  ·have d1 : decide (n < 0) = false := by simp; omega
   have d2 : decide (n > 64) = true := by simpa using hb
   clear hb
   go_enter Tryz.func19, Tryz.ntmps19
   go_wp2_with fail
   go_ret
   exact ⟨by rw [E.out]; rfl, rfl⟩
  ·by_cases h1 : n < 0
   ·clear hb
    go_enter Tryz.func19, Tryz.ntmps19
    go_wp2_with fail
    go_ret
    exact ⟨by rw [E.out]; rfl, rfl⟩
   by_cases h2 : n > 64
   ·clear hb
    go_enter Tryz.func19, Tryz.ntmps19
    go_wp2_with fail
    go_ret
    exact ⟨by rw [E.out]; rfl, rfl⟩
   go_enter Tryz.func19, Tryz.ntmps19
   go_wp2_with fail
   go_ret
   exact ⟨by rw [E.out]; rfl, rfl⟩
  ·have h3 : ¬ h < 0 := by omega
   by_cases h1 : n < 0
   ·clear hb
    go_enter Tryz.func19, Tryz.ntmps19
    go_wp2_with fail
    go_ret
    exact ⟨by rw [E.out]; rfl, rfl⟩
   by_cases h2 : n > 64
   ·clear hb
    go_enter Tryz.func19, Tryz.ntmps19
    go_wp2_with fail
    go_ret
    exact ⟨by rw [E.out]; rfl, rfl⟩
   go_enter Tryz.func19, Tryz.ntmps19
   go_wp2_with fail
   go_ret
   exact ⟨by rw [E.out]; rfl, rfl⟩
theorem run_no {N : List Nd} {P : List Pr} {h r : Int} (hh : lvlN h = false) : repN N P h r = [] := by unfold repN; rw [if_neg (by rw [hh]; simp)]
theorem rrs_len {N : List Nd} {Q : List Pr} (hQ : Q.length ≤ 1000) (hN : N.length ≤ 1000) (k : Int) : ∀ t, (rRunsN N Q k t).length ≤ 1000
 | 0 => hQ
 | _ + 1 => Nat.le_trans (rr_len N _ k) hN
def RuRel (N : List Nd) (Q : List Pr) (h : Int) (R : Nat) (w : World) (o i : Value) (wr : World) : Prop :=
 ∃ (j : Nat) (qs : List PQ), j ≤ R ∧ i = .int .i64 j ∧ OwnPr w.heap.size wr o qs (rRunsN N Q h j) ∧ Ex w wr
set_option maxRecDepth 100000 in
set_option maxHeartbeats 8000000 in
theorem run_p (a : Option Addr) (n c : Nat) (N : List Nd) (a2 : Option Addr) (n2 c2 : Nat) (P : List Pr) (hh r : Int) (w : World) (h : Sl 3 encN w a n N) (hn : n ≤ 1000) (hc : n ≤ c) (hm : c ≤ maxLen) (hw : ∀ x ∈ N, x.word < 4294967296) (h2 : PL w a2 n2 P) (hn2 : n2 ≤ 4000000000000000000) (hP : SmallP P) :
  Calls Tryz.prog 28 #[.slice a n c, .slice a2 n2 c2, .int .i64 hh, .int .i64 r] w (PlPost (repN N P hh r) w) := by
 have HL := lH h.len
 have HW := lH hw
 clear hw
 have NO : Hid (lvlN hh = false → PlPost (repN N P hh r) w (.returned (.slice none 0 0)) w) := lH (fun h => by
  rw [run_no h]
  exact ⟨_, [], rfl, OwnP.nil _ _ _ _ _, Ex.refl _⟩)
 by_cases h0 : hh < 0
 ·have FI := lH (NO.out (by unfold lvlN; simp; omega))
  clear h h2 hP NO
  go_enter Tryz.func28, Tryz.ntmps28
  go_wp2_with fail
  go_ret
  exact FI.out
 by_cases h1 : hh > 16
 ·have FI := lH (NO.out (by unfold lvlN; simp; omega))
  clear h h2 hP NO
  go_enter Tryz.func28, Tryz.ntmps28
  go_wp2_with fail
  go_ret
  exact FI.out
 have HE : Hid (repN N P hh r = rRunsN N (normalN N P) hh (max (min r 4096) 0).toNat) := lH (by unfold repN; rw [if_pos (lvl_of (by omega) (by omega))])
 clear NO
 go_enter Tryz.func28, Tryz.ntmps28
 have HS := lH h
 go_wp2_with fail
 (with_reducible refine (normal_p _ _ _ N _ _ _ P _ h hn hc hm h2 hn2 hP).mono ?_)
 rintro e w1 ⟨v1, qs, rfl, own, kk⟩
 have K1 := lH kk
 have HQ1 := lH (Nat.le_trans (normal_le N P).1 (by have := HL.out; omega : N.length ≤ 1000))
 have HQS := lH (normal_small N hP)
 have OWN := lH own
 have hN : N.length ≤ 1000 := by have := HL.out; omega
 generalize normalN N P = Q at own OWN HE HQ1 HQS
 clear h h2 hP kk own
 obtain ⟨R, hR⟩ : ∃ R : Nat, max (min r 4096) 0 = (R : Int) := ⟨(max (min r 4096) 0).toNat, by omega⟩
 have HE2 : Hid (repN N P hh r = rRunsN N Q hh R) := lH (by rw [HE.out, hR, Int.toNat_natCast])
 have hR2 : R ≤ 4096 := by omega
 clear HE
 go_wp2_with fail
 go_loopw [9, 22] (fun o i wr => RuRel N Q hh R w o i wr) (fun _ i _ => R - (intOf i).toNat)
 case atStart => exact ⟨0, qs, by omega, rfl, OWN.out, K1.out⟩
 case round =>
  obtain ⟨j, qz, hj, rfl, own, kz⟩ := hrel
  obtain ⟨wi, rfl⟩ : ∃ wi : World, wi = wr := ⟨_, rfl⟩
  have KZ := lH kz
  clear kz
  obtain ⟨a3, c3, rfl, PL3, _, _, _, _⟩ := own.pl
  by_cases hjm : j < R
  ·have hl3 : (rRunsN N Q hh j).length ≤ 1000 := rrs_len HQ1.out hN hh j
   have SM := lH (rruns_small (N := N) hN HQS.out hh j)
   have ST : Hid (rRoundN N (rRunsN N Q hh j) hh = rRunsN N Q hh (j + 1)) := lH rfl
   generalize rRunsN N Q hh j = X at PL3 hl3 SM ST own ⊢
   have PH := lH PL3
   clear own PL3
   go_wp2_with fail
   (with_reducible refine (rround_p _ _ _ N _ _ _ X hh _ (HS.out.nx KZ.out) hn hc hm HW.out PH.out (by omega) SM.out).mono ?_)
   rintro e w5 ⟨v5, q5, rfl, own5, kk⟩
   have FN := lH (show RuRel N Q hh R w v5 (.int .i64 ((j : Int) + 1)) w5 from ⟨j + 1, q5, by omega, by go_num, by rw [← ST.out]; exact own5.lower KZ.out.size, KZ.out.nx kk⟩)
   clear own5 kk
   go_wp2_with fail
   exact ⟨FN.out, by simp [intOf]; omega⟩
  ·obtain rfl : j = R := by omega
   clear PL3
   have FN := lH (show PlPost (repN N P hh r) w (.returned (.slice a3 (rRunsN N Q hh j).length c3)) wi from ⟨_, qz, rfl, by rw [HE2.out]; exact own, KZ.out⟩)
   clear own hj hjm
   go_wp2_with fail
   go_ret
   exact FN.out
theorem needF_yes {N : List Nd} {P : List Pr} {h : Int} {f k : Nat} (he : exactB N (rRunsN N P h k) h = true) : needF N P h f k = ((k : Int), true) := by
 cases f <;> · unfold needF; rw [if_pos he]
theorem needF_no {N : List Nd} {P : List Pr} {h : Int} {k : Nat} (he : exactB N (rRunsN N P h k) h = false) : needF N P h 0 k = (0, false) := by
 unfold needF; rw [if_neg (by rw [he]; simp)]
theorem needF_next {N : List Nd} {P : List Pr} {h : Int} {f k : Nat} (he : exactB N (rRunsN N P h k) h = false) : needF N P h (f + 1) k = needF N P h f (k + 1) := by
 conv => lhs; unfold needF
 rw [if_neg (by rw [he]; simp)]
theorem needed_no {N : List Nd} {P : List Pr} {h : Int} (hh : ¬ (checkN N = 0 ∧ lvlN h = true)) : neededN N P h = (0, false) := by unfold neededN; rw [if_neg hh]
def NeedRel (N : List Nd) (Q : List Pr) (h : Int) (R : Nat) (z : Int × Bool) (w : World) (o i : Value) (wr : World) : Prop :=
 ∃ (j : Nat) (qs : List PQ), j ≤ R ∧ i = .int .i64 j ∧ OwnPr w.heap.size wr o qs (rRunsN N Q h j) ∧ z = needF N Q h (R - j) j ∧ Ex w wr
set_option maxRecDepth 100000 in
set_option maxHeartbeats 8000000 in
theorem needed_p (a : Option Addr) (n c : Nat) (N : List Nd) (a2 : Option Addr) (n2 c2 : Nat) (P : List Pr) (hh : Int) (w : World) (h : Sl 3 encN w a n N) (hn : n ≤ 1000) (hc : n ≤ c) (hm : c ≤ maxLen) (hw : ∀ x ∈ N, x.word < 4294967296) (hT : TabG w) (h2 : PL w a2 n2 P) (hn2 : n2 ≤ 4000000000000000000) (hP : SmallP P) :
  Calls Tryz.prog 53 #[.slice a n c, .slice a2 n2 c2, .int .i64 hh] w fun e w' => e = .returned (.tuple #[.int .i64 (neededN N P hh).1, .bool (neededN N P hh).2]) ∧ Ex w w' := by
 have HL := lH h.len
 have HW := lH hw
 have EX := Ex.refl w
 have HS := lH h
 have HT := lH hT
 have H2 := lH h2
 have HP := lH hP
 clear hw hT h2 hP
 go_enter Tryz.func53, Tryz.ntmps53
 go_wp2_with fail
 go_step3
 go_wp2_with fail
 (with_reducible refine (check_p _ _ _ _ _ h (by omega) hc hm).mono ?_)
 rintro e w1 ⟨rfl, kk⟩
 replace EX := EX.nx kk
 clear h
 have EX := lH EX
 clear kk
 by_cases hck : checkN N = 0
 case neg =>
  have d1 : (checkN N != 0) = true := by simpa using hck
  have E0 : Hid (neededN N P hh = (0, false)) := lH (needed_no (fun q => hck q.1))
  clear hck
  go_wp2_with fail
  rw [Exit.noGoto_ret]
  go_ret2
  exact ⟨by rw [E0.out]; rfl, EX.out⟩
 have d1 : (checkN N != 0) = false := by simpa using hck
 by_cases h0 : hh < 0
 ·have E0 : Hid (neededN N P hh = (0, false)) := lH (needed_no (fun q => by have := q.2; unfold lvlN at this; simp at this; omega))
  clear hck
  go_wp2_with fail
  rw [Exit.noGoto_ret]
  go_ret2
  exact ⟨by rw [E0.out]; rfl, EX.out⟩
 by_cases h1 : hh > 16
 ·have E0 : Hid (neededN N P hh = (0, false)) := lH (needed_no (fun q => by have := q.2; unfold lvlN at this; simp at this; omega))
  clear hck
  go_wp2_with fail
  rw [Exit.noGoto_ret]
  go_ret2
  exact ⟨by rw [E0.out]; rfl, EX.out⟩
 obtain ⟨ht, rfl⟩ := Int.eq_ofNat_of_zero_le (show 0 ≤ hh by omega)
 have hht : ht ≤ 16 := by omega
 have ER := lH (rnds_nodes hck hht)
 have hR2 := rnds_le hck hht
 have HE : Hid (neededN N P ht = needF N (normalN N P) ht (N.length * (ht + 1)) 0) := lH (by unfold neededN; rw [if_pos ⟨hck, lvl_of (by omega) (by omega)⟩, ER.out, Int.toNat_natCast])
 generalize N.length * (ht + 1) = R at ER hR2 HE
 have ER2 : Hid (rndsR (n : Int) ht = (R : Int)) := lH (by rw [← HL.out]; exact ER.out)
 clear hck
 go_wp2_with fail
 (with_reducible refine (normal_p _ _ _ N _ _ _ P _ (HS.out.nx EX.out) hn hc hm (H2.out.nx EX.out) hn2 HP.out).mono ?_)
 rintro e w3 ⟨v3, qs, rfl, own, kk⟩
 have K3 := lH (EX.out.nx kk)
 have HQ1 := lH (Nat.le_trans (normal_le N P).1 (by have := HL.out; omega : N.length ≤ 1000))
 have HQS := lH (normal_small N HP.out)
 have OWN := lH (own.lower EX.out.size)
 have hN : N.length ≤ 1000 := by have := HL.out; omega
 generalize normalN N P = Q at OWN HE HQ1 HQS
 clear kk own
 obtain ⟨z, hz0⟩ : ∃ z, neededN N P ht = z := ⟨_, rfl⟩
 rw [hz0] at HE
 have HZ0 := lH hz0
 clear hz0
 go_wp2_with fail
 go_step3
 go_wp2_with fail
 go_loopw [8, 9] (fun o i wr => NeedRel N Q ht R z w o i wr) (fun _ i _ => R - (intOf i).toNat)
 case atStart => exact ⟨0, qs, by omega, rfl, OWN.out, HE.out, K3.out⟩
 case round =>
  obtain ⟨j, qz, hj, rfl, own, hz, kz⟩ := hrel
  obtain ⟨wi, rfl⟩ : ∃ wi : World, wi = wr := ⟨_, rfl⟩
  have KZ := lH kz
  have HZ := lH hz
  obtain ⟨a3, c3, rfl, PL3, _, _, _, _⟩ := own.pl
  have hl3 : (rRunsN N Q ht j).length ≤ 1000 := rrs_len HQ1.out hN ht j
  have SM := lH (rruns_small (N := N) hN HQS.out ht j)
  have ST : Hid (rRoundN N (rRunsN N Q ht j) ht = rRunsN N Q ht (j + 1)) := lH rfl
  have YES := lH (fun he => needF_yes (N := N) (P := Q) (h := ht) (f := R - j) (k := j) he)
  have NOT := lH (fun he => needF_no (N := N) (P := Q) (h := ht) (k := j) he)
  have NXT := lH (fun f he => needF_next (N := N) (P := Q) (h := ht) (f := f) (k := j) he)
  generalize rRunsN N Q ht j = X at PL3 hl3 SM ST YES NOT NXT
  have PH := lH PL3
  clear own PL3 kz hz
  go_wp2_with fail
  (with_reducible refine (bexact_p _ _ _ N _ _ _ X ht _ (HS.out.nx KZ.out) hn hc hm HW.out (HT.out.nx KZ.out) PH.out (by omega) SM.out).mono ?_)
  rintro e w5 ⟨rfl, kk⟩
  replace KZ := lH (KZ.out.nx kk)
  replace PH := lH (PH.out.nx kk)
  clear kk
  cases hb : exactB N X ht with
  | true =>
   have EZ : Hid (z = ((j : Int), true)) := lH (HZ.out.trans (YES.out hb))
   have HB := lH hb
   clear hb
   go_wp2_with fail
   (with_reducible refine (bexact_p _ _ _ N _ _ _ X ht _ (HS.out.nx KZ.out) hn hc hm HW.out (HT.out.nx KZ.out) PH.out (by omega) SM.out).mono ?_)
   rintro e w6 ⟨rfl, kk⟩
   rw [HB.out]
   replace KZ := lH (KZ.out.nx kk)
   clear kk
   go_wp2_with fail
   rw [Exit.noGoto_ret]
   go_ret2
   exact ⟨by rw [HZ0.out, EZ.out]; rfl, KZ.out⟩
  | false =>
   have HB := lH hb
   clear hb
   go_wp2_with fail
   (with_reducible refine (rounds18_p (n : Int) (ht : Int) _).mono ?_)
   rintro e w6 ⟨rfl, hw6⟩
   subst hw6
   rw [ER2.out]
   by_cases hjR : j = R
   ·subst hjR
    have EZ : Hid (z = (0, false)) := lH (HZ.out.trans (by rw [Nat.sub_self]; exact NOT.out HB.out))
    have dj : ((j : Int) == (j : Int)) = true := by simp
    go_wp2_with fail
    (with_reducible refine (bexact_p _ _ _ N _ _ _ X ht _ (HS.out.nx KZ.out) hn hc hm HW.out (HT.out.nx KZ.out) PH.out (by omega) SM.out).mono ?_)
    rintro e w6 ⟨rfl, kk⟩
    rw [HB.out]
    replace KZ := lH (KZ.out.nx kk)
    clear kk
    go_wp2_with fail
    rw [Exit.noGoto_ret]
    go_ret2
    exact ⟨by rw [HZ0.out, EZ.out]; rfl, KZ.out⟩
   ·have dj : ((j : Int) == (R : Int)) = false := by simp; omega
    have EZ : Hid (z = needF N Q ht (R - (j + 1)) (j + 1)) := lH (HZ.out.trans (by rw [show R - j = (R - (j + 1)) + 1 by omega]; exact NXT.out _ HB.out))
    go_wp2_with fail
    (with_reducible refine (rround_p _ _ _ N _ _ _ X ht _ (HS.out.nx KZ.out) hn hc hm HW.out PH.out (by omega) SM.out).mono ?_)
    rintro e w7 ⟨v7, q7, rfl, own7, kk⟩
    have FN := lH (show NeedRel N Q ht R z w v7 (.int .i64 ((j : Int) + 1)) w7 from ⟨j + 1, q7, by omega, by go_num, by rw [← ST.out]; exact own7.lower KZ.out.size, EZ.out, KZ.out.nx kk⟩)
    clear own7 kk
    go_wp2_with fail
    exact ⟨FN.out, by simp [intOf]; omega⟩
theorem sum_leR : ∀ (l : List Nat) (M : Nat), (∀ x ∈ l, x ≤ M) → l.sum ≤ l.length * M
 | [], _, _ => by simp
 | a :: l, M, h => by
  have h1 := h a (by simp)
  have h2 := sum_leR l M fun x hx => h x (by simp [hx])
  rw [List.sum_cons, List.length_cons, Nat.succ_mul]
  omega
def stQ (N : List Nd) (p : Pr) (id : Int) : Bool := !(id == 0) && (!(findN N id).2 || id == p.id)
def rowP (p : Pr) : List Int := ([p.left, p.right] ++ p.known) ++ p.near.flatMap nums4
theorem stale_eq (N : List Nd) (p : Pr) : staleP N p = ((rowP p).filter (stQ N p)).length := rfl
theorem row_len {p : Pr} (h : p.known.length ≤ 2000000 ∧ p.near.length ≤ 2000000) : (rowP p).length ≤ 10000002 := by
 unfold rowP
 rw [List.length_append, List.length_append, nums_len]
 simp only [List.length_cons, List.length_nil]
 omega
theorem stale_le (N : List Nd) {Q : List Pr} (h : ∀ p ∈ Q, p.known.length ≤ 2000000 ∧ p.near.length ≤ 2000000) (j : Nat) (hj : j ≤ 1000) : ((Q.take j).map (staleP N)).sum ≤ 1000 * 10000002 := by
 refine Nat.le_trans (sum_leR _ 10000002 fun x hx => ?_) (Nat.mul_le_mul_right _ (by rw [List.length_map, List.length_take]; omega))
 obtain ⟨p, hp, rfl⟩ := List.mem_map.1 hx
 exact Nat.le_trans (List.length_filter_le _ _) (row_len (h p (List.mem_of_mem_take hp)))
theorem stale_snoc (N : List Nd) {Q : List Pr} {j : Nat} {y : Pr} (hy : Q[j]? = some y) : ((Q.take (j + 1)).map (staleP N)).sum = ((Q.take j).map (staleP N)).sum + staleP N y := by
 rw [List.take_add_one, hy]
 simp
theorem filtR_snoc {q : Int → Bool} {L : List Int} {i : Nat} {x : Int} (hx : L[i]? = some x) : ((L.take (i + 1)).filter q).length = ((L.take i).filter q).length + (if q x = true then 1 else 0) := by
 rw [List.take_add_one, hx, List.filter_append, List.length_append]
 cases h : q x <;> simp [h]
theorem normal_sm2 {N : List Nd} {P : List Pr} {M : Nat} (h : ∀ p ∈ P, p.known.length ≤ M ∧ p.near.length ≤ M) : ∀ p ∈ normalN N P, p.known.length ≤ M ∧ p.near.length ≤ M := by
 intro q hq
 unfold normalN at hq
 split at hq
 ·obtain ⟨x, _, rfl⟩ := List.mem_map.1 hq
  unfold peerN
  cases hf : P.find? fun p => p.id == x.id with
  | none => exact ⟨Nat.zero_le _, Nat.zero_le _⟩
  | some q => exact h q (List.mem_of_find?_eq_some hf)
 ·cases hq
def StRel (N : List Nd) (Q : List Pr) (w : World) (o i : Value) (wr : World) : Prop :=
 ∃ j : Nat, j ≤ Q.length ∧ i = .int .i64 j ∧ o = .int .i64 (((Q.take j).map (staleP N)).sum : Nat) ∧ Ex w wr
def SiRel (N : List Nd) (p : Pr) (L : List Int) (C0 : Nat) (w : World) (o i : Value) (wr : World) : Prop :=
 ∃ j : Nat, j ≤ L.length ∧ i = .int .i64 j ∧ o = .int .i64 ((C0 + ((L.take j).filter (stQ N p)).length : Nat)) ∧ Ex w wr
set_option maxRecDepth 100000 in
set_option maxHeartbeats 16000000 in
theorem stale_p (a : Option Addr) (n c : Nat) (N : List Nd) (a2 : Option Addr) (n2 c2 : Nat) (P : List Pr) (w : World) (h : Sl 3 encN w a n N) (hn : n ≤ 1000) (hc : n ≤ c) (hm : c ≤ maxLen) (h2 : PL w a2 n2 P) (hn2 : n2 ≤ 4000000000000000000) (hP : ∀ p ∈ P, p.known.length ≤ 2000000 ∧ p.near.length ≤ 2000000) :
  Calls Tryz.prog 26 #[.slice a n c, .slice a2 n2 c2] w fun e w' => e = .returned (.int .i64 (staleN N P)) ∧ Ex w w' := by
 have HL := lH h.len
 have HS := lH h
 have SM := lH (show SmallP P from fun p hp => by have := hP p hp; omega)
 have S2 := lH (normal_sm2 (N := N) hP)
 have HE : Hid (staleN N P = ((normalN N P).map (staleP N)).sum) := lH rfl
 clear hP
 go_enter Tryz.func26, Tryz.ntmps26
 go_wp2_with fail
 (with_reducible refine (normal_p _ _ _ N _ _ _ P _ h hn hc hm h2 hn2 SM.out).mono ?_)
 rintro e w3 ⟨v3, qs, rfl, own, kk⟩
 have K3 := lH kk
 have HQ1 := lH (Nat.le_trans (normal_le N P).1 (by have := HL.out; omega : N.length ≤ 1000))
 generalize normalN N P = Q at own HE HQ1 S2
 have OWN := lH own
 obtain ⟨aQ, cQ, rfl, _, _, _, _, _⟩ := own.pl
 clear own kk h h2
 generalize hZ : staleN N P = Z at HE ⊢
 have HE0 := lH hZ
 clear hZ
 go_wp2_with fail
 go_loopw [5, 19] (fun o i wr => StRel N Q w3 o i wr) (fun _ i _ => Q.length - (intOf i).toNat)
 case atStart => exact ⟨0, by omega, rfl, rfl, Ex.refl _⟩
 case round =>
  obtain ⟨j, hj, rfl, rfl, kz⟩ := hrel
  obtain ⟨wi, rfl⟩ : ∃ wi : World, wi = wr := ⟨_, rfl⟩
  have hq1 := HQ1.out
  have hsum := stale_le N S2.out j (by omega)
  have KZ := lH kz
  by_cases hjm : j < Q.length
  ·have own := OWN.out.nx kz
   obtain ⟨a'', c'', e'', _, _, _, hg'', _⟩ := own.pl
   obtain ⟨g, hge, hgb⟩ := hg'' (fun h => by rw [h] at hjm; simp at hjm)
   injection e'' with e4 e5 e6
   subst e4 e6
   subst hge
   obtain ⟨y, hy⟩ : ∃ y, Q[j]? = some y := ⟨Q[j], by simp⟩
   obtain ⟨⟨B1, k1, f1⟩, ⟨B4, k4, f4⟩, hqs, okn, onr⟩ := own.get hy
   obtain ⟨A1, d1, e1, rk, z1⟩ := okn.rdz (fun _ => rfl)
   obtain ⟨A4, d4, e4, rn, _⟩ := onr.rdz (fun _ => rfl)
   simp only [Hdr.val, Value.slice.injEq] at e1 e4
   obtain ⟨rfl, rfl, rfl⟩ := e1
   obtain ⟨rfl, rfl, rfl⟩ := e4
   have c0 := (OwnW.set1 encQ_len own.1 hqs (c := 0) (by omega)).1
   have c1 := (OwnW.set1 encQ_len own.1 hqs (c := 1) (by omega)).1
   have c2 := (OwnW.set1 encQ_len own.1 hqs (c := 2) (by omega)).1
   have c3 := (OwnW.set1 encQ_len own.1 hqs (c := 3) (by omega)).1
   have c4 := (OwnW.set1 encQ_len own.1 hqs (c := 4) (by omega)).1
   simp only [Hdr.val, encQ, Pr.nums, List.getElem?_cons_zero, List.getElem?_cons_succ] at c0 c1 c2 c3 c4
   rw [Nat.add_zero] at c0
   have hyP := S2.out y (List.mem_of_getElem? hy)
   have HRL := lH (row_len hyP)
   have SNO := lH (stale_snoc N hy)
   have SK := lH (show Sl 1 encI wi B1 y.known.length y.known from rk.mono (fun _ hk => hk.2))
   have SR := lH (show Sl 4 encNr wi B4 y.near.length y.near from rn.mono (fun _ hk => hk.2))
   obtain ⟨hk2, hn2'⟩ := hyP
   clear own hqs hy okn onr rk rn kz e5
   generalize ((Q.take j).map (staleP N)).sum = C0 at hsum SNO ⊢
   have B7 := Blk.new wi [.int .i64 y.id, .slice B1 y.known.length f1, .int .i64 y.left, .int .i64 y.right, .slice B4 y.near.length f4] 41
   have kk := Ex.new wi (.cells #[.int .i64 y.id, .slice B1 y.known.length f1, .int .i64 y.left, .int .i64 y.right, .slice B4 y.near.length f4] 41)
   obtain ⟨w5, hw5⟩ : ∃ w5, w5 = wi.alloc (.cells #[.int .i64 y.id, .slice B1 y.known.length f1, .int .i64 y.left, .int .i64 y.right, .slice B4 y.near.length f4] 41) := ⟨_, rfl⟩
   obtain ⟨g7, hg7⟩ : ∃ g7, g7 = wi.heap.size := ⟨_, rfl⟩
   replace B7 : Blk w5 g7 [.int .i64 y.id, .slice B1 y.known.length f1, .int .i64 y.left, .int .i64 y.right, .slice B4 y.near.length f4] 41 := by rw [hw5, hg7]; exact B7
   rw [← hw5] at kk
   have Hw5 := lH hw5
   have Hg7 := lH hg7
   have K5 := lH (KZ.out.nx kk)
   have k5 := lH kk
   clear kk hw5 hg7
   go_upto_region 5 with fail
   rw [← Hg7.out, ← Hw5.out]
   clear Hg7 Hw5
   clear c0 c1 c2 c3 c4
   have q2 := B7.cell 2 _ rfl
   have q3 := B7.cell 3 _ rfl
   have BH := lH B7
   have LT := lH (OwnL.lit (w := w5) (base := w5.heap.size) (e := 3) (enc := encI) (sz := 1) [y.left, y.right] (fun _ => rfl) (Nat.le_refl _) (by unfold maxLen; simp) rfl)
   have kl := lH (Ex.new w5 (.cells #[.int .i64 y.left, .int .i64 y.right] 3))
   have zl := kl.out.size
   have q1 := (BH.out.nx kl.out).cell 1 _ rfl
   have SK5 := lH ((SK.out.nx k5.out).nx kl.out)
   clear B7
   go_upto_region 6 with (at_builtin; (refine wpList_append_rda (enc := encI) _ rfl _ _ 22 rfl w5.heap.size 3 (.int .i64 0) 1 8 Tryz.underlying22 Tryz.infoI6 rfl (by omega) (by omega) _ [y.left, y.right] LT.out rfl _ _ _ _ y.known SK5.out z1 (fun _ => rfl) (by simp [encI, Value.oneCell']) rfl (by simp) (by omega) zl ?_); intro v9 w9 own9 ch0 ch1 _; replace own9 := lH own9; have K9 := lH (show Ex w5 w9 from Chg.trans kl.out ch1); clear ch0 ch1)
   clear q1 q2 q3
   have q4 := (BH.out.nx K9.out).cell 4 _ rfl
   have ROW : Hid (rowP y = ([y.left, y.right] ++ y.known) ++ y.near.flatMap nums4) := lH rfl
   have hl0 : ([y.left, y.right] ++ y.known).length ≤ 2000002 := by simp; omega
   generalize [y.left, y.right] ++ y.known = l0 at own9 ROW hl0
   have HN4 : Hid (∀ i, i ≤ y.near.length → (l0 ++ (y.near.take i).flatMap nums4).length ≤ 10000002) := lH (fun i hi => by rw [List.length_append, nums_len, List.length_take]; omega)
   go_wp2_with fail
   go_loopw [8, 34] (fun o i wr => NmRel l0 y.near w5 o i wr) (fun _ i _ => y.near.length - (intOf i).toNat)
   case atStart => exact ⟨0, by omega, rfl, by simpa using own9.out, K9.out⟩
   case round =>
    obtain ⟨i, hi, rfl, own, ki⟩ := hrel
    obtain ⟨wk, rfl⟩ : ∃ wk : World, wk = wr := ⟨_, rfl⟩
    have KI := lH ki
    have OWR := lH own
    clear own
    by_cases him : i < y.near.length
    ·obtain ⟨x3, o3, z, rfl, hx3, hz, hc3⟩ := ((SR.out.nx k5.out).nx ki).at him
     have e0 : wk.cell? ⟨x3, o3 + i * 4, none⟩ = some (.int .i64 z.1) := hc3 0 _ rfl
     have e1 : wk.cell? ⟨x3, o3 + i * 4 + 1, none⟩ = some (.int .i64 z.2.1) := hc3 1 _ rfl
     have e2 : wk.cell? ⟨x3, o3 + i * 4 + 2, none⟩ = some (.int .i64 z.2.2.1) := hc3 2 _ rfl
     have e3 : wk.cell? ⟨x3, o3 + i * 4 + 3, none⟩ = some (.int .i64 z.2.2.2) := hc3 3 _ rfl
     have SN := lH (nm_snoc (l0 := l0) hz)
     have hrl := HN4.out i hi
     generalize l0 ++ (y.near.take i).flatMap nums4 = row at OWR SN hrl
     clear hz hc3 ki
     have B9 := Blk.new wk [.int .i64 z.1, .int .i64 z.2.1, .int .i64 z.2.2.1, .int .i64 z.2.2.2] 50
     have kk := Ex.new wk (.cells #[.int .i64 z.1, .int .i64 z.2.1, .int .i64 z.2.2.1, .int .i64 z.2.2.2] 50)
     obtain ⟨w7, hw7⟩ : ∃ w7, w7 = wk.alloc (.cells #[.int .i64 z.1, .int .i64 z.2.1, .int .i64 z.2.2.1, .int .i64 z.2.2.2] 50) := ⟨_, rfl⟩
     obtain ⟨g9, hg9⟩ : ∃ g9, g9 = wk.heap.size := ⟨_, rfl⟩
     replace B9 : Blk w7 g9 [.int .i64 z.1, .int .i64 z.2.1, .int .i64 z.2.2.1, .int .i64 z.2.2.2] 50 := by rw [hw7, hg9]; exact B9
     rw [← hw7] at kk
     have Hw7 := lH hw7
     have Hg9 := lH hg9
     have K7 := lH (KI.out.nx kk)
     have k7 := lH kk
     clear kk hw7 hg9
     go_upto_region 9 with fail
     rw [← Hg9.out, ← Hw7.out]
     clear Hg9 Hw7
     clear e0 e1 e2 e3
     have x0 := B9.cell 0 _ rfl
     have x1 := B9.cell 1 _ rfl
     have x2 := B9.cell 2 _ rfl
     have x3 := B9.cell 3 _ rfl
     have kn := lH (Ex.new w7 (.cells #[.int .i64 z.1, .int .i64 z.2.1, .int .i64 z.2.2.1, .int .i64 z.2.2.2] 3))
     have L8 := lH (show Sl 1 encI (w7.alloc (.cells #[.int .i64 z.1, .int .i64 z.2.1, .int .i64 z.2.2.1, .int .i64 z.2.2.2] 3)) (some ⟨w7.heap.size, 0, none⟩) 4 (nums4 z) from Sl.lit (nums4 z) rfl rfl (fun _ => rfl) rfl)
     have OW8 := lH ((OWR.out.nx k7.out).nx kn.out)
     have zn := (K7.out.nx kn.out).size
     clear B9
     go_wp2_with (at_builtin; (refine wpList_append_rda (enc := encI) _ rfl _ _ 22 rfl w5.heap.size 3 (.int .i64 0) 1 8 Tryz.underlying22 Tryz.infoI6 rfl (by omega) (by omega) _ row OW8.out rfl _ _ 4 4 (nums4 z) L8.out (fun h => by cases h) (fun _ => rfl) (by simp [encI, Value.oneCell']) rfl (by omega) (by omega) zn ?_); intro v2 w2 own2 ch0 ch1 _; have FN := lH (show NmRel l0 y.near w5 v2 (.int .i64 ((i : Int) + 1)) w2 from ⟨i + 1, by omega, by go_num, by rw [SN.out]; exact own2, Chg.trans (K7.out.nx kn.out) ch1⟩); clear own2 ch0 ch1)
     exact ⟨FN.out, by simp [intOf]; omega⟩
    ·obtain rfl : i = y.near.length := by omega
     have EL : Hid (l0 ++ (y.near.take y.near.length).flatMap nums4 = rowP y) := lH (by rw [List.take_length, ROW.out])
     rw [EL.out] at OWR
     have hrl := HRL.out
     have SEQ := lH (stale_eq N y)
     generalize rowP y = L at OWR EL hrl ROW SEQ
     obtain ⟨aL, cL, rfl, rL, _⟩ := OWR.out.rdz (fun _ => rfl)
     have SL := lH (show Sl 1 encI wk aL L.length L from rL.mono (fun _ hk => hk.2))
     have BK := lH (BH.out.nx KI.out)
     have HS5 := lH ((HS.out.nx K3.out).nx (K5.out.nx KI.out))
     have KK := lH (K5.out.nx KI.out)
     have SQ : Hid (stQ N y = fun id => !(id == 0) && (!(findN N id).2 || id == y.id)) := lH rfl
     clear rL ki him hi q4
     go_wp2_with fail
     go_loopw [5, 52] (fun o i wr => SiRel N y L C0 wk o i wr) (fun _ i _ => L.length - (intOf i).toNat)
     case atStart => exact ⟨0, by omega, rfl, by simp, Ex.refl _⟩
     case round =>
      obtain ⟨s, hs, rfl, rfl, ks⟩ := hrel
      obtain ⟨ws, rfl⟩ : ∃ ws : World, ws = wr := ⟨_, rfl⟩
      have hcl : ((L.take s).filter (stQ N y)).length ≤ 10000002 := Nat.le_trans (List.length_filter_le _ _) (Nat.le_trans (by rw [List.length_take]; omega) hrl)
      have KS := lH ks
      by_cases hsm : s < L.length
      ·obtain ⟨x3, o3, id, rfl, hx3, hid, hc3⟩ := (SL.out.nx ks).at hsm
       have e0 : ws.cell? ⟨x3, o3 + s * 1, none⟩ = some (.int .i64 id) := hc3 0 _ rfl
       rw [Nat.mul_one] at e0
       have SN := lH (filtR_snoc (q := stQ N y) hid)
       have QV := lH (congrFun SQ.out id)
       generalize ((L.take s).filter (stQ N y)).length = C1 at SN hcl ⊢
       have hwr : IntKind.i64.wrap (((C0 + C1 : Nat) : Int) + 1) = ((C0 + C1 : Nat) : Int) + 1 := IntWalk.i64_in _ (by omega)
       clear hid hc3 ks
       go_wp2_with fail
       (with_reducible refine (find_p _ _ _ N id _ (HS5.out.nx KS.out) (by omega)).mono ?_)
       rintro e w6 ⟨rfl, kk⟩
       replace KS := lH (KS.out.nx kk)
       clear kk e0 hx3
       generalize findN N id = F at QV ⊢
       obtain ⟨⟨xi, xk, xw⟩, ok⟩ := F
       have B5 := Blk.new w6 [.int .i64 xi, .string xk, .int .u32 xw] 56
       have kk := Ex.new w6 (.cells #[.int .i64 xi, .string xk, .int .u32 xw] 56)
       obtain ⟨w8, hw8⟩ : ∃ w8, w8 = w6.alloc (.cells #[.int .i64 xi, .string xk, .int .u32 xw] 56) := ⟨_, rfl⟩
       obtain ⟨g5, hg5⟩ : ∃ g5, g5 = w6.heap.size := ⟨_, rfl⟩
       replace B5 : Blk w8 g5 [.int .i64 xi, .string xk, .int .u32 xw] 56 := by rw [hw8, hg5]; exact B5
       rw [← hw8] at kk
       have Hw8 := lH hw8
       have Hg5 := lH hg5
       replace KS := lH (KS.out.nx kk)
       clear kk hw8 hg5
       simp only [Nd.val]
       go_upto_region 15 with fail
       rw [← Hg5.out, ← Hw8.out]
       clear Hg5 Hw8
       clear B5
       have qi := (BK.out.nx KS.out).cell 0 _ rfl
       have NO : Hid (stQ N y id = false → ∀ x : Value, x = .int .i64 ((C0 + C1 : Nat)) → SiRel N y L C0 wk x (.int .i64 ((s : Int) + 1)) w8) := lH (fun hq x hx => ⟨s + 1, by omega, by go_num, by rw [hx, SN.out, hq]; simp, KS.out⟩)
       have YES : Hid (stQ N y id = true → SiRel N y L C0 wk (.int .i64 (((C0 + C1 : Nat) : Int) + 1)) (.int .i64 ((s : Int) + 1)) w8) := lH (fun hq => ⟨s + 1, by omega, by go_num, by rw [SN.out, hq, if_pos rfl]; push_cast; rw [Int.add_assoc], KS.out⟩)
       by_cases hz0 : id = 0
       ·have FN := lH (NO.out (by rw [QV.out]; simp [hz0]) _ rfl)
        have dz : (id != 0) = false := by simp [hz0]
        clear hz0
        go_wp2_with fail
        exact ⟨FN.out, by simp [intOf]; omega⟩
       have dz : (id != 0) = true := by simpa using hz0
       cases ok with
       | false =>
        have FN := lH (YES.out (by rw [QV.out]; simp [hz0]))
        clear hz0
        go_wp2_with fail
        exact ⟨FN.out, by simp [intOf]; omega⟩
       | true =>
        by_cases he : id = y.id
        ·have FN := lH (YES.out (by rw [QV.out]; simp [he, show ¬ y.id = 0 from he ▸ hz0]))
         have de : (id == y.id) = true := by simp [he]
         clear hz0 he
         go_wp2_with fail
         exact ⟨FN.out, by simp [intOf]; omega⟩
        ·have FN := lH (NO.out (by rw [QV.out]; simp [he]) _ rfl)
         have de : (id == y.id) = false := by simp [he]
         clear hz0 he
         go_wp2_with fail
         exact ⟨FN.out, by simp [intOf]; omega⟩
      ·obtain rfl : s = L.length := by omega
       have FN := lH (show StRel N Q w3 (.int .i64 ((C0 + ((L.take L.length).filter (stQ N y)).length : Nat))) (.int .i64 ((j : Int) + 1)) ws from ⟨j + 1, by omega, by go_num, by rw [SNO.out, SEQ.out, List.take_length], KK.out.nx KS.out⟩)
       clear hs hsm ks hcl
       go_wp2_with fail
       exact ⟨FN.out, by simp [intOf]; omega⟩
  ·obtain rfl : j = Q.length := by omega
   rw [List.take_length, ← HE.out]
   have KF := lH (K3.out.nx KZ.out)
   clear hj hjm kz
   go_wp2_with fail
   go_ret
   exact ⟨by rw [HE0.out]; rfl, KF.out⟩
def twoN : List Nd := [⟨1, ⟨#[97]⟩, 0⟩, ⟨2, ⟨#[98]⟩, 2⟩]
def twoP : List Pr := [⟨2, 0, 0, [], [(0, 0, 0, 1)]⟩]
def twoK : List Pr := [⟨2, 0, 0, [1, 9], []⟩]
def twoR : List Pr := repN twoN twoP 1 4
theorem twoW : ∀ x ∈ twoN, x.word < 4294967296 := by decide +kernel
theorem two_len : twoR.length = 2 := by decide +kernel
theorem two_small : twoR.all (fun p => decide (p.known.length ≤ 10) && decide (p.near.length ≤ 10)) = true := by decide +kernel
theorem two_sm : SmallP twoR := fun p hp => by
 have := List.all_eq_true.1 two_small p hp
 simp only [Bool.and_eq_true, decide_eq_true_eq] at this
 omega
theorem two_b : (buildN twoN 1).2 = 0 := by decide +kernel
theorem two_exact : exactB twoN twoR 1 = true := by
 rw [exactB_eq two_b]
 exact decide_eq_true (by decide +kernel)
theorem two_no : exactB twoN (rRunsN twoN (normalN twoN twoK) 1 0) 1 = false := by
 rw [exactB_eq two_b]
 exact decide_eq_false (by decide +kernel)
theorem two_yes : exactB twoN (rRunsN twoN (normalN twoN twoK) 1 4) 1 = true := by
 rw [exactB_eq two_b]
 exact decide_eq_true (by decide +kernel)
theorem need_ge {N : List Nd} {P : List Pr} {h : Int} : ∀ {f k m : Nat}, needF N P h f k = ((m : Int), true) → k ≤ m
 | 0, k, m, he => by
  unfold needF at he
  split at he
  ·simp only [Prod.mk.injEq] at he; omega
  ·simp at he
 | f + 1, k, m, he => by
  unfold needF at he
  split at he
  ·simp only [Prod.mk.injEq] at he; omega
  ·have := need_ge he; omega
theorem two_need : ∃ m : Nat, neededN twoN twoK 1 = ((m : Int), true) ∧ 0 < m ∧ m ≤ 4 := by
 have e : neededN twoN twoK 1 = needF twoN (normalN twoN twoK) 1 4 0 := by
  unfold neededN
  rw [if_pos ⟨by decide +kernel, by decide +kernel⟩]
  rfl
 rw [e, needF_next two_no]
 obtain ⟨m, h1, h2⟩ := need_law (N := twoN) (P := normalN twoN twoK) (h := 1) (f := 3) (k := 1) two_yes
 exact ⟨m, h1, by have := need_ge h1; omega, by omega⟩
theorem two_rnds : rndsR 2 1 = 4 := by decide +kernel
theorem two_stale : staleN twoN twoK = 1 := by decide +kernel
theorem two_round : (rRoundN twoN twoR 1).length = 2 := by decide +kernel
theorem twoLitN (w : World) : ∃ g v, g = w.heap.size ∧ v = w.alloc (.cells #[.int .i64 1, .string ⟨#[97]⟩, .int .u32 0, .int .i64 2, .string ⟨#[98]⟩, .int .u32 2] 56) ∧ Sl 3 encN v (some ⟨g, 0, none⟩) 2 twoN ∧ Ex w v :=
 ⟨_, _, rfl, rfl, Sl.lit twoN rfl rfl (fun _ => rfl) rfl, Ex.new _ _⟩
theorem twoLitP (w : World) : ∃ g v, g = w.heap.size + 1 ∧ v = (w.alloc (.cells #[.int .i64 0, .int .i64 0, .int .i64 0, .int .i64 1] 50)).alloc (.cells #[.int .i64 2, .slice none 0 0, .int .i64 0, .int .i64 0, .slice (some ⟨w.heap.size, 0, none⟩) 1 1] 41) ∧
  PL v (some ⟨g, 0, none⟩) 1 twoP ∧ Ex w v := by
 have k1 := Ex.new w (.cells #[.int .i64 0, .int .i64 0, .int .i64 0, .int .i64 1] 50)
 have s1 : Sl 4 encNr (w.alloc (.cells #[.int .i64 0, .int .i64 0, .int .i64 0, .int .i64 1] 50)) (some ⟨w.heap.size, 0, none⟩) 1 [(0, 0, 0, 1)] := Sl.lit [(0, 0, 0, 1)] rfl rfl (fun _ => rfl) rfl
 generalize hu : w.alloc (.cells #[.int .i64 0, .int .i64 0, .int .i64 0, .int .i64 1] 50) = u at *
 have hz : u.heap.size = w.heap.size + 1 := by rw [← hu]; simp
 have k2 := Ex.new u (.cells #[.int .i64 2, .slice none 0 0, .int .i64 0, .int .i64 0, .slice (some ⟨w.heap.size, 0, none⟩) 1 1] 41)
 refine ⟨_, _, hz, rfl, ⟨[((2, 0, 0), (none, 0, 0), (some ⟨w.heap.size, 0, none⟩, 1, 1))], ?_, rfl, fun j q p hq hp => ?_⟩, k1.nx k2⟩
 ·exact Sl.lit (enc := encQ) (sz := 5) (w := u) (s := u.heap.size) (ty := 41) (n := 1) [((2, 0, 0), (none, 0, 0), (some ⟨w.heap.size, 0, none⟩, 1, 1))] rfl rfl encQ_len rfl
 ·rcases j with _ | j
  ·simp only [List.getElem?_cons_zero, Option.some.injEq, twoP] at hq hp
   subst hq hp
   exact ⟨rfl, Sl.nil _ _ _ _, s1.nx k2⟩
  ·simp at hq
theorem twoLitK (w : World) : ∃ g v, g = w.heap.size + 1 ∧ v = (w.alloc (.cells #[.int .i64 1, .int .i64 9] 3)).alloc (.cells #[.int .i64 2, .slice (some ⟨w.heap.size, 0, none⟩) 2 2, .int .i64 0, .int .i64 0, .slice none 0 0] 41) ∧
  PL v (some ⟨g, 0, none⟩) 1 twoK ∧ Ex w v := by
 have k1 := Ex.new w (.cells #[.int .i64 1, .int .i64 9] 3)
 have s1 : Sl 1 encI (w.alloc (.cells #[.int .i64 1, .int .i64 9] 3)) (some ⟨w.heap.size, 0, none⟩) 2 [1, 9] := Sl.lit [1, 9] rfl rfl (fun _ => rfl) rfl
 generalize hu : w.alloc (.cells #[.int .i64 1, .int .i64 9] 3) = u at *
 have hz : u.heap.size = w.heap.size + 1 := by rw [← hu]; simp
 have k2 := Ex.new u (.cells #[.int .i64 2, .slice (some ⟨w.heap.size, 0, none⟩) 2 2, .int .i64 0, .int .i64 0, .slice none 0 0] 41)
 refine ⟨_, _, hz, rfl, ⟨[((2, 0, 0), (some ⟨w.heap.size, 0, none⟩, 2, 2), (none, 0, 0))], ?_, rfl, fun j q p hq hp => ?_⟩, k1.nx k2⟩
 ·exact Sl.lit (enc := encQ) (sz := 5) (w := u) (s := u.heap.size) (ty := 41) (n := 1) [((2, 0, 0), (some ⟨w.heap.size, 0, none⟩, 2, 2), (none, 0, 0))] rfl rfl encQ_len rfl
 ·rcases j with _ | j
  ·simp only [List.getElem?_cons_zero, Option.some.injEq, twoK] at hq hp
   subst hq hp
   exact ⟨rfl, s1.nx k2, Sl.nil _ _ _ _⟩
  ·simp at hq
theorem small3 {P : List Pr} (h : ∀ p ∈ P, p.known.length ≤ 2000000 ∧ p.near.length ≤ 2000000) : SmallP P := fun p hp => by have := h p hp; omega
theorem twoP_sm : ∀ p ∈ twoP, p.known.length ≤ 2000000 ∧ p.near.length ≤ 2000000 := by decide +kernel
theorem twoK_sm : ∀ p ∈ twoK, p.known.length ≤ 2000000 ∧ p.near.length ≤ 2000000 := by decide +kernel
set_option maxRecDepth 100000 in
set_option maxHeartbeats 8000000 in
theorem sane18_x (w : World) (hT : TabG w) : Calls Tryz.prog 21 #[] w fun e w' => e = .returned (.bool true) ∧ Ex w w' := by
 go_enter Tryz.func21, Tryz.ntmps21
 obtain ⟨g1, w1, hg1, hw1, S1, kk⟩ := twoLitN w
 have T := lH (hT.nx kk)
 have K := lH kk
 have HS := lH S1
 have Hg := lH hg1
 have Hw := lH hw1
 clear hg1 hw1 S1 kk hT
 go_upto_region 2 with fail
 rw [← Hw.out, ← Hg.out]
 clear Hw Hg
 obtain ⟨g2, w2, hg2, hw2, P2, kk⟩ := twoLitP w1
 replace T := lH (T.out.nx kk)
 replace K := lH (K.out.nx kk)
 replace HS := lH (HS.out.nx kk)
 have HP := lH P2
 have Hg := lH hg2
 have Hw := lH hw2
 clear hg2 hw2 P2 kk
 go_wp2_with fail
 rw [← Hw.out, ← Hg.out]
 clear Hw Hg
 (with_reducible refine (run_p _ _ _ twoN _ _ _ twoP 1 4 _ HS.out (by omega) (by omega) (by unfold maxLen; omega) twoW HP.out (by omega) (small3 twoP_sm)).mono ?_)
 rintro e w3 ⟨v, qs, rfl, own, kk⟩
 replace own : OwnPr w2.heap.size w3 v qs twoR := own
 obtain ⟨aR, cR, rfl, PR, _, _, _, _⟩ := own.pl
 rw [two_len] at PR ⊢
 replace T := lH (T.out.nx kk)
 replace K := lH (K.out.nx kk)
 replace HS := lH (HS.out.nx kk)
 replace PR := lH PR
 clear own kk HP
 obtain ⟨g2, w4, hg2, hw2, P2, kk⟩ := twoLitK w3
 replace T := lH (T.out.nx kk)
 replace K := lH (K.out.nx kk)
 replace HS := lH (HS.out.nx kk)
 replace PR := lH (PR.out.nx kk)
 have HP := lH P2
 have Hg := lH hg2
 have Hw := lH hw2
 clear hg2 hw2 P2 kk
 go_wp2_with fail
 rw [← Hw.out, ← Hg.out]
 clear Hw Hg
 (with_reducible refine (needed_p _ _ _ twoN _ _ _ twoK 1 _ HS.out (by omega) (by omega) (by unfold maxLen; omega) twoW T.out HP.out (by omega) (small3 twoK_sm)).mono ?_)
 rintro e w5 ⟨rfl, kk⟩
 obtain ⟨m, hm, hm0, hm4⟩ := two_need
 rw [hm]
 clear hm
 replace T := lH (T.out.nx kk)
 replace K := lH (K.out.nx kk)
 replace HS := lH (HS.out.nx kk)
 replace PR := lH (PR.out.nx kk)
 clear kk HP
 have d1 : (m : Int) > 0 := by omega
 have d2 : (m : Int) ≤ 4 := by omega
 clear hm0 hm4
 go_wp2_with fail
 (with_reducible refine (bexact_p _ _ _ twoN _ _ _ twoR 1 _ HS.out (by omega) (by omega) (by unfold maxLen; omega) twoW T.out PR.out (by omega) two_sm).mono ?_)
 rintro e w6 ⟨rfl, kk⟩
 rw [two_exact]
 replace T := lH (T.out.nx kk)
 replace K := lH (K.out.nx kk)
 replace HS := lH (HS.out.nx kk)
 replace PR := lH (PR.out.nx kk)
 clear kk
 go_wp2_with fail
 (with_reducible refine (rounds18_p 2 1 _).mono ?_)
 rintro e w7 ⟨rfl, hw7⟩
 subst hw7
 rw [two_rnds]
 obtain ⟨g2, w8, hg2, hw2, P2, kk⟩ := twoLitK w6
 replace K := lH (K.out.nx kk)
 replace HS := lH (HS.out.nx kk)
 replace PR := lH (PR.out.nx kk)
 have HP := lH P2
 have Hg := lH hg2
 have Hw := lH hw2
 clear hg2 hw2 P2 kk
 go_wp2_with fail
 rw [← Hw.out, ← Hg.out]
 clear Hw Hg
 (with_reducible refine (stale_p _ _ _ twoN _ _ _ twoK _ HS.out (by omega) (by omega) (by unfold maxLen; omega) HP.out (by omega) twoK_sm).mono ?_)
 rintro e w9 ⟨rfl, kk⟩
 rw [two_stale]
 replace K := lH (K.out.nx kk)
 replace HS := lH (HS.out.nx kk)
 replace PR := lH (PR.out.nx kk)
 clear kk HP
 go_wp2_with fail
 (with_reducible refine (rround_p _ _ _ twoN _ _ _ twoR 1 _ HS.out (by omega) (by omega) (by unfold maxLen; omega) twoW PR.out (by omega) two_sm).mono ?_)
 rintro e w10 ⟨v, qs, rfl, own, kk⟩
 obtain ⟨aR, cR, rfl, _, _, _, _, _⟩ := own.pl
 rw [two_round]
 replace K := lH (K.out.nx kk)
 clear own kk
 go_wp2_with fail
 go_ret
 exact ⟨rfl, K.out⟩
end Go.Proofs.YtlgdjigocopglaaGreatDoor
