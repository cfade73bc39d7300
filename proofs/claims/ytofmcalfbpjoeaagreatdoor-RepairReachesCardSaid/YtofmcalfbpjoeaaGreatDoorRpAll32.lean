/- Texts for RepairReachesProof, RepairCrashesProof, RepairJoinsProof, RepairCleansProof, RepairRejoinsProof. -/
import Derived.WalkMore
import Derived.Test.YtofmcalfbpjoeaaGreatDoorRpAll1
import Derived.Test.YtofmcalfbpjoeaaGreatDoorRpAll3
import Derived.Test.YtofmcalfbpjoeaaGreatDoorRpAll6
import Derived.Test.YtofmcalfbpjoeaaGreatDoorRpAll11
import Derived.Test.YtofmcalfbpjoeaaGreatDoorRpAll12
import Derived.Test.YtofmcalfbpjoeaaGreatDoorRpAll13
import Derived.Test.YtofmcalfbpjoeaaGreatDoorRpAll14
import Derived.Test.YtofmcalfbpjoeaaGreatDoorRpAll15
import Derived.Test.YtofmcalfbpjoeaaGreatDoorRpAll16
import Derived.Test.YtofmcalfbpjoeaaGreatDoorRpAll19
import Derived.Test.YtofmcalfbpjoeaaGreatDoorRpAll20
import Derived.Test.YtofmcalfbpjoeaaGreatDoorRpAll21
import Derived.Test.YtofmcalfbpjoeaaGreatDoorRpAll22
import Derived.Test.YtofmcalfbpjoeaaGreatDoorRpAll23
import Derived.Test.YtofmcalfbpjoeaaGreatDoorRpAll24
import Derived.Test.YtofmcalfbpjoeaaGreatDoorRpAll25
import Derived.Test.YtofmcalfbpjoeaaGreatDoorRpAll26
import Derived.Test.YtofmcalfbpjoeaaGreatDoorRpAll27
import Derived.Test.YtofmcalfbpjoeaaGreatDoorRpAll28
import Derived.Test.YtofmcalfbpjoeaaGreatDoorRpAll29
import Derived.Test.YtofmcalfbpjoeaaGreatDoorRpAll31

namespace Go.Proofs.YtofmcalfbpjoeaaGreatDoor
open Go.RowKit
def bstep (N : List Nd) (Q : List Pr) (h : Nat) (p : Pr) : Pr := { p with near := nextB N (peerN Q) p h }
theorem bround_eq {N : List Nd} {P : List Pr} {h : Nat} (hh : h ≤ 16) : bRoundN N P h = (normalN N P).map (bstep N (normalN N P) h) := by
 unfold bRoundN
 rw [if_pos (lvl_of (by omega) (by omega))]
 rfl
theorem bround_no {N : List Nd} {P : List Pr} {h : Int} (hh : lvlN h = false) : bRoundN N P h = [] := by unfold bRoundN; rw [if_neg (by rw [hh]; simp)]
theorem nextB_len (N : List Nd) (st : Int → Pr) (p : Pr) (h : Nat) : (nextB N st p h).length = h := by unfold nextB; rw [List.length_map, List.length_range]
def BrRel (N : List Nd) (Q : List Pr) (h : Nat) (w : World) (o i : Value) (wr : World) : Prop :=
 ∃ (j : Nat) (qs : List PQ), j ≤ Q.length ∧ i = .int .i64 j ∧ OwnPr w.heap.size wr o qs ((Q.take j).map (bstep N Q h)) ∧ Ex w wr
theorem br_snoc (N : List Nd) {Q : List Pr} {h j : Nat} {y : Pr} (hy : Q[j]? = some y) : ((Q.take (j + 1)).map (bstep N Q h)) = ((Q.take j).map (bstep N Q h)) ++ [{ y with near := nextB N (peerN Q) y h }] := by
 rw [List.take_add_one, hy, List.map_append]; rfl
set_option maxRecDepth 100000 in
set_option maxHeartbeats 8000000 in
theorem bround_p (a : Option Addr) (n c : Nat) (N : List Nd) (a2 : Option Addr) (n2 c2 : Nat) (P : List Pr) (hh : Int) (w : World) (h : Sl 3 encN w a n N) (hn : n ≤ 1000) (hc : n ≤ c) (hm : c ≤ maxLen) (hw : ∀ x ∈ N, x.word < 4294967296) (h2 : PL w a2 n2 P) (hn2 : n2 ≤ 4000000000000000000) (hP : SmallP P) :
  Calls Tryz.prog 65 #[.slice a n c, .slice a2 n2 c2, .int .i64 hh] w (PlPost (bRoundN N P hh) w) := by
 have HL := Lib.hid h.len
 have HW := Lib.hid hw
 clear hw
 have NO : Hid (lvlN hh = false → PlPost (bRoundN N P hh) w (.returned (.slice none 0 0)) w) := Lib.hid (fun h => by
  rw [bround_no h]
  exact ⟨_, [], rfl, OwnP.nil _ _ _ _ _, Ex.refl _⟩)
 by_cases h0 : hh < 0
 ·have FI := Lib.hid (NO.out (by unfold lvlN; simp; omega))
  clear h h2 hP NO
  go_enter Tryz.func65, Tryz.ntmps65
  go_wp2_with fail
  go_ret
  exact FI.out
 by_cases h1 : hh > 16
 ·have FI := Lib.hid (NO.out (by unfold lvlN; simp; omega))
  clear h h2 hP NO
  go_enter Tryz.func65, Tryz.ntmps65
  go_wp2_with fail
  go_ret
  exact FI.out
 obtain ⟨k, rfl⟩ := Int.eq_ofNat_of_zero_le (show 0 ≤ hh by omega)
 have hk16 : k ≤ 16 := by omega
 have HR := Lib.hid (bround_eq (N := N) (P := P) hk16)
 clear NO
 go_enter Tryz.func65, Tryz.ntmps65
 go_wp2_with fail
 (with_reducible refine (normal_p _ _ _ N _ _ _ P _ h hn hc hm h2 hn2 hP).mono ?_)
 rintro e w3 ⟨v3, qs, rfl, OQ, kk⟩
 replace h := h.nx kk
 clear h2
 have K03 := Lib.hid kk
 obtain ⟨hQ1, hQ2⟩ := normal_le N P
 have HQS := Lib.hid (normal_small N hP)
 generalize normalN N P = Q at OQ hQ1 hQ2 HR HQS
 obtain ⟨aQ, cQ, rfl, PQ0, _, _, _, _⟩ := OQ.pl
 have HPQ := Lib.hid PQ0
 have hQn : Q.length ≤ n := by have := HL.out; omega
 have hz3 := kk.size
 have HS := Lib.hid h
 clear OQ PQ0 kk hQ1 hQ2 hP h
 go_wp2_with fail
 go_loopw [8, 22] (fun o i wr => BrRel N Q k w3 o i wr) (fun _ i _ => Q.length - (intOf i).toNat)
 case atStart => exact ⟨0, [], by omega, rfl, OwnP.nil _ _ _ _ _, Ex.refl _⟩
 case round =>
  obtain ⟨j, qz, hj, rfl, own, ki⟩ := hrel
  obtain ⟨wi, rfl⟩ : ∃ wi : World, wi = wr := ⟨_, rfl⟩
  by_cases hjm : j < Q.length
  ·obtain ⟨x5, o5, b1, m1, d1, b4, m4, d4, y, rfl, hx5, hy, e0, e1, e2, e3, e4, s1, s4⟩ := (HPQ.out.nx ki).rd hjm
   have SN := Lib.hid (br_snoc N (h := k) hy)
   have hyP := HQS.out y (List.mem_of_getElem? hy)
   have hql : qz.length = j := by rw [own.2.1, List.length_map, List.length_take]; omega
   have hl1 : m1 ≤ 17592186044416 := by have := s1.len; omega
   have hl4 : m4 ≤ 4000000000000000000 := by have := s4.len; omega
   have hwi := ki.size
   have S1y := Lib.hid s1
   have S4y := Lib.hid s4
   have KI := Lib.hid ki
   have OWN := Lib.hid own
   clear hy own ki hyP s1 s4
   have B8 := Blk.new wi [.int .i64 y.id, .slice b1 m1 d1, .int .i64 y.left, .int .i64 y.right, .slice b4 m4 d4] 42
   have kk := Ex.new wi (.cells #[.int .i64 y.id, .slice b1 m1 d1, .int .i64 y.left, .int .i64 y.right, .slice b4 m4 d4] 42)
   obtain ⟨w7, hw7⟩ : ∃ w7, w7 = wi.alloc (.cells #[.int .i64 y.id, .slice b1 m1 d1, .int .i64 y.left, .int .i64 y.right, .slice b4 m4 d4] 42) := ⟨_, rfl⟩
   obtain ⟨g8, hg8⟩ : ∃ g8, g8 = wi.heap.size := ⟨_, rfl⟩
   replace B8 : Blk w7 g8 [.int .i64 y.id, .slice b1 m1 d1, .int .i64 y.left, .int .i64 y.right, .slice b4 m4 d4] 42 := by rw [hw7, hg8]; exact B8
   rw [← hw7] at kk
   have Hw7 := Lib.hid hw7
   have Hg8 := Lib.hid hg8
   have zg8 : wi.heap.size ≤ g8 := by omega
   have K8 := Lib.hid kk
   have HPN : Hid (∀ p ∈ Q, p.near.length ≤ 4000000000000000000) := Lib.hid (fun p hp => Nat.le_trans (HQS.out p hp).2 (by omega))
   clear kk hw7 hg8
   go_upto_region 8 with fail
   rw [← Hg8.out, ← Hw7.out]
   clear Hg8 Hw7
   clear e0 e1 e2 e3 e4
   have hg8l := B8.lt
   have B8s := Lib.hid B8
   have hz8 := K8.out.size
   have hz9 : w3.heap.size ≤ w7.heap.size := Nat.le_trans hwi hz8
   have HNL := Lib.hid (nextB_len N (peerN Q) y k)
   clear B8
   refine wp_region_late_drew (S := Ex w7) [9, 10, 11] (by kernel_rfl) ((Ex.refl w7).drew) (fun hHeld => ?_)
   obtain ⟨wd, hwdx⟩ : ∃ wd : World, wd = World.drew w7 := ⟨_, rfl⟩
   rw [← hwdx] at hHeld ⊢
   have hDrew : Ex w7 wd := by rw [hwdx]; exact (Ex.refl w7).drew
   clear hwdx
   refine wpAnyL_take (i := 0) (oi := ⟨_, _, _, _, _, _⟩) (v := ?_) rfl (by kernel_rfl) (by kernel_rfl) (by kernel_rfl) (fun _ _ _ h => h) (Or.inl ⟨by rfl, ?hyr1x0q5⟩) (by kernel_rfl) (by kernel_rfl) (by assumption) ?restr1x0q5
   case hyr1x0q5 => intro wq hSw; (go_simp); (try with_reducible rfl)
   refine wpAnyL_take (i := 1) (oi := ⟨_, _, _, _, _, _⟩) (v := ?_) rfl (by kernel_rfl) (by kernel_rfl) (by kernel_rfl) (fun _ _ _ h => h) (Or.inl ⟨by rfl, ?hyr1x1q8⟩) (by kernel_rfl) (by kernel_rfl) (by assumption) ?restr1x1q8
   case hyr1x1q8 => intro wq hSw; (have cq := (B8s.out.nx hSw).cell 1 _ rfl; go_simp); (try with_reducible rfl)
   refine wpAnyL_take (i := 3) (oi := ⟨_, _, _, _, _, _⟩) (v := ?_) rfl (by kernel_rfl) (by kernel_rfl) (by kernel_rfl) (fun _ _ _ h => h) (Or.inl ⟨by rfl, ?hyr1x3q11⟩) (by kernel_rfl) (by kernel_rfl) (by assumption) ?restr1x3q11
   case hyr1x3q11 => intro wq hSw; (go_simp); (try with_reducible rfl)
   refine wpAnyL_take (i := 4) (oi := ⟨_, _, _, _, _, _⟩) (v := ?_) rfl (by kernel_rfl) (by kernel_rfl) (by kernel_rfl) (fun _ _ _ h => h) (Or.inl ⟨by rfl, ?hyr1x4q14⟩) (by kernel_rfl) (by kernel_rfl) (by assumption) ?restr1x4q14
   case hyr1x4q14 => intro wq hSw; (go_simp); (try with_reducible rfl)
   refine wpAnyL_take (i := 5) (oi := ⟨_, _, _, _, _, _⟩) (v := ?_) rfl (by kernel_rfl) (by kernel_rfl) (by kernel_rfl) (fun _ _ _ h => h) (Or.inl ⟨by rfl, ?hyr1x5q17⟩) (by kernel_rfl) (by kernel_rfl) (by assumption) ?restr1x5q17
   case hyr1x5q17 => intro wq hSw; (have cq0 := (B8s.out.nx hSw).cell 0 _ rfl; have cq1 := (B8s.out.nx hSw).cell 1 _ rfl; have cq2 := (B8s.out.nx hSw).cell 2 _ rfl; have cq3 := (B8s.out.nx hSw).cell 3 _ rfl; have cq4 := (B8s.out.nx hSw).cell 4 _ rfl; go_simp); (try with_reducible rfl)
   refine wpAnyL_take (i := 6) (oi := ⟨_, _, _, _, _, _⟩) (v := ?_) rfl (by kernel_rfl) (by kernel_rfl) (by kernel_rfl) (fun _ _ _ h => h) (Or.inl ⟨by rfl, ?hyr1x6q20⟩) (by kernel_rfl) (by kernel_rfl) (by assumption) ?restr1x6q20
   case hyr1x6q20 => intro wq hSw; (go_simp); (try with_reducible rfl)
   refine wpAnyL_ready (rs := [2]) (by kernel_rfl) (by simp) ?_
   refine AllReadyL.cons (o := ⟨_, _, _, _, _, _⟩) rfl (fun K hK => ?_) AllReadyL.nil
   go_simp
   (with_reducible refine (clone_i _ _ _ _ _ ((S1y.out.nx K8.out).nx hHeld) hl1).mono ?_)
   rintro e wc ⟨vc, rfl, own2, kk⟩
   (try replace own5 := own5.nx kk)
   obtain ⟨A2, C2, rfl, _, _, _, _⟩ := own2.slf (fun _ => rfl)
   replace own2 := own2.base hHeld.size
   replace hHeld := hHeld.nx kk
   clear kk
   have BQ := B8s.out.nx hHeld
   have KZ := hHeld.b g8
   refine hK.out _ _ (hHeld) (fun hHeld => ?_)
   clear hK K
   refine wpAnyL_take (i := 8) (oi := ⟨_, _, _, _, _, _⟩) (v := ?_) rfl (by kernel_rfl) (by kernel_rfl) (by kernel_rfl) (fun _ _ _ h => h) (Or.inl ⟨by rfl, ?hyr1x8q38⟩) (by kernel_rfl) (by kernel_rfl) (by assumption) ?restr1x8q38
   case hyr1x8q38 => intro wq hSw; (go_simp); (try with_reducible rfl)
   refine wpAnyL_ready (rs := [7]) (by kernel_rfl) (by simp) ?_
   refine AllReadyL.cons (o := ⟨_, _, _, _, _, _⟩) rfl (fun K hK => ?_) AllReadyL.nil
   go_simp
   (with_reducible refine (next_p _ _ _ N _ _ _ Q y _ _ _ _ _ _ k _ (HS.out.nx (KI.out.nx (K8.out.nx hHeld))) hn hc hm HW.out (HPQ.out.nx (KI.out.nx (K8.out.nx hHeld))) (by omega) HPN.out ((S4y.out.nx K8.out).nx hHeld) hl4 hk16).mono ?_)
   rintro e wc ⟨vc, rfl, own5, kk⟩
   (try replace own2 := own2.nx kk)
   obtain ⟨A5, C5, rfl, _, _, _, _⟩ := own5.slf (fun _ => rfl)
   replace own5 := own5.base hHeld.size
   replace hHeld := hHeld.nx kk
   clear kk
   have BQ := B8s.out.nx hHeld
   have KZ := hHeld.b g8
   refine hK.out _ _ (hHeld) (fun hHeld => ?_)
   clear hK K
   refine wpAnyL_ready (rs := [9]) (by kernel_rfl) (by simp) ?_
   refine AllReadyL.consL (o := ⟨_, _, _, _, _, _⟩) rfl (by rfl) (fun K hK => ?_) AllReadyL.nil
   have cq := BQ.cell 1 _ rfl
   have fq := BQ.free 1
   go_simp
   clear cq fq
   replace BQ := BQ.set 1 (.slice A2 y.known.length C2)
   replace own2 := own2.nxb hg8l ((Exb.refl g8 _).setB (p := ⟨g8, 1, none⟩) (.slice A2 y.known.length C2) rfl)
   replace own5 := own5.nxb hg8l ((Exb.refl g8 _).setB (p := ⟨g8, 1, none⟩) (.slice A2 y.known.length C2) rfl)
   replace KZ := KZ.setB (p := ⟨g8, 1, none⟩) (.slice A2 y.known.length C2) rfl
   refine hK.out _ _ ?_
   clear hK K
   refine wpAnyL_ready (rs := [10]) (by kernel_rfl) (by simp) ?_
   refine AllReadyL.consL (o := ⟨_, _, _, _, _, _⟩) rfl (by rfl) (fun K hK => ?_) AllReadyL.nil
   go_simp
   refine hK.out _ _ ?_
   clear hK K
   refine wpAnyL_ready (rs := [11]) (by kernel_rfl) (by simp) ?_
   refine AllReadyL.consL (o := ⟨_, _, _, _, _, _⟩) rfl (by rfl) (fun K hK => ?_) AllReadyL.nil
   have cq := BQ.cell 4 _ rfl
   have fq := BQ.free 4
   go_simp
   clear cq fq
   replace BQ := BQ.set 4 (.slice A5 (nextB N (peerN Q) y k).length C5)
   replace own2 := own2.nxb hg8l ((Exb.refl g8 _).setB (p := ⟨g8, 4, none⟩) (.slice A5 (nextB N (peerN Q) y k).length C5) rfl)
   replace own5 := own5.nxb hg8l ((Exb.refl g8 _).setB (p := ⟨g8, 4, none⟩) (.slice A5 (nextB N (peerN Q) y k).length C5) rfl)
   replace KZ := KZ.setB (p := ⟨g8, 4, none⟩) (.slice A5 (nextB N (peerN Q) y k).length C5) rfl
   refine hK.out _ _ ?_
   clear hK K
   refine wpAnyL_done (by kernel_rfl) ?_ _
   obtain ⟨wz, hwz⟩ : ∃ wz, wz = (wc.setCell ⟨g8, 1, none⟩ (.slice A2 y.known.length C2)).setCell ⟨g8, 4, none⟩ (.slice A5 (nextB N (peerN Q) y k).length C5) := ⟨_, rfl⟩
   rw [← hwz] at BQ own2 own5 KZ ⊢
   clear hwz
   generalize nextB N (peerN Q) y k = NX at own5 BQ SN HNL ⊢
   have BF : Blk wz g8 [.int .i64 y.id, .slice A2 y.known.length C2, .int .i64 y.left, .int .i64 y.right, .slice A5 NX.length C5] 42 := BQ
   have p0 := BF.cell 0 _ rfl
   have p1 := BF.cell 1 _ rfl
   have p2 := BF.cell 2 _ rfl
   have p3 := BF.cell 3 _ rfl
   have p4 := BF.cell 4 _ rfl
   have KW := Lib.hid (Exl.nxb (b := g8) (w := wi) ⟨K8.out, zg8⟩ KZ).1
   have OP := Lib.hid (OWN.out.nx KW.out)
   have zw := KW.out.size
   replace own2 := Lib.hid (own2.base hz8)
   replace own5 := Lib.hid (own5.base hz8)
   have hw3 : w3.heap.size ≤ wi.heap.size := hwi
   have KN := KW.out.nx (Ex.new _ (.cells #[.int .i64 y.id, .slice A2 y.known.length C2, .int .i64 y.left, .int .i64 y.right, .slice A5 NX.length C5] 42))
   have zn := Nat.le_trans hw3 KN.size
   clear BQ BF KZ hHeld
   go_wp2_with (at_builtin; (refine wpList_append_W (enc := encQ) _ rfl _ _ 24 rfl w3.heap.size 42 (.agg #[.int .i64 0, .slice none 0 0, .int .i64 0, .int .i64 0, .slice none 0 0]) 5 72 Tryz.underlying24 Tryz.infoPr rfl (by omega) (by omega) _ qz (OP.out.nx (Ex.new _ _)).row rfl _ 1 1 [(y.nums, (A2, y.known.length, C2), (A5, NX.length, C5))] (Sl.lit _ rfl rfl encQ_len rfl) encQ_len encQ_one rfl (by omega) (by omega) zn ?_); intro v9 w9 own9 ch0 ch1 _)
   have RR := OWN.out.app (p := { y with near := NX }) (by decide) (by decide) hw3 KN (own2.out.nx (Ex.new _ _)) (own5.out.nx (Ex.new _ _)) own9 ch0
   exact ⟨⟨j + 1, _, by omega, by go_num, by rw [SN.out]; exact RR, Chg.trans (KI.out.nx KN) ch1⟩, by simp [intOf]; omega⟩
  ·obtain rfl : j = Q.length := by omega
   rw [List.take_length] at own
   have OWN := Lib.hid (own.lower hz3)
   have KI := Lib.hid (K03.out.nx ki)
   clear own ki hj hjm
   go_wp2_with fail
   go_ret
   exact ⟨_, qz, rfl, by rw [HR.out]; exact OWN.out, KI.out⟩
theorem rround_no {N : List Nd} {P : List Pr} {h : Int} (hh : lvlN h = false) : rRoundN N P h = [] := by unfold rRoundN; rw [if_neg (by rw [hh]; simp)]
theorem rround_eq {N : List Nd} {P : List Pr} {h : Nat} (hh : h ≤ 16) : (roundN N P).length = (bRoundN N P h).length ∧ rRoundN N P h = mixP (roundN N P) (bRoundN N P h) (roundN N P).length := by
 have hl : (roundN N P).length = (bRoundN N P h).length := by rw [bround_eq hh, List.length_map, roundN_eq, List.length_map]
 refine ⟨hl, ?_⟩
 rw [mixP_all hl]
 unfold rRoundN
 rw [if_pos (lvl_of (by omega) (by omega))]
def RrRel (s S : Nat) (w : World) (v1 v2 : Value) (qs2 : List PQ) (P1 P2 : List Pr) (i : Value) (wr : World) : Prop :=
 ∃ (j : Nat) (qs : List PQ), j ≤ P2.length ∧ i = .int .i64 j ∧ OwnPr s wr v1 qs (mixP P1 P2 j) ∧ MixQ S qs2 j qs ∧ OwnPr S wr v2 qs2 P2 ∧ Ex w wr
set_option maxRecDepth 100000 in
set_option maxHeartbeats 8000000 in
theorem rround_p (a : Option Addr) (n c : Nat) (N : List Nd) (a2 : Option Addr) (n2 c2 : Nat) (P : List Pr) (hh : Int) (w : World) (h : Sl 3 encN w a n N) (hn : n ≤ 1000) (hc : n ≤ c) (hm : c ≤ maxLen) (hw : ∀ x ∈ N, x.word < 4294967296) (h2 : PL w a2 n2 P) (hn2 : n2 ≤ 4000000000000000000) (hP : SmallP P) :
  Calls Tryz.prog 52 #[.slice a n c, .slice a2 n2 c2, .int .i64 hh] w (PlPost (rRoundN N P hh) w) := by
 have HL := Lib.hid h.len
 have HW := Lib.hid hw
 clear hw
 have NO : Hid (lvlN hh = false → PlPost (rRoundN N P hh) w (.returned (.slice none 0 0)) w) := Lib.hid (fun h => by
  rw [rround_no h]
  exact ⟨_, [], rfl, OwnP.nil _ _ _ _ _, Ex.refl _⟩)
 by_cases h0 : hh < 0
 ·have FI := Lib.hid (NO.out (by unfold lvlN; simp; omega))
  clear h h2 hP NO
  go_enter Tryz.func52, Tryz.ntmps52
  go_wp2_with fail
  go_ret
  exact FI.out
 by_cases h1 : hh > 16
 ·have FI := Lib.hid (NO.out (by unfold lvlN; simp; omega))
  clear h h2 hP NO
  go_enter Tryz.func52, Tryz.ntmps52
  go_wp2_with fail
  go_ret
  exact FI.out
 obtain ⟨k, rfl⟩ := Int.eq_ofNat_of_zero_le (show 0 ≤ hh by omega)
 have hk16 : k ≤ 16 := by omega
 have HR := Lib.hid (rround_eq (N := N) (P := P) hk16)
 have hQl := Lib.hid (Nat.le_trans (by rw [roundN_eq, List.length_map]; exact (normal_le N P).1 : (roundN N P).length ≤ N.length) (by have := HL.out; omega : N.length ≤ 1000))
 clear NO
 go_enter Tryz.func52, Tryz.ntmps52
 go_wp2_with fail
 (with_reducible refine (lround_p _ _ _ N _ _ _ P _ h hn hc hm h2 hn2 hP).mono ?_)
 rintro e w1 ⟨v1, qs1, rfl, own1, kk⟩
 replace h := h.nx kk
 replace h2 := h2.nx kk
 have K1 := Lib.hid kk
 clear kk
 go_wp2_with fail
 (with_reducible refine (bround_p _ _ _ N _ _ _ P k _ h hn hc hm HW.out h2 hn2 hP).mono ?_)
 rintro e w2 ⟨v2, qs2, rfl, own2, kk⟩
 have K2 := Lib.hid kk
 have OWN1 := Lib.hid own1
 have M0 := Lib.hid (MixQ.start (qs2 := qs2) own1 (Nat.le_refl _))
 have hz1 := K1.out.size
 clear h h2 hP kk
 generalize roundN N P = P1 at own1 OWN1 HR hQl
 generalize bRoundN N P (k : Int) = P2 at own2 HR
 have hl := HR.out.1
 have hq := hQl.out
 obtain ⟨a1, cap1, rfl, _, _, _, _, _⟩ := own1.pl
 obtain ⟨a3, cap2, rfl, _, _, _, _, _⟩ := own2.pl
 have OWN2 := Lib.hid own2
 clear own1 own2
 rw [hl]
 go_wp2_with fail
 go_loopw [24] (fun i wr => RrRel w.heap.size w1.heap.size w (.slice a1 P2.length cap1) (.slice a3 P2.length cap2) qs2 P1 P2 i wr) (fun i _ => P2.length - (intOf i).toNat)
 case atStart => exact ⟨0, qs1, by omega, rfl, by rw [mixP_zero, ← hl]; exact OWN1.out.nx K2.out, M0.out, OWN2.out, K1.out.nx K2.out⟩
 case round =>
  obtain ⟨j, qs, hj, rfl, own1, hmx, own2, kz⟩ := hrel
  obtain ⟨wi, rfl⟩ : ∃ wi : World, wi = wr := ⟨_, rfl⟩
  have KZ := Lib.hid kz
  have MX := Lib.hid hmx
  have hml := mixP_len hl j
  clear hmx kz
  by_cases hjm : j < P2.length
  ·obtain ⟨a', c', e', _, _, _, hg', _⟩ := own1.pl
   obtain ⟨g, hge, hgb⟩ := hg' (fun h => by rw [h] at hml; simp at hml; omega)
   injection e' with e1 e2 e3
   subst e1 e3
   subst hge
   obtain ⟨a'', c'', e'', _, _, _, hg'', _⟩ := own2.pl
   obtain ⟨g2, hge, hgb2⟩ := hg'' (fun h => by rw [h] at hjm; simp at hjm)
   injection e'' with e4 e5 e6
   subst e4 e6
   subst hge
   obtain ⟨p, hp⟩ : ∃ p, P1[j]? = some p := ⟨P1[j]'(by omega), by simp⟩
   obtain ⟨q, hq2⟩ : ∃ q, P2[j]? = some q := ⟨P2[j], by simp⟩
   obtain ⟨⟨B1, k1, f1⟩, ⟨B4, k4, f4⟩, hqs2, _, _⟩ := own2.get hq2
   have c0 := (OwnW.set1 encQ_len own2.1 hqs2 (c := 0) (by omega)).1
   have c1 := (OwnW.set1 encQ_len own2.1 hqs2 (c := 1) (by omega)).1
   have c2 := (OwnW.set1 encQ_len own2.1 hqs2 (c := 2) (by omega)).1
   have c3 := (OwnW.set1 encQ_len own2.1 hqs2 (c := 3) (by omega)).1
   have c4 := (OwnW.set1 encQ_len own2.1 hqs2 (c := 4) (by omega)).1
   simp only [Hdr.val, encQ, Pr.nums, List.getElem?_cons_zero, List.getElem?_cons_succ] at c0 c1 c2 c3 c4
   rw [Nat.add_zero] at c0
   have hgne : g < w1.heap.size := by
    obtain ⟨_, _, hb⟩ := OWN1.out.1.blk rfl
    exact (Array.getElem?_eq_some_iff.1 hb).1
   have HQ := Lib.hid hqs2
   have HP := Lib.hid hp
   have HQ2 := Lib.hid hq2
   have OA := Lib.hid own1
   have OB := Lib.hid own2
   clear own1 own2 hqs2 hp hq2 e2 e5
   have B8 := Blk.new wi [.int .i64 q.id, .slice B1 k1 f1, .int .i64 q.left, .int .i64 q.right, .slice B4 k4 f4] 42
   have kk := Ex.new wi (.cells #[.int .i64 q.id, .slice B1 k1 f1, .int .i64 q.left, .int .i64 q.right, .slice B4 k4 f4] 42)
   obtain ⟨w7, hw7⟩ : ∃ w7, w7 = wi.alloc (.cells #[.int .i64 q.id, .slice B1 k1 f1, .int .i64 q.left, .int .i64 q.right, .slice B4 k4 f4] 42) := ⟨_, rfl⟩
   obtain ⟨g8, hg8⟩ : ∃ g8, g8 = wi.heap.size := ⟨_, rfl⟩
   replace B8 : Blk w7 g8 [.int .i64 q.id, .slice B1 k1 f1, .int .i64 q.left, .int .i64 q.right, .slice B4 k4 f4] 42 := by rw [hw7, hg8]; exact B8
   rw [← hw7] at kk
   have Hw7 := Lib.hid hw7
   have Hg8 := Lib.hid hg8
   have K8 := Lib.hid kk
   clear kk hw7 hg8
   go_upto_region 7 with fail
   rw [← Hg8.out, ← Hw7.out]
   clear Hg8 Hw7
   clear c0 c1 c2 c3 c4
   have hp' := mixP_at (Q := P2) hl HP.out
   have own1 := OA.out.nx K8.out
   have own2 := OB.out.nx K8.out
   obtain ⟨⟨A1, m1, d1⟩, ⟨A4, m4, d4⟩, hqs, _, _⟩ := own1.get hp'
   obtain ⟨_, _, hqs3, _, onr⟩ := own2.get HQ2.out
   rw [HQ.out] at hqs3
   cases hqs3
   obtain ⟨s1, s2, O9⟩ := own1.swapN (hn' := (B4, k4, f4)) (nr := q.near) (by decide) (by decide) (by decide) hqs hp' (onr.base (Nat.le_trans (by omega) hz1)) (MX.out.fn own2 HQ.out)
   have hset := mixP_set hl HP.out HQ2.out
   have FN := Lib.hid (show RrRel w.heap.size w1.heap.size w (.slice (some ⟨g, 0, none⟩) P2.length cap1) (.slice (some ⟨g2, 0, none⟩) P2.length cap2) qs2 P1 P2 (.int .i64 ((j : Int) + 1)) (w7.setCell ⟨g, j * 5 + 4, none⟩ (.slice B4 k4 f4)) from
    ⟨j + 1, qs.set j (p.nums, (A1, m1, d1), (B4, k4, f4)), by omega, by go_num, by rw [← hset]; exact O9, MX.out.step HQ.out rfl, own2.nxb hgne ((Exb.refl g _).setB (p := ⟨g, j * 5 + 4, none⟩) _ rfl), (KZ.out.nx K8.out).setNew (p := ⟨g, j * 5 + 4, none⟩) _ hgb⟩)
   simp only [Hdr.val] at s1
   have p4 := B8.cell 4 _ rfl
   clear O9 own1 own2 onr hset hqs hp'
   go_wp2_with fail
   exact ⟨FN.out, by simp [intOf]; omega⟩
  ·obtain rfl : j = P2.length := by omega
   rw [show P2.length = P1.length from hl.symm, ← HR.out.2] at own1
   have OWN := Lib.hid own1
   have KF := Lib.hid KZ.out
   clear own1 own2 hj hjm
   go_wp2_with fail
   go_ret
   exact ⟨_, qs, rfl, by rw [hl] at *; exact OWN.out, KF.out⟩
section
variable {N : List Nd} {P Q : List Pr}
theorem norm_congr (h : ∀ x ∈ N, peerN P x.id = peerN Q x.id) : normalN N P = normalN N Q := by
 unfold normalN
 split
 ·exact List.map_congr_left fun x hx => h x ((sortN_mem N x).1 hx)
 ·rfl
theorem norm_idem (N : List Nd) (P : List Pr) : normalN N (normalN N P) = normalN N P := by
 by_cases h0 : checkN N = 0
 ·exact norm_congr fun x hx => normal_peer h0 hx
 ·unfold normalN
  rw [if_neg h0, if_neg h0]
theorem round_lenR (N : List Nd) (P : List Pr) : (roundN N P).length ≤ N.length := by rw [roundN_eq, List.length_map]; exact (normal_le N P).1
theorem rr_len (N : List Nd) (P : List Pr) (k : Int) : (rRoundN N P k).length ≤ N.length := by
 unfold rRoundN
 split
 ·rw [List.length_map, List.length_zip]; exact Nat.le_trans (Nat.min_le_left _ _) (round_lenR N P)
 ·exact Nat.zero_le _
theorem rr_few (N : List Nd) (P : List Pr) (k : Int) : ∀ p ∈ rRoundN N P k, p.known.length ≤ N.length ∧ p.near.length ≤ 16 := by
 unfold rRoundN
 split
 ·rename_i hl
  intro p hp
  obtain ⟨⟨a, b⟩, hab, rfl⟩ := List.mem_map.1 hp
  obtain ⟨ha, hb⟩ := List.of_mem_zip hab
  rw [roundN_eq] at ha
  obtain ⟨a', _, rfl⟩ := List.mem_map.1 ha
  unfold bRoundN at hb
  rw [if_pos hl] at hb
  obtain ⟨b', _, rfl⟩ := List.mem_map.1 hb
  refine ⟨ord_len _ _, ?_⟩
  show (nextB N (peerN (normalN N P)) b' k.toNat).length ≤ 16
  rw [nextB_len]
  unfold lvlN at hl; simp at hl; omega
 ·intro p hp; cases hp
theorem rr_small (hN : N.length ≤ 1000) (k : Int) : SmallP (rRoundN N P k) := fun p hp => by have := rr_few N P k p hp; omega
theorem rruns_small (hN : N.length ≤ 1000) (hP : SmallP P) (k : Int) : ∀ t, SmallP (rRunsN N P k t)
 | 0 => hP
 | _ + 1 => rr_small hN k
def repN (N : List Nd) (P : List Pr) (h r : Int) : List Pr := if lvlN h = true then rRunsN N (normalN N P) h (max (min r 4096) 0).toNat else []
def rndsR (n h : Int) : Int := if 0 ≤ n ∧ n ≤ 64 ∧ 0 ≤ h ∧ h ≤ 16 then n * (h + 1) else 0
noncomputable def needF (N : List Nd) (P : List Pr) (h : Int) : Nat → Nat → Int × Bool
 | 0, k => if exactB N (rRunsN N P h k) h = true then (k, true) else (0, false)
 | f + 1, k => if exactB N (rRunsN N P h k) h = true then (k, true) else needF N P h f (k + 1)
noncomputable def neededN (N : List Nd) (P : List Pr) (h : Int) : Int × Bool := if checkN N = 0 ∧ lvlN h = true then needF N (normalN N P) h (rndsR N.length h).toNat 0 else (0, false)
theorem need_law {h : Int} : ∀ {f k : Nat}, exactB N (rRunsN N P h (k + f)) h = true → ∃ m : Nat, needF N P h f k = ((m : Int), true) ∧ m ≤ k + f
 | 0, k, he => ⟨k, by unfold needF; rw [if_pos (by simpa using he)], by omega⟩
 | f + 1, k, he => by
  unfold needF
  by_cases h1 : exactB N (rRunsN N P h k) h = true
  ·exact ⟨k, by rw [if_pos h1], by omega⟩
  ·rw [if_neg h1]
   obtain ⟨m, h2, h3⟩ := need_law (h := h) (f := f) (k := k + 1) (by rw [show k + 1 + f = k + (f + 1) by omega]; exact he)
   exact ⟨m, h2, by omega⟩
theorem check_len64 (h0 : checkN N = 0) : N.length ≤ 64 := by
 unfold checkN at h0
 split at h0
 ·cases h0
 ·omega
theorem rnds_nodes (h0 : checkN N = 0) {h : Nat} (hh : h ≤ 16) : rndsR N.length h = ((N.length * (h + 1) : Nat) : Int) := by
 have := check_len64 h0
 unfold rndsR
 rw [if_pos ⟨by omega, by omega, by omega, by omega⟩]
 push_cast
 rfl
theorem rnds_le (h0 : checkN N = 0) {h : Nat} (hh : h ≤ 16) : N.length * (h + 1) ≤ 1088 := by
 have := check_len64 h0
 exact Nat.le_trans (Nat.mul_le_mul (show N.length ≤ 64 by omega) (show h + 1 ≤ 17 by omega)) (by omega)
theorem run_len (h0 : checkN N = 0) {h : Nat} (hh : h ≤ 16) (r : Int) : (repN N P h r).length = N.length := by
 unfold repN
 rw [if_pos (lvl_of (by omega) (by omega))]
 cases (max (min r 4096) 0).toNat with
 | zero => show (normalN N P).length = _; unfold normalN; rw [if_pos h0, List.length_map, sortN_length]
 | succ t => show (rRoundN N _ h).length = _; rw [rround_map h0 hh, List.length_map, sortN_length]
def staleP (N : List Nd) (p : Pr) : Nat := ((([p.left, p.right] ++ p.known) ++ p.near.flatMap nums4).filter fun id => !(id == 0) && (!(findN N id).2 || id == p.id)).length
def staleN (N : List Nd) (P : List Pr) : Nat := ((normalN N P).map (staleP N)).sum
end
theorem rounds18_p (n h : Int) (w : World) : Calls Tryz.prog 43 #[.int .i64 n, .int .i64 h] w fun e w' => e = .returned (.int .i64 (rndsR n h)) ∧ w = w' := by
 by_cases hb : 0 ≤ n ∧ n ≤ 64 ∧ 0 ≤ h ∧ h ≤ 16
 ·have E : Hid (rndsR n h = n * (h + 1)) := Lib.hid (if_pos hb)
  obtain ⟨h1, h2, h3, h4⟩ := hb
  have hw1 : IntKind.i64.wrap (h + 1) = h + 1 := IntWalk.i64_in _ (by omega)
  have hwr : IntKind.i64.wrap (n * (h + 1)) = n * (h + 1) := IntWalk.i64_in _ (by
   have a1 : 0 ≤ n * (h + 1) := Int.mul_nonneg h1 (by omega)
   have a2 : n * (h + 1) ≤ 64 * 17 := Int.le_trans (Int.mul_le_mul_of_nonneg_right h2 (by omega)) (Int.mul_le_mul_of_nonneg_left (by omega) (by omega))
   omega)
  have d1 : decide (n < 0) = false := by simp; omega
  have d2 : decide (n > 64) = false := by simp; omega
  have d3 : decide (h < 0) = false := by simp; omega
  have d4 : decide (h > 16) = false := by simp; omega
  clear h1 h2 h3 h4
  go_enter Tryz.func43, Tryz.ntmps43
  go_wp2_with fail
  go_ret
  exact ⟨by rw [E.out]; rfl, rfl⟩
 ·have E : Hid (rndsR n h = 0) := Lib.hid (if_neg hb)
  have hb2 : n < 0 ∨ n > 64 ∨ h < 0 ∨ h > 16 := by omega
  clear hb
  rcases hb2 with hb | hb | hb | hb
  ·have d1 : decide (n < 0) = true := by simpa using hb
   clear hb
   go_enter Tryz.func43, Tryz.ntmps43
   go_wp2_with fail
   go_ret
   exact ⟨by rw [E.out]; rfl, rfl⟩
  ·have d1 : decide (n < 0) = false := by simp; omega
   have d2 : decide (n > 64) = true := by simpa using hb
   clear hb
   go_enter Tryz.func43, Tryz.ntmps43
   go_wp2_with fail
   go_ret
   exact ⟨by rw [E.out]; rfl, rfl⟩
  ·by_cases h1 : n < 0
   ·clear hb
    go_enter Tryz.func43, Tryz.ntmps43
    go_wp2_with fail
    go_ret
    exact ⟨by rw [E.out]; rfl, rfl⟩
   by_cases h2 : n > 64
   ·clear hb
    go_enter Tryz.func43, Tryz.ntmps43
    go_wp2_with fail
    go_ret
    exact ⟨by rw [E.out]; rfl, rfl⟩
   go_enter Tryz.func43, Tryz.ntmps43
   go_wp2_with fail
   go_ret
   exact ⟨by rw [E.out]; rfl, rfl⟩
  ·have h3 : ¬ h < 0 := by omega
   by_cases h1 : n < 0
   ·clear hb
    go_enter Tryz.func43, Tryz.ntmps43
    go_wp2_with fail
    go_ret
    exact ⟨by rw [E.out]; rfl, rfl⟩
   by_cases h2 : n > 64
   ·clear hb
    go_enter Tryz.func43, Tryz.ntmps43
    go_wp2_with fail
    go_ret
    exact ⟨by rw [E.out]; rfl, rfl⟩
   go_enter Tryz.func43, Tryz.ntmps43
   go_wp2_with fail
   go_ret
   exact ⟨by rw [E.out]; rfl, rfl⟩
theorem run_no {N : List Nd} {P : List Pr} {h r : Int} (hh : lvlN h = false) : repN N P h r = [] := by unfold repN; rw [if_neg (by rw [hh]; simp)]
theorem rrs_len {N : List Nd} {Q : List Pr} (hQ : Q.length ≤ 1000) (hN : N.length ≤ 1000) (k : Int) : ∀ t, (rRunsN N Q k t).length ≤ 1000
 | 0 => hQ
 | _ + 1 => Nat.le_trans (rr_len N _ k) hN
def RuRel (N : List Nd) (Q : List Pr) (h : Int) (R : Nat) (w : World) (o i : Value) (wr : World) : Prop :=
 ∃ (j : Nat) (qs : List PQ), j ≤ R ∧ i = .int .i64 j ∧ OwnPr w.heap.size wr o qs (rRunsN N Q h j) ∧ Ex w wr
set_option maxRecDepth 100000 in
set_option maxHeartbeats 8000000 in
theorem run_p (a : Option Addr) (n c : Nat) (N : List Nd) (a2 : Option Addr) (n2 c2 : Nat) (P : List Pr) (hh r : Int) (w : World) (h : Sl 3 encN w a n N) (hn : n ≤ 1000) (hc : n ≤ c) (hm : c ≤ maxLen) (hw : ∀ x ∈ N, x.word < 4294967296) (h2 : PL w a2 n2 P) (hn2 : n2 ≤ 4000000000000000000) (hP : SmallP P) :
  Calls Tryz.prog 48 #[.slice a n c, .slice a2 n2 c2, .int .i64 hh, .int .i64 r] w (PlPost (repN N P hh r) w) := by
 have HL := Lib.hid h.len
 have HW := Lib.hid hw
 clear hw
 have NO : Hid (lvlN hh = false → PlPost (repN N P hh r) w (.returned (.slice none 0 0)) w) := Lib.hid (fun h => by
  rw [run_no h]
  exact ⟨_, [], rfl, OwnP.nil _ _ _ _ _, Ex.refl _⟩)
 by_cases h0 : hh < 0
 ·have FI := Lib.hid (NO.out (by unfold lvlN; simp; omega))
  clear h h2 hP NO
  go_enter Tryz.func48, Tryz.ntmps48
  go_wp2_with fail
  go_ret
  exact FI.out
 by_cases h1 : hh > 16
 ·have FI := Lib.hid (NO.out (by unfold lvlN; simp; omega))
  clear h h2 hP NO
  go_enter Tryz.func48, Tryz.ntmps48
  go_wp2_with fail
  go_ret
  exact FI.out
 have HE : Hid (repN N P hh r = rRunsN N (normalN N P) hh (max (min r 4096) 0).toNat) := Lib.hid (by unfold repN; rw [if_pos (lvl_of (by omega) (by omega))])
 clear NO
 go_enter Tryz.func48, Tryz.ntmps48
 have HS := Lib.hid h
 go_wp2_with fail
 (with_reducible refine (normal_p _ _ _ N _ _ _ P _ h hn hc hm h2 hn2 hP).mono ?_)
 rintro e w1 ⟨v1, qs, rfl, own, kk⟩
 have K1 := Lib.hid kk
 have HQ1 := Lib.hid (Nat.le_trans (normal_le N P).1 (by have := HL.out; omega : N.length ≤ 1000))
 have HQS := Lib.hid (normal_small N hP)
 have OWN := Lib.hid own
 have hN : N.length ≤ 1000 := by have := HL.out; omega
 generalize normalN N P = Q at own OWN HE HQ1 HQS
 clear h h2 hP kk own
 obtain ⟨R, hR⟩ : ∃ R : Nat, max (min r 4096) 0 = (R : Int) := ⟨(max (min r 4096) 0).toNat, by omega⟩
 have HE2 : Hid (repN N P hh r = rRunsN N Q hh R) := Lib.hid (by rw [HE.out, hR, Int.toNat_natCast])
 have hR2 : R ≤ 4096 := by omega
 clear HE
 go_wp2_with fail
 go_loopw [9, 22] (fun o i wr => RuRel N Q hh R w o i wr) (fun _ i _ => R - (intOf i).toNat)
 case atStart => exact ⟨0, qs, by omega, rfl, OWN.out, K1.out⟩
 case round =>
  obtain ⟨j, qz, hj, rfl, own, kz⟩ := hrel
  obtain ⟨wi, rfl⟩ : ∃ wi : World, wi = wr := ⟨_, rfl⟩
  have KZ := Lib.hid kz
  clear kz
  obtain ⟨a3, c3, rfl, PL3, _, _, _, _⟩ := own.pl
  by_cases hjm : j < R
  ·have hl3 : (rRunsN N Q hh j).length ≤ 1000 := rrs_len HQ1.out hN hh j
   have SM := Lib.hid (rruns_small (N := N) hN HQS.out hh j)
   have ST : Hid (rRoundN N (rRunsN N Q hh j) hh = rRunsN N Q hh (j + 1)) := Lib.hid rfl
   generalize rRunsN N Q hh j = X at PL3 hl3 SM ST own ⊢
   have PH := Lib.hid PL3
   clear own PL3
   go_wp2_with fail
   (with_reducible refine (rround_p _ _ _ N _ _ _ X hh _ (HS.out.nx KZ.out) hn hc hm HW.out PH.out (by omega) SM.out).mono ?_)
   rintro e w5 ⟨v5, q5, rfl, own5, kk⟩
   have FN := Lib.hid (show RuRel N Q hh R w v5 (.int .i64 ((j : Int) + 1)) w5 from ⟨j + 1, q5, by omega, by go_num, by rw [← ST.out]; exact own5.lower KZ.out.size, KZ.out.nx kk⟩)
   clear own5 kk
   go_wp2_with fail
   exact ⟨FN.out, by simp [intOf]; omega⟩
  ·obtain rfl : j = R := by omega
   clear PL3
   have FN := Lib.hid (show PlPost (repN N P hh r) w (.returned (.slice a3 (rRunsN N Q hh j).length c3)) wi from ⟨_, qz, rfl, by rw [HE2.out]; exact own, KZ.out⟩)
   clear own hj hjm
   go_wp2_with fail
   go_ret
   exact FN.out
theorem needF_yes {N : List Nd} {P : List Pr} {h : Int} {f k : Nat} (he : exactB N (rRunsN N P h k) h = true) : needF N P h f k = ((k : Int), true) := by
 cases f <;> · unfold needF; rw [if_pos he]
theorem needF_no {N : List Nd} {P : List Pr} {h : Int} {k : Nat} (he : exactB N (rRunsN N P h k) h = false) : needF N P h 0 k = (0, false) := by
 unfold needF; rw [if_neg (by rw [he]; simp)]
theorem needF_next {N : List Nd} {P : List Pr} {h : Int} {f k : Nat} (he : exactB N (rRunsN N P h k) h = false) : needF N P h (f + 1) k = needF N P h f (k + 1) := by
 conv => lhs; unfold needF
 rw [if_neg (by rw [he]; simp)]
theorem needed_no {N : List Nd} {P : List Pr} {h : Int} (hh : ¬ (checkN N = 0 ∧ lvlN h = true)) : neededN N P h = (0, false) := by unfold neededN; rw [if_neg hh]
def NeedRel (N : List Nd) (Q : List Pr) (h : Int) (R : Nat) (z : Int × Bool) (w : World) (o i : Value) (wr : World) : Prop :=
 ∃ (j : Nat) (qs : List PQ), j ≤ R ∧ i = .int .i64 j ∧ OwnPr w.heap.size wr o qs (rRunsN N Q h j) ∧ z = needF N Q h (R - j) j ∧ Ex w wr
set_option maxRecDepth 100000 in
set_option maxHeartbeats 8000000 in
theorem needed_p (a : Option Addr) (n c : Nat) (N : List Nd) (a2 : Option Addr) (n2 c2 : Nat) (P : List Pr) (hh : Int) (w : World) (h : Sl 3 encN w a n N) (hn : n ≤ 1000) (hc : n ≤ c) (hm : c ≤ maxLen) (hw : ∀ x ∈ N, x.word < 4294967296) (hT : TabG w) (h2 : PL w a2 n2 P) (hn2 : n2 ≤ 4000000000000000000) (hP : SmallP P) :
  Calls Tryz.prog 50 #[.slice a n c, .slice a2 n2 c2, .int .i64 hh] w fun e w' => e = .returned (.tuple #[.int .i64 (neededN N P hh).1, .bool (neededN N P hh).2]) ∧ Ex w w' := by
 have HL := Lib.hid h.len
 have HW := Lib.hid hw
 have EX := Ex.refl w
 have HS := Lib.hid h
 have HT := Lib.hid hT
 have H2 := Lib.hid h2
 have HP := Lib.hid hP
 clear hw hT h2 hP
 go_enter Tryz.func50, Tryz.ntmps50
 go_wp2_with fail
 go_step3
 go_wp2_with fail
 (with_reducible refine (check_p _ _ _ _ _ h (by omega) hc hm).mono ?_)
 rintro e w1 ⟨rfl, kk⟩
 replace EX := EX.nx kk
 clear h
 have EX := Lib.hid EX
 clear kk
 by_cases hck : checkN N = 0
 case neg =>
  have d1 : (checkN N != 0) = true := by simpa using hck
  have E0 : Hid (neededN N P hh = (0, false)) := Lib.hid (needed_no (fun q => hck q.1))
  clear hck
  go_wp2_with fail
  rw [Exit.noGoto_ret]
  go_ret2
  exact ⟨by rw [E0.out]; rfl, EX.out⟩
 have d1 : (checkN N != 0) = false := by simpa using hck
 by_cases h0 : hh < 0
 ·have E0 : Hid (neededN N P hh = (0, false)) := Lib.hid (needed_no (fun q => by have := q.2; unfold lvlN at this; simp at this; omega))
  clear hck
  go_wp2_with fail
  rw [Exit.noGoto_ret]
  go_ret2
  exact ⟨by rw [E0.out]; rfl, EX.out⟩
 by_cases h1 : hh > 16
 ·have E0 : Hid (neededN N P hh = (0, false)) := Lib.hid (needed_no (fun q => by have := q.2; unfold lvlN at this; simp at this; omega))
  clear hck
  go_wp2_with fail
  rw [Exit.noGoto_ret]
  go_ret2
  exact ⟨by rw [E0.out]; rfl, EX.out⟩
 obtain ⟨ht, rfl⟩ := Int.eq_ofNat_of_zero_le (show 0 ≤ hh by omega)
 have hht : ht ≤ 16 := by omega
 have ER := Lib.hid (rnds_nodes hck hht)
 have hR2 := rnds_le hck hht
 have HE : Hid (neededN N P ht = needF N (normalN N P) ht (N.length * (ht + 1)) 0) := Lib.hid (by unfold neededN; rw [if_pos ⟨hck, lvl_of (by omega) (by omega)⟩, ER.out, Int.toNat_natCast])
 generalize N.length * (ht + 1) = R at ER hR2 HE
 have ER2 : Hid (rndsR (n : Int) ht = (R : Int)) := Lib.hid (by rw [← HL.out]; exact ER.out)
 clear hck
 go_wp2_with fail
 (with_reducible refine (normal_p _ _ _ N _ _ _ P _ (HS.out.nx EX.out) hn hc hm (H2.out.nx EX.out) hn2 HP.out).mono ?_)
 rintro e w3 ⟨v3, qs, rfl, own, kk⟩
 have K3 := Lib.hid (EX.out.nx kk)
 have HQ1 := Lib.hid (Nat.le_trans (normal_le N P).1 (by have := HL.out; omega : N.length ≤ 1000))
 have HQS := Lib.hid (normal_small N HP.out)
 have OWN := Lib.hid (own.lower EX.out.size)
 have hN : N.length ≤ 1000 := by have := HL.out; omega
 generalize normalN N P = Q at OWN HE HQ1 HQS
 clear kk own
 obtain ⟨z, hz0⟩ : ∃ z, neededN N P ht = z := ⟨_, rfl⟩
 rw [hz0] at HE
 have HZ0 := Lib.hid hz0
 clear hz0
 go_wp2_with fail
 go_step3
 go_wp2_with fail
 go_loopw [8, 9] (fun o i wr => NeedRel N Q ht R z w o i wr) (fun _ i _ => R - (intOf i).toNat)
 case atStart => exact ⟨0, qs, by omega, rfl, OWN.out, HE.out, K3.out⟩
 case round =>
  obtain ⟨j, qz, hj, rfl, own, hz, kz⟩ := hrel
  obtain ⟨wi, rfl⟩ : ∃ wi : World, wi = wr := ⟨_, rfl⟩
  have KZ := Lib.hid kz
  have HZ := Lib.hid hz
  obtain ⟨a3, c3, rfl, PL3, _, _, _, _⟩ := own.pl
  have hl3 : (rRunsN N Q ht j).length ≤ 1000 := rrs_len HQ1.out hN ht j
  have SM := Lib.hid (rruns_small (N := N) hN HQS.out ht j)
  have ST : Hid (rRoundN N (rRunsN N Q ht j) ht = rRunsN N Q ht (j + 1)) := Lib.hid rfl
  have YES := Lib.hid (fun he => needF_yes (N := N) (P := Q) (h := ht) (f := R - j) (k := j) he)
  have NOT := Lib.hid (fun he => needF_no (N := N) (P := Q) (h := ht) (k := j) he)
  have NXT := Lib.hid (fun f he => needF_next (N := N) (P := Q) (h := ht) (f := f) (k := j) he)
  generalize rRunsN N Q ht j = X at PL3 hl3 SM ST YES NOT NXT
  have PH := Lib.hid PL3
  clear own PL3 kz hz
  go_wp2_with fail
  (with_reducible refine (bexact_p _ _ _ N _ _ _ X ht _ (HS.out.nx KZ.out) hn hc hm HW.out (HT.out.nx KZ.out) PH.out (by omega) SM.out).mono ?_)
  rintro e w5 ⟨rfl, kk⟩
  replace KZ := Lib.hid (KZ.out.nx kk)
  replace PH := Lib.hid (PH.out.nx kk)
  clear kk
  cases hb : exactB N X ht with
  | true =>
   have EZ : Hid (z = ((j : Int), true)) := Lib.hid (HZ.out.trans (YES.out hb))
   have HB := Lib.hid hb
   clear hb
   go_wp2_with fail
   (with_reducible refine (bexact_p _ _ _ N _ _ _ X ht _ (HS.out.nx KZ.out) hn hc hm HW.out (HT.out.nx KZ.out) PH.out (by omega) SM.out).mono ?_)
   rintro e w6 ⟨rfl, kk⟩
   rw [HB.out]
   replace KZ := Lib.hid (KZ.out.nx kk)
   clear kk
   go_wp2_with fail
   rw [Exit.noGoto_ret]
   go_ret2
   exact ⟨by rw [HZ0.out, EZ.out]; rfl, KZ.out⟩
  | false =>
   have HB := Lib.hid hb
   clear hb
   go_wp2_with fail
   (with_reducible refine (rounds18_p (n : Int) (ht : Int) _).mono ?_)
   rintro e w6 ⟨rfl, hw6⟩
   subst hw6
   rw [ER2.out]
   by_cases hjR : j = R
   ·subst hjR
    have EZ : Hid (z = (0, false)) := Lib.hid (HZ.out.trans (by rw [Nat.sub_self]; exact NOT.out HB.out))
    have dj : ((j : Int) == (j : Int)) = true := by simp
    go_wp2_with fail
    (with_reducible refine (bexact_p _ _ _ N _ _ _ X ht _ (HS.out.nx KZ.out) hn hc hm HW.out (HT.out.nx KZ.out) PH.out (by omega) SM.out).mono ?_)
    rintro e w6 ⟨rfl, kk⟩
    rw [HB.out]
    replace KZ := Lib.hid (KZ.out.nx kk)
    clear kk
    go_wp2_with fail
    rw [Exit.noGoto_ret]
    go_ret2
    exact ⟨by rw [HZ0.out, EZ.out]; rfl, KZ.out⟩
   ·have dj : ((j : Int) == (R : Int)) = false := by simp; omega
    have EZ : Hid (z = needF N Q ht (R - (j + 1)) (j + 1)) := Lib.hid (HZ.out.trans (by rw [show R - j = (R - (j + 1)) + 1 by omega]; exact NXT.out _ HB.out))
    go_wp2_with fail
    (with_reducible refine (rround_p _ _ _ N _ _ _ X ht _ (HS.out.nx KZ.out) hn hc hm HW.out PH.out (by omega) SM.out).mono ?_)
    rintro e w7 ⟨v7, q7, rfl, own7, kk⟩
    have FN := Lib.hid (show NeedRel N Q ht R z w v7 (.int .i64 ((j : Int) + 1)) w7 from ⟨j + 1, q7, by omega, by go_num, by rw [← ST.out]; exact own7.lower KZ.out.size, EZ.out, KZ.out.nx kk⟩)
    clear own7 kk
    go_wp2_with fail
    exact ⟨FN.out, by simp [intOf]; omega⟩
theorem sum_leR : ∀ (l : List Nat) (M : Nat), (∀ x ∈ l, x ≤ M) → l.sum ≤ l.length * M
 | [], _, _ => by simp
 | a :: l, M, h => by
  have h1 := h a (by simp)
  have h2 := sum_leR l M fun x hx => h x (by simp [hx])
  rw [List.sum_cons, List.length_cons, Nat.succ_mul]
  omega
def stQ (N : List Nd) (p : Pr) (id : Int) : Bool := !(id == 0) && (!(findN N id).2 || id == p.id)
def rowP (p : Pr) : List Int := ([p.left, p.right] ++ p.known) ++ p.near.flatMap nums4
theorem stale_eq (N : List Nd) (p : Pr) : staleP N p = ((rowP p).filter (stQ N p)).length := rfl
theorem row_len {p : Pr} (h : p.known.length ≤ 2000000 ∧ p.near.length ≤ 2000000) : (rowP p).length ≤ 10000002 := by
 unfold rowP
 rw [List.length_append, List.length_append, nums_len]
 simp only [List.length_cons, List.length_nil]
 omega
theorem stale_le (N : List Nd) {Q : List Pr} (h : ∀ p ∈ Q, p.known.length ≤ 2000000 ∧ p.near.length ≤ 2000000) (j : Nat) (hj : j ≤ 1000) : ((Q.take j).map (staleP N)).sum ≤ 1000 * 10000002 := by
 refine Nat.le_trans (sum_leR _ 10000002 fun x hx => ?_) (Nat.mul_le_mul_right _ (by rw [List.length_map, List.length_take]; omega))
 obtain ⟨p, hp, rfl⟩ := List.mem_map.1 hx
 exact Nat.le_trans (List.length_filter_le _ _) (row_len (h p (List.mem_of_mem_take hp)))
theorem stale_snoc (N : List Nd) {Q : List Pr} {j : Nat} {y : Pr} (hy : Q[j]? = some y) : ((Q.take (j + 1)).map (staleP N)).sum = ((Q.take j).map (staleP N)).sum + staleP N y := by
 rw [List.take_add_one, hy]
 simp
theorem filtR_snoc {q : Int → Bool} {L : List Int} {i : Nat} {x : Int} (hx : L[i]? = some x) : ((L.take (i + 1)).filter q).length = ((L.take i).filter q).length + (if q x = true then 1 else 0) := by
 rw [List.take_add_one, hx, List.filter_append, List.length_append]
 cases h : q x <;> simp [h]
theorem normal_sm2 {N : List Nd} {P : List Pr} {M : Nat} (h : ∀ p ∈ P, p.known.length ≤ M ∧ p.near.length ≤ M) : ∀ p ∈ normalN N P, p.known.length ≤ M ∧ p.near.length ≤ M := by
 intro q hq
 unfold normalN at hq
 split at hq
 ·obtain ⟨x, _, rfl⟩ := List.mem_map.1 hq
  unfold peerN
  cases hf : P.find? fun p => p.id == x.id with
  | none => exact ⟨Nat.zero_le _, Nat.zero_le _⟩
  | some q => exact h q (List.mem_of_find?_eq_some hf)
 ·cases hq
def StRel (N : List Nd) (Q : List Pr) (w : World) (o i : Value) (wr : World) : Prop :=
 ∃ j : Nat, j ≤ Q.length ∧ i = .int .i64 j ∧ o = .int .i64 (((Q.take j).map (staleP N)).sum : Nat) ∧ Ex w wr
def SiRel (N : List Nd) (p : Pr) (L : List Int) (C0 : Nat) (w : World) (o i : Value) (wr : World) : Prop :=
 ∃ j : Nat, j ≤ L.length ∧ i = .int .i64 j ∧ o = .int .i64 ((C0 + ((L.take j).filter (stQ N p)).length : Nat)) ∧ Ex w wr
set_option maxRecDepth 100000 in
set_option maxHeartbeats 16000000 in
theorem stale_p (a : Option Addr) (n c : Nat) (N : List Nd) (a2 : Option Addr) (n2 c2 : Nat) (P : List Pr) (w : World) (h : Sl 3 encN w a n N) (hn : n ≤ 1000) (hc : n ≤ c) (hm : c ≤ maxLen) (h2 : PL w a2 n2 P) (hn2 : n2 ≤ 4000000000000000000) (hP : ∀ p ∈ P, p.known.length ≤ 2000000 ∧ p.near.length ≤ 2000000) :
  Calls Tryz.prog 53 #[.slice a n c, .slice a2 n2 c2] w fun e w' => e = .returned (.int .i64 (staleN N P)) ∧ Ex w w' := by
 have HL := Lib.hid h.len
 have HS := Lib.hid h
 have SM := Lib.hid (show SmallP P from fun p hp => by have := hP p hp; omega)
 have S2 := Lib.hid (normal_sm2 (N := N) hP)
 have HE : Hid (staleN N P = ((normalN N P).map (staleP N)).sum) := Lib.hid rfl
 clear hP
 go_enter Tryz.func53, Tryz.ntmps53
 go_wp2_with fail
 (with_reducible refine (normal_p _ _ _ N _ _ _ P _ h hn hc hm h2 hn2 SM.out).mono ?_)
 rintro e w3 ⟨v3, qs, rfl, own, kk⟩
 have K3 := Lib.hid kk
 have HQ1 := Lib.hid (Nat.le_trans (normal_le N P).1 (by have := HL.out; omega : N.length ≤ 1000))
 generalize normalN N P = Q at own HE HQ1 S2
 have OWN := Lib.hid own
 obtain ⟨aQ, cQ, rfl, _, _, _, _, _⟩ := own.pl
 clear own kk h h2
 generalize hZ : staleN N P = Z at HE ⊢
 have HE0 := Lib.hid hZ
 clear hZ
 go_wp2_with fail
 go_loopw [5, 19] (fun o i wr => StRel N Q w3 o i wr) (fun _ i _ => Q.length - (intOf i).toNat)
 case atStart => exact ⟨0, by omega, rfl, rfl, Ex.refl _⟩
 case round =>
  obtain ⟨j, hj, rfl, rfl, kz⟩ := hrel
  obtain ⟨wi, rfl⟩ : ∃ wi : World, wi = wr := ⟨_, rfl⟩
  have hq1 := HQ1.out
  have hsum := stale_le N S2.out j (by omega)
  have KZ := Lib.hid kz
  by_cases hjm : j < Q.length
  ·have own := OWN.out.nx kz
   obtain ⟨a'', c'', e'', _, _, _, hg'', _⟩ := own.pl
   obtain ⟨g, hge, hgb⟩ := hg'' (fun h => by rw [h] at hjm; simp at hjm)
   injection e'' with e4 e5 e6
   subst e4 e6
   subst hge
   obtain ⟨y, hy⟩ : ∃ y, Q[j]? = some y := ⟨Q[j], by simp⟩
   obtain ⟨⟨B1, k1, f1⟩, ⟨B4, k4, f4⟩, hqs, okn, onr⟩ := own.get hy
   obtain ⟨A1, d1, e1, rk, z1⟩ := okn.rdz (fun _ => rfl)
   obtain ⟨A4, d4, e4, rn, _⟩ := onr.rdz (fun _ => rfl)
   simp only [Hdr.val, Value.slice.injEq] at e1 e4
   obtain ⟨rfl, rfl, rfl⟩ := e1
   obtain ⟨rfl, rfl, rfl⟩ := e4
   have c0 := (OwnW.set1 encQ_len own.1 hqs (c := 0) (by omega)).1
   have c1 := (OwnW.set1 encQ_len own.1 hqs (c := 1) (by omega)).1
   have c2 := (OwnW.set1 encQ_len own.1 hqs (c := 2) (by omega)).1
   have c3 := (OwnW.set1 encQ_len own.1 hqs (c := 3) (by omega)).1
   have c4 := (OwnW.set1 encQ_len own.1 hqs (c := 4) (by omega)).1
   simp only [Hdr.val, encQ, Pr.nums, List.getElem?_cons_zero, List.getElem?_cons_succ] at c0 c1 c2 c3 c4
   rw [Nat.add_zero] at c0
   have hyP := S2.out y (List.mem_of_getElem? hy)
   have HRL := Lib.hid (row_len hyP)
   have SNO := Lib.hid (stale_snoc N hy)
   have SK := Lib.hid (show Sl 1 encI wi B1 y.known.length y.known from rk.mono (fun _ hk => hk.2))
   have SR := Lib.hid (show Sl 4 encNr wi B4 y.near.length y.near from rn.mono (fun _ hk => hk.2))
   obtain ⟨hk2, hn2'⟩ := hyP
   clear own hqs hy okn onr rk rn kz e5
   generalize ((Q.take j).map (staleP N)).sum = C0 at hsum SNO ⊢
   have B7 := Blk.new wi [.int .i64 y.id, .slice B1 y.known.length f1, .int .i64 y.left, .int .i64 y.right, .slice B4 y.near.length f4] 42
   have kk := Ex.new wi (.cells #[.int .i64 y.id, .slice B1 y.known.length f1, .int .i64 y.left, .int .i64 y.right, .slice B4 y.near.length f4] 42)
   obtain ⟨w5, hw5⟩ : ∃ w5, w5 = wi.alloc (.cells #[.int .i64 y.id, .slice B1 y.known.length f1, .int .i64 y.left, .int .i64 y.right, .slice B4 y.near.length f4] 42) := ⟨_, rfl⟩
   obtain ⟨g7, hg7⟩ : ∃ g7, g7 = wi.heap.size := ⟨_, rfl⟩
   replace B7 : Blk w5 g7 [.int .i64 y.id, .slice B1 y.known.length f1, .int .i64 y.left, .int .i64 y.right, .slice B4 y.near.length f4] 42 := by rw [hw5, hg7]; exact B7
   rw [← hw5] at kk
   have Hw5 := Lib.hid hw5
   have Hg7 := Lib.hid hg7
   have K5 := Lib.hid (KZ.out.nx kk)
   have k5 := Lib.hid kk
   clear kk hw5 hg7
   go_upto_region 5 with fail
   rw [← Hg7.out, ← Hw5.out]
   clear Hg7 Hw5
   clear c0 c1 c2 c3 c4
   have q2 := B7.cell 2 _ rfl
   have q3 := B7.cell 3 _ rfl
   have BH := Lib.hid B7
   have LT := Lib.hid (OwnL.lit (w := w5) (base := w5.heap.size) (e := 3) (enc := encI) (sz := 1) [y.left, y.right] (fun _ => rfl) (Nat.le_refl _) (by unfold maxLen; simp) rfl)
   have kl := Lib.hid (Ex.new w5 (.cells #[.int .i64 y.left, .int .i64 y.right] 3))
   have zl := kl.out.size
   have q1 := (BH.out.nx kl.out).cell 1 _ rfl
   have SK5 := Lib.hid ((SK.out.nx k5.out).nx kl.out)
   clear B7
   go_upto_region 6 with (at_builtin; (refine wpList_append_rda (enc := encI) _ rfl _ _ 22 rfl w5.heap.size 3 (.int .i64 0) 1 8 Tryz.underlying22 Tryz.infoI6 rfl (by omega) (by omega) _ [y.left, y.right] LT.out rfl _ _ _ _ y.known SK5.out z1 (fun _ => rfl) (by simp [encI, Value.oneCell']) rfl (by simp) (by omega) zl ?_); intro v9 w9 own9 ch0 ch1 _; replace own9 := Lib.hid own9; have K9 := Lib.hid (show Ex w5 w9 from Chg.trans kl.out ch1); clear ch0 ch1)
   clear q1 q2 q3
   have q4 := (BH.out.nx K9.out).cell 4 _ rfl
   have ROW : Hid (rowP y = ([y.left, y.right] ++ y.known) ++ y.near.flatMap nums4) := Lib.hid rfl
   have hl0 : ([y.left, y.right] ++ y.known).length ≤ 2000002 := by simp; omega
   generalize [y.left, y.right] ++ y.known = l0 at own9 ROW hl0
   have HN4 : Hid (∀ i, i ≤ y.near.length → (l0 ++ (y.near.take i).flatMap nums4).length ≤ 10000002) := Lib.hid (fun i hi => by rw [List.length_append, nums_len, List.length_take]; omega)
   go_wp2_with fail
   go_loopw [8, 34] (fun o i wr => NmRel l0 y.near w5 o i wr) (fun _ i _ => y.near.length - (intOf i).toNat)
   case atStart => exact ⟨0, by omega, rfl, by simpa using own9.out, K9.out⟩
   case round =>
    obtain ⟨i, hi, rfl, own, ki⟩ := hrel
    obtain ⟨wk, rfl⟩ : ∃ wk : World, wk = wr := ⟨_, rfl⟩
    have KI := Lib.hid ki
    have OWR := Lib.hid own
    clear own
    by_cases him : i < y.near.length
    ·obtain ⟨x3, o3, z, rfl, hx3, hz, hc3⟩ := ((SR.out.nx k5.out).nx ki).at him
     have e0 : wk.cell? ⟨x3, o3 + i * 4, none⟩ = some (.int .i64 z.1) := hc3 0 _ rfl
     have e1 : wk.cell? ⟨x3, o3 + i * 4 + 1, none⟩ = some (.int .i64 z.2.1) := hc3 1 _ rfl
     have e2 : wk.cell? ⟨x3, o3 + i * 4 + 2, none⟩ = some (.int .i64 z.2.2.1) := hc3 2 _ rfl
     have e3 : wk.cell? ⟨x3, o3 + i * 4 + 3, none⟩ = some (.int .i64 z.2.2.2) := hc3 3 _ rfl
     have SN := Lib.hid (nm_snoc (l0 := l0) hz)
     have hrl := HN4.out i hi
     generalize l0 ++ (y.near.take i).flatMap nums4 = row at OWR SN hrl
     clear hz hc3 ki
     have B9 := Blk.new wk [.int .i64 z.1, .int .i64 z.2.1, .int .i64 z.2.2.1, .int .i64 z.2.2.2] 75
     have kk := Ex.new wk (.cells #[.int .i64 z.1, .int .i64 z.2.1, .int .i64 z.2.2.1, .int .i64 z.2.2.2] 75)
     obtain ⟨w7, hw7⟩ : ∃ w7, w7 = wk.alloc (.cells #[.int .i64 z.1, .int .i64 z.2.1, .int .i64 z.2.2.1, .int .i64 z.2.2.2] 75) := ⟨_, rfl⟩
     obtain ⟨g9, hg9⟩ : ∃ g9, g9 = wk.heap.size := ⟨_, rfl⟩
     replace B9 : Blk w7 g9 [.int .i64 z.1, .int .i64 z.2.1, .int .i64 z.2.2.1, .int .i64 z.2.2.2] 75 := by rw [hw7, hg9]; exact B9
     rw [← hw7] at kk
     have Hw7 := Lib.hid hw7
     have Hg9 := Lib.hid hg9
     have K7 := Lib.hid (KI.out.nx kk)
     have k7 := Lib.hid kk
     clear kk hw7 hg9
     go_upto_region 9 with fail
     rw [← Hg9.out, ← Hw7.out]
     clear Hg9 Hw7
     clear e0 e1 e2 e3
     have x0 := B9.cell 0 _ rfl
     have x1 := B9.cell 1 _ rfl
     have x2 := B9.cell 2 _ rfl
     have x3 := B9.cell 3 _ rfl
     have kn := Lib.hid (Ex.new w7 (.cells #[.int .i64 z.1, .int .i64 z.2.1, .int .i64 z.2.2.1, .int .i64 z.2.2.2] 3))
     have L8 := Lib.hid (show Sl 1 encI (w7.alloc (.cells #[.int .i64 z.1, .int .i64 z.2.1, .int .i64 z.2.2.1, .int .i64 z.2.2.2] 3)) (some ⟨w7.heap.size, 0, none⟩) 4 (nums4 z) from Sl.lit (nums4 z) rfl rfl (fun _ => rfl) rfl)
     have OW8 := Lib.hid ((OWR.out.nx k7.out).nx kn.out)
     have zn := (K7.out.nx kn.out).size
     clear B9
     go_wp2_with (at_builtin; (refine wpList_append_rda (enc := encI) _ rfl _ _ 22 rfl w5.heap.size 3 (.int .i64 0) 1 8 Tryz.underlying22 Tryz.infoI6 rfl (by omega) (by omega) _ row OW8.out rfl _ _ 4 4 (nums4 z) L8.out (fun h => by cases h) (fun _ => rfl) (by simp [encI, Value.oneCell']) rfl (by omega) (by omega) zn ?_); intro v2 w2 own2 ch0 ch1 _; have FN := Lib.hid (show NmRel l0 y.near w5 v2 (.int .i64 ((i : Int) + 1)) w2 from ⟨i + 1, by omega, by go_num, by rw [SN.out]; exact own2, Chg.trans (K7.out.nx kn.out) ch1⟩); clear own2 ch0 ch1)
     exact ⟨FN.out, by simp [intOf]; omega⟩
    ·obtain rfl : i = y.near.length := by omega
     have EL : Hid (l0 ++ (y.near.take y.near.length).flatMap nums4 = rowP y) := Lib.hid (by rw [List.take_length, ROW.out])
     rw [EL.out] at OWR
     have hrl := HRL.out
     have SEQ := Lib.hid (stale_eq N y)
     generalize rowP y = L at OWR EL hrl ROW SEQ
     obtain ⟨aL, cL, rfl, rL, _⟩ := OWR.out.rdz (fun _ => rfl)
     have SL := Lib.hid (show Sl 1 encI wk aL L.length L from rL.mono (fun _ hk => hk.2))
     have BK := Lib.hid (BH.out.nx KI.out)
     have HS5 := Lib.hid ((HS.out.nx K3.out).nx (K5.out.nx KI.out))
     have KK := Lib.hid (K5.out.nx KI.out)
     have SQ : Hid (stQ N y = fun id => !(id == 0) && (!(findN N id).2 || id == y.id)) := Lib.hid rfl
     clear rL ki him hi q4
     go_wp2_with fail
     go_loopw [5, 52] (fun o i wr => SiRel N y L C0 wk o i wr) (fun _ i _ => L.length - (intOf i).toNat)
     case atStart => exact ⟨0, by omega, rfl, by simp, Ex.refl _⟩
     case round =>
      obtain ⟨s, hs, rfl, rfl, ks⟩ := hrel
      obtain ⟨ws, rfl⟩ : ∃ ws : World, ws = wr := ⟨_, rfl⟩
      have hcl : ((L.take s).filter (stQ N y)).length ≤ 10000002 := Nat.le_trans (List.length_filter_le _ _) (Nat.le_trans (by rw [List.length_take]; omega) hrl)
      have KS := Lib.hid ks
      by_cases hsm : s < L.length
      ·obtain ⟨x3, o3, id, rfl, hx3, hid, hc3⟩ := (SL.out.nx ks).at hsm
       have e0 : ws.cell? ⟨x3, o3 + s * 1, none⟩ = some (.int .i64 id) := hc3 0 _ rfl
       rw [Nat.mul_one] at e0
       have SN := Lib.hid (filtR_snoc (q := stQ N y) hid)
       have QV := Lib.hid (congrFun SQ.out id)
       generalize ((L.take s).filter (stQ N y)).length = C1 at SN hcl ⊢
       have hwr : IntKind.i64.wrap (((C0 + C1 : Nat) : Int) + 1) = ((C0 + C1 : Nat) : Int) + 1 := IntWalk.i64_in _ (by omega)
       clear hid hc3 ks
       go_wp2_with fail
       (with_reducible refine (find_p _ _ _ N id _ (HS5.out.nx KS.out) (by omega)).mono ?_)
       rintro e w6 ⟨rfl, kk⟩
       replace KS := Lib.hid (KS.out.nx kk)
       clear kk e0 hx3
       generalize findN N id = F at QV ⊢
       obtain ⟨⟨xi, xk, xw⟩, ok⟩ := F
       have B5 := Blk.new w6 [.int .i64 xi, .string xk, .int .u32 xw] 78
       have kk := Ex.new w6 (.cells #[.int .i64 xi, .string xk, .int .u32 xw] 78)
       obtain ⟨w8, hw8⟩ : ∃ w8, w8 = w6.alloc (.cells #[.int .i64 xi, .string xk, .int .u32 xw] 78) := ⟨_, rfl⟩
       obtain ⟨g5, hg5⟩ : ∃ g5, g5 = w6.heap.size := ⟨_, rfl⟩
       replace B5 : Blk w8 g5 [.int .i64 xi, .string xk, .int .u32 xw] 78 := by rw [hw8, hg5]; exact B5
       rw [← hw8] at kk
       have Hw8 := Lib.hid hw8
       have Hg5 := Lib.hid hg5
       replace KS := Lib.hid (KS.out.nx kk)
       clear kk hw8 hg5
       simp only [Nd.val]
       go_upto_region 15 with fail
       rw [← Hg5.out, ← Hw8.out]
       clear Hg5 Hw8
       clear B5
       have qi := (BK.out.nx KS.out).cell 0 _ rfl
       have NO : Hid (stQ N y id = false → ∀ x : Value, x = .int .i64 ((C0 + C1 : Nat)) → SiRel N y L C0 wk x (.int .i64 ((s : Int) + 1)) w8) := Lib.hid (fun hq x hx => ⟨s + 1, by omega, by go_num, by rw [hx, SN.out, hq]; simp, KS.out⟩)
       have YES : Hid (stQ N y id = true → SiRel N y L C0 wk (.int .i64 (((C0 + C1 : Nat) : Int) + 1)) (.int .i64 ((s : Int) + 1)) w8) := Lib.hid (fun hq => ⟨s + 1, by omega, by go_num, by rw [SN.out, hq, if_pos rfl]; push_cast; rw [Int.add_assoc], KS.out⟩)
       by_cases hz0 : id = 0
       ·have FN := Lib.hid (NO.out (by rw [QV.out]; simp [hz0]) _ rfl)
        have dz : (id != 0) = false := by simp [hz0]
        clear hz0
        go_wp2_with fail
        exact ⟨FN.out, by simp [intOf]; omega⟩
       have dz : (id != 0) = true := by simpa using hz0
       cases ok with
       | false =>
        have FN := Lib.hid (YES.out (by rw [QV.out]; simp [hz0]))
        clear hz0
        go_wp2_with fail
        exact ⟨FN.out, by simp [intOf]; omega⟩
       | true =>
        by_cases he : id = y.id
        ·have FN := Lib.hid (YES.out (by rw [QV.out]; simp [he, show ¬ y.id = 0 from he ▸ hz0]))
         have de : (id == y.id) = true := by simp [he]
         clear hz0 he
         go_wp2_with fail
         exact ⟨FN.out, by simp [intOf]; omega⟩
        ·have FN := Lib.hid (NO.out (by rw [QV.out]; simp [he]) _ rfl)
         have de : (id == y.id) = false := by simp [he]
         clear hz0 he
         go_wp2_with fail
         exact ⟨FN.out, by simp [intOf]; omega⟩
      ·obtain rfl : s = L.length := by omega
       have FN := Lib.hid (show StRel N Q w3 (.int .i64 ((C0 + ((L.take L.length).filter (stQ N y)).length : Nat))) (.int .i64 ((j : Int) + 1)) ws from ⟨j + 1, by omega, by go_num, by rw [SNO.out, SEQ.out, List.take_length], KK.out.nx KS.out⟩)
       clear hs hsm ks hcl
       go_wp2_with fail
       exact ⟨FN.out, by simp [intOf]; omega⟩
  ·obtain rfl : j = Q.length := by omega
   rw [List.take_length, ← HE.out]
   have KF := Lib.hid (K3.out.nx KZ.out)
   clear hj hjm kz
   go_wp2_with fail
   go_ret
   exact ⟨by rw [HE0.out]; rfl, KF.out⟩
def twoN : List Nd := [⟨1, ⟨#[97]⟩, 0⟩, ⟨2, ⟨#[98]⟩, 2⟩]
def twoP : List Pr := [⟨2, 0, 0, [], [(0, 0, 0, 1)]⟩]
def twoK : List Pr := [⟨2, 0, 0, [1, 9], []⟩]
def twoR : List Pr := repN twoN twoP 1 4
theorem twoW : ∀ x ∈ twoN, x.word < 4294967296 := by decide +kernel
theorem two_len : twoR.length = 2 := by decide +kernel
theorem two_small : twoR.all (fun p => decide (p.known.length ≤ 10) && decide (p.near.length ≤ 10)) = true := by decide +kernel
theorem two_sm : SmallP twoR := fun p hp => by
 have := List.all_eq_true.1 two_small p hp
 simp only [Bool.and_eq_true, decide_eq_true_eq] at this
 omega
theorem two_b : (buildN twoN 1).2 = 0 := by decide +kernel
theorem two_exact : exactB twoN twoR 1 = true := by
 rw [exactB_eq two_b]
 exact decide_eq_true (by decide +kernel)
theorem two_no : exactB twoN (rRunsN twoN (normalN twoN twoK) 1 0) 1 = false := by
 rw [exactB_eq two_b]
 exact decide_eq_false (by decide +kernel)
theorem two_yes : exactB twoN (rRunsN twoN (normalN twoN twoK) 1 4) 1 = true := by
 rw [exactB_eq two_b]
 exact decide_eq_true (by decide +kernel)
theorem need_ge {N : List Nd} {P : List Pr} {h : Int} : ∀ {f k m : Nat}, needF N P h f k = ((m : Int), true) → k ≤ m
 | 0, k, m, he => by
  unfold needF at he
  split at he
  ·simp only [Prod.mk.injEq] at he; omega
  ·simp at he
 | f + 1, k, m, he => by
  unfold needF at he
  split at he
  ·simp only [Prod.mk.injEq] at he; omega
  ·have := need_ge he; omega
theorem two_need : ∃ m : Nat, neededN twoN twoK 1 = ((m : Int), true) ∧ 0 < m ∧ m ≤ 4 := by
 have e : neededN twoN twoK 1 = needF twoN (normalN twoN twoK) 1 4 0 := by
  unfold neededN
  rw [if_pos ⟨by decide +kernel, by decide +kernel⟩]
  rfl
 rw [e, needF_next two_no]
 obtain ⟨m, h1, h2⟩ := need_law (N := twoN) (P := normalN twoN twoK) (h := 1) (f := 3) (k := 1) two_yes
 exact ⟨m, h1, by have := need_ge h1; omega, by omega⟩
theorem two_rnds : rndsR 2 1 = 4 := by decide +kernel
theorem two_stale : staleN twoN twoK = 1 := by decide +kernel
theorem two_round : (rRoundN twoN twoR 1).length = 2 := by decide +kernel
theorem twoLitN (w : World) : ∃ g v, g = w.heap.size ∧ v = w.alloc (.cells #[.int .i64 1, .string ⟨#[97]⟩, .int .u32 0, .int .i64 2, .string ⟨#[98]⟩, .int .u32 2] 78) ∧ Sl 3 encN v (some ⟨g, 0, none⟩) 2 twoN ∧ Ex w v :=
 ⟨_, _, rfl, rfl, Sl.lit twoN rfl rfl (fun _ => rfl) rfl, Ex.new _ _⟩
theorem twoLitP (w : World) : ∃ g v, g = w.heap.size + 1 ∧ v = (w.alloc (.cells #[.int .i64 0, .int .i64 0, .int .i64 0, .int .i64 1] 75)).alloc (.cells #[.int .i64 2, .slice none 0 0, .int .i64 0, .int .i64 0, .slice (some ⟨w.heap.size, 0, none⟩) 1 1] 42) ∧
  PL v (some ⟨g, 0, none⟩) 1 twoP ∧ Ex w v := by
 have k1 := Ex.new w (.cells #[.int .i64 0, .int .i64 0, .int .i64 0, .int .i64 1] 75)
 have s1 : Sl 4 encNr (w.alloc (.cells #[.int .i64 0, .int .i64 0, .int .i64 0, .int .i64 1] 75)) (some ⟨w.heap.size, 0, none⟩) 1 [(0, 0, 0, 1)] := Sl.lit [(0, 0, 0, 1)] rfl rfl (fun _ => rfl) rfl
 generalize hu : w.alloc (.cells #[.int .i64 0, .int .i64 0, .int .i64 0, .int .i64 1] 75) = u at *
 have hz : u.heap.size = w.heap.size + 1 := by rw [← hu]; simp
 have k2 := Ex.new u (.cells #[.int .i64 2, .slice none 0 0, .int .i64 0, .int .i64 0, .slice (some ⟨w.heap.size, 0, none⟩) 1 1] 42)
 refine ⟨_, _, hz, rfl, ⟨[((2, 0, 0), (none, 0, 0), (some ⟨w.heap.size, 0, none⟩, 1, 1))], ?_, rfl, fun j q p hq hp => ?_⟩, k1.nx k2⟩
 ·exact Sl.lit (enc := encQ) (sz := 5) (w := u) (s := u.heap.size) (ty := 42) (n := 1) [((2, 0, 0), (none, 0, 0), (some ⟨w.heap.size, 0, none⟩, 1, 1))] rfl rfl encQ_len rfl
 ·rcases j with _ | j
  ·simp only [List.getElem?_cons_zero, Option.some.injEq, twoP] at hq hp
   subst hq hp
   exact ⟨rfl, Sl.nil _ _ _ _, s1.nx k2⟩
  ·simp at hq
theorem twoLitK (w : World) : ∃ g v, g = w.heap.size + 1 ∧ v = (w.alloc (.cells #[.int .i64 1, .int .i64 9] 3)).alloc (.cells #[.int .i64 2, .slice (some ⟨w.heap.size, 0, none⟩) 2 2, .int .i64 0, .int .i64 0, .slice none 0 0] 42) ∧
  PL v (some ⟨g, 0, none⟩) 1 twoK ∧ Ex w v := by
 have k1 := Ex.new w (.cells #[.int .i64 1, .int .i64 9] 3)
 have s1 : Sl 1 encI (w.alloc (.cells #[.int .i64 1, .int .i64 9] 3)) (some ⟨w.heap.size, 0, none⟩) 2 [1, 9] := Sl.lit [1, 9] rfl rfl (fun _ => rfl) rfl
 generalize hu : w.alloc (.cells #[.int .i64 1, .int .i64 9] 3) = u at *
 have hz : u.heap.size = w.heap.size + 1 := by rw [← hu]; simp
 have k2 := Ex.new u (.cells #[.int .i64 2, .slice (some ⟨w.heap.size, 0, none⟩) 2 2, .int .i64 0, .int .i64 0, .slice none 0 0] 42)
 refine ⟨_, _, hz, rfl, ⟨[((2, 0, 0), (some ⟨w.heap.size, 0, none⟩, 2, 2), (none, 0, 0))], ?_, rfl, fun j q p hq hp => ?_⟩, k1.nx k2⟩
 ·exact Sl.lit (enc := encQ) (sz := 5) (w := u) (s := u.heap.size) (ty := 42) (n := 1) [((2, 0, 0), (some ⟨w.heap.size, 0, none⟩, 2, 2), (none, 0, 0))] rfl rfl encQ_len rfl
 ·rcases j with _ | j
  ·simp only [List.getElem?_cons_zero, Option.some.injEq, twoK] at hq hp
   subst hq hp
   exact ⟨rfl, s1.nx k2, Sl.nil _ _ _ _⟩
  ·simp at hq
theorem small3 {P : List Pr} (h : ∀ p ∈ P, p.known.length ≤ 2000000 ∧ p.near.length ≤ 2000000) : SmallP P := fun p hp => by have := h p hp; omega
theorem twoP_sm : ∀ p ∈ twoP, p.known.length ≤ 2000000 ∧ p.near.length ≤ 2000000 := by decide +kernel
theorem twoK_sm : ∀ p ∈ twoK, p.known.length ≤ 2000000 ∧ p.near.length ≤ 2000000 := by decide +kernel
set_option maxRecDepth 100000 in
set_option maxHeartbeats 8000000 in
theorem sane18_x (w : World) (hT : TabG w) : Calls Tryz.prog 47 #[] w fun e w' => e = .returned (.bool true) ∧ Ex w w' := by
 go_enter Tryz.func47, Tryz.ntmps47
 obtain ⟨g1, w1, hg1, hw1, S1, kk⟩ := twoLitN w
 have T := Lib.hid (hT.nx kk)
 have K := Lib.hid kk
 have HS := Lib.hid S1
 have Hg := Lib.hid hg1
 have Hw := Lib.hid hw1
 clear hg1 hw1 S1 kk hT
 go_upto_region 2 with fail
 rw [← Hw.out, ← Hg.out]
 clear Hw Hg
 obtain ⟨g2, w2, hg2, hw2, P2, kk⟩ := twoLitP w1
 replace T := Lib.hid (T.out.nx kk)
 replace K := Lib.hid (K.out.nx kk)
 replace HS := Lib.hid (HS.out.nx kk)
 have HP := Lib.hid P2
 have Hg := Lib.hid hg2
 have Hw := Lib.hid hw2
 clear hg2 hw2 P2 kk
 go_wp2_with fail
 rw [← Hw.out, ← Hg.out]
 clear Hw Hg
 (with_reducible refine (run_p _ _ _ twoN _ _ _ twoP 1 4 _ HS.out (by omega) (by omega) (by unfold maxLen; omega) twoW HP.out (by omega) (small3 twoP_sm)).mono ?_)
 rintro e w3 ⟨v, qs, rfl, own, kk⟩
 replace own : OwnPr w2.heap.size w3 v qs twoR := own
 obtain ⟨aR, cR, rfl, PR, _, _, _, _⟩ := own.pl
 rw [two_len] at PR ⊢
 replace T := Lib.hid (T.out.nx kk)
 replace K := Lib.hid (K.out.nx kk)
 replace HS := Lib.hid (HS.out.nx kk)
 replace PR := Lib.hid PR
 clear own kk HP
 obtain ⟨g2, w4, hg2, hw2, P2, kk⟩ := twoLitK w3
 replace T := Lib.hid (T.out.nx kk)
 replace K := Lib.hid (K.out.nx kk)
 replace HS := Lib.hid (HS.out.nx kk)
 replace PR := Lib.hid (PR.out.nx kk)
 have HP := Lib.hid P2
 have Hg := Lib.hid hg2
 have Hw := Lib.hid hw2
 clear hg2 hw2 P2 kk
 go_wp2_with fail
 rw [← Hw.out, ← Hg.out]
 clear Hw Hg
 (with_reducible refine (needed_p _ _ _ twoN _ _ _ twoK 1 _ HS.out (by omega) (by omega) (by unfold maxLen; omega) twoW T.out HP.out (by omega) (small3 twoK_sm)).mono ?_)
 rintro e w5 ⟨rfl, kk⟩
 obtain ⟨m, hm, hm0, hm4⟩ := two_need
 rw [hm]
 clear hm
 replace T := Lib.hid (T.out.nx kk)
 replace K := Lib.hid (K.out.nx kk)
 replace HS := Lib.hid (HS.out.nx kk)
 replace PR := Lib.hid (PR.out.nx kk)
 clear kk HP
 have d1 : (m : Int) > 0 := by omega
 have d2 : (m : Int) ≤ 4 := by omega
 clear hm0 hm4
 go_wp2_with fail
 (with_reducible refine (bexact_p _ _ _ twoN _ _ _ twoR 1 _ HS.out (by omega) (by omega) (by unfold maxLen; omega) twoW T.out PR.out (by omega) two_sm).mono ?_)
 rintro e w6 ⟨rfl, kk⟩
 rw [two_exact]
 replace T := Lib.hid (T.out.nx kk)
 replace K := Lib.hid (K.out.nx kk)
 replace HS := Lib.hid (HS.out.nx kk)
 replace PR := Lib.hid (PR.out.nx kk)
 clear kk
 go_wp2_with fail
 (with_reducible refine (rounds18_p 2 1 _).mono ?_)
 rintro e w7 ⟨rfl, hw7⟩
 subst hw7
 rw [two_rnds]
 obtain ⟨g2, w8, hg2, hw2, P2, kk⟩ := twoLitK w6
 replace K := Lib.hid (K.out.nx kk)
 replace HS := Lib.hid (HS.out.nx kk)
 replace PR := Lib.hid (PR.out.nx kk)
 have HP := Lib.hid P2
 have Hg := Lib.hid hg2
 have Hw := Lib.hid hw2
 clear hg2 hw2 P2 kk
 go_wp2_with fail
 rw [← Hw.out, ← Hg.out]
 clear Hw Hg
 (with_reducible refine (stale_p _ _ _ twoN _ _ _ twoK _ HS.out (by omega) (by omega) (by unfold maxLen; omega) HP.out (by omega) twoK_sm).mono ?_)
 rintro e w9 ⟨rfl, kk⟩
 rw [two_stale]
 replace K := Lib.hid (K.out.nx kk)
 replace HS := Lib.hid (HS.out.nx kk)
 replace PR := Lib.hid (PR.out.nx kk)
 clear kk HP
 go_wp2_with fail
 (with_reducible refine (rround_p _ _ _ twoN _ _ _ twoR 1 _ HS.out (by omega) (by omega) (by unfold maxLen; omega) twoW PR.out (by omega) two_sm).mono ?_)
 rintro e w10 ⟨v, qs, rfl, own, kk⟩
 obtain ⟨aR, cR, rfl, _, _, _, _, _⟩ := own.pl
 rw [two_round]
 replace K := Lib.hid (K.out.nx kk)
 clear own kk
 go_wp2_with fail
 go_ret
 exact ⟨rfl, K.out⟩
theorem few_smallR {P : List Pr} (h : FewQ 100 200 P) : SmallP P := fun p hp => by have := h p hp; omega
theorem normal_sm2' {N : List Nd} {P : List Pr} {m M : Nat} (h : FewQ m M P) : FewQ m M (normalN N P) := by
 intro q hq
 unfold normalN at hq
 split at hq
 ·obtain ⟨x, _, rfl⟩ := List.mem_map.1 hq
  unfold peerN
  cases hf : P.find? fun p => p.id == x.id with
  | none => exact ⟨Nat.zero_le _, Nat.zero_le _⟩
  | some q => exact h q (List.mem_of_find?_eq_some hf)
 ·cases hq
theorem rr_fewR {N : List Nd} (hN : N.length ≤ 100) (P : List Pr) (k : Int) : FewQ 100 200 (rRoundN N P k) := fun p hp => by have := rr_few N P k p hp; omega
theorem rruns_few {N : List Nd} {P : List Pr} (hN : N.length ≤ 100) (hP : FewQ 100 200 P) (k : Int) : ∀ t, FewQ 100 200 (rRunsN N P k t)
 | 0 => hP
 | _ + 1 => rr_fewR hN _ k
theorem run_few {N : List Nd} {P : List Pr} (hN : N.length ≤ 100) (hP : FewQ 100 200 P) (h r : Int) : FewQ 100 200 (repN N P h r) := by
 unfold repN
 split
 ·refine rruns_few hN (fun p hp => ?_) _ _
  exact normal_sm2' hP p hp
 ·intro p hp; cases hp
end Go.Proofs.YtofmcalfbpjoeaaGreatDoor
