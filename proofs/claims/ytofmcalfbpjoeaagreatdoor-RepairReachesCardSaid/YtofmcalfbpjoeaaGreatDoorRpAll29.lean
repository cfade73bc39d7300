/- Texts for RepairReachesProof, RepairCrashesProof, RepairJoinsProof, RepairCleansProof, RepairRejoinsProof. -/
import Derived.Laws.OwnMore
import Derived.Test.YtofmcalfbpjoeaaGreatDoorRpAll1
import Derived.Test.YtofmcalfbpjoeaaGreatDoorRpAll3
import Derived.Test.YtofmcalfbpjoeaaGreatDoorRpAll6
import Derived.Test.YtofmcalfbpjoeaaGreatDoorRpAll8
import Derived.Test.YtofmcalfbpjoeaaGreatDoorRpAll10
import Derived.Test.YtofmcalfbpjoeaaGreatDoorRpAll11
import Derived.Test.YtofmcalfbpjoeaaGreatDoorRpAll12
import Derived.Test.YtofmcalfbpjoeaaGreatDoorRpAll13
import Derived.Test.YtofmcalfbpjoeaaGreatDoorRpAll14
import Derived.Test.YtofmcalfbpjoeaaGreatDoorRpAll16
import Derived.Test.YtofmcalfbpjoeaaGreatDoorRpAll19
import Derived.Test.YtofmcalfbpjoeaaGreatDoorRpAll20
import Derived.Test.YtofmcalfbpjoeaaGreatDoorRpAll21
import Derived.Test.YtofmcalfbpjoeaaGreatDoorRpAll22
import Derived.Test.YtofmcalfbpjoeaaGreatDoorRpAll23
import Derived.Test.YtofmcalfbpjoeaaGreatDoorRpAll24
import Derived.Test.YtofmcalfbpjoeaaGreatDoorRpAll25
import Derived.Test.YtofmcalfbpjoeaaGreatDoorRpAll26

namespace Go.Proofs.YtofmcalfbpjoeaaGreatDoor
open Go.RowKit
theorem norm1_p (gx : Nat) (x : Nd) (w : World) (hx : Blk w gx [.int .i64 x.id, .string x.key, .int .u32 x.word] 78) : PredI 145 #[.pointer (some ⟨gx, 0, none⟩)] x.id w := by
 intro p h1 h2 w' kk
 have q0 := (hx.nx kk).cell 0 _ rfl
 have hg := (hx.nx kk).lt
 have hne : ¬ gx = w'.heap.size := by omega
 obtain ⟨a1, n1, c1⟩ := h1
 obtain ⟨a2, n2, c2⟩ := h2
 simp only [Hdr.val]
 clear hx kk
 go_enter Tryz.func145, Tryz.ntmps145
 go_wp2
 go_ret
 exact ⟨rfl, (Ex.refl _).alloc _⟩
def NoRel (S : List Nd) (P : List Pr) (w : World) (o i : Value) (wr : World) : Prop :=
 ∃ (j : Nat) (qs : List PQ), j ≤ S.length ∧ i = .int .i64 j ∧ OwnPr w.heap.size wr o qs ((S.take j).map fun x => peerN P x.id) ∧ Ex w wr
theorem no_snoc {S : List Nd} {P : List Pr} {j : Nat} {x : Nd} (hy : S[j]? = some x) : ((S.take (j + 1)).map fun x => peerN P x.id) = ((S.take j).map fun x => peerN P x.id) ++ [peerN P x.id] := by
 rw [take_snocN S j x hy, List.map_append]; rfl
set_option maxRecDepth 100000 in
set_option maxHeartbeats 8000000 in
theorem normal_p (a : Option Addr) (n c : Nat) (N : List Nd) (a2 : Option Addr) (n2 c2 : Nat) (P : List Pr) (w : World) (h : Sl 3 encN w a n N) (hn : n ≤ 1000) (hc : n ≤ c) (hm : c ≤ maxLen) (h2 : PL w a2 n2 P) (hn2 : n2 ≤ 4000000000000000000) (hP : SmallP P) :
  Calls Tryz.prog 85 #[.slice a n c, .slice a2 n2 c2] w (PlPost (normalN N P) w) := by
 have HL := Lib.hid h.len
 have HP := Lib.hid hP
 clear hP
 have EG : Hid (∀ args w, (callFunc 145 args).run Tryz.prog w = .ok (.enter 145 args) w) := Lib.hid (enters_of Tryz.func145 (by kernel_rfl) rfl)
 have H2 := Lib.hid h2
 clear h2
 go_enter Tryz.func85, Tryz.ntmps85
 go_wp2_with fail
 (with_reducible refine (check_p _ _ _ _ _ h (by omega) hc hm).mono ?_)
 rintro e w0 ⟨rfl, kk⟩
 replace h := h.nx kk
 have K0 := Lib.hid kk
 clear kk
 by_cases hck : checkN N = 0
 case neg =>
  have d1 : (checkN N != 0) = true := by simpa using hck
  have E0 : Hid (normalN N P = []) := Lib.hid (by unfold normalN; rw [if_neg hck])
  clear h hck
  go_wp2_with fail
  go_ret
  exact ⟨_, [], rfl, by rw [E0.out]; exact OwnP.nil _ _ _ _ _, K0.out⟩
 have d1 : (checkN N != 0) = false := by simpa using hck
 have E0 : Hid (normalN N P = (sortN N).map fun x => peerN P x.id) := Lib.hid (by unfold normalN; rw [if_pos hck])
 have HC := Lib.hid hck
 clear hck
 go_wp2_with fail
 (with_reducible refine (sort_p _ _ _ _ _ h hn).mono ?_)
 rintro e w1 ⟨v, S, rfl, OS, ⟨hp, hsrt⟩, kk⟩
 have hSe : S = sortN N := sortN_unique (check_keys HC.out) hp hsrt
 subst hSe
 obtain ⟨a1, c1, rfl, S1, _, _⟩ := sorted_own HC.out OS
 rw [HL.out] at S1 ⊢
 have hSl : (sortN N).length = n := by rw [S1.len]
 generalize sortN N = S at S1 hSl E0 ⊢
 have S1 := Lib.hid S1
 have K1 := Lib.hid (K0.out.nx kk)
 have HSL := Lib.hid hSl
 have z01 := K1.out.size
 clear h OS kk hp hsrt hSl
 go_wp2_with fail
 go_loopw [5, 16] (fun o i wr => NoRel S P w1 o i wr) (fun _ i _ => n - (intOf i).toNat)
 case atStart => exact ⟨0, [], by omega, rfl, OwnP.nil _ _ _ _ _, Ex.refl _⟩
 case round =>
  obtain ⟨j, qs, hj, rfl, own, ki⟩ := hrel
  rw [HSL.out] at hj
  obtain ⟨wi, rfl⟩ : ∃ wi : World, wi = wr := ⟨_, rfl⟩
  by_cases hjm : j < n
  ·obtain ⟨x3, o3, x, rfl, hx3, hy, hc3⟩ := (S1.out.nx ki).at hjm
   have e0 : wi.cell? ⟨x3, o3 + j * 3, none⟩ = some (.int .i64 x.id) := hc3 0 _ rfl
   have e1 : wi.cell? ⟨x3, o3 + j * 3 + 1, none⟩ = some (.string x.key) := hc3 1 _ rfl
   have e2 : wi.cell? ⟨x3, o3 + j * 3 + 1 + 1, none⟩ = some (.int .u32 x.word) := by simpa [Nat.add_assoc] using hc3 2 _ rfl
   have SN := Lib.hid (no_snoc (P := P) hy)
   have hql : qs.length = j := by rw [own.2.1, List.length_map, List.length_take, HSL.out]; omega
   have hwi := ki.size
   have KI := Lib.hid ki
   have OWN := Lib.hid own
   clear hy own ki hc3
   have B7 := Blk.new wi [.int .i64 x.id, .string x.key, .int .u32 x.word] 78
   have kk := Ex.new wi (.cells #[.int .i64 x.id, .string x.key, .int .u32 x.word] 78)
   obtain ⟨w4, hw4⟩ : ∃ w4, w4 = wi.alloc (.cells #[.int .i64 x.id, .string x.key, .int .u32 x.word] 78) := ⟨_, rfl⟩
   obtain ⟨g7, hg7⟩ : ∃ g7, g7 = wi.heap.size := ⟨_, rfl⟩
   replace B7 : Blk w4 g7 [.int .i64 x.id, .string x.key, .int .u32 x.word] 78 := by rw [hw4, hg7]; exact B7
   rw [← hw4] at kk
   have Hw4 := Lib.hid hw4
   have Hg7 := Lib.hid hg7
   have zg7 : wi.heap.size ≤ g7 := by omega
   have K4 := Lib.hid kk
   clear kk hw4 hg7
   go_upto_region 7 with fail
   rw [← Hg7.out, ← Hw4.out]
   clear Hg7 Hw4
   have q0 := B7.cell 0 _ rfl
   clear e0 e1 e2
   have hz4 := K4.out.size
   have hl7 := B7.lt
   have B8 := Blk.new w4 [.int .i64 x.id, .slice none 0 0, .int .i64 0, .int .i64 0, .slice none 0 0] 42
   have kk := Ex.new w4 (.cells #[.int .i64 x.id, .slice none 0 0, .int .i64 0, .int .i64 0, .slice none 0 0] 42)
   obtain ⟨w5, hw5⟩ : ∃ w5, w5 = w4.alloc (.cells #[.int .i64 x.id, .slice none 0 0, .int .i64 0, .int .i64 0, .slice none 0 0] 42) := ⟨_, rfl⟩
   obtain ⟨g8, hg8⟩ : ∃ g8, g8 = w4.heap.size := ⟨_, rfl⟩
   replace B8 : Blk w5 g8 [.int .i64 x.id, .slice none 0 0, .int .i64 0, .int .i64 0, .slice none 0 0] 42 := by rw [hw5, hg8]; exact B8
   rw [← hw5] at kk
   have Hw5 := Lib.hid hw5
   have Hg8 := Lib.hid hg8
   replace B7 := B7.nx kk
   replace K4 := Lib.hid (K4.out.nx kk)
   have zg8 : wi.heap.size ≤ g8 := by omega
   clear kk hw5 hg8
   go_upto_region 8 with fail
   rw [← Hg8.out, ← Hw5.out]
   clear Hg8 Hw5
   clear q0
   have PI := norm1_p g7 x w5 B7
   replace B8 := Lib.hid B8
   clear B7
   go_wp2_with fail
   (with_reducible refine (idxf_pr _ _ _ EG.out _ _ _ P _ (H2.out.nx (K1.out.nx (KI.out.nx K4.out))) hn2 PI).mono ?_)
   rintro e w6 ⟨rfl, kk⟩
   replace B8 := Lib.hid (B8.out.nx kk)
   replace K4 := Lib.hid (K4.out.nx kk)
   have HG8 := Lib.hid B8.out.lt
   clear kk PI
   rcases idxQ_cases P x.id with ⟨k, y, hq, hkl, hyk, hpy, -⟩ | ⟨hq, hpy⟩
   ·have hk2 : k < n2 := by have := H2.out.len; omega
    obtain ⟨x5, o5, b1, m1, d1, b4, m4, d4, y', rfl, hx5, hy', e0, e1, e2, e3, e4, s1, s4⟩ := (H2.out.nx (K1.out.nx KI.out)).rd hk2
    obtain rfl : y = y' := Option.some.inj (hyk.symm.trans hy')
    have HPY := Lib.hid hpy
    have hyP := HP.out y (List.mem_of_getElem? hyk)
    have hl1 : m1 ≤ 17592186044416 := by have := s1.len; omega
    have hl4 : m4 ≤ 4398046511104 := by have := s4.len; omega
    have S1y := Lib.hid s1
    have S4y := Lib.hid s4
    have c0 := Chg.cellv K4.out e0 hx5
    have c1 := Chg.cellv K4.out e1 hx5
    have c2 := Chg.cellv K4.out e2 hx5
    have c3 := Chg.cellv K4.out e3 hx5
    have c4 := Chg.cellv K4.out e4 hx5
    have f0 := B8.out.free 0
    have f1 := B8.out.free 1
    have f2 := B8.out.free 2
    have f3 := B8.out.free 3
    have f4 := B8.out.free 4
    have r0 := B8.out.cell 0 _ rfl
    have r1 := B8.out.cell 1 _ rfl
    have r2 := B8.out.cell 2 _ rfl
    have r3 := B8.out.cell 3 _ rfl
    have r4 := B8.out.cell 4 _ rfl
    have hk0 : (0 : Int) ≤ (k : Int) := by omega
    rw [hq]
    clear hq hkl hyk hpy hyP e0 e1 e2 e3 e4 s1 s4 hy' hx5
    go_upto_region 11 with fail
    have KB0 : Exb g8 w6 (((((w6.setCell ⟨g8, 0, none⟩ (.int .i64 y.id)).setCell ⟨g8, 1, none⟩ (.slice b1 m1 d1)).setCell ⟨g8, 2, none⟩ (.int .i64 y.left)).setCell ⟨g8, 3, none⟩ (.int .i64 y.right)).setCell ⟨g8, 4, none⟩ (.slice b4 m4 d4)) :=
     (((((Exb.refl g8 w6).setB (p := ⟨g8, 0, none⟩) _ rfl).setB (p := ⟨g8, 1, none⟩) _ rfl).setB (p := ⟨g8, 2, none⟩) _ rfl).setB (p := ⟨g8, 3, none⟩) _ rfl).setB (p := ⟨g8, 4, none⟩) _ rfl
    have BS0 := ((((B8.out.set 0 (.int .i64 y.id)).set 1 (.slice b1 m1 d1)).set 2 (.int .i64 y.left)).set 3 (.int .i64 y.right)).set 4 (.slice b4 m4 d4)
    obtain ⟨w7, hw7⟩ : ∃ w7, w7 = (((((w6.setCell ⟨g8, 0, none⟩ (.int .i64 y.id)).setCell ⟨g8, 1, none⟩ (.slice b1 m1 d1)).setCell ⟨g8, 2, none⟩ (.int .i64 y.left)).setCell ⟨g8, 3, none⟩ (.int .i64 y.right)).setCell ⟨g8, 4, none⟩ (.slice b4 m4 d4)) := ⟨_, rfl⟩
    rw [← hw7] at KB0 BS0
    have BS : Blk w7 g8 [.int .i64 y.id, .slice b1 m1 d1, .int .i64 y.left, .int .i64 y.right, .slice b4 m4 d4] 42 := BS0
    have K8 := Lib.hid (Exl.nxb (b := g8) (w := wi) ⟨K4.out, zg8⟩ KB0).1
    rw [← hw7]
    have hg8l := BS.lt
    have B8s := Lib.hid BS
    have hz8 := K8.out.size
    clear hw7 KB0 BS0 BS c0 c1 c2 c3 c4 f0 f1 f2 f3 f4 r0 r1 r2 r3 r4 B8 K4
    refine wp_region_late_drew (S := Ex w7) [7, 8, 9] (by kernel_rfl) ((Ex.refl w7).drew) (fun hHeld => ?_)
    refine wpAnyL_take (i := 0) (oi := ⟨_, _, _, _, _, _⟩) (v := ?_) rfl (by kernel_rfl) (by kernel_rfl) (by kernel_rfl) (fun _ _ _ h => h) (Or.inl ⟨by rfl, ?hyr1x0q1⟩) (by kernel_rfl) (by kernel_rfl) (by assumption) ?restr1x0q1
    case hyr1x0q1 => intro wq hSw; (go_simp); (try with_reducible rfl)
    refine wpAnyL_take (i := 1) (oi := ⟨_, _, _, _, _, _⟩) (v := ?_) rfl (by kernel_rfl) (by kernel_rfl) (by kernel_rfl) (fun _ _ _ h => h) (Or.inl ⟨by rfl, ?hyr1x1q4⟩) (by kernel_rfl) (by kernel_rfl) (by assumption) ?restr1x1q4
    case hyr1x1q4 => intro wq hSw; (have cq := (B8s.out.nx hSw).cell 1 _ rfl; go_simp); (try with_reducible rfl)
    refine wpAnyL_take (i := 3) (oi := ⟨_, _, _, _, _, _⟩) (v := ?_) rfl (by kernel_rfl) (by kernel_rfl) (by kernel_rfl) (fun _ _ _ h => h) (Or.inl ⟨by rfl, ?hyr1x3q7⟩) (by kernel_rfl) (by kernel_rfl) (by assumption) ?restr1x3q7
    case hyr1x3q7 => intro wq hSw; (go_simp); (try with_reducible rfl)
    refine wpAnyL_take (i := 4) (oi := ⟨_, _, _, _, _, _⟩) (v := ?_) rfl (by kernel_rfl) (by kernel_rfl) (by kernel_rfl) (fun _ _ _ h => h) (Or.inl ⟨by rfl, ?hyr1x4q10⟩) (by kernel_rfl) (by kernel_rfl) (by assumption) ?restr1x4q10
    case hyr1x4q10 => intro wq hSw; (have cq := (B8s.out.nx hSw).cell 4 _ rfl; go_simp); (try with_reducible rfl)
    refine wpAnyL_ready (rs := [2]) (by kernel_rfl) (by simp) ?_
    refine AllReadyL.cons (o := ⟨_, _, _, _, _, _⟩) rfl (fun K hK => ?_) AllReadyL.nil
    go_simp
    (with_reducible refine (clone_i _ _ _ _ _ ((S1y.out.nx K8.out).nx hHeld) hl1).mono ?_)
    rintro e wc ⟨vc, rfl, own2, kk⟩
    (try replace own5 := own5.nx kk)
    obtain ⟨A2, C2, rfl, _, _, _, _⟩ := own2.slf (fun _ => rfl)
    replace own2 := own2.base hHeld.size
    replace hHeld := hHeld.nx kk
    clear kk
    have BQ := B8s.out.nx hHeld
    have KZ := hHeld.b g8
    refine hK.out _ _ (hHeld) (fun hHeld => ?_)
    clear hK K
    refine wpAnyL_take (i := 6) (oi := ⟨_, _, _, _, _, _⟩) (v := ?_) rfl (by kernel_rfl) (by kernel_rfl) (by kernel_rfl) (fun _ _ _ h => h) (Or.inl ⟨by rfl, ?hyr1x6q28⟩) (by kernel_rfl) (by kernel_rfl) (by assumption) ?restr1x6q28
    case hyr1x6q28 => intro wq hSw; (go_simp); (try with_reducible rfl)
    refine wpAnyL_ready (rs := [5]) (by kernel_rfl) (by simp) ?_
    refine AllReadyL.cons (o := ⟨_, _, _, _, _, _⟩) rfl (fun K hK => ?_) AllReadyL.nil
    go_simp
    (with_reducible refine (clone_nr _ _ _ _ _ ((S4y.out.nx K8.out).nx hHeld) hl4).mono ?_)
    rintro e wc ⟨vc, rfl, own5, kk⟩
    (try replace own2 := own2.nx kk)
    obtain ⟨A5, C5, rfl, _, _, _, _⟩ := own5.slf (fun _ => rfl)
    replace own5 := own5.base hHeld.size
    replace hHeld := hHeld.nx kk
    clear kk
    have BQ := B8s.out.nx hHeld
    have KZ := hHeld.b g8
    refine hK.out _ _ (hHeld) (fun hHeld => ?_)
    clear hK K
    refine wpAnyL_ready (rs := [7]) (by kernel_rfl) (by simp) ?_
    refine AllReadyL.consL (o := ⟨_, _, _, _, _, _⟩) rfl (by rfl) (fun K hK => ?_) AllReadyL.nil
    have cq := BQ.cell 1 _ rfl
    have fq := BQ.free 1
    go_simp
    clear cq fq
    replace BQ := BQ.set 1 (.slice A2 y.known.length C2)
    replace own2 := own2.nxb hg8l ((Exb.refl g8 _).setB (p := ⟨g8, 1, none⟩) (.slice A2 y.known.length C2) rfl)
    replace own5 := own5.nxb hg8l ((Exb.refl g8 _).setB (p := ⟨g8, 1, none⟩) (.slice A2 y.known.length C2) rfl)
    replace KZ := KZ.setB (p := ⟨g8, 1, none⟩) (.slice A2 y.known.length C2) rfl
    refine hK.out _ _ ?_
    clear hK K
    refine wpAnyL_ready (rs := [8]) (by kernel_rfl) (by simp) ?_
    refine AllReadyL.consL (o := ⟨_, _, _, _, _, _⟩) rfl (by rfl) (fun K hK => ?_) AllReadyL.nil
    go_simp
    refine hK.out _ _ ?_
    clear hK K
    refine wpAnyL_ready (rs := [9]) (by kernel_rfl) (by simp) ?_
    refine AllReadyL.consL (o := ⟨_, _, _, _, _, _⟩) rfl (by rfl) (fun K hK => ?_) AllReadyL.nil
    have cq := BQ.cell 4 _ rfl
    have fq := BQ.free 4
    go_simp
    clear cq fq
    replace BQ := BQ.set 4 (.slice A5 y.near.length C5)
    replace own2 := own2.nxb hg8l ((Exb.refl g8 _).setB (p := ⟨g8, 4, none⟩) (.slice A5 y.near.length C5) rfl)
    replace own5 := own5.nxb hg8l ((Exb.refl g8 _).setB (p := ⟨g8, 4, none⟩) (.slice A5 y.near.length C5) rfl)
    replace KZ := KZ.setB (p := ⟨g8, 4, none⟩) (.slice A5 y.near.length C5) rfl
    refine hK.out _ _ ?_
    clear hK K
    refine wpAnyL_done (by kernel_rfl) ?_ _
    obtain ⟨wz, hwz⟩ : ∃ wz, wz = (wc.setCell ⟨g8, 1, none⟩ (.slice A2 y.known.length C2)).setCell ⟨g8, 4, none⟩ (.slice A5 y.near.length C5) := ⟨_, rfl⟩
    rw [← hwz] at BQ own2 own5 KZ ⊢
    clear hwz
    have BF : Blk wz g8 [.int .i64 y.id, .slice A2 y.known.length C2, .int .i64 y.left, .int .i64 y.right, .slice A5 y.near.length C5] 42 := BQ
    have p0 := BF.cell 0 _ rfl
    have p1 := BF.cell 1 _ rfl
    have p2 := BF.cell 2 _ rfl
    have p3 := BF.cell 3 _ rfl
    have p4 := BF.cell 4 _ rfl
    have KW := Lib.hid (Exl.nxb (b := g8) (w := wi) ⟨K8.out, zg8⟩ KZ).1
    have OP := Lib.hid (OWN.out.nx KW.out)
    have zw := KW.out.size
    replace own2 := Lib.hid (own2.base hz8)
    replace own5 := Lib.hid (own5.base hz8)
    have hw3 : w1.heap.size ≤ wi.heap.size := hwi
    have KN := KW.out.nx (Ex.new _ (.cells #[.int .i64 y.id, .slice A2 y.known.length C2, .int .i64 y.left, .int .i64 y.right, .slice A5 y.near.length C5] 42))
    have zn := Nat.le_trans hw3 KN.size
    clear BQ BF KZ hHeld
    go_wp2_with (at_builtin; (refine wpList_append_W (enc := encQ) _ rfl _ _ 24 rfl w1.heap.size 42 (.agg #[.int .i64 0, .slice none 0 0, .int .i64 0, .int .i64 0, .slice none 0 0]) 5 72 Tryz.underlying24 Tryz.infoPr rfl (by omega) (by omega) _ qs (OP.out.nx (Ex.new _ _)).row rfl _ 1 1 [(y.nums, (A2, y.known.length, C2), (A5, y.near.length, C5))] (Sl.lit _ rfl rfl encQ_len rfl) encQ_len encQ_one rfl (by omega) (by omega) zn ?_); intro v9 w9 own9 ch0 ch1 _)
    have RR := OWN.out.app (by decide) (by decide) hw3 KN (own2.out.nx (Ex.new _ _)) (own5.out.nx (Ex.new _ _)) own9 ch0
    exact ⟨⟨j + 1, _, by rw [HSL.out]; omega, by go_num, by rw [SN.out, HPY.out]; exact RR, Chg.trans (KI.out.nx KN) ch1⟩, by simp [intOf]; omega⟩
   ·have HPY := Lib.hid hpy
    have hw3 : w1.heap.size ≤ wi.heap.size := hwi
    have r0 := B8.out.cell 0 _ rfl
    have r1 := B8.out.cell 1 _ rfl
    have r2 := B8.out.cell 2 _ rfl
    have r3 := B8.out.cell 3 _ rfl
    have r4 := B8.out.cell 4 _ rfl
    have KN := K4.out.nx (Ex.new _ (.cells #[.int .i64 x.id, .slice none 0 0, .int .i64 0, .int .i64 0, .slice none 0 0] 42))
    have zn := Nat.le_trans hw3 KN.size
    have OP := Lib.hid (OWN.out.nx K4.out)
    rw [hq]
    clear hq hpy
    go_wp2_with (at_builtin; (refine wpList_append_W (enc := encQ) _ rfl _ _ 24 rfl w1.heap.size 42 (.agg #[.int .i64 0, .slice none 0 0, .int .i64 0, .int .i64 0, .slice none 0 0]) 5 72 Tryz.underlying24 Tryz.infoPr rfl (by omega) (by omega) _ qs (OP.out.nx (Ex.new _ _)).row rfl _ 1 1 [((x.id, 0, 0), (none, 0, 0), (none, 0, 0))] (Sl.lit _ rfl rfl encQ_len rfl) encQ_len encQ_one rfl (by omega) (by omega) zn ?_); intro v9 w9 own9 ch0 ch1 _)
    have RR := OWN.out.app (p := ⟨x.id, 0, 0, [], []⟩) (hk := (none, 0, 0)) (hn := (none, 0, 0)) (by decide) (by decide) hw3 KN (OwnL.nil _ _ _ _ _) (OwnL.nil _ _ _ _ _) own9 ch0
    exact ⟨⟨j + 1, _, by rw [HSL.out]; omega, by go_num, by rw [SN.out, HPY.out]; exact RR, Chg.trans (KI.out.nx KN) ch1⟩, by simp [intOf]; omega⟩
  ·obtain rfl : j = n := by omega
   rw [List.take_of_length_le (by rw [HSL.out]; exact Nat.le_refl _)] at own
   have OWN := Lib.hid (own.lower z01)
   have KI := Lib.hid (K1.out.nx ki)
   clear own ki hj hjm
   go_wp2_with fail
   go_ret
   exact ⟨_, qs, rfl, by rw [E0.out]; exact OWN.out, KI.out⟩
end Go.Proofs.YtofmcalfbpjoeaaGreatDoor
namespace Go.Proofs.YtofmcalfbpjoeaaGreatDoor
open Go.RowKit Go.Maps
def AccM (β lo hi bm : Nat) (w6 wr : World) (f : Int → Value) : Prop :=
 Chg (fun k => k < hi ∧ k ≠ bm ∧ (k < β ∨ lo ≤ k)) w6 wr ∧ hi ≤ wr.heap.size ∧ ∀ v g, (f v).ownBlock = some g → g < lo ∨ hi ≤ g
section
variable {β lo hi bm : Nat} {w6 wr w9 : World} {f : Int → Value}
theorem AccM.sl {α : Type} {sz n : Nat} {enc : α → List Value} {a : Option Addr} {l : List α} {w5 w6 wr : World} (h : AccM β w5.heap.size w6.heap.size bm w6 wr f) (hb : bm < w5.heap.size) (s : Slf sz enc w5 w6 a n l) : Sl sz enc wr a n l :=
 (Rd.chg s h.1 (fun _ hk => ⟨hk.2, by omega, .inr hk.1⟩)).mono fun _ hk => Nat.lt_of_lt_of_le hk.2 h.2.1
theorem AccM.blk {g : Nat} {cs : List Value} {ty : TypeId} (h : AccM β lo w6.heap.size bm w6 wr f) (B : Blk w6 g cs ty) (hg : lo ≤ g) (hb : bm ≠ g) : Blk wr g cs ty :=
 (Chg.block h.1 g ⟨B.lt, fun h => hb h.symm, .inr hg⟩).trans B
theorem AccM.exb {w2 : World} (h : AccM β lo w6.heap.size bm w6 wr f) (k : Exb bm w2 w6) (hβ : w2.heap.size ≤ β) : Exb bm w2 wr :=
 Chg.trans k (Chg.mono h.1 fun x hx => ⟨Nat.lt_of_lt_of_le hx.1 k.size, hx.2, .inl (Nat.lt_of_lt_of_le hx.1 hβ)⟩)
end
theorem own_hist {va v : Value} {c s : Nat} (h : va.ownBlock = v.ownBlock ∨ va.ownBlock = some c) (hs : s ≤ c) : ∀ g, va.ownBlock = some g → v.ownBlock = some g ∨ s ≤ g := fun g hg => by
 rcases h with h | h
 ·exact .inl (by rw [← h]; exact hg)
 ·rw [h] at hg; cases hg; exact .inr hs
theorem hold_ex {bm g7 : Nat} {wp cur w' : World} (h : Chg (fun k => k = bm ∨ k = g7) wp cur) (hb : bm < wp.heap.size) (hg : g7 < wp.heap.size) (k : Ex cur w') : Chg (fun k => k = bm ∨ k = g7) wp w' :=
 Chg.trans h (Chg.mono k fun x hx => by have := h.size; show x < cur.heap.size; omega)
theorem hold_row {bm g7 : Nat} {wp cur w' : World} {v : Value} (h : Chg (fun k => k = bm ∨ k = g7) wp cur) (hb : bm < wp.heap.size) (hg : g7 < wp.heap.size) (n : ¬ v.ownBlock = some bm ∧ ¬ v.ownBlock = some g7) (k : Chg (fun k => k < cur.heap.size ∧ ¬ v.ownBlock = some k) cur w') : Chg (fun k => k = bm ∨ k = g7) wp w' :=
 Chg.trans h (Chg.mono k fun x hx => by
  have := h.size
  rcases hx with rfl | rfl
  ·exact ⟨by omega, n.1⟩
  ·exact ⟨by omega, n.2⟩)
abbrev GpM (base : Nat) (w : World) (b n : Nat) (f : Int → Value) (J : Int → List Int) : Prop := GrpM Tryz.prog 3 3 base w b n f J
theorem Tryz.zeroS (w : World) : (zeroValue 22).run Tryz.prog w = .ok nilS w := by kernel_rfl
theorem litF {wp u : World} (hz : wp.heap.size ≤ u.heap.size) (x : Int) : ∃ g v, g = u.heap.size ∧ v = u.alloc (.cells #[.int .i64 x] 3) ∧ Slf 1 encI wp v (some ⟨g, 0, none⟩) 1 [x] ∧ Ex u v :=
 ⟨_, _, rfl, rfl, Slf.lit [x] rfl hz rfl (fun _ => rfl) rfl, Ex.new _ _⟩
theorem Slf.row {α β : Type} {sz n sz' e base : Nat} {enc : α → List Value} {enc' : β → List Value} {w0 w w' : World} {a : Option Addr} {l : List α} {v : Value} {l' : List β} (s : Slf sz enc w0 w a n l) (h : OwnL sz' enc' e base w0 v l') (k : Chg (fun k => k < w.heap.size ∧ ¬ v.ownBlock = some k) w w') : Slf sz enc w0 w' a n l :=
 (Rd.chg s k fun _ hk => ⟨hk.2, fun hv => by have := (h.lt _ hv).2; have := hk.1; omega⟩).mono fun _ hk => ⟨hk.1, Nat.lt_of_lt_of_le hk.2 k.size⟩
theorem QuL.base {e : TypeId} {base base' : Nat} {w : World} {v : Value} {l : List Int} (h : QuL e base w v l) (hb : base' ≤ base) : QuL e base' w v l := by
 rcases h with h | ⟨g, o, cap, cur, h1, h2, h3⟩
 ·exact .inl h
 ·exact .inr ⟨g, o, cap, cur, h1, Nat.le_trans hb h2, h3⟩
theorem OwnL.rdz {α : Type} {sz e base : Nat} {enc : α → List Value} {w : World} {v : Value} {l : List α} (h : OwnL sz enc e base w v l) (hsz : ∀ y, (enc y).length = sz) :
  ∃ a cap, v = .slice a l.length cap ∧ Rd sz enc (fun k => base ≤ k ∧ k < w.heap.size) w a l.length l ∧ (a = none → cap = 0) := by
 obtain ⟨a, cap, e1, r, _⟩ := h.rd hsz
 refine ⟨a, cap, e1, r, fun h0 => ?_⟩
 subst h0
 rcases h.2 with ⟨e2, hn⟩ | ⟨g, cap', cur, e2, _⟩
 ·rw [e1] at e2
  injection e2
 ·rw [e1] at e2
  simp at e2
theorem wpList_append_rda {P : Program} {α : Type} {enc : α → List Value} {ops : Array Oper} {rest : List Oper} {o : Oper} {a : Act} {Q : Exit → Act → World → Prop} (w0 : World) (hgd : o.guard = none) (s x : Operand) (t : TypeId)
  (ho : o.op = .call { callee := .builtin .append, args := #[s, x], argTypes := #[t, t] })
  (base : Nat) (e : TypeId) (z : Value) (sz bytes : Nat) (ht : P.underlying t = some (.slice e)) (hi : (P.info? e).map (fun i => (i.zero, i.size, i.bytes)) = some (some z, sz, bytes))
  (hzs : z.cells.size = sz) (hsz : 0 < sz) (hby : bytes ≤ 65536)
  (v : Value) (l : List α) (hown : OwnL sz enc e base w0 v l) (hs : a.eval s = v) (S : Nat → Prop) (A : Option Addr) (n c : Nat) (news : List α) (hrd : Rd sz enc S w0 A n news) (hA : A = none → c = 0) (hlen : ∀ y, (enc y).length = sz) (h1 : ∀ y, ∀ u ∈ enc y, u.oneCell' = true)
  (hx : a.eval x = .slice A n c) (hl : l.length ≤ 100000000) (hn : n ≤ 100000000) (hbase : base ≤ w0.heap.size)
  (h : ∀ v' w', OwnL sz enc e base w' v' (l ++ news) → Chg (fun k => k < w0.heap.size ∧ ¬ v.ownBlock = some k) w0 w' → Chg (· < base) w0 w' → (v'.ownBlock = v.ownBlock ∨ v'.ownBlock = some w0.heap.size) → wpList P ops Q rest (a.put o.dst v') w') :
  wpList P ops Q (o :: rest) a w0 :=
 wpList_plain hgd fun _ hK => wp_append_rda w0 s x t ho base e z sz bytes ht hi hzs hsz hby v l hown hs S A n c news hrd hA hlen h1 hx hl hn hbase fun v' w' h2 h3 h4 h5 => hK _ _ (h v' w' h2 h3 h4 h5)
def FewQ (m M : Nat) (P : List Pr) : Prop := ∀ p ∈ P, p.known.length ≤ m ∧ p.near.length ≤ M
theorem FewQ.set {m M m' M' a : Nat} {P : List Pr} (h : FewQ m M P) (hm : m ≤ m') (hM : M ≤ M') {p : Pr} (hp : p.known.length ≤ m' ∧ p.near.length ≤ M') : FewQ m' M' (P.set a p) := fun x hx => by
 rcases List.mem_or_eq_of_mem_set hx with h1 | h1
 ·have := h x h1; omega
 ·rw [h1]; exact hp
end Go.Proofs.YtofmcalfbpjoeaaGreatDoor
