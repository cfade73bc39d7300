/- Texts for the statement BridgeKeepsProof, part 9 of 12: BriD, BriE, SameL, SameP, BriF, SmI, Sane14, TSome. -/
import Derived.BigQuiet
import Derived.Test.YtbnbjiddffihoaaGreatDoorBridgeKeepsProofPk1
import Derived.Test.YtbnbjiddffihoaaGreatDoorBridgeKeepsProofPk3
import Derived.Test.YtbnbjiddffihoaaGreatDoorBridgeKeepsProofPk4
import Derived.Test.YtbnbjiddffihoaaGreatDoorBridgeKeepsProofPk5
import Derived.Test.YtbnbjiddffihoaaGreatDoorBridgeKeepsProofPk6
import Derived.Test.YtbnbjiddffihoaaGreatDoorBridgeKeepsProofPk8

/- Round of the package bridge. -/
namespace Go.Proofs.YtbnbjiddffihoaaGreatDoor
open Go.RowKit

def bstep (N : List Nd) (Q : List Pr) (h : Nat) (p : Pr) : Pr := { p with near := nextB N (peerN Q) p h }
theorem bround_eq {N : List Nd} {P : List Pr} {h : Nat} (hh : h ≤ 16) : bRoundN N P h = (normalN N P).map (bstep N (normalN N P) h) := by
  unfold bRoundN
  rw [if_pos (lvl_of (by omega) (by omega))]
  rfl
theorem bround_no {N : List Nd} {P : List Pr} {h : Int} (hh : lvlN h = false) : bRoundN N P h = [] := by unfold bRoundN; rw [if_neg (by rw [hh]; simp)]
theorem nextB_len (N : List Nd) (st : Int → Pr) (p : Pr) (h : Nat) : (nextB N st p h).length = h := by unfold nextB; rw [List.length_map, List.length_range]
def BrRel (N : List Nd) (Q : List Pr) (h : Nat) (w : World) (o i : Value) (wr : World) : Prop :=
  ∃ (j : Nat) (qs : List PQ), j ≤ Q.length ∧ i = .int .i64 j ∧ OwnPr w.heap.size wr o qs ((Q.take j).map (bstep N Q h)) ∧ Ex w wr
theorem br_snoc (N : List Nd) {Q : List Pr} {h j : Nat} {y : Pr} (hy : Q[j]? = some y) : ((Q.take (j + 1)).map (bstep N Q h)) = ((Q.take j).map (bstep N Q h)) ++ [{ y with near := nextB N (peerN Q) y h }] := by
  rw [List.take_add_one, hy, List.map_append]; rfl
set_option maxRecDepth 100000 in
set_option maxHeartbeats 8000000 in
theorem bround_p (a : Option Addr) (n c : Nat) (N : List Nd) (a2 : Option Addr) (n2 c2 : Nat) (P : List Pr) (hh : Int) (w : World) (h : Sl 3 encN w a n N) (hn : n ≤ 1000) (hc : n ≤ c) (hm : c ≤ maxLen) (hw : ∀ x ∈ N, x.word < 4294967296) (h2 : PL w a2 n2 P) (hn2 : n2 ≤ 4000000000000000000) (hP : SmallP P) :
    Calls Tryz.prog 23 #[.slice a n c, .slice a2 n2 c2, .int .i64 hh] w (PlPost (bRoundN N P hh) w) := by
  have HL := Lib.hid h.len
  have HW := Lib.hid hw
  clear hw
  have NO : Hid (lvlN hh = false → PlPost (bRoundN N P hh) w (.returned (.slice none 0 0)) w) := Lib.hid (fun h => by
    rw [bround_no h]
    exact ⟨_, [], rfl, OwnP.nil _ _ _ _ _, Ex.refl _⟩)
  by_cases h0 : hh < 0
  · have FI := Lib.hid (NO.out (by unfold lvlN; simp; omega))
    clear h h2 hP NO
    go_enter Tryz.func23, Tryz.ntmps23
    go_wp2_with fail
    go_ret
    exact FI.out
  by_cases h1 : hh > 16
  · have FI := Lib.hid (NO.out (by unfold lvlN; simp; omega))
    clear h h2 hP NO
    go_enter Tryz.func23, Tryz.ntmps23
    go_wp2_with fail
    go_ret
    exact FI.out
  obtain ⟨k, rfl⟩ := Int.eq_ofNat_of_zero_le (show 0 ≤ hh by omega)
  have hk16 : k ≤ 16 := by omega
  have HR := Lib.hid (bround_eq (N := N) (P := P) hk16)
  clear NO
  go_enter Tryz.func23, Tryz.ntmps23
  go_wp2_with fail
  (with_reducible refine (normal_p _ _ _ N _ _ _ P _ h hn hc hm h2 hn2 hP).mono ?_)
  rintro e w3 ⟨v3, qs, rfl, OQ, kk⟩
  replace h := h.nx kk
  clear h2
  have K03 := Lib.hid kk
  obtain ⟨hQ1, hQ2⟩ := normal_le N P
  have HQS := Lib.hid (normal_small N hP)
  generalize normalN N P = Q at OQ hQ1 hQ2 HR HQS
  obtain ⟨aQ, cQ, rfl, PQ0, _, _, _, _⟩ := OQ.pl
  have HPQ := Lib.hid PQ0
  have hQn : Q.length ≤ n := by have := HL.out; omega
  have hz3 := kk.size
  have HS := Lib.hid h
  clear OQ PQ0 kk hQ1 hQ2 hP h
  go_wp2_with fail
  go_loopw [8, 22] (fun o i wr => BrRel N Q k w3 o i wr) (fun _ i _ => Q.length - (intOf i).toNat)
  case atStart => exact ⟨0, [], by omega, rfl, OwnP.nil _ _ _ _ _, Ex.refl _⟩
  case round =>
    obtain ⟨j, qz, hj, rfl, own, ki⟩ := hrel
    obtain ⟨wi, rfl⟩ : ∃ wi : World, wi = wr := ⟨_, rfl⟩
    by_cases hjm : j < Q.length
    · obtain ⟨x5, o5, b1, m1, d1, b4, m4, d4, y, rfl, hx5, hy, e0, e1, e2, e3, e4, s1, s4⟩ := (HPQ.out.nx ki).rd hjm
      have SN := Lib.hid (br_snoc N (h := k) hy)
      have hyP := HQS.out y (List.mem_of_getElem? hy)
      have hql : qz.length = j := by rw [own.2.1, List.length_map, List.length_take]; omega
      have hl1 : m1 ≤ 17592186044416 := by have := s1.len; omega
      have hl4 : m4 ≤ 4000000000000000000 := by have := s4.len; omega
      have hwi := ki.size
      have S1y := Lib.hid s1
      have S4y := Lib.hid s4
      have KI := Lib.hid ki
      have OWN := Lib.hid own
      clear hy own ki hyP s1 s4
      have B8 := Blk.new wi [.int .i64 y.id, .slice b1 m1 d1, .int .i64 y.left, .int .i64 y.right, .slice b4 m4 d4] 45
      have kk := Ex.new wi (.cells #[.int .i64 y.id, .slice b1 m1 d1, .int .i64 y.left, .int .i64 y.right, .slice b4 m4 d4] 45)
      obtain ⟨w7, hw7⟩ : ∃ w7, w7 = wi.alloc (.cells #[.int .i64 y.id, .slice b1 m1 d1, .int .i64 y.left, .int .i64 y.right, .slice b4 m4 d4] 45) := ⟨_, rfl⟩
      obtain ⟨g8, hg8⟩ : ∃ g8, g8 = wi.heap.size := ⟨_, rfl⟩
      replace B8 : Blk w7 g8 [.int .i64 y.id, .slice b1 m1 d1, .int .i64 y.left, .int .i64 y.right, .slice b4 m4 d4] 45 := by rw [hw7, hg8]; exact B8
      rw [← hw7] at kk
      have Hw7 := Lib.hid hw7
      have Hg8 := Lib.hid hg8
      have zg8 : wi.heap.size ≤ g8 := by omega
      have K8 := Lib.hid kk
      have HPN : Hid (∀ p ∈ Q, p.near.length ≤ 4000000000000000000) := Lib.hid (fun p hp => Nat.le_trans (HQS.out p hp).2 (by omega))
      clear kk hw7 hg8
      go_upto_region 8 with fail
      rw [← Hg8.out, ← Hw7.out]
      clear Hg8 Hw7
      clear e0 e1 e2 e3 e4
      have hg8l := B8.lt
      have B8s := Lib.hid B8
      have hz8 := K8.out.size
      have hz9 : w3.heap.size ≤ w7.heap.size := Nat.le_trans hwi hz8
      have HNL := Lib.hid (nextB_len N (peerN Q) y k)
      clear B8
      refine wp_region_late_drew (S := Ex w7) [9, 10, 11] (by kernel_rfl) ((Ex.refl w7).drew) (fun hHeld => ?_)
      obtain ⟨wd, hwdx⟩ : ∃ wd : World, wd = World.drew w7 := ⟨_, rfl⟩
      rw [← hwdx] at hHeld ⊢
      have hDrew : Ex w7 wd := by rw [hwdx]; exact (Ex.refl w7).drew
      clear hwdx
      refine wpAnyL_take (i := 0) (oi := ⟨some 26, .fieldAddr 45 (.tmp 10) 1, 0, "bridge.go:80", #[], none⟩) (v := ?_) rfl (by kernel_rfl) (by kernel_rfl) (by kernel_rfl) (fun _ _ _ h => h) (Or.inl ⟨by rfl, ?hyr1x0q5⟩) (by kernel_rfl) (by kernel_rfl) (by assumption) ?restr1x0q5
      case hyr1x0q5 => intro wq hSw; (go_simp); (try with_reducible rfl)
      try simp only [Act.put, List.setIfInBounds_toArray, List.set_cons_zero, List.set_cons_succ]
      refine wpAnyL_take (i := 1) (oi := ⟨some 27, .load 22 (.tmp 26), 22, "bridge.go:80", #[⟨0, .data⟩], none⟩) (v := ?_) rfl (by kernel_rfl) (by kernel_rfl) (by kernel_rfl) (fun _ _ _ h => h) (Or.inl ⟨by rfl, ?hyr1x1q8⟩) (by kernel_rfl) (by kernel_rfl) (by assumption) ?restr1x1q8
      case hyr1x1q8 => intro wq hSw; (have cq := (B8s.out.nx hSw).cell 1 _ rfl; go_simp); (try with_reducible rfl)
      try simp only [Act.put, List.setIfInBounds_toArray, List.set_cons_zero, List.set_cons_succ]
      refine wpAnyL_take (i := 3) (oi := ⟨some 29, .move (.tmp 0), 23, "bridge.go:80", #[], none⟩) (v := ?_) rfl (by kernel_rfl) (by kernel_rfl) (by kernel_rfl) (fun _ _ _ h => h) (Or.inl ⟨by rfl, ?hyr1x3q11⟩) (by kernel_rfl) (by kernel_rfl) (by assumption) ?restr1x3q11
      case hyr1x3q11 => intro wq hSw; (go_simp); (try with_reducible rfl)
      try simp only [Act.put, List.setIfInBounds_toArray, List.set_cons_zero, List.set_cons_succ]
      refine wpAnyL_take (i := 4) (oi := ⟨some 30, .move (.tmp 7), 24, "bridge.go:80", #[], none⟩) (v := ?_) rfl (by kernel_rfl) (by kernel_rfl) (by kernel_rfl) (fun _ _ _ h => h) (Or.inl ⟨by rfl, ?hyr1x4q14⟩) (by kernel_rfl) (by kernel_rfl) (by assumption) ?restr1x4q14
      case hyr1x4q14 => intro wq hSw; (go_simp); (try with_reducible rfl)
      try simp only [Act.put, List.setIfInBounds_toArray, List.set_cons_zero, List.set_cons_succ]
      refine wpAnyL_take (i := 5) (oi := ⟨some 31, .load 45 (.tmp 10), 45, "bridge.go:80", #[], none⟩) (v := ?_) rfl (by kernel_rfl) (by kernel_rfl) (by kernel_rfl) (fun _ _ _ h => h) (Or.inl ⟨by rfl, ?hyr1x5q17⟩) (by kernel_rfl) (by kernel_rfl) (by assumption) ?restr1x5q17
      case hyr1x5q17 => intro wq hSw; (have cq0 := (B8s.out.nx hSw).cell 0 _ rfl; have cq1 := (B8s.out.nx hSw).cell 1 _ rfl; have cq2 := (B8s.out.nx hSw).cell 2 _ rfl; have cq3 := (B8s.out.nx hSw).cell 3 _ rfl; have cq4 := (B8s.out.nx hSw).cell 4 _ rfl; go_simp); (try with_reducible rfl)
      try simp only [Act.put, List.setIfInBounds_toArray, List.set_cons_zero, List.set_cons_succ]
      refine wpAnyL_take (i := 6) (oi := ⟨some 32, .move (.tmp 2), 3, "bridge.go:80", #[], none⟩) (v := ?_) rfl (by kernel_rfl) (by kernel_rfl) (by kernel_rfl) (fun _ _ _ h => h) (Or.inl ⟨by rfl, ?hyr1x6q20⟩) (by kernel_rfl) (by kernel_rfl) (by assumption) ?restr1x6q20
      case hyr1x6q20 => intro wq hSw; (go_simp); (try with_reducible rfl)
      try simp only [Act.put, List.setIfInBounds_toArray, List.set_cons_zero, List.set_cons_succ]
      refine wpAnyL_ready (rs := [2]) (by kernel_rfl) (by simp) ?_
      refine AllReadyL.cons (o := ⟨some 28, .call { callee := .value (.func 60), args := #[.tmp 27], argTypes := #[22] }, 22, "bridge.go:80", #[⟨1, .data⟩], none⟩) rfl (fun K hK => ?_) AllReadyL.nil
      go_simp
      (with_reducible refine (clone_i _ _ _ _ _ ((S1y.out.nx K8.out).nx hHeld) hl1).mono ?_)
      rintro e wc ⟨vc, rfl, own2, kk⟩
      (try replace own5 := own5.nx kk)
      obtain ⟨A2, C2, rfl, _, _, _, _⟩ := own2.slf (fun _ => rfl)
      replace own2 := own2.base hHeld.size
      replace hHeld := hHeld.nx kk
      clear kk
      have BQ := B8s.out.nx hHeld
      have KZ := hHeld.b g8
      refine hK.out _ _ (hHeld) (fun hHeld => ?_)
      clear hK K
      try simp only [Act.put, List.setIfInBounds_toArray, List.set_cons_zero, List.set_cons_succ]
      refine wpAnyL_take (i := 8) (oi := ⟨some 34, .fieldAddr 45 (.tmp 10) 1, 0, "bridge.go:80", #[⟨0, .phase⟩, ⟨1, .phase⟩, ⟨2, .phase⟩, { on := 3, ground := Ground.textOnly Departure.lateStores }, { on := 4, ground := Ground.textOnly Departure.lateStores }, ⟨5, .phase⟩, { on := 6, ground := Ground.textOnly Departure.lateStores }, { on := 7, ground := Ground.textOnly Departure.lateStoresUnsure }], none⟩) (v := ?_) rfl (by kernel_rfl) (by kernel_rfl) (by kernel_rfl) (fun _ _ _ h => h) (Or.inl ⟨by rfl, ?hyr1x8q38⟩) (by kernel_rfl) (by kernel_rfl) (by assumption) ?restr1x8q38
      case hyr1x8q38 => intro wq hSw; (go_simp); (try with_reducible rfl)
      try simp only [Act.put, List.setIfInBounds_toArray, List.set_cons_zero, List.set_cons_succ]
      refine wpAnyL_ready (rs := [7]) (by kernel_rfl) (by simp) ?_
      refine AllReadyL.cons (o := ⟨some 33, .call { callee := .value (.func 61), args := #[.tmp 29, .tmp 30, .tmp 31, .tmp 32], argTypes := #[23, 24, 45, 3] }, 43, "bridge.go:80", #[⟨3, .data⟩, ⟨4, .data⟩, ⟨5, .data⟩, ⟨6, .data⟩, ⟨2, .chain⟩], none⟩) rfl (fun K hK => ?_) AllReadyL.nil
      go_simp
      (with_reducible refine (next_p _ _ _ N _ _ _ Q y _ _ _ _ _ _ k _ (HS.out.nx (KI.out.nx (K8.out.nx hHeld))) hn hc hm HW.out (HPQ.out.nx (KI.out.nx (K8.out.nx hHeld))) (by omega) HPN.out ((S4y.out.nx K8.out).nx hHeld) hl4 hk16).mono ?_)
      rintro e wc ⟨vc, rfl, own5, kk⟩
      (try replace own2 := own2.nx kk)
      obtain ⟨A5, C5, rfl, _, _, _, _⟩ := own5.slf (fun _ => rfl)
      replace own5 := own5.base hHeld.size
      replace hHeld := hHeld.nx kk
      clear kk
      have BQ := B8s.out.nx hHeld
      have KZ := hHeld.b g8
      refine hK.out _ _ (hHeld) (fun hHeld => ?_)
      clear hK K
      try simp only [Act.put, List.setIfInBounds_toArray, List.set_cons_zero, List.set_cons_succ]
      refine wpAnyL_ready (rs := [9]) (by kernel_rfl) (by simp) ?_
      refine AllReadyL.consL (o := ⟨none, .store 22 (.tmp 34) (.tmp 28), 0, "bridge.go:80", #[⟨8, .data⟩, ⟨2, .data⟩, ⟨7, .chain⟩, ⟨0, .phase⟩, ⟨1, .phase⟩, ⟨2, .phase⟩, { on := 3, ground := Ground.textOnly Departure.lateStores }, { on := 4, ground := Ground.textOnly Departure.lateStores }, ⟨5, .phase⟩, { on := 6, ground := Ground.textOnly Departure.lateStores }, { on := 7, ground := Ground.textOnly Departure.lateStoresUnsure }], none⟩) rfl (by rfl) (fun K hK => ?_) AllReadyL.nil
      have cq := BQ.cell 1 _ rfl
      have fq := BQ.free 1
      go_simp
      clear cq fq
      replace BQ := BQ.set 1 (.slice A2 y.known.length C2)
      replace own2 := own2.nxb hg8l ((Exb.refl g8 _).setB (p := ⟨g8, 1, none⟩) (.slice A2 y.known.length C2) rfl)
      replace own5 := own5.nxb hg8l ((Exb.refl g8 _).setB (p := ⟨g8, 1, none⟩) (.slice A2 y.known.length C2) rfl)
      replace KZ := KZ.setB (p := ⟨g8, 1, none⟩) (.slice A2 y.known.length C2) rfl
      refine hK.out _ _ ?_
      clear hK K
      try simp only [Act.put, List.setIfInBounds_toArray, List.set_cons_zero, List.set_cons_succ]
      refine wpAnyL_ready (rs := [10]) (by kernel_rfl) (by simp) ?_
      refine AllReadyL.consL (o := ⟨some 35, .fieldAddr 45 (.tmp 10) 4, 0, "bridge.go:80", #[⟨0, .phase⟩, ⟨1, .phase⟩, ⟨2, .phase⟩, ⟨3, .phase⟩, ⟨4, .phase⟩, ⟨5, .phase⟩, ⟨6, .phase⟩, ⟨7, .phase⟩, ⟨8, .phase⟩, ⟨9, .phase⟩], none⟩) rfl (by rfl) (fun K hK => ?_) AllReadyL.nil
      go_simp
      refine hK.out _ _ ?_
      clear hK K
      try simp only [Act.put, List.setIfInBounds_toArray, List.set_cons_zero, List.set_cons_succ]
      refine wpAnyL_ready (rs := [11]) (by kernel_rfl) (by simp) ?_
      refine AllReadyL.consL (o := ⟨none, .store 43 (.tmp 35) (.tmp 33), 0, "bridge.go:80", #[⟨10, .data⟩, ⟨7, .data⟩, ⟨9, .chain⟩, ⟨0, .phase⟩, ⟨1, .phase⟩, ⟨2, .phase⟩, ⟨3, .phase⟩, ⟨4, .phase⟩, ⟨5, .phase⟩, ⟨6, .phase⟩, ⟨7, .phase⟩, ⟨8, .phase⟩, ⟨9, .phase⟩], none⟩) rfl (by rfl) (fun K hK => ?_) AllReadyL.nil
      have cq := BQ.cell 4 _ rfl
      have fq := BQ.free 4
      go_simp
      clear cq fq
      replace BQ := BQ.set 4 (.slice A5 (nextB N (peerN Q) y k).length C5)
      replace own2 := own2.nxb hg8l ((Exb.refl g8 _).setB (p := ⟨g8, 4, none⟩) (.slice A5 (nextB N (peerN Q) y k).length C5) rfl)
      replace own5 := own5.nxb hg8l ((Exb.refl g8 _).setB (p := ⟨g8, 4, none⟩) (.slice A5 (nextB N (peerN Q) y k).length C5) rfl)
      replace KZ := KZ.setB (p := ⟨g8, 4, none⟩) (.slice A5 (nextB N (peerN Q) y k).length C5) rfl
      refine hK.out _ _ ?_
      clear hK K
      try simp only [Act.put, List.setIfInBounds_toArray, List.set_cons_zero, List.set_cons_succ]
      refine wpAnyL_done (by kernel_rfl) ?_ _
      obtain ⟨wz, hwz⟩ : ∃ wz, wz = (wc.setCell ⟨g8, 1, none⟩ (.slice A2 y.known.length C2)).setCell ⟨g8, 4, none⟩ (.slice A5 (nextB N (peerN Q) y k).length C5) := ⟨_, rfl⟩
      rw [← hwz] at BQ own2 own5 KZ ⊢
      clear hwz
      generalize nextB N (peerN Q) y k = NX at own5 BQ SN HNL ⊢
      have BF : Blk wz g8 [.int .i64 y.id, .slice A2 y.known.length C2, .int .i64 y.left, .int .i64 y.right, .slice A5 NX.length C5] 45 := BQ
      have p0 := BF.cell 0 _ rfl
      have p1 := BF.cell 1 _ rfl
      have p2 := BF.cell 2 _ rfl
      have p3 := BF.cell 3 _ rfl
      have p4 := BF.cell 4 _ rfl
      have KW := Lib.hid (Exl.nxb (b := g8) (w := wi) ⟨K8.out, zg8⟩ KZ).1
      have OP := Lib.hid (OWN.out.nx KW.out)
      have zw := KW.out.size
      replace own2 := Lib.hid (own2.base hz8)
      replace own5 := Lib.hid (own5.base hz8)
      have hw3 : w3.heap.size ≤ wi.heap.size := hwi
      have KN := KW.out.nx (Ex.new _ (.cells #[.int .i64 y.id, .slice A2 y.known.length C2, .int .i64 y.left, .int .i64 y.right, .slice A5 NX.length C5] 45))
      have zn := Nat.le_trans hw3 KN.size
      clear BQ BF KZ hHeld
      go_wp2_with (at_builtin; (refine wpList_append_W (enc := encQ) _ rfl _ _ 24 rfl w3.heap.size 45 (.agg #[.int .i64 0, .slice none 0 0, .int .i64 0, .int .i64 0, .slice none 0 0]) 5 72 Tryz.underlying24 Tryz.infoPr rfl (by omega) (by omega) _ qz (OP.out.nx (Ex.new _ _)).row rfl _ 1 1 [(y.nums, (A2, y.known.length, C2), (A5, NX.length, C5))] (Sl.lit _ rfl rfl encQ_len rfl) encQ_len encQ_one rfl (by omega) (by omega) zn ?_); intro v9 w9 own9 ch0 ch1 _)
      have RR := OWN.out.app (p := { y with near := NX }) (by decide) (by decide) hw3 KN (own2.out.nx (Ex.new _ _)) (own5.out.nx (Ex.new _ _)) own9 ch0
      exact ⟨⟨j + 1, _, by omega, by go_num, by rw [SN.out]; exact RR, Chg.trans (KI.out.nx KN) ch1⟩, by simp [intOf]; omega⟩
    · obtain rfl : j = Q.length := by omega
      rw [List.take_length] at own
      have OWN := Lib.hid (own.lower hz3)
      have KI := Lib.hid (K03.out.nx ki)
      clear own ki hj hjm
      go_wp2_with fail
      go_ret
      exact ⟨_, qz, rfl, by rw [HR.out]; exact OWN.out, KI.out⟩
end Go.Proofs.YtbnbjiddffihoaaGreatDoor

/- Links of the package bridge. -/
namespace Go.Proofs.YtbnbjiddffihoaaGreatDoor
open Go.RowKit

def lrow (N : List Nd) (h : Nat) (p : Pr) : Lkd := (p.id, (List.range (h + 1)).map fun (lev : Nat) => linkB N p lev)
theorem links_eq {N : List Nd} {P : List Pr} {h : Nat} (hh : h ≤ 16) : linksB N P h = (normalN N P).map (lrow N h) := by
  unfold linksB
  rw [if_pos (lvl_of (by omega) (by omega))]
  rfl
theorem links_no {N : List Nd} {P : List Pr} {h : Int} (hh : lvlN h = false) : linksB N P h = [] := by unfold linksB; rw [if_neg (by rw [hh]; simp)]
theorem litLk {w0 u : World} (_ : Ex w0 u) (y : Int × Int) : ∃ g v, g = u.heap.size ∧ v = u.alloc (.cells #[.int .i64 y.1, .int .i64 y.2] 65) ∧ Sl 2 encS v (some ⟨g, 0, none⟩) 1 [y] ∧ Ex u v :=
  ⟨_, _, rfl, rfl, Sl.lit [y] rfl rfl (fun _ => rfl) rfl, Ex.new _ _⟩
def LsPost (L : List Lkd) (w : World) (en : Ending) (w' : World) : Prop := ∃ (v : Value) (qs : List (Int × Hdr)), en = .returned v ∧ OwnLk w.heap.size w' v qs L ∧ Ex w w'
def LoRel (N : List Nd) (Q : List Pr) (h : Nat) (w : World) (o i : Value) (wr : World) : Prop :=
  ∃ (j : Nat) (qs : List (Int × Hdr)), j ≤ Q.length ∧ i = .int .i64 j ∧ OwnLk w.heap.size wr o qs ((Q.take j).map (lrow N h)) ∧ Ex w wr
def LiRel (N : List Nd) (p : Pr) (h g : Nat) (w : World) (i : Value) (wr : World) : Prop :=
  ∃ (lev : Nat) (A : Option Addr) (m c : Nat), lev ≤ h + 1 ∧ i = .int .i64 lev ∧ Blk wr g [.int .i64 p.id, .slice A m c] 102 ∧ OwnL 2 encS 65 w.heap.size wr (.slice A m c) ((List.range lev).map fun (lev : Nat) => linkB N p lev) ∧ Exb g w wr
set_option maxRecDepth 100000 in
set_option maxHeartbeats 8000000 in
theorem links_p (a : Option Addr) (n c : Nat) (N : List Nd) (a2 : Option Addr) (n2 c2 : Nat) (P : List Pr) (hh : Int) (w : World) (h : Sl 3 encN w a n N) (hn : n ≤ 1000) (hc : n ≤ c) (hm : c ≤ maxLen) (hw : ∀ x ∈ N, x.word < 4294967296) (h2 : PL w a2 n2 P) (hn2 : n2 ≤ 4000000000000000000) (hP : SmallP P) :
    Calls Tryz.prog 51 #[.slice a n c, .slice a2 n2 c2, .int .i64 hh] w (LsPost (linksB N P hh) w) := by
  have HL := Lib.hid h.len
  have HW := Lib.hid hw
  clear hw
  have NO : Hid (lvlN hh = false → LsPost (linksB N P hh) w (.returned (.slice none 0 0)) w) := Lib.hid (fun h => by
    rw [links_no h]
    exact ⟨_, [], rfl, OwnN.nil _ _ _ _ _ _ _ _, Ex.refl _⟩)
  by_cases h0 : hh < 0
  · have FI := Lib.hid (NO.out (by unfold lvlN; simp; omega))
    clear h h2 hP NO
    go_enter Tryz.func51, Tryz.ntmps51
    go_wp2_with fail
    go_ret
    exact FI.out
  by_cases h1 : hh > 16
  · have FI := Lib.hid (NO.out (by unfold lvlN; simp; omega))
    clear h h2 hP NO
    go_enter Tryz.func51, Tryz.ntmps51
    go_wp2_with fail
    go_ret
    exact FI.out
  obtain ⟨k, rfl⟩ := Int.eq_ofNat_of_zero_le (show 0 ≤ hh by omega)
  have hk16 : k ≤ 16 := by omega
  have HR := Lib.hid (links_eq (N := N) (P := P) hk16)
  clear NO
  go_enter Tryz.func51, Tryz.ntmps51
  go_wp2_with fail
  (with_reducible refine (normal_p _ _ _ N _ _ _ P _ h hn hc hm h2 hn2 hP).mono ?_)
  rintro e w3 ⟨v3, qs, rfl, OQ, kk⟩
  replace h := h.nx kk
  clear h2
  have K03 := Lib.hid kk
  obtain ⟨hQ1, hQ2⟩ := normal_le N P
  have HQS := Lib.hid (normal_small N hP)
  generalize normalN N P = Q at OQ hQ1 hQ2 HR HQS
  obtain ⟨aQ, cQ, rfl, PQ0, _, _, _, _⟩ := OQ.pl
  have HPQ := Lib.hid PQ0
  have hQn : Q.length ≤ n := by have := HL.out; omega
  have hz3 := kk.size
  have HS := Lib.hid h
  clear OQ PQ0 kk hQ1 hQ2 hP h
  go_wp2_with fail
  go_loopw [7, 22] (fun o i wr => LoRel N Q k w3 o i wr) (fun _ i _ => Q.length - (intOf i).toNat)
  case atStart => exact ⟨0, [], by omega, rfl, OwnN.nil _ _ _ _ _ _ _ _, Ex.refl _⟩
  case round =>
    obtain ⟨j, qz, hj, rfl, own, ki⟩ := hrel
    obtain ⟨wi, rfl⟩ : ∃ wi : World, wi = wr := ⟨_, rfl⟩
    by_cases hjm : j < Q.length
    · obtain ⟨x5, o5, b1, m1, d1, b4, m4, d4, y, rfl, hx5, hy, e0, e1, e2, e3, e4, s1, s4⟩ := (HPQ.out.nx ki).rd hjm
      have ET : Hid ((Q.take (j + 1)).map (lrow N k) = (Q.take j).map (lrow N k) ++ [(y.id, (List.range (k + 1)).map fun (lev : Nat) => linkB N y lev)]) := Lib.hid (by rw [List.take_add_one, hy, List.map_append]; rfl)
      have hyP := HQS.out y (List.mem_of_getElem? hy)
      have hql : qz.length = j := by rw [own.2.1, List.length_map, List.length_take]; omega
      have hl4 : m4 ≤ 4000000000000000000 := by have := s4.len; omega
      have hwi := ki.size
      have S4y := Lib.hid s4
      have KI := Lib.hid ki
      have OWN := Lib.hid own
      clear hy own ki hyP s1 s4
      have B9 := Blk.new wi [.int .i64 y.id, .slice b1 m1 d1, .int .i64 y.left, .int .i64 y.right, .slice b4 m4 d4] 45
      have kk := Ex.new wi (.cells #[.int .i64 y.id, .slice b1 m1 d1, .int .i64 y.left, .int .i64 y.right, .slice b4 m4 d4] 45)
      obtain ⟨w7, hw7⟩ : ∃ w7, w7 = wi.alloc (.cells #[.int .i64 y.id, .slice b1 m1 d1, .int .i64 y.left, .int .i64 y.right, .slice b4 m4 d4] 45) := ⟨_, rfl⟩
      obtain ⟨g9, hg9⟩ : ∃ g9, g9 = wi.heap.size := ⟨_, rfl⟩
      replace B9 : Blk w7 g9 [.int .i64 y.id, .slice b1 m1 d1, .int .i64 y.left, .int .i64 y.right, .slice b4 m4 d4] 45 := by rw [hw7, hg9]; exact B9
      rw [← hw7] at kk
      have Hw7 := Lib.hid hw7
      have Hg9 := Lib.hid hg9
      have zg9 : wi.heap.size ≤ g9 := by omega
      have K7 := Lib.hid kk
      clear kk hw7 hg9
      go_upto_region 7 with fail
      rw [← Hg9.out, ← Hw7.out]
      clear Hg9 Hw7
      clear e0 e1 e2 e3 e4
      have p0 := B9.cell 0 _ rfl
      have hg9l := B9.lt
      have B10 := Blk.new w7 [.int .i64 y.id, .slice none 0 0] 102
      have kk := Ex.new w7 (.cells #[.int .i64 y.id, .slice none 0 0] 102)
      obtain ⟨w8, hw8⟩ : ∃ w8, w8 = w7.alloc (.cells #[.int .i64 y.id, .slice none 0 0] 102) := ⟨_, rfl⟩
      obtain ⟨g10, hg10⟩ : ∃ g10, g10 = w7.heap.size := ⟨_, rfl⟩
      replace B10 : Blk w8 g10 [.int .i64 y.id, .slice none 0 0] 102 := by rw [hw8, hg10]; exact B10
      rw [← hw8] at kk
      have Hw8 := Lib.hid hw8
      have Hg10 := Lib.hid hg10
      replace B9 := B9.nx kk
      have zg10 : w7.heap.size ≤ g10 := by omega
      have n910 : ¬ g9 = g10 := by omega
      have zgi : wi.heap.size ≤ g10 := by have := K7.out.size; omega
      have K8 := Lib.hid (K7.out.nx kk)
      clear kk hw8 hg10
      go_upto_region 8 with fail
      rw [← Hg10.out, ← Hw8.out]
      clear Hg10 Hw8
      clear p0
      have B9s := Lib.hid B9
      have hgk := B10.lt
      have hwk : IntKind.i64.wrap ((k : Int) + 1) = (k : Int) + 1 := IntWalk.i64_in _ (by omega)
      clear B9
      go_wp2_with fail
      go_loopw [31] (fun i wr => LiRel N y k g10 w8 i wr) (fun i _ => k + 1 - (intOf i).toNat)
      case atStart => exact ⟨0, none, 0, 0, by omega, rfl, B10, OwnL.nil _ _ _ _ _, Exb.refl _ _⟩
      case round =>
        clear B10
        obtain ⟨lev, A, m, cc, hlev, rfl, BR, lrw, kv⟩ := hrel
        obtain ⟨wp, rfl⟩ : ∃ wp : World, wp = wr := ⟨_, rfl⟩
        have KV := Lib.hid (Exl.nxb (b := g10) (w := wi) ⟨K8.out, zgi⟩ kv).1
        by_cases hl2 : lev ≤ k
        · have SP := Lib.hid (HS.out.nx (KI.out.nx KV.out))
          have SN4 := Lib.hid (S4y.out.nx KV.out)
          have KVV := Lib.hid kv
          have NSN : Hid (((List.range (lev + 1)).map fun (lev : Nat) => linkB N y lev) = ((List.range lev).map fun (lev : Nat) => linkB N y lev) ++ [linkB N y lev]) := Lib.hid (by rw [List.range_succ, List.map_append]; rfl)
          have hrl : ((List.range lev).map fun (lev : Nat) => linkB N y lev).length = lev := by simp
          generalize hyy : linkB N y lev = yy at NSN
          have HYY := Lib.hid hyy
          generalize ((List.range lev).map fun (lev : Nat) => linkB N y lev) = row at lrw NSN hrl
          have BPP := Lib.hid BR
          have NROW := Lib.hid lrw
          have zk := kv.size
          clear hyy lrw kv BR
          have BN := Lib.hid (B9s.out.nxb n910 KVV.out)
          have hlk : (lev : Int) < (k : Int) + 1 := by omega
          go_upto_region 11 with fail
          refine wp_region_late_drew (S := Ex wp) [7, 8, 9] (by kernel_rfl) ((Ex.refl wp).drew) (fun hHeld => ?_)
          obtain ⟨wd, hwdx⟩ : ∃ wd : World, wd = World.drew wp := ⟨_, rfl⟩
          rw [← hwdx] at hHeld ⊢
          have hDrew : Ex wp wd := by rw [hwdx]; exact (Ex.refl wp).drew
          clear hwdx
          refine wpAnyL_take (i := 0) (oi := ⟨some 34, .fieldAddr 102 (.tmp 10) 1, 0, "bridge.go:95", #[], none⟩) (v := ?_) rfl (by kernel_rfl) (by kernel_rfl) (by kernel_rfl) (fun _ _ _ h => h) (Or.inl ⟨by rfl, ?hyr1x0q5⟩) (by kernel_rfl) (by kernel_rfl) (by assumption) ?restr1x0q5
          case hyr1x0q5 => intro wq hSw; (go_simp); (try with_reducible rfl)
          try simp only [Act.put, List.setIfInBounds_toArray, List.set_cons_zero, List.set_cons_succ]
          refine wpAnyL_take (i := 1) (oi := ⟨some 35, .load 100 (.tmp 34), 100, "bridge.go:95", #[⟨0, .data⟩], none⟩) (v := ?_) rfl (by kernel_rfl) (by kernel_rfl) (by kernel_rfl) (fun _ _ _ h => h) (Or.inl ⟨by rfl, ?hyr1x1q8⟩) (by kernel_rfl) (by kernel_rfl) (by assumption) ?restr1x1q8
          case hyr1x1q8 => intro wq hSw; (have cq := (BPP.out.nx hSw).cell 1 _ rfl; go_simp); (try with_reducible rfl)
          try simp only [Act.put, List.setIfInBounds_toArray, List.set_cons_zero, List.set_cons_succ]
          refine wpAnyL_take (i := 2) (oi := ⟨some 36, .move (.tmp 0), 23, "bridge.go:95", #[], none⟩) (v := ?_) rfl (by kernel_rfl) (by kernel_rfl) (by kernel_rfl) (fun _ _ _ h => h) (Or.inl ⟨by rfl, ?hyr1x2q11⟩) (by kernel_rfl) (by kernel_rfl) (by assumption) ?restr1x2q11
          case hyr1x2q11 => intro wq hSw; (go_simp); (try with_reducible rfl)
          try simp only [Act.put, List.setIfInBounds_toArray, List.set_cons_zero, List.set_cons_succ]
          refine wpAnyL_take (i := 3) (oi := ⟨some 37, .load 45 (.tmp 9), 45, "bridge.go:95", #[], none⟩) (v := ?_) rfl (by kernel_rfl) (by kernel_rfl) (by kernel_rfl) (fun _ _ _ h => h) (Or.inl ⟨by rfl, ?hyr1x3q14⟩) (by kernel_rfl) (by kernel_rfl) (by assumption) ?restr1x3q14
          case hyr1x3q14 => intro wq hSw; (have B := BN.out.nx hSw; have c0 := B.cell 0 _ rfl; have c1 := B.cell 1 _ rfl; have c2 := B.cell 2 _ rfl; have c3 := B.cell 3 _ rfl; have c4 := B.cell 4 _ rfl; go_simp); (try with_reducible rfl)
          try simp only [Act.put, List.setIfInBounds_toArray, List.set_cons_zero, List.set_cons_succ]
          refine wpAnyL_take (i := 4) (oi := ⟨some 38, .move (.tmp 11), 3, "bridge.go:95", #[], none⟩) (v := ?_) rfl (by kernel_rfl) (by kernel_rfl) (by kernel_rfl) (fun _ _ _ h => h) (Or.inl ⟨by rfl, ?hyr1x4q17⟩) (by kernel_rfl) (by kernel_rfl) (by assumption) ?restr1x4q17
          case hyr1x4q17 => intro wq hSw; (go_simp); (try with_reducible rfl)
          try simp only [Act.put, List.setIfInBounds_toArray, List.set_cons_zero, List.set_cons_succ]
          refine wpAnyL_ready (rs := [5]) (by kernel_rfl) (by simp) ?_
          refine AllReadyL.cons (o := ⟨some 39, .call { callee := .value (.func 47), args := #[.tmp 36, .tmp 37, .tmp 38], argTypes := #[23, 45, 3] }, 65, "bridge.go:95", #[⟨2, .data⟩, ⟨3, .data⟩, ⟨4, .data⟩], none⟩) rfl (fun K hK => ?_) AllReadyL.nil
          go_simp
          (with_reducible refine (link_p _ _ _ N y _ _ _ _ _ _ (lev : Int) _ (SP.out.nx hHeld) hn hc hm HW.out (SN4.out.nx hHeld) hl4).mono ?_)
          rintro e wq ⟨rfl, kk⟩
          rw [HYY.out]
          replace hHeld := hHeld.nx kk
          clear kk
          refine hK.out _ _ (hHeld) (fun hHeld => ?_)
          clear hK K
          try simp only [Act.put, List.setIfInBounds_toArray, List.set_cons_zero, List.set_cons_succ]
          refine wpAnyL_ready (rs := [6]) (by kernel_rfl) (by simp) ?_
          refine AllReadyL.cons (o := ⟨some 40, .buildSlice 100 1 #[(0, .tmp 39)], 100, "bridge.go:95", #[⟨5, .data⟩], none⟩) rfl (fun K hK => ?_) AllReadyL.nil
          go_simp
          obtain ⟨g8, wq2, hg8, hwq2, SX, kk⟩ := litLk hHeld yy
          rw [← hg8, ← hwq2]
          replace hHeld := hHeld.nx kk
          clear hg8 hwq2 kk
          refine hK.out _ _ (hHeld) (fun hHeld => ?_)
          clear hK K
          try simp only [Act.put, List.setIfInBounds_toArray, List.set_cons_zero, List.set_cons_succ]
          refine wpAnyL_ready (rs := [7]) (by kernel_rfl) (by simp) ?_
          refine AllReadyL.consL (o := ⟨some 41, .call { callee := .builtin .append, args := #[.tmp 35, .tmp 40], argTypes := #[100, 100] }, 100, "bridge.go:95", #[⟨1, .data⟩, ⟨6, .data⟩, ⟨5, .chain⟩], none⟩) rfl (by rfl) (fun K hK => ?_) AllReadyL.nil
          rw [if_pos (by rfl)]
          have own4 := NROW.out.nx hHeld
          refine wp_append_rd (enc := encS) _ (.tmp 35) (.tmp 40) 100 rfl w8.heap.size 65 (.agg #[.int .i64 0, .int .i64 0]) 2 16 Tryz.underlying100 Tryz.infoLk rfl (by omega) (by omega) _ row own4 rfl _ _ 1 1 [yy] SX (fun h => by cases h) (fun _ => rfl) (by simp [encS, Value.oneCell']) rfl (by omega) (by omega) (Nat.le_trans zk hHeld.size) ?_
          intro v9 wz own9 ch0 ch1
          obtain ⟨A9, C9, e9, _⟩ := own9.rd (fun _ => rfl)
          rw [show (row ++ [yy]).length = lev + 1 by rw [List.length_append, hrl]; rfl] at e9
          subst e9
          have BZ := (BPP.out.nx hHeld).low hgk ch1
          have KQ : Exb g10 w8 wz := KVV.out.nxb' (hHeld.b g10) ch1
          refine hK.out _ _ ?_
          clear hK K
          try simp only [Act.put, List.setIfInBounds_toArray, List.set_cons_zero, List.set_cons_succ]
          refine wpAnyL_ready (rs := [8]) (by kernel_rfl) (by simp) ?_
          refine AllReadyL.consL (o := ⟨some 42, .fieldAddr 102 (.tmp 10) 1, 0, "bridge.go:95", #[⟨0, .phase⟩, ⟨1, .phase⟩, ⟨2, .phase⟩, ⟨3, .phase⟩, ⟨4, .phase⟩, ⟨5, .phase⟩, ⟨6, .phase⟩, ⟨7, .phase⟩], none⟩) rfl (by rfl) (fun K hK => ?_) AllReadyL.nil
          go_simp
          refine hK.out _ _ ?_
          clear hK K
          try simp only [Act.put, List.setIfInBounds_toArray, List.set_cons_zero, List.set_cons_succ]
          refine wpAnyL_ready (rs := [9]) (by kernel_rfl) (by simp) ?_
          refine AllReadyL.consL (o := ⟨none, .store 100 (.tmp 42) (.tmp 41), 0, "bridge.go:95", #[⟨8, .data⟩, ⟨7, .data⟩, ⟨7, .chain⟩, ⟨0, .phase⟩, ⟨1, .phase⟩, ⟨2, .phase⟩, ⟨3, .phase⟩, ⟨4, .phase⟩, ⟨5, .phase⟩, ⟨6, .phase⟩, ⟨7, .phase⟩], none⟩) rfl (by rfl) (fun K hK => ?_) AllReadyL.nil
          have c4 := BZ.cell 1 _ rfl
          have f4 := BZ.free 1
          go_simp
          clear c4 f4
          refine hK.out _ _ ?_
          clear hK K
          try simp only [Act.put, List.setIfInBounds_toArray, List.set_cons_zero, List.set_cons_succ]
          refine wpAnyL_done (by kernel_rfl) ?_ _
          have BY := BZ.set 1 (.slice A9 (lev + 1) C9)
          have K9 : Exb g10 w8 (wz.setCell ⟨g10, 1, none⟩ (.slice A9 (lev + 1) C9)) := KQ.setB (p := ⟨g10, 1, none⟩) _ rfl
          have own8 := Lib.hid (own9.put BZ (by decide) ((Exb.refl g10 wz).setB (p := ⟨g10, 1, none⟩) (.slice A9 (lev + 1) C9) rfl))
          have RR := Lib.hid (show LiRel N y k g10 w8 (.int .i64 ((lev : Int) + 1)) (wz.setCell ⟨g10, 1, none⟩ (.slice A9 (lev + 1) C9)) from ⟨lev + 1, A9, _, C9, by omega, by go_num, BY, by rw [NSN.out]; exact own8.out, K9⟩)
          clear BY K9 own8 own9 BZ KQ ch0 ch1 hHeld own4 SX
          go_wp2_with fail
          exact ⟨RR.out, by simp [intOf]; omega⟩
        · obtain rfl : lev = k + 1 := by omega
          have p0 := BR.cell 0 _ rfl
          have p1 := BR.cell 1 _ rfl
          obtain ⟨A, cc, e9, _⟩ := lrw.rd (fun _ => rfl)
          cases e9
          have OQ1 := OWN.out.nx KV.out
          have KW : Ex wi wp := KV.out
          have hzi : w3.heap.size ≤ w8.heap.size := by have := K8.out.size; omega
          have hzp : w3.heap.size ≤ wp.heap.size := Nat.le_trans hzi kv.size
          have hlk : ¬ (((k + 1 : Nat) : Int) < (k : Int) + 1) := by omega
          have FR : ∀ (j : Nat) (r : Int × Hdr) (g : Nat), qz[j]? = some r → r.2.val.ownBlock = some g → ¬ (Value.slice A ((List.range (k + 1)).map fun (lev : Nat) => linkB N y lev).length cc).ownBlock = some g := by
            intro j r g hr hg hv
            have h1 := OWN.out.lt hr hg
            have h2 := (lrw.lt g hv).1
            have h3 := K8.out.size
            omega
          generalize ((List.range (k + 1)).map fun (lev : Nat) => linkB N y lev) = row at lrw p1 FR ET
          have k8 := Ex.new wp (.cells #[.int .i64 y.id, .slice A row.length cc] 102)
          have SX : Sl 2 (encP encI) (wp.alloc (.cells #[.int .i64 y.id, .slice A row.length cc] 102)) (some ⟨wp.heap.size, 0, none⟩) 1 [((y.id, (A, row.length, cc)) : Int × Hdr)] := Sl.lit _ rfl rfl (fun _ => rfl) rfl
          have OQ2 := OQ1.nx k8
          have own2 := lrw.nx k8
          have ki8 := (KI.out.nx KW).nx k8
          clear BR kv hlev hl2 lrw
          go_wp2_with (at_builtin; (refine wpList_append_W (enc := encP encI) _ rfl _ _ 71 rfl w3.heap.size 102 (.agg #[.int .i64 0, .slice none 0 0]) 2 32 Tryz.underlying71 Tryz.infoLd rfl (by omega) (by omega) _ _ OQ2.1 rfl _ 1 1 [_] SX (fun _ => rfl) (by simp [encP, encI, Hdr.val, Value.oneCell']) rfl (by omega) (by omega) (by simp; omega) ?_); intro v7 w9 own7 ch0 ch1 _)
          have OQ7 := OQ2.push (by decide) own7 ch0 (own2.base (by omega)) FR
          exact ⟨⟨j + 1, qz ++ [((y.id, (A, row.length, cc)) : Int × Hdr)], by omega, by go_num, by rw [ET.out]; exact OQ7, Chg.trans ki8 ch1⟩, by simp [intOf]; omega⟩
    · obtain rfl : j = Q.length := by omega
      rw [List.take_length] at own
      have OWN := Lib.hid (OwnN.base own hz3)
      have KI := Lib.hid (K03.out.nx ki)
      clear own ki hj hjm
      go_wp2_with fail
      go_ret
      exact ⟨_, qz, rfl, by rw [HR.out]; exact OWN.out, KI.out⟩
end Go.Proofs.YtbnbjiddffihoaaGreatDoor

/- When two lists of links are equal. -/
namespace Go.Proofs.YtbnbjiddffihoaaGreatDoor
open Go.RowKit

def SmRel (L M : List Lkd) (n : Nat) (w : World) (i : Value) (wr : World) : Prop := ∃ k : Nat, k ≤ n ∧ i = .int .i64 k ∧ Ex w wr ∧ L.take k = M.take k
def SvRel (r s : List (Int × Int)) (n : Nat) (w : World) (i : Value) (wr : World) : Prop := ∃ k : Nat, k ≤ n ∧ i = .int .i64 k ∧ Ex w wr ∧ r.take k = s.take k
theorem take_snoc_eq {α : Type} {L M : List α} {k : Nat} {c d : α} (h : L.take k = M.take k) (hc : L[k]? = some c) (hd : M[k]? = some d) (he : c = d) : L.take (k + 1) = M.take (k + 1) := by
  rw [List.take_add_one, List.take_add_one, h, hc, hd, he]
theorem ne_at {α : Type} {L M : List α} {k : Nat} {c d : α} (hc : L[k]? = some c) (hd : M[k]? = some d) (he : c ≠ d) : ¬ L = M := by
  intro h
  rw [h, hd] at hc
  exact he (Option.some.inj hc).symm

end Go.Proofs.YtbnbjiddffihoaaGreatDoor

/- Same of the package ideal: when two lists of links are equal. -/
namespace Go.Proofs.YtbnbjiddffihoaaGreatDoor
open Go.RowKit

set_option maxHeartbeats 4000000 in
theorem eql_p (a1 a2 : Option Addr) (n m c1 c2 : Nat) (r s : List (Int × Int)) (w : World) (h1 : Sl 2 encS w a1 n r) (h2 : Sl 2 encS w a2 m s) (hn : n ≤ 9223372036854775807) :
    Calls Tryz.prog 97 #[.slice a1 n c1, .slice a2 m c2] w fun e w' => e = .returned (.bool (decide (r = s))) ∧ Ex w w' := by
  have L1 := Lib.hid h1.len
  have L2 := Lib.hid h2.len
  have R1 := Lib.hid h1
  have R2 := Lib.hid h2
  clear h1 h2
  go_enter Tryz.func97, Tryz.ntmps97
  by_cases hnm : n = m
  · subst hnm
    go_wp2_with fail
    go_loopw [13] (fun i wr => SvRel r s n w i wr) (fun i _ => n - (intOf i).toNat)
    case atStart => exact ⟨0, by omega, rfl, Ex.refl w, rfl⟩
    case round =>
      obtain ⟨j, hj, rfl, kv, hT2⟩ := hrel
      obtain ⟨wi, rfl⟩ : ∃ wi : World, wi = wr := ⟨_, rfl⟩
      have HT2 := Lib.hid hT2
      clear hT2
      by_cases hjl : j < n
      · obtain ⟨x3, o3, y1, rfl, hx3, hy1, hc3⟩ := (R1.out.nx kv).at hjl
        obtain ⟨x4, o4, y2, rfl, hx4, hy2, hc4⟩ := (R2.out.nx kv).at hjl
        have u0 : wi.cell? ⟨x3, o3 + j * 2, none⟩ = some (.int .i64 y1.1) := hc3 0 _ rfl
        have u1 : wi.cell? ⟨x3, o3 + j * 2 + 1, none⟩ = some (.int .i64 y1.2) := hc3 1 _ rfl
        have v0 : wi.cell? ⟨x4, o4 + j * 2, none⟩ = some (.int .i64 y2.1) := hc4 0 _ rfl
        have v1 : wi.cell? ⟨x4, o4 + j * 2 + 1, none⟩ = some (.int .i64 y2.2) := hc4 1 _ rfl
        have HZ1 := Lib.hid hy1
        have HZ2 := Lib.hid hy2
        have KV := Lib.hid kv
        clear hc3 hc4 hy1 hy2 kv
        by_cases hy : y1 = y2
        · subst hy
          go_wp2_with fail
          go_quiet (fail)
          go_wp2_with fail
          exact ⟨⟨j + 1, by omega, by go_num, KV.out.drewN _, take_snoc_eq HT2.out HZ1.out HZ2.out rfl⟩, by simp [intOf]; omega⟩
        · have ND : Hid (decide (r = s) = false) := Lib.hid (decide_eq_false (ne_at HZ1.out HZ2.out hy))
          obtain ⟨p1, r1⟩ := y1
          obtain ⟨p2, r2⟩ := y2
          simp only at u0 u1 v0 v1
          by_cases hp : p1 = p2
          · subst hp
            have hr : ¬ r1 = r2 := fun h => hy (by rw [h])
            have hb : (r1 == r2) = false := by simpa using hr
            clear hy HZ1 HZ2
            go_wp2_with fail
            go_quiet (fail)
            go_wp2_with fail
            go_ret
            exact ⟨by rw [ND.out]; rfl, KV.out.drewN _⟩
          · have hb : (p1 == p2) = false := by simpa using hp
            clear hy HZ1 HZ2
            go_wp2_with fail
            go_quiet (fail)
            go_wp2_with fail
            go_ret
            exact ⟨by rw [ND.out]; rfl, KV.out.drewN _⟩
      · obtain rfl : j = n := by omega
        have ED : Hid (decide (r = s) = true) := Lib.hid (decide_eq_true (by
          have h3 := HT2.out
          rwa [List.take_of_length_le (by rw [L1.out]; exact Nat.le_refl _), List.take_of_length_le (by rw [L2.out]; exact Nat.le_refl _)] at h3))
        have KV := Lib.hid kv
        clear kv hj hjl
        go_wp2_with fail
        go_ret
        exact ⟨by rw [ED.out]; rfl, KV.out⟩
  · have hnm' : ¬ (n : Int) = (m : Int) := by omega
    have ND : Hid (decide (r = s) = false) := Lib.hid (decide_eq_false (fun h => hnm (by rw [← L1.out, ← L2.out, h])))
    go_wp2_with fail
    go_ret
    exact ⟨by rw [ND.out]; rfl, Ex.refl _⟩
set_option maxHeartbeats 1000000 in
theorem same1_p (i1 i2 : Int) (a1 a2 : Option Addr) (n m c1 c2 : Nat) (r s : List (Int × Int)) (w : World) (h1 : Sl 2 encS w a1 n r) (h2 : Sl 2 encS w a2 m s) (hn : n ≤ 9223372036854775807) :
    Calls Tryz.prog 96 #[.agg #[.int .i64 i1, .slice a1 n c1], .agg #[.int .i64 i2, .slice a2 m c2]] w fun e w' => e = .returned (.bool (decide ((i1, r) = (i2, s)))) ∧ Ex w w' := by
  go_enter Tryz.func96, Tryz.ntmps96
  by_cases hi : i1 = i2
  · subst hi
    have k1 := Ex.new w (.cells #[.int .i64 i1, .slice a1 n c1] 102)
    have k2 := k1.alloc (.cells #[.int .i64 i1, .slice a2 m c2] 102)
    have R1 := h1.nx k2
    have R2 := h2.nx k2
    have DD : Hid (decide ((i1, r) = (i1, s)) = decide (r = s)) := Lib.hid (by rw [decide_eq_decide]; simp)
    have K2 := Lib.hid k2
    clear h1 h2 k1 k2
    go_wp2_with fail
    (with_reducible refine (eql_p _ _ _ _ _ _ _ _ _ R1 R2 hn).mono ?_)
    rintro e w1 ⟨rfl, kk⟩
    clear R1 R2
    go_wp2_with fail
    go_ret
    exact ⟨by rw [DD.out]; rfl, K2.out.nx kk⟩
  · have d1 : (i1 == i2) = false := by simpa using hi
    have ND : Hid (decide ((i1, r) = (i2, s)) = false) := Lib.hid (decide_eq_false (fun h => hi (by cases h; rfl)))
    clear h1 h2
    go_wp2_with fail
    go_ret
    exact ⟨by rw [ND.out]; rfl, ((Ex.refl w).alloc _).alloc _⟩
set_option maxRecDepth 100000 in
set_option maxHeartbeats 4000000 in
theorem eqf_p (a1 a2 : Option Addr) (n m c1 c2 : Nat) (L M : List Lkd) (w : World) (h1 : LkL w a1 n L) (h2 : LkL w a2 m M) (hn : n ≤ 1000000) (hs : ∀ c ∈ L, c.2.length ≤ 9223372036854775807) :
    Calls Tryz.prog 95 #[.slice a1 n c1, .slice a2 m c2, .func (.func 96) #[] #[]] w fun e w' => e = .returned (.bool (decide (L = M))) ∧ Ex w w' := by
  have HL := Lib.hid h1.len
  have HM := Lib.hid h2.len
  have HS := Lib.hid hs
  have H1 := Lib.hid h1
  have H2 := Lib.hid h2
  clear hs h1 h2
  go_enter Tryz.func95, Tryz.ntmps95
  by_cases hnm : n = m
  · subst hnm
    go_wp2_with fail
    go_loopw [17] (fun i wr => SmRel L M n w i wr) (fun i _ => n - (intOf i).toNat)
    case atStart => exact ⟨0, by omega, rfl, Ex.refl _, rfl⟩
    case round =>
      obtain ⟨k, hk, rfl, kw, hT⟩ := hrel
      obtain ⟨wo, rfl⟩ : ∃ wo : World, wo = wr := ⟨_, rfl⟩
      have HT := Lib.hid hT
      clear hT
      by_cases hlt : k < n
      · obtain ⟨x1, o1, a1', n1', c1', d1, rfl, hx1, hy1, hc1, r1⟩ := (H1.out.nx kw).at hlt
        obtain ⟨x2, o2, a2', n2', c2', d2, rfl, hx2, hy2, hc2, r2⟩ := (H2.out.nx kw).at hlt
        have e0 : wo.cell? ⟨x1, o1 + k * 2, none⟩ = some (.int .i64 d1.1) := hc1 0 _ rfl
        have e1 : wo.cell? ⟨x1, o1 + k * 2 + 1, none⟩ = some (.slice a1' n1' c1') := hc1 1 _ rfl
        have f0 : wo.cell? ⟨x2, o2 + k * 2, none⟩ = some (.int .i64 d2.1) := hc2 0 _ rfl
        have f1 : wo.cell? ⟨x2, o2 + k * 2 + 1, none⟩ = some (.slice a2' n2' c2') := hc2 1 _ rfl
        have hne1 : ¬ x1 = wo.heap.size := by omega
        have hne2 : ¬ x2 = wo.heap.size := by omega
        have HY1 := Lib.hid hy1
        have HY2 := Lib.hid hy2
        have hb1 : n1' ≤ 9223372036854775807 := by rw [← r1.len]; exact HS.out _ (List.mem_of_getElem? hy1)
        have k1 := Ex.new wo (.cells #[.int .i64 d1.1, .slice a1' n1' c1'] 102)
        have k2 := k1.alloc (.cells #[.int .i64 d2.1, .slice a2' n2' c2'] 102)
        have R1 := Lib.hid (fun (cur : World) (k : Ex wo cur) => r1.nx k)
        have R2 := Lib.hid (fun (cur : World) (k : Ex wo cur) => r2.nx k)
        have K2 := Lib.hid k2
        have KW := Lib.hid kw
        clear hc1 hc2 hy1 hy2 r1 r2 k1 k2 kw
        go_wp2_with fail
        (with_reducible refine (same1_p _ _ _ _ _ _ _ _ _ _ _ (R1.out _ K2.out) (R2.out _ K2.out) hb1).mono ?_)
        rintro e w1 ⟨rfl, kk⟩
        have KZ := Lib.hid (KW.out.nx (K2.out.nx kk))
        clear kk K2 R1 R2 e0 e1 f0 f1
        by_cases hd : (d1.1, d1.2) = (d2.1, d2.2)
        · rw [decide_eq_true hd]
          have ED : Hid (d1 = d2) := Lib.hid hd
          clear hd
          go_wp2_with fail
          exact ⟨⟨k + 1, by omega, by go_num, KZ.out, take_snoc_eq HT.out HY1.out HY2.out ED.out⟩, by simp [intOf]; omega⟩
        · rw [decide_eq_false hd]
          have ND : Hid (decide (L = M) = false) := Lib.hid (decide_eq_false (ne_at HY1.out HY2.out hd))
          clear hd
          go_wp2_with fail
          go_ret
          exact ⟨by rw [ND.out]; rfl, KZ.out⟩
      · obtain rfl : k = n := by omega
        have ED : Hid (decide (L = M) = true) := Lib.hid (decide_eq_true (by
          have h3 := HT.out
          rwa [List.take_of_length_le (by rw [HL.out]; exact Nat.le_refl _), List.take_of_length_le (by rw [HM.out]; exact Nat.le_refl _)] at h3))
        clear hk hlt
        go_wp2_with fail
        go_ret
        exact ⟨by rw [ED.out]; rfl, kw⟩
  · have hnm' : ¬ (n : Int) = (m : Int) := by omega
    have ND : Hid (decide (L = M) = false) := Lib.hid (decide_eq_false (fun h => hnm (by rw [← HL.out, ← HM.out, h])))
    go_wp2_with fail
    go_ret
    exact ⟨by rw [ND.out]; rfl, Ex.refl _⟩
theorem same_lp (a1 a2 : Option Addr) (n m c1 c2 : Nat) (L M : List Lkd) (w : World) (h1 : LkL w a1 n L) (h2 : LkL w a2 m M) (hn : n ≤ 1000000) (hs : ∀ c ∈ L, c.2.length ≤ 9223372036854775807) :
    Calls Tryz.prog 59 #[.slice a1 n c1, .slice a2 m c2] w fun e w' => e = .returned (.bool (decide (L = M))) ∧ Ex w w' := by
  go_enter Tryz.func59, Tryz.ntmps59
  go_wp2_with fail
  (with_reducible refine (eqf_p _ _ _ _ _ _ _ _ _ h1 h2 hn hs).mono ?_)
  rintro e w1 ⟨rfl, kk⟩
  clear h1 h2
  go_wp2_with fail
  go_ret
  exact ⟨rfl, kk⟩
end Go.Proofs.YtbnbjiddffihoaaGreatDoor

/- Exact and Rounds of the package bridge. -/
namespace Go.Proofs.YtbnbjiddffihoaaGreatDoor
open Go.RowKit

def rndsB (n h : Int) : Int := if 0 ≤ n ∧ n ≤ 64 ∧ 0 ≤ h ∧ h ≤ 16 then n * h else 0
theorem rounds17_p (n h : Int) (w : World) : Calls Tryz.prog 21 #[.int .i64 n, .int .i64 h] w fun e w' => e = .returned (.int .i64 (rndsB n h)) ∧ w = w' := by
  by_cases hb : 0 ≤ n ∧ n ≤ 64 ∧ 0 ≤ h ∧ h ≤ 16
  · have E : Hid (rndsB n h = n * h) := Lib.hid (if_pos hb)
    obtain ⟨h1, h2, h3, h4⟩ := hb
    have hwr : IntKind.i64.wrap (n * h) = n * h := IntWalk.i64_in _ (by
      have a1 : 0 ≤ n * h := Int.mul_nonneg h1 h3
      have a2 : n * h ≤ 64 * 16 := Int.le_trans (Int.mul_le_mul_of_nonneg_right h2 h3) (Int.mul_le_mul_of_nonneg_left h4 (by omega))
      omega)
    have d1 : decide (n < 0) = false := by simp; omega
    have d2 : decide (n > 64) = false := by simp; omega
    have d3 : decide (h < 0) = false := by simp; omega
    have d4 : decide (h > 16) = false := by simp; omega
    clear h1 h2 h3 h4
    go_enter Tryz.func21, Tryz.ntmps21
    go_wp2_with fail
    go_ret
    exact ⟨by rw [E.out]; rfl, rfl⟩
  · have E : Hid (rndsB n h = 0) := Lib.hid (if_neg hb)
    have hb2 : n < 0 ∨ n > 64 ∨ h < 0 ∨ h > 16 := by omega
    clear hb
    rcases hb2 with hb | hb | hb | hb
    · have d1 : decide (n < 0) = true := by simpa using hb
      clear hb
      go_enter Tryz.func21, Tryz.ntmps21
      go_wp2_with fail
      go_ret
      exact ⟨by rw [E.out]; rfl, rfl⟩
    · have d1 : decide (n < 0) = false := by simp; omega
      have d2 : decide (n > 64) = true := by simpa using hb
      clear hb
      go_enter Tryz.func21, Tryz.ntmps21
      go_wp2_with fail
      go_ret
      exact ⟨by rw [E.out]; rfl, rfl⟩
    · by_cases h1 : n < 0
      · clear hb
        go_enter Tryz.func21, Tryz.ntmps21
        go_wp2_with fail
        go_ret
        exact ⟨by rw [E.out]; rfl, rfl⟩
      by_cases h2 : n > 64
      · clear hb
        go_enter Tryz.func21, Tryz.ntmps21
        go_wp2_with fail
        go_ret
        exact ⟨by rw [E.out]; rfl, rfl⟩
      go_enter Tryz.func21, Tryz.ntmps21
      go_wp2_with fail
      go_ret
      exact ⟨by rw [E.out]; rfl, rfl⟩
    · have h3 : ¬ h < 0 := by omega
      by_cases h1 : n < 0
      · clear hb
        go_enter Tryz.func21, Tryz.ntmps21
        go_wp2_with fail
        go_ret
        exact ⟨by rw [E.out]; rfl, rfl⟩
      by_cases h2 : n > 64
      · clear hb
        go_enter Tryz.func21, Tryz.ntmps21
        go_wp2_with fail
        go_ret
        exact ⟨by rw [E.out]; rfl, rfl⟩
      go_enter Tryz.func21, Tryz.ntmps21
      go_wp2_with fail
      go_ret
      exact ⟨by rw [E.out]; rfl, rfl⟩
theorem OwnLk.nl' {base : Nat} {w : World} {v : Value} {qs : List (Int × Hdr)} {L : List Lkd} (h : OwnLk base w v qs L) : ∃ a cap, v = .slice a L.length cap ∧ LkL w a L.length L := by
  obtain ⟨a, cap, e, r, _⟩ := OwnN.nl (encA := encI) (s1 := 2) (encB := encS) (s2 := 2) (fun _ => rfl) (fun _ => rfl) h
  exact ⟨a, cap, e, r⟩
theorem links_rows (N : List Nd) (P : List Pr) (h : Int) : ∀ c ∈ linksB N P h, c.2.length ≤ 17 := by
  intro c hc
  unfold linksB at hc
  split at hc
  · rename_i hl
    obtain ⟨p, _, rfl⟩ := List.mem_map.1 hc
    unfold lvlN at hl
    simp at hl
    simp
    omega
  · cases hc
theorem links_len (N : List Nd) (P : List Pr) (h : Int) : (linksB N P h).length ≤ N.length := by
  unfold linksB
  split
  · rw [List.length_map]; exact (normal_le N P).1
  · exact Nat.zero_le _
theorem exactB_no {N : List Nd} {P : List Pr} {h : Int} (he : ¬ (buildN N h).2 = 0) : exactB N P h = false := by
  unfold exactB
  rw [show ((buildN N h).2 == 0) = false by simpa using he, Bool.false_and]
theorem exactB_eq {N : List Nd} {P : List Pr} {h : Int} (he : (buildN N h).2 = 0) : exactB N P h = decide (linksB N P h = (buildN N h).1) := by
  unfold exactB
  rw [he]
  rfl
set_option maxHeartbeats 2000000 in
theorem bexact_p (a : Option Addr) (n c : Nat) (N : List Nd) (a2 : Option Addr) (n2 c2 : Nat) (P : List Pr) (hh : Int) (w : World) (h : Sl 3 encN w a n N) (hn : n ≤ 1000) (hc : n ≤ c) (hm : c ≤ maxLen) (hw : ∀ x ∈ N, x.word < 4294967296) (hT : TabG w) (h2 : PL w a2 n2 P) (hn2 : n2 ≤ 4000000000000000000) (hP : SmallP P) :
    Calls Tryz.prog 22 #[.slice a n c, .slice a2 n2 c2, .int .i64 hh] w fun e w' => e = .returned (.bool (exactB N P hh)) ∧ Ex w w' := by
  have HL := Lib.hid h.len
  have HW := Lib.hid hw
  have EX := Ex.refl w
  clear hw
  have HP := Lib.hid hP
  clear hP
  go_enter Tryz.func22, Tryz.ntmps22
  go_wp2_with fail
  (with_reducible refine (build_p _ _ _ N hh _ h hn hc hm HW.out hT).mono ?_)
  rintro e w1 ⟨v, qs, rfl, own, kk⟩
  replace h := h.nx kk
  replace h2 := h2.nx kk
  replace EX := EX.nx kk
  clear kk
  obtain ⟨aB, cB, rfl, LB⟩ := OwnLk.nl' own
  clear own hT
  have LB := Lib.hid LB
  by_cases he : (buildN N hh).2 = 0
  · have E0 := Lib.hid (exactB_eq (P := P) he)
    have d1 : ((buildN N hh).2 == 0) = true := by rw [he]; rfl
    clear he
    have hll := links_len N P hh
    have hlr := Lib.hid (links_rows N P hh)
    go_wp2_with fail
    (with_reducible refine (links_p _ _ _ N _ _ _ P hh _ h hn hc hm HW.out h2 hn2 HP.out).mono ?_)
    rintro e w2 ⟨v, qs, rfl, own, kk⟩
    replace EX := EX.nx kk
    obtain ⟨aL, cL, rfl, LL⟩ := OwnLk.nl' own
    replace LB := Lib.hid (LB.out.nx kk)
    clear h h2 kk own
    have hl : (linksB N P hh).length ≤ 1000000 := by have := HL.out; omega
    go_wp2_with fail
    (with_reducible refine (same_lp _ _ _ _ _ _ _ _ _ LL LB.out hl (fun c hc => Nat.le_trans (hlr.out c hc) (by omega))).mono ?_)
    rintro e w3 ⟨rfl, kk⟩
    rw [← E0.out]
    replace EX := Lib.hid (EX.nx kk)
    clear LL kk
    go_wp2_with fail
    go_ret
    exact ⟨rfl, EX.out⟩
  · have E0 := Lib.hid (exactB_no (P := P) he)
    have d1 : ((buildN N hh).2 == 0) = false := by simpa using he
    have EX := Lib.hid EX
    clear he h h2
    go_wp2_with fail
    go_ret
    exact ⟨by rw [E0.out]; rfl, EX.out⟩
end Go.Proofs.YtbnbjiddffihoaaGreatDoor

/- SameInts of the reference at equal lists. -/
namespace Go.Proofs.YtbnbjiddffihoaaGreatDoor
open Go.RowKit

set_option maxHeartbeats 1000000 in
theorem sameints_x (a1 a2 : Option Addr) (n c1 c2 : Nat) (l : List Int) (w : World) (h1 : Sl 1 encI w a1 n l) (h2 : Sl 1 encI w a2 n l) (hn : n ≤ 1000000) :
    Calls Tryz.prog 64 #[.slice a1 n c1, .slice a2 n c2] w fun e w' => e = .returned (.bool true) ∧ Ex w w' := by
  go_enter Tryz.func64, Tryz.ntmps64
  go_wp2_with fail
  go_loopw [5] (fun i wr => ∃ k : Nat, k ≤ n ∧ i = .int .i64 k ∧ Ex w wr) (fun i _ => n - (intOf i).toNat)
  case atStart => exact ⟨0, by omega, rfl, Ex.refl _⟩
  case round =>
    obtain ⟨k, hk, rfl, kw⟩ := hrel
    obtain ⟨wo, rfl⟩ : ∃ wo : World, wo = wr := ⟨_, rfl⟩
    by_cases hlt : k < n
    · obtain ⟨x1, o1, y, rfl, hx1, hy, hc1⟩ := (h1.nx kw).at hlt
      obtain ⟨x2, o2, y', rfl, hx2, hy', hc2⟩ := (h2.nx kw).at hlt
      obtain rfl : y = y' := Option.some.inj (hy.symm.trans hy')
      have e0 : wo.cell? ⟨x1, o1 + k, none⟩ = some (.int .i64 y) := by simpa using hc1 0 _ rfl
      have f0 : wo.cell? ⟨x2, o2 + k, none⟩ = some (.int .i64 y) := by simpa using hc2 0 _ rfl
      clear hc1 hc2 hy hy' h1 h2
      go_wp2_with fail
      go_quiet (fail)
      go_wp2_with fail
      exact ⟨⟨k + 1, by omega, by go_num, kw.drewN _⟩, by simp [intOf]; omega⟩
    · obtain rfl : k = n := by omega
      clear h1 h2 hk hlt
      go_wp2_with fail
      go_ret
      exact ⟨rfl, kw⟩

end Go.Proofs.YtbnbjiddffihoaaGreatDoor

/- The sanity check of chapter 14 (printed by gen_l14.py). -/
namespace Go.Proofs.YtbnbjiddffihoaaGreatDoor
open Go.RowKit

end Go.Proofs.YtbnbjiddffihoaaGreatDoor

/- Rosters of at least one node, from the tape. -/
namespace Go.Proofs.YtbnbjiddffihoaaGreatDoor
open Go.RowKit

theorem check_one {x : Nd} (h1 : 1 ≤ x.id) (h2 : x.id ≤ 2147483647) (h3 : x.key.size ≤ 64) (h4 : x.word < 65536) : checkN [x] = 0 := by
  have hb : badN x = false := by
    unfold badN validN
    simp
    omega
  have hd : dupN [x] = false := by
    cases h : dupN [x] with
    | false => rfl
    | true =>
      obtain ⟨i, k, _, _, hki, hi, _⟩ := (dupN_iff _).1 h
      have := (List.getElem?_eq_some_iff.1 hi).1
      simp at this
      omega
  unfold checkN
  simp [hb, hd]
def SomeOf (n b : Nat) (w w' : World) (v : Value) (L : List Nd) : Prop := RosterOf n b w w' v L ∧ 1 ≤ L.length
set_option maxRecDepth 100000 in
set_option maxHeartbeats 1000000 in
theorem some_n {b : Nat} (n : Nat) (w : World) (h : TK w b) (hL : LetG w) (hgb : ¬ 0 = b) (hn0 : 1 ≤ n) (hn : n ≤ 60) :
    Calls Tryz.prog 19 #[.pointer (some ⟨b, 0, none⟩), .int .i64 n] w fun e w' => ∃ v L, e = .returned v ∧ SomeOf n b w w' v L := by
  have hbw := h.lt
  go_enter Tryz.func19, Tryz.ntmps19
  go_wp2_with fail
  refine (roster_t n _ h hL hgb hn0 hn).mono ?_
  rintro e w1 ⟨v1, L, rfl, R⟩
  obtain ⟨A1, C1, rfl, _, _, _, _⟩ := R.own.slf (fun _ => rfl)
  have T := R.tape
  have L1 := hL.nxb hgb R.k
  clear h hL
  by_cases h0 : L.length = 0
  · have d0 : ((L.length : Int) == 0) = true := by rw [h0]; rfl
    have kk := R.k
    clear R
    go_wp2_with fail
    refine (next_t (3 * (n : Int)) _ T (by omega) (by omega)).mono ?_
    clear T
    rintro e w2 ⟨d, rfl, r0, r1, T, k2⟩
    replace L1 := L1.nxb hgb k2
    replace kk := kk.nxb k2
    clear k2
    go_wp2_with fail
    refine (key_t _ T L1 hgb).mono ?_
    clear T
    rintro e w3 ⟨s, rfl, hs, T, k2⟩
    replace kk := kk.nxb k2
    clear k2 L1
    go_wp2_with fail
    refine (word_t _ T).mono ?_
    clear T
    rintro e w4 ⟨m, rfl, hm, T, k2⟩
    replace kk := kk.nxb k2
    clear k2
    have kz := kk.size
    go_wp2_with fail
    go_ret
    refine ⟨_, [⟨1 + d, s, m⟩], rfl, ⟨OwnL.lit [⟨1 + d, s, m⟩] (fun _ => rfl) kz (by unfold maxLen; simp) rfl, by simp; omega, check_one (by simp; omega) (by simp; omega) hs hm, by simpa using hm, T.nx (Ex.new _ _), kk.nxb ((Ex.new _ _).b b)⟩, by simp⟩
  · have d0 : ((L.length : Int) == 0) = false := by rw [beq_eq_false_iff_ne]; omega
    have R := Lib.hid R
    go_wp2_with fail
    go_ret
    exact ⟨_, L, rfl, R.out, by omega⟩
end Go.Proofs.YtbnbjiddffihoaaGreatDoor
