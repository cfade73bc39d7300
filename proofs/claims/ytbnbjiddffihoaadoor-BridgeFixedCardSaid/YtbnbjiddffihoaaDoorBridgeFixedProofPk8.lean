/- Texts for the statement BridgeFixedProof, part 8 of 9: BriD, BriE, SameL, SameP, BriF, SmI, Sane14, TSome, TPe, RdGa, TPs, RdSu, RdWi, Same14, Lw17, L17, L17F, Laid4, LaidL, Laid2. -/
import Derived.BigQuiet
import Derived.Test.YtbnbjiddffihoaaDoorTie
import Derived.Test.YtbnbjiddffihoaaDoorCards
import Derived.Lib.LaidTab
import Derived.Lib.LaidU8
import Derived.LaidMore
import Derived.Stop.Joined
import Derived.SevenTiedAt
import Derived.ChangeArms
import Derived.LaidSub
import Derived.Test.YtbnbjiddffihoaaDoorBridgeFixedProofPk1
import Derived.Test.YtbnbjiddffihoaaDoorBridgeFixedProofPk2
import Derived.Test.YtbnbjiddffihoaaDoorBridgeFixedProofPk3
import Derived.Test.YtbnbjiddffihoaaDoorBridgeFixedProofPk4
import Derived.Test.YtbnbjiddffihoaaDoorBridgeFixedProofPk5
import Derived.Test.YtbnbjiddffihoaaDoorBridgeFixedProofPk6
import Derived.Test.YtbnbjiddffihoaaDoorBridgeFixedProofPk7

/- Round of the package bridge. -/
namespace Go.Proofs.YtbnbjiddffihoaaDoor
open Go.RowKit

def bstep (N : List Nd) (Q : List Pr) (h : Nat) (p : Pr) : Pr := { p with near := nextB N (peerN Q) p h }
theorem bround_eq {N : List Nd} {P : List Pr} {h : Nat} (hh : h ≤ 16) : bRoundN N P h = (normalN N P).map (bstep N (normalN N P) h) := by
  unfold bRoundN
  rw [if_pos (lvl_of (by omega) (by omega))]
  rfl
theorem bround_no {N : List Nd} {P : List Pr} {h : Int} (hh : lvlN h = false) : bRoundN N P h = [] := by unfold bRoundN; rw [if_neg (by rw [hh]; simp)]
theorem nextB_len (N : List Nd) (st : Int → Pr) (p : Pr) (h : Nat) : (nextB N st p h).length = h := by unfold nextB; rw [List.length_map, List.length_range]
def BrRel (N : List Nd) (Q : List Pr) (h : Nat) (w : World) (o i : Value) (wr : World) : Prop :=
  ∃ (j : Nat) (qs : List PQ), j ≤ Q.length ∧ i = .int .i64 j ∧ OwnPr w.heap.size wr o qs ((Q.take j).map (bstep N Q h)) ∧ Ex w wr
theorem br_snoc (N : List Nd) {Q : List Pr} {h j : Nat} {y : Pr} (hy : Q[j]? = some y) : ((Q.take (j + 1)).map (bstep N Q h)) = ((Q.take j).map (bstep N Q h)) ++ [{ y with near := nextB N (peerN Q) y h }] := by
  rw [List.take_add_one, hy, List.map_append]; rfl
set_option maxRecDepth 100000 in
set_option maxHeartbeats 8000000 in
theorem bround_p (a : Option Addr) (n c : Nat) (N : List Nd) (a2 : Option Addr) (n2 c2 : Nat) (P : List Pr) (hh : Int) (w : World) (h : Sl 3 encN w a n N) (hn : n ≤ 1000) (hc : n ≤ c) (hm : c ≤ maxLen) (hw : ∀ x ∈ N, x.word < 4294967296) (h2 : PL w a2 n2 P) (hn2 : n2 ≤ 4000000000000000000) (hP : SmallP P) :
    Calls Tryd.prog 40 #[.slice a n c, .slice a2 n2 c2, .int .i64 hh] w (PlPost (bRoundN N P hh) w) := by
  have HL := Lib.hid h.len
  have HW := Lib.hid hw
  clear hw
  have NO : Hid (lvlN hh = false → PlPost (bRoundN N P hh) w (.returned (.slice none 0 0)) w) := Lib.hid (fun h => by
    rw [bround_no h]
    exact ⟨_, [], rfl, OwnP.nil _ _ _ _ _, Ex.refl _⟩)
  by_cases h0 : hh < 0
  · have FI := Lib.hid (NO.out (by unfold lvlN; simp; omega))
    clear h h2 hP NO
    go_enter Tryd.func40, Tryd.ntmps40
    go_wp2_with fail
    go_ret
    exact FI.out
  by_cases h1 : hh > 16
  · have FI := Lib.hid (NO.out (by unfold lvlN; simp; omega))
    clear h h2 hP NO
    go_enter Tryd.func40, Tryd.ntmps40
    go_wp2_with fail
    go_ret
    exact FI.out
  obtain ⟨k, rfl⟩ := Int.eq_ofNat_of_zero_le (show 0 ≤ hh by omega)
  have hk16 : k ≤ 16 := by omega
  have HR := Lib.hid (bround_eq (N := N) (P := P) hk16)
  clear NO
  go_enter Tryd.func40, Tryd.ntmps40
  go_wp2_with fail
  (with_reducible refine (normal_p _ _ _ N _ _ _ P _ h hn hc hm h2 hn2 hP).mono ?_)
  rintro e w3 ⟨v3, qs, rfl, OQ, kk⟩
  replace h := h.nx kk
  clear h2
  have K03 := Lib.hid kk
  obtain ⟨hQ1, hQ2⟩ := normal_le N P
  have HQS := Lib.hid (normal_small N hP)
  generalize normalN N P = Q at OQ hQ1 hQ2 HR HQS
  obtain ⟨aQ, cQ, rfl, PQ0, _, _, _, _⟩ := OQ.pl
  have HPQ := Lib.hid PQ0
  have hQn : Q.length ≤ n := by have := HL.out; omega
  have hz3 := kk.size
  have HS := Lib.hid h
  clear OQ PQ0 kk hQ1 hQ2 hP h
  go_wp2_with fail
  go_loopw [8, 22] (fun o i wr => BrRel N Q k w3 o i wr) (fun _ i _ => Q.length - (intOf i).toNat)
  case atStart => exact ⟨0, [], by omega, rfl, OwnP.nil _ _ _ _ _, Ex.refl _⟩
  case round =>
    obtain ⟨j, qz, hj, rfl, own, ki⟩ := hrel
    obtain ⟨wi, rfl⟩ : ∃ wi : World, wi = wr := ⟨_, rfl⟩
    by_cases hjm : j < Q.length
    · obtain ⟨x5, o5, b1, m1, d1, b4, m4, d4, y, rfl, hx5, hy, e0, e1, e2, e3, e4, s1, s4⟩ := (HPQ.out.nx ki).rd hjm
      have SN := Lib.hid (br_snoc N (h := k) hy)
      have hyP := HQS.out y (List.mem_of_getElem? hy)
      have hql : qz.length = j := by rw [own.2.1, List.length_map, List.length_take]; omega
      have hl1 : m1 ≤ 17592186044416 := by have := s1.len; omega
      have hl4 : m4 ≤ 4000000000000000000 := by have := s4.len; omega
      have hwi := ki.size
      have S1y := Lib.hid s1
      have S4y := Lib.hid s4
      have KI := Lib.hid ki
      have OWN := Lib.hid own
      clear hy own ki hyP s1 s4
      have B8 := Blk.new wi [.int .i64 y.id, .slice b1 m1 d1, .int .i64 y.left, .int .i64 y.right, .slice b4 m4 d4] 41
      have kk := Ex.new wi (.cells #[.int .i64 y.id, .slice b1 m1 d1, .int .i64 y.left, .int .i64 y.right, .slice b4 m4 d4] 41)
      obtain ⟨w7, hw7⟩ : ∃ w7, w7 = wi.alloc (.cells #[.int .i64 y.id, .slice b1 m1 d1, .int .i64 y.left, .int .i64 y.right, .slice b4 m4 d4] 41) := ⟨_, rfl⟩
      obtain ⟨g8, hg8⟩ : ∃ g8, g8 = wi.heap.size := ⟨_, rfl⟩
      replace B8 : Blk w7 g8 [.int .i64 y.id, .slice b1 m1 d1, .int .i64 y.left, .int .i64 y.right, .slice b4 m4 d4] 41 := by rw [hw7, hg8]; exact B8
      rw [← hw7] at kk
      have Hw7 := Lib.hid hw7
      have Hg8 := Lib.hid hg8
      have zg8 : wi.heap.size ≤ g8 := by omega
      have K8 := Lib.hid kk
      have HPN : Hid (∀ p ∈ Q, p.near.length ≤ 4000000000000000000) := Lib.hid (fun p hp => Nat.le_trans (HQS.out p hp).2 (by omega))
      clear kk hw7 hg8
      go_upto_region 8 with fail
      rw [← Hg8.out, ← Hw7.out]
      clear Hg8 Hw7
      clear e0 e1 e2 e3 e4
      have hg8l := B8.lt
      have B8s := Lib.hid B8
      have hz8 := K8.out.size
      have hz9 : w3.heap.size ≤ w7.heap.size := Nat.le_trans hwi hz8
      have HNL := Lib.hid (nextB_len N (peerN Q) y k)
      clear B8
      refine wp_region_late_drew (S := Ex w7) [9, 10, 11] (by kernel_rfl) ((Ex.refl w7).drew) (fun hHeld => ?_)
      obtain ⟨wd, hwdx⟩ : ∃ wd : World, wd = World.drew w7 := ⟨_, rfl⟩
      rw [← hwdx] at hHeld ⊢
      have hDrew : Ex w7 wd := by rw [hwdx]; exact (Ex.refl w7).drew
      clear hwdx
      refine wpAnyL_take (i := 0) (oi := ⟨some 26, .fieldAddr 41 (.tmp 10) 1, 0, "bridge.go:80", #[], none⟩) (v := ?_) rfl (by kernel_rfl) (by kernel_rfl) (by kernel_rfl) (fun _ _ _ h => h) (Or.inl ⟨by rfl, ?hyr1x0q5⟩) (by kernel_rfl) (by kernel_rfl) (by assumption) ?restr1x0q5
      case hyr1x0q5 => intro wq hSw; (go_simp); (try with_reducible rfl)
      try simp only [Act.put, List.setIfInBounds_toArray, List.set_cons_zero, List.set_cons_succ]
      refine wpAnyL_take (i := 1) (oi := ⟨some 27, .load 22 (.tmp 26), 22, "bridge.go:80", #[⟨0, .data⟩], none⟩) (v := ?_) rfl (by kernel_rfl) (by kernel_rfl) (by kernel_rfl) (fun _ _ _ h => h) (Or.inl ⟨by rfl, ?hyr1x1q8⟩) (by kernel_rfl) (by kernel_rfl) (by assumption) ?restr1x1q8
      case hyr1x1q8 => intro wq hSw; (have cq := (B8s.out.nx hSw).cell 1 _ rfl; go_simp); (try with_reducible rfl)
      try simp only [Act.put, List.setIfInBounds_toArray, List.set_cons_zero, List.set_cons_succ]
      refine wpAnyL_take (i := 3) (oi := ⟨some 29, .move (.tmp 0), 23, "bridge.go:80", #[], none⟩) (v := ?_) rfl (by kernel_rfl) (by kernel_rfl) (by kernel_rfl) (fun _ _ _ h => h) (Or.inl ⟨by rfl, ?hyr1x3q11⟩) (by kernel_rfl) (by kernel_rfl) (by assumption) ?restr1x3q11
      case hyr1x3q11 => intro wq hSw; (go_simp); (try with_reducible rfl)
      try simp only [Act.put, List.setIfInBounds_toArray, List.set_cons_zero, List.set_cons_succ]
      refine wpAnyL_take (i := 4) (oi := ⟨some 30, .move (.tmp 7), 36, "bridge.go:80", #[], none⟩) (v := ?_) rfl (by kernel_rfl) (by kernel_rfl) (by kernel_rfl) (fun _ _ _ h => h) (Or.inl ⟨by rfl, ?hyr1x4q14⟩) (by kernel_rfl) (by kernel_rfl) (by assumption) ?restr1x4q14
      case hyr1x4q14 => intro wq hSw; (go_simp); (try with_reducible rfl)
      try simp only [Act.put, List.setIfInBounds_toArray, List.set_cons_zero, List.set_cons_succ]
      refine wpAnyL_take (i := 5) (oi := ⟨some 31, .load 41 (.tmp 10), 41, "bridge.go:80", #[], none⟩) (v := ?_) rfl (by kernel_rfl) (by kernel_rfl) (by kernel_rfl) (fun _ _ _ h => h) (Or.inl ⟨by rfl, ?hyr1x5q17⟩) (by kernel_rfl) (by kernel_rfl) (by assumption) ?restr1x5q17
      case hyr1x5q17 => intro wq hSw; (have cq0 := (B8s.out.nx hSw).cell 0 _ rfl; have cq1 := (B8s.out.nx hSw).cell 1 _ rfl; have cq2 := (B8s.out.nx hSw).cell 2 _ rfl; have cq3 := (B8s.out.nx hSw).cell 3 _ rfl; have cq4 := (B8s.out.nx hSw).cell 4 _ rfl; go_simp); (try with_reducible rfl)
      try simp only [Act.put, List.setIfInBounds_toArray, List.set_cons_zero, List.set_cons_succ]
      refine wpAnyL_take (i := 6) (oi := ⟨some 32, .move (.tmp 2), 3, "bridge.go:80", #[], none⟩) (v := ?_) rfl (by kernel_rfl) (by kernel_rfl) (by kernel_rfl) (fun _ _ _ h => h) (Or.inl ⟨by rfl, ?hyr1x6q20⟩) (by kernel_rfl) (by kernel_rfl) (by assumption) ?restr1x6q20
      case hyr1x6q20 => intro wq hSw; (go_simp); (try with_reducible rfl)
      try simp only [Act.put, List.setIfInBounds_toArray, List.set_cons_zero, List.set_cons_succ]
      refine wpAnyL_ready (rs := [2]) (by kernel_rfl) (by simp) ?_
      refine AllReadyL.cons (o := ⟨some 28, .call { callee := .value (.func 77), args := #[.tmp 27], argTypes := #[22] }, 22, "bridge.go:80", #[⟨1, .data⟩], none⟩) rfl (fun K hK => ?_) AllReadyL.nil
      go_simp
      (with_reducible refine (clone_i _ _ _ _ _ ((S1y.out.nx K8.out).nx hHeld) hl1).mono ?_)
      rintro e wc ⟨vc, rfl, own2, kk⟩
      (try replace own5 := own5.nx kk)
      obtain ⟨A2, C2, rfl, _, _, _, _⟩ := own2.slf (fun _ => rfl)
      replace own2 := own2.base hHeld.size
      replace hHeld := hHeld.nx kk
      clear kk
      have BQ := B8s.out.nx hHeld
      have KZ := hHeld.b g8
      refine hK.out _ _ (hHeld) (fun hHeld => ?_)
      clear hK K
      try simp only [Act.put, List.setIfInBounds_toArray, List.set_cons_zero, List.set_cons_succ]
      refine wpAnyL_take (i := 8) (oi := ⟨some 34, .fieldAddr 41 (.tmp 10) 1, 0, "bridge.go:80", #[⟨0, .phase⟩, ⟨1, .phase⟩, ⟨2, .phase⟩, { on := 3, ground := Ground.textOnly Departure.lateStores }, { on := 4, ground := Ground.textOnly Departure.lateStores }, ⟨5, .phase⟩, { on := 6, ground := Ground.textOnly Departure.lateStores }, { on := 7, ground := Ground.textOnly Departure.lateStoresUnsure }], none⟩) (v := ?_) rfl (by kernel_rfl) (by kernel_rfl) (by kernel_rfl) (fun _ _ _ h => h) (Or.inl ⟨by rfl, ?hyr1x8q38⟩) (by kernel_rfl) (by kernel_rfl) (by assumption) ?restr1x8q38
      case hyr1x8q38 => intro wq hSw; (go_simp); (try with_reducible rfl)
      try simp only [Act.put, List.setIfInBounds_toArray, List.set_cons_zero, List.set_cons_succ]
      refine wpAnyL_ready (rs := [7]) (by kernel_rfl) (by simp) ?_
      refine AllReadyL.cons (o := ⟨some 33, .call { callee := .value (.func 78), args := #[.tmp 29, .tmp 30, .tmp 31, .tmp 32], argTypes := #[23, 36, 41, 3] }, 39, "bridge.go:80", #[⟨3, .data⟩, ⟨4, .data⟩, ⟨5, .data⟩, ⟨6, .data⟩, ⟨2, .chain⟩], none⟩) rfl (fun K hK => ?_) AllReadyL.nil
      go_simp
      (with_reducible refine (next_p _ _ _ N _ _ _ Q y _ _ _ _ _ _ k _ (HS.out.nx (KI.out.nx (K8.out.nx hHeld))) hn hc hm HW.out (HPQ.out.nx (KI.out.nx (K8.out.nx hHeld))) (by omega) HPN.out ((S4y.out.nx K8.out).nx hHeld) hl4 hk16).mono ?_)
      rintro e wc ⟨vc, rfl, own5, kk⟩
      (try replace own2 := own2.nx kk)
      obtain ⟨A5, C5, rfl, _, _, _, _⟩ := own5.slf (fun _ => rfl)
      replace own5 := own5.base hHeld.size
      replace hHeld := hHeld.nx kk
      clear kk
      have BQ := B8s.out.nx hHeld
      have KZ := hHeld.b g8
      refine hK.out _ _ (hHeld) (fun hHeld => ?_)
      clear hK K
      try simp only [Act.put, List.setIfInBounds_toArray, List.set_cons_zero, List.set_cons_succ]
      refine wpAnyL_ready (rs := [9]) (by kernel_rfl) (by simp) ?_
      refine AllReadyL.consL (o := ⟨none, .store 22 (.tmp 34) (.tmp 28), 0, "bridge.go:80", #[⟨8, .data⟩, ⟨2, .data⟩, ⟨7, .chain⟩, ⟨0, .phase⟩, ⟨1, .phase⟩, ⟨2, .phase⟩, { on := 3, ground := Ground.textOnly Departure.lateStores }, { on := 4, ground := Ground.textOnly Departure.lateStores }, ⟨5, .phase⟩, { on := 6, ground := Ground.textOnly Departure.lateStores }, { on := 7, ground := Ground.textOnly Departure.lateStoresUnsure }], none⟩) rfl (by rfl) (fun K hK => ?_) AllReadyL.nil
      have cq := BQ.cell 1 _ rfl
      have fq := BQ.free 1
      go_simp
      clear cq fq
      replace BQ := BQ.set 1 (.slice A2 y.known.length C2)
      replace own2 := own2.nxb hg8l ((Exb.refl g8 _).setB (p := ⟨g8, 1, none⟩) (.slice A2 y.known.length C2) rfl)
      replace own5 := own5.nxb hg8l ((Exb.refl g8 _).setB (p := ⟨g8, 1, none⟩) (.slice A2 y.known.length C2) rfl)
      replace KZ := KZ.setB (p := ⟨g8, 1, none⟩) (.slice A2 y.known.length C2) rfl
      refine hK.out _ _ ?_
      clear hK K
      try simp only [Act.put, List.setIfInBounds_toArray, List.set_cons_zero, List.set_cons_succ]
      refine wpAnyL_ready (rs := [10]) (by kernel_rfl) (by simp) ?_
      refine AllReadyL.consL (o := ⟨some 35, .fieldAddr 41 (.tmp 10) 4, 0, "bridge.go:80", #[⟨0, .phase⟩, ⟨1, .phase⟩, ⟨2, .phase⟩, ⟨3, .phase⟩, ⟨4, .phase⟩, ⟨5, .phase⟩, ⟨6, .phase⟩, ⟨7, .phase⟩, ⟨8, .phase⟩, ⟨9, .phase⟩], none⟩) rfl (by rfl) (fun K hK => ?_) AllReadyL.nil
      go_simp
      refine hK.out _ _ ?_
      clear hK K
      try simp only [Act.put, List.setIfInBounds_toArray, List.set_cons_zero, List.set_cons_succ]
      refine wpAnyL_ready (rs := [11]) (by kernel_rfl) (by simp) ?_
      refine AllReadyL.consL (o := ⟨none, .store 39 (.tmp 35) (.tmp 33), 0, "bridge.go:80", #[⟨10, .data⟩, ⟨7, .data⟩, ⟨9, .chain⟩, ⟨0, .phase⟩, ⟨1, .phase⟩, ⟨2, .phase⟩, ⟨3, .phase⟩, ⟨4, .phase⟩, ⟨5, .phase⟩, ⟨6, .phase⟩, ⟨7, .phase⟩, ⟨8, .phase⟩, ⟨9, .phase⟩], none⟩) rfl (by rfl) (fun K hK => ?_) AllReadyL.nil
      have cq := BQ.cell 4 _ rfl
      have fq := BQ.free 4
      go_simp
      clear cq fq
      replace BQ := BQ.set 4 (.slice A5 (nextB N (peerN Q) y k).length C5)
      replace own2 := own2.nxb hg8l ((Exb.refl g8 _).setB (p := ⟨g8, 4, none⟩) (.slice A5 (nextB N (peerN Q) y k).length C5) rfl)
      replace own5 := own5.nxb hg8l ((Exb.refl g8 _).setB (p := ⟨g8, 4, none⟩) (.slice A5 (nextB N (peerN Q) y k).length C5) rfl)
      replace KZ := KZ.setB (p := ⟨g8, 4, none⟩) (.slice A5 (nextB N (peerN Q) y k).length C5) rfl
      refine hK.out _ _ ?_
      clear hK K
      try simp only [Act.put, List.setIfInBounds_toArray, List.set_cons_zero, List.set_cons_succ]
      refine wpAnyL_done (by kernel_rfl) ?_ _
      obtain ⟨wz, hwz⟩ : ∃ wz, wz = (wc.setCell ⟨g8, 1, none⟩ (.slice A2 y.known.length C2)).setCell ⟨g8, 4, none⟩ (.slice A5 (nextB N (peerN Q) y k).length C5) := ⟨_, rfl⟩
      rw [← hwz] at BQ own2 own5 KZ ⊢
      clear hwz
      generalize nextB N (peerN Q) y k = NX at own5 BQ SN HNL ⊢
      have BF : Blk wz g8 [.int .i64 y.id, .slice A2 y.known.length C2, .int .i64 y.left, .int .i64 y.right, .slice A5 NX.length C5] 41 := BQ
      have p0 := BF.cell 0 _ rfl
      have p1 := BF.cell 1 _ rfl
      have p2 := BF.cell 2 _ rfl
      have p3 := BF.cell 3 _ rfl
      have p4 := BF.cell 4 _ rfl
      have KW := Lib.hid (Exl.nxb (b := g8) (w := wi) ⟨K8.out, zg8⟩ KZ).1
      have OP := Lib.hid (OWN.out.nx KW.out)
      have zw := KW.out.size
      replace own2 := Lib.hid (own2.base hz8)
      replace own5 := Lib.hid (own5.base hz8)
      have hw3 : w3.heap.size ≤ wi.heap.size := hwi
      have KN := KW.out.nx (Ex.new _ (.cells #[.int .i64 y.id, .slice A2 y.known.length C2, .int .i64 y.left, .int .i64 y.right, .slice A5 NX.length C5] 41))
      have zn := Nat.le_trans hw3 KN.size
      clear BQ BF KZ hHeld
      go_wp2_with (at_builtin; (refine wpList_append_W (enc := encQ) _ rfl _ _ 36 rfl w3.heap.size 41 (.agg #[.int .i64 0, .slice none 0 0, .int .i64 0, .int .i64 0, .slice none 0 0]) 5 72 Tryd.underlying36 Tryd.infoPr rfl (by omega) (by omega) _ qz (OP.out.nx (Ex.new _ _)).row rfl _ 1 1 [(y.nums, (A2, y.known.length, C2), (A5, NX.length, C5))] (Sl.lit _ rfl rfl encQ_len rfl) encQ_len encQ_one rfl (by omega) (by omega) zn ?_); intro v9 w9 own9 ch0 ch1 _)
      have RR := OWN.out.app (p := { y with near := NX }) (by decide) (by decide) hw3 KN (own2.out.nx (Ex.new _ _)) (own5.out.nx (Ex.new _ _)) own9 ch0
      exact ⟨⟨j + 1, _, by omega, by go_num, by rw [SN.out]; exact RR, Chg.trans (KI.out.nx KN) ch1⟩, by simp [intOf]; omega⟩
    · obtain rfl : j = Q.length := by omega
      rw [List.take_length] at own
      have OWN := Lib.hid (own.lower hz3)
      have KI := Lib.hid (K03.out.nx ki)
      clear own ki hj hjm
      go_wp2_with fail
      go_ret
      exact ⟨_, qz, rfl, by rw [HR.out]; exact OWN.out, KI.out⟩
end Go.Proofs.YtbnbjiddffihoaaDoor

/- Links of the package bridge. -/
namespace Go.Proofs.YtbnbjiddffihoaaDoor
open Go.RowKit

def lrow (N : List Nd) (h : Nat) (p : Pr) : Lkd := (p.id, (List.range (h + 1)).map fun (lev : Nat) => linkB N p lev)
theorem links_eq {N : List Nd} {P : List Pr} {h : Nat} (hh : h ≤ 16) : linksB N P h = (normalN N P).map (lrow N h) := by
  unfold linksB
  rw [if_pos (lvl_of (by omega) (by omega))]
  rfl
theorem links_no {N : List Nd} {P : List Pr} {h : Int} (hh : lvlN h = false) : linksB N P h = [] := by unfold linksB; rw [if_neg (by rw [hh]; simp)]
theorem litLk {w0 u : World} (_ : Ex w0 u) (y : Int × Int) : ∃ g v, g = u.heap.size ∧ v = u.alloc (.cells #[.int .i64 y.1, .int .i64 y.2] 92) ∧ Sl 2 encS v (some ⟨g, 0, none⟩) 1 [y] ∧ Ex u v :=
  ⟨_, _, rfl, rfl, Sl.lit [y] rfl rfl (fun _ => rfl) rfl, Ex.new _ _⟩
def LsPost (L : List Lkd) (w : World) (en : Ending) (w' : World) : Prop := ∃ (v : Value) (qs : List (Int × Hdr)), en = .returned v ∧ OwnLk w.heap.size w' v qs L ∧ Ex w w'
def LoRel (N : List Nd) (Q : List Pr) (h : Nat) (w : World) (o i : Value) (wr : World) : Prop :=
  ∃ (j : Nat) (qs : List (Int × Hdr)), j ≤ Q.length ∧ i = .int .i64 j ∧ OwnLk w.heap.size wr o qs ((Q.take j).map (lrow N h)) ∧ Ex w wr
def LiRel (N : List Nd) (p : Pr) (h g : Nat) (w : World) (i : Value) (wr : World) : Prop :=
  ∃ (lev : Nat) (A : Option Addr) (m c : Nat), lev ≤ h + 1 ∧ i = .int .i64 lev ∧ Blk wr g [.int .i64 p.id, .slice A m c] 107 ∧ OwnL 2 encS 92 w.heap.size wr (.slice A m c) ((List.range lev).map fun (lev : Nat) => linkB N p lev) ∧ Exb g w wr
set_option maxRecDepth 100000 in
set_option maxHeartbeats 8000000 in
theorem links_p (a : Option Addr) (n c : Nat) (N : List Nd) (a2 : Option Addr) (n2 c2 : Nat) (P : List Pr) (hh : Int) (w : World) (h : Sl 3 encN w a n N) (hn : n ≤ 1000) (hc : n ≤ c) (hm : c ≤ maxLen) (hw : ∀ x ∈ N, x.word < 4294967296) (h2 : PL w a2 n2 P) (hn2 : n2 ≤ 4000000000000000000) (hP : SmallP P) :
    Calls Tryd.prog 42 #[.slice a n c, .slice a2 n2 c2, .int .i64 hh] w (LsPost (linksB N P hh) w) := by
  have HL := Lib.hid h.len
  have HW := Lib.hid hw
  clear hw
  have NO : Hid (lvlN hh = false → LsPost (linksB N P hh) w (.returned (.slice none 0 0)) w) := Lib.hid (fun h => by
    rw [links_no h]
    exact ⟨_, [], rfl, OwnN.nil _ _ _ _ _ _ _ _, Ex.refl _⟩)
  by_cases h0 : hh < 0
  · have FI := Lib.hid (NO.out (by unfold lvlN; simp; omega))
    clear h h2 hP NO
    go_enter Tryd.func42, Tryd.ntmps42
    go_wp2_with fail
    go_ret
    exact FI.out
  by_cases h1 : hh > 16
  · have FI := Lib.hid (NO.out (by unfold lvlN; simp; omega))
    clear h h2 hP NO
    go_enter Tryd.func42, Tryd.ntmps42
    go_wp2_with fail
    go_ret
    exact FI.out
  obtain ⟨k, rfl⟩ := Int.eq_ofNat_of_zero_le (show 0 ≤ hh by omega)
  have hk16 : k ≤ 16 := by omega
  have HR := Lib.hid (links_eq (N := N) (P := P) hk16)
  clear NO
  go_enter Tryd.func42, Tryd.ntmps42
  go_wp2_with fail
  (with_reducible refine (normal_p _ _ _ N _ _ _ P _ h hn hc hm h2 hn2 hP).mono ?_)
  rintro e w3 ⟨v3, qs, rfl, OQ, kk⟩
  replace h := h.nx kk
  clear h2
  have K03 := Lib.hid kk
  obtain ⟨hQ1, hQ2⟩ := normal_le N P
  have HQS := Lib.hid (normal_small N hP)
  generalize normalN N P = Q at OQ hQ1 hQ2 HR HQS
  obtain ⟨aQ, cQ, rfl, PQ0, _, _, _, _⟩ := OQ.pl
  have HPQ := Lib.hid PQ0
  have hQn : Q.length ≤ n := by have := HL.out; omega
  have hz3 := kk.size
  have HS := Lib.hid h
  clear OQ PQ0 kk hQ1 hQ2 hP h
  go_wp2_with fail
  go_loopw [7, 22] (fun o i wr => LoRel N Q k w3 o i wr) (fun _ i _ => Q.length - (intOf i).toNat)
  case atStart => exact ⟨0, [], by omega, rfl, OwnN.nil _ _ _ _ _ _ _ _, Ex.refl _⟩
  case round =>
    obtain ⟨j, qz, hj, rfl, own, ki⟩ := hrel
    obtain ⟨wi, rfl⟩ : ∃ wi : World, wi = wr := ⟨_, rfl⟩
    by_cases hjm : j < Q.length
    · obtain ⟨x5, o5, b1, m1, d1, b4, m4, d4, y, rfl, hx5, hy, e0, e1, e2, e3, e4, s1, s4⟩ := (HPQ.out.nx ki).rd hjm
      have ET : Hid ((Q.take (j + 1)).map (lrow N k) = (Q.take j).map (lrow N k) ++ [(y.id, (List.range (k + 1)).map fun (lev : Nat) => linkB N y lev)]) := Lib.hid (by rw [List.take_add_one, hy, List.map_append]; rfl)
      have hyP := HQS.out y (List.mem_of_getElem? hy)
      have hql : qz.length = j := by rw [own.2.1, List.length_map, List.length_take]; omega
      have hl4 : m4 ≤ 4000000000000000000 := by have := s4.len; omega
      have hwi := ki.size
      have S4y := Lib.hid s4
      have KI := Lib.hid ki
      have OWN := Lib.hid own
      clear hy own ki hyP s1 s4
      have B9 := Blk.new wi [.int .i64 y.id, .slice b1 m1 d1, .int .i64 y.left, .int .i64 y.right, .slice b4 m4 d4] 41
      have kk := Ex.new wi (.cells #[.int .i64 y.id, .slice b1 m1 d1, .int .i64 y.left, .int .i64 y.right, .slice b4 m4 d4] 41)
      obtain ⟨w7, hw7⟩ : ∃ w7, w7 = wi.alloc (.cells #[.int .i64 y.id, .slice b1 m1 d1, .int .i64 y.left, .int .i64 y.right, .slice b4 m4 d4] 41) := ⟨_, rfl⟩
      obtain ⟨g9, hg9⟩ : ∃ g9, g9 = wi.heap.size := ⟨_, rfl⟩
      replace B9 : Blk w7 g9 [.int .i64 y.id, .slice b1 m1 d1, .int .i64 y.left, .int .i64 y.right, .slice b4 m4 d4] 41 := by rw [hw7, hg9]; exact B9
      rw [← hw7] at kk
      have Hw7 := Lib.hid hw7
      have Hg9 := Lib.hid hg9
      have zg9 : wi.heap.size ≤ g9 := by omega
      have K7 := Lib.hid kk
      clear kk hw7 hg9
      go_upto_region 7 with fail
      rw [← Hg9.out, ← Hw7.out]
      clear Hg9 Hw7
      clear e0 e1 e2 e3 e4
      have p0 := B9.cell 0 _ rfl
      have hg9l := B9.lt
      have B10 := Blk.new w7 [.int .i64 y.id, .slice none 0 0] 107
      have kk := Ex.new w7 (.cells #[.int .i64 y.id, .slice none 0 0] 107)
      obtain ⟨w8, hw8⟩ : ∃ w8, w8 = w7.alloc (.cells #[.int .i64 y.id, .slice none 0 0] 107) := ⟨_, rfl⟩
      obtain ⟨g10, hg10⟩ : ∃ g10, g10 = w7.heap.size := ⟨_, rfl⟩
      replace B10 : Blk w8 g10 [.int .i64 y.id, .slice none 0 0] 107 := by rw [hw8, hg10]; exact B10
      rw [← hw8] at kk
      have Hw8 := Lib.hid hw8
      have Hg10 := Lib.hid hg10
      replace B9 := B9.nx kk
      have zg10 : w7.heap.size ≤ g10 := by omega
      have n910 : ¬ g9 = g10 := by omega
      have zgi : wi.heap.size ≤ g10 := by have := K7.out.size; omega
      have K8 := Lib.hid (K7.out.nx kk)
      clear kk hw8 hg10
      go_upto_region 8 with fail
      rw [← Hg10.out, ← Hw8.out]
      clear Hg10 Hw8
      clear p0
      have B9s := Lib.hid B9
      have hgk := B10.lt
      have hwk : IntKind.i64.wrap ((k : Int) + 1) = (k : Int) + 1 := IntWalk.i64_in _ (by omega)
      clear B9
      go_wp2_with fail
      go_loopw [31] (fun i wr => LiRel N y k g10 w8 i wr) (fun i _ => k + 1 - (intOf i).toNat)
      case atStart => exact ⟨0, none, 0, 0, by omega, rfl, B10, OwnL.nil _ _ _ _ _, Exb.refl _ _⟩
      case round =>
        clear B10
        obtain ⟨lev, A, m, cc, hlev, rfl, BR, lrw, kv⟩ := hrel
        obtain ⟨wp, rfl⟩ : ∃ wp : World, wp = wr := ⟨_, rfl⟩
        have KV := Lib.hid (Exl.nxb (b := g10) (w := wi) ⟨K8.out, zgi⟩ kv).1
        by_cases hl2 : lev ≤ k
        · have SP := Lib.hid (HS.out.nx (KI.out.nx KV.out))
          have SN4 := Lib.hid (S4y.out.nx KV.out)
          have KVV := Lib.hid kv
          have NSN : Hid (((List.range (lev + 1)).map fun (lev : Nat) => linkB N y lev) = ((List.range lev).map fun (lev : Nat) => linkB N y lev) ++ [linkB N y lev]) := Lib.hid (by rw [List.range_succ, List.map_append]; rfl)
          have hrl : ((List.range lev).map fun (lev : Nat) => linkB N y lev).length = lev := by simp
          generalize hyy : linkB N y lev = yy at NSN
          have HYY := Lib.hid hyy
          generalize ((List.range lev).map fun (lev : Nat) => linkB N y lev) = row at lrw NSN hrl
          have BPP := Lib.hid BR
          have NROW := Lib.hid lrw
          have zk := kv.size
          clear hyy lrw kv BR
          have BN := Lib.hid (B9s.out.nxb n910 KVV.out)
          have hlk : (lev : Int) < (k : Int) + 1 := by omega
          go_upto_region 11 with fail
          refine wp_region_late_drew (S := Ex wp) [7, 8, 9] (by kernel_rfl) ((Ex.refl wp).drew) (fun hHeld => ?_)
          obtain ⟨wd, hwdx⟩ : ∃ wd : World, wd = World.drew wp := ⟨_, rfl⟩
          rw [← hwdx] at hHeld ⊢
          have hDrew : Ex wp wd := by rw [hwdx]; exact (Ex.refl wp).drew
          clear hwdx
          refine wpAnyL_take (i := 0) (oi := ⟨some 34, .fieldAddr 107 (.tmp 10) 1, 0, "bridge.go:95", #[], none⟩) (v := ?_) rfl (by kernel_rfl) (by kernel_rfl) (by kernel_rfl) (fun _ _ _ h => h) (Or.inl ⟨by rfl, ?hyr1x0q5⟩) (by kernel_rfl) (by kernel_rfl) (by assumption) ?restr1x0q5
          case hyr1x0q5 => intro wq hSw; (go_simp); (try with_reducible rfl)
          try simp only [Act.put, List.setIfInBounds_toArray, List.set_cons_zero, List.set_cons_succ]
          refine wpAnyL_take (i := 1) (oi := ⟨some 35, .load 105 (.tmp 34), 105, "bridge.go:95", #[⟨0, .data⟩], none⟩) (v := ?_) rfl (by kernel_rfl) (by kernel_rfl) (by kernel_rfl) (fun _ _ _ h => h) (Or.inl ⟨by rfl, ?hyr1x1q8⟩) (by kernel_rfl) (by kernel_rfl) (by assumption) ?restr1x1q8
          case hyr1x1q8 => intro wq hSw; (have cq := (BPP.out.nx hSw).cell 1 _ rfl; go_simp); (try with_reducible rfl)
          try simp only [Act.put, List.setIfInBounds_toArray, List.set_cons_zero, List.set_cons_succ]
          refine wpAnyL_take (i := 2) (oi := ⟨some 36, .move (.tmp 0), 23, "bridge.go:95", #[], none⟩) (v := ?_) rfl (by kernel_rfl) (by kernel_rfl) (by kernel_rfl) (fun _ _ _ h => h) (Or.inl ⟨by rfl, ?hyr1x2q11⟩) (by kernel_rfl) (by kernel_rfl) (by assumption) ?restr1x2q11
          case hyr1x2q11 => intro wq hSw; (go_simp); (try with_reducible rfl)
          try simp only [Act.put, List.setIfInBounds_toArray, List.set_cons_zero, List.set_cons_succ]
          refine wpAnyL_take (i := 3) (oi := ⟨some 37, .load 41 (.tmp 9), 41, "bridge.go:95", #[], none⟩) (v := ?_) rfl (by kernel_rfl) (by kernel_rfl) (by kernel_rfl) (fun _ _ _ h => h) (Or.inl ⟨by rfl, ?hyr1x3q14⟩) (by kernel_rfl) (by kernel_rfl) (by assumption) ?restr1x3q14
          case hyr1x3q14 => intro wq hSw; (have B := BN.out.nx hSw; have c0 := B.cell 0 _ rfl; have c1 := B.cell 1 _ rfl; have c2 := B.cell 2 _ rfl; have c3 := B.cell 3 _ rfl; have c4 := B.cell 4 _ rfl; go_simp); (try with_reducible rfl)
          try simp only [Act.put, List.setIfInBounds_toArray, List.set_cons_zero, List.set_cons_succ]
          refine wpAnyL_take (i := 4) (oi := ⟨some 38, .move (.tmp 11), 3, "bridge.go:95", #[], none⟩) (v := ?_) rfl (by kernel_rfl) (by kernel_rfl) (by kernel_rfl) (fun _ _ _ h => h) (Or.inl ⟨by rfl, ?hyr1x4q17⟩) (by kernel_rfl) (by kernel_rfl) (by assumption) ?restr1x4q17
          case hyr1x4q17 => intro wq hSw; (go_simp); (try with_reducible rfl)
          try simp only [Act.put, List.setIfInBounds_toArray, List.set_cons_zero, List.set_cons_succ]
          refine wpAnyL_ready (rs := [5]) (by kernel_rfl) (by simp) ?_
          refine AllReadyL.cons (o := ⟨some 39, .call { callee := .value (.func 79), args := #[.tmp 36, .tmp 37, .tmp 38], argTypes := #[23, 41, 3] }, 92, "bridge.go:95", #[⟨2, .data⟩, ⟨3, .data⟩, ⟨4, .data⟩], none⟩) rfl (fun K hK => ?_) AllReadyL.nil
          go_simp
          (with_reducible refine (link_p _ _ _ N y _ _ _ _ _ _ (lev : Int) _ (SP.out.nx hHeld) hn hc hm HW.out (SN4.out.nx hHeld) hl4).mono ?_)
          rintro e wq ⟨rfl, kk⟩
          rw [HYY.out]
          replace hHeld := hHeld.nx kk
          clear kk
          refine hK.out _ _ (hHeld) (fun hHeld => ?_)
          clear hK K
          try simp only [Act.put, List.setIfInBounds_toArray, List.set_cons_zero, List.set_cons_succ]
          refine wpAnyL_ready (rs := [6]) (by kernel_rfl) (by simp) ?_
          refine AllReadyL.cons (o := ⟨some 40, .buildSlice 105 1 #[(0, .tmp 39)], 105, "bridge.go:95", #[⟨5, .data⟩], none⟩) rfl (fun K hK => ?_) AllReadyL.nil
          go_simp
          obtain ⟨g8, wq2, hg8, hwq2, SX, kk⟩ := litLk hHeld yy
          rw [← hg8, ← hwq2]
          replace hHeld := hHeld.nx kk
          clear hg8 hwq2 kk
          refine hK.out _ _ (hHeld) (fun hHeld => ?_)
          clear hK K
          try simp only [Act.put, List.setIfInBounds_toArray, List.set_cons_zero, List.set_cons_succ]
          refine wpAnyL_ready (rs := [7]) (by kernel_rfl) (by simp) ?_
          refine AllReadyL.consL (o := ⟨some 41, .call { callee := .builtin .append, args := #[.tmp 35, .tmp 40], argTypes := #[105, 105] }, 105, "bridge.go:95", #[⟨1, .data⟩, ⟨6, .data⟩, ⟨5, .chain⟩], none⟩) rfl (by rfl) (fun K hK => ?_) AllReadyL.nil
          rw [if_pos (by rfl)]
          have own4 := NROW.out.nx hHeld
          refine wp_append_rd (enc := encS) _ (.tmp 35) (.tmp 40) 105 rfl w8.heap.size 92 (.agg #[.int .i64 0, .int .i64 0]) 2 16 Tryd.underlying105 Tryd.infoLk rfl (by omega) (by omega) _ row own4 rfl _ _ 1 1 [yy] SX (fun h => by cases h) (fun _ => rfl) (by simp [encS, Value.oneCell']) rfl (by omega) (by omega) (Nat.le_trans zk hHeld.size) ?_
          intro v9 wz own9 ch0 ch1
          obtain ⟨A9, C9, e9, _⟩ := own9.rd (fun _ => rfl)
          rw [show (row ++ [yy]).length = lev + 1 by rw [List.length_append, hrl]; rfl] at e9
          subst e9
          have BZ := (BPP.out.nx hHeld).low hgk ch1
          have KQ : Exb g10 w8 wz := KVV.out.nxb' (hHeld.b g10) ch1
          refine hK.out _ _ ?_
          clear hK K
          try simp only [Act.put, List.setIfInBounds_toArray, List.set_cons_zero, List.set_cons_succ]
          refine wpAnyL_ready (rs := [8]) (by kernel_rfl) (by simp) ?_
          refine AllReadyL.consL (o := ⟨some 42, .fieldAddr 107 (.tmp 10) 1, 0, "bridge.go:95", #[⟨0, .phase⟩, ⟨1, .phase⟩, ⟨2, .phase⟩, ⟨3, .phase⟩, ⟨4, .phase⟩, ⟨5, .phase⟩, ⟨6, .phase⟩, ⟨7, .phase⟩], none⟩) rfl (by rfl) (fun K hK => ?_) AllReadyL.nil
          go_simp
          refine hK.out _ _ ?_
          clear hK K
          try simp only [Act.put, List.setIfInBounds_toArray, List.set_cons_zero, List.set_cons_succ]
          refine wpAnyL_ready (rs := [9]) (by kernel_rfl) (by simp) ?_
          refine AllReadyL.consL (o := ⟨none, .store 105 (.tmp 42) (.tmp 41), 0, "bridge.go:95", #[⟨8, .data⟩, ⟨7, .data⟩, ⟨7, .chain⟩, ⟨0, .phase⟩, ⟨1, .phase⟩, ⟨2, .phase⟩, ⟨3, .phase⟩, ⟨4, .phase⟩, ⟨5, .phase⟩, ⟨6, .phase⟩, ⟨7, .phase⟩], none⟩) rfl (by rfl) (fun K hK => ?_) AllReadyL.nil
          have c4 := BZ.cell 1 _ rfl
          have f4 := BZ.free 1
          go_simp
          clear c4 f4
          refine hK.out _ _ ?_
          clear hK K
          try simp only [Act.put, List.setIfInBounds_toArray, List.set_cons_zero, List.set_cons_succ]
          refine wpAnyL_done (by kernel_rfl) ?_ _
          have BY := BZ.set 1 (.slice A9 (lev + 1) C9)
          have K9 : Exb g10 w8 (wz.setCell ⟨g10, 1, none⟩ (.slice A9 (lev + 1) C9)) := KQ.setB (p := ⟨g10, 1, none⟩) _ rfl
          have own8 := Lib.hid (own9.put BZ (by decide) ((Exb.refl g10 wz).setB (p := ⟨g10, 1, none⟩) (.slice A9 (lev + 1) C9) rfl))
          have RR := Lib.hid (show LiRel N y k g10 w8 (.int .i64 ((lev : Int) + 1)) (wz.setCell ⟨g10, 1, none⟩ (.slice A9 (lev + 1) C9)) from ⟨lev + 1, A9, _, C9, by omega, by go_num, BY, by rw [NSN.out]; exact own8.out, K9⟩)
          clear BY K9 own8 own9 BZ KQ ch0 ch1 hHeld own4 SX
          go_wp2_with fail
          exact ⟨RR.out, by simp [intOf]; omega⟩
        · obtain rfl : lev = k + 1 := by omega
          have p0 := BR.cell 0 _ rfl
          have p1 := BR.cell 1 _ rfl
          obtain ⟨A, cc, e9, _⟩ := lrw.rd (fun _ => rfl)
          cases e9
          have OQ1 := OWN.out.nx KV.out
          have KW : Ex wi wp := KV.out
          have hzi : w3.heap.size ≤ w8.heap.size := by have := K8.out.size; omega
          have hzp : w3.heap.size ≤ wp.heap.size := Nat.le_trans hzi kv.size
          have hlk : ¬ (((k + 1 : Nat) : Int) < (k : Int) + 1) := by omega
          have FR : ∀ (j : Nat) (r : Int × Hdr) (g : Nat), qz[j]? = some r → r.2.val.ownBlock = some g → ¬ (Value.slice A ((List.range (k + 1)).map fun (lev : Nat) => linkB N y lev).length cc).ownBlock = some g := by
            intro j r g hr hg hv
            have h1 := OWN.out.lt hr hg
            have h2 := (lrw.lt g hv).1
            have h3 := K8.out.size
            omega
          generalize ((List.range (k + 1)).map fun (lev : Nat) => linkB N y lev) = row at lrw p1 FR ET
          have k8 := Ex.new wp (.cells #[.int .i64 y.id, .slice A row.length cc] 107)
          have SX : Sl 2 (encP encI) (wp.alloc (.cells #[.int .i64 y.id, .slice A row.length cc] 107)) (some ⟨wp.heap.size, 0, none⟩) 1 [((y.id, (A, row.length, cc)) : Int × Hdr)] := Sl.lit _ rfl rfl (fun _ => rfl) rfl
          have OQ2 := OQ1.nx k8
          have own2 := lrw.nx k8
          have ki8 := (KI.out.nx KW).nx k8
          clear BR kv hlev hl2 lrw
          go_wp2_with (at_builtin; (refine wpList_append_W (enc := encP encI) _ rfl _ _ 57 rfl w3.heap.size 107 (.agg #[.int .i64 0, .slice none 0 0]) 2 32 Tryd.underlying57 Tryd.infoLd rfl (by omega) (by omega) _ _ OQ2.1 rfl _ 1 1 [_] SX (fun _ => rfl) (by simp [encP, encI, Hdr.val, Value.oneCell']) rfl (by omega) (by omega) (by simp; omega) ?_); intro v7 w9 own7 ch0 ch1 _)
          have OQ7 := OQ2.push (by decide) own7 ch0 (own2.base (by omega)) FR
          exact ⟨⟨j + 1, qz ++ [((y.id, (A, row.length, cc)) : Int × Hdr)], by omega, by go_num, by rw [ET.out]; exact OQ7, Chg.trans ki8 ch1⟩, by simp [intOf]; omega⟩
    · obtain rfl : j = Q.length := by omega
      rw [List.take_length] at own
      have OWN := Lib.hid (OwnN.base own hz3)
      have KI := Lib.hid (K03.out.nx ki)
      clear own ki hj hjm
      go_wp2_with fail
      go_ret
      exact ⟨_, qz, rfl, by rw [HR.out]; exact OWN.out, KI.out⟩
end Go.Proofs.YtbnbjiddffihoaaDoor

/- When two lists of links are equal. -/
namespace Go.Proofs.YtbnbjiddffihoaaDoor
open Go.RowKit

def SmRel (L M : List Lkd) (n : Nat) (w : World) (i : Value) (wr : World) : Prop := ∃ k : Nat, k ≤ n ∧ i = .int .i64 k ∧ Ex w wr ∧ L.take k = M.take k
def SvRel (r s : List (Int × Int)) (n : Nat) (w : World) (i : Value) (wr : World) : Prop := ∃ k : Nat, k ≤ n ∧ i = .int .i64 k ∧ Ex w wr ∧ r.take k = s.take k
theorem take_snoc_eq {α : Type} {L M : List α} {k : Nat} {c d : α} (h : L.take k = M.take k) (hc : L[k]? = some c) (hd : M[k]? = some d) (he : c = d) : L.take (k + 1) = M.take (k + 1) := by
  rw [List.take_add_one, List.take_add_one, h, hc, hd, he]
theorem ne_at {α : Type} {L M : List α} {k : Nat} {c d : α} (hc : L[k]? = some c) (hd : M[k]? = some d) (he : c ≠ d) : ¬ L = M := by
  intro h
  rw [h, hd] at hc
  exact he (Option.some.inj hc).symm

set_option maxHeartbeats 4000000 in
theorem samelk_g (a1 a2 : Option Addr) (n m c1 c2 : Nat) (L M : List Lkd) (w : World) (h1 : LkL w a1 n L) (h2 : LkL w a2 m M) (hn : n ≤ 1000000) (hs : ∀ c ∈ L, c.2.length ≤ 9223372036854775807) :
    Calls Tryd.prog 41 #[.slice a1 n c1, .slice a2 m c2] w fun e w' => e = .returned (.bool (decide (L = M))) ∧ Ex w w' := by
  have HL := Lib.hid h1.len
  have HM := Lib.hid h2.len
  have HS := Lib.hid hs
  clear hs
  go_enter Tryd.func41, Tryd.ntmps41
  by_cases hnm : n = m
  · subst hnm
    go_wp2_with fail
    go_loopw [5] (fun i wr => SmRel L M n w i wr) (fun i _ => n - (intOf i).toNat)
    case atStart => exact ⟨0, by omega, rfl, Ex.refl _, rfl⟩
    case round =>
      obtain ⟨k, hk, rfl, kw, hT⟩ := hrel
      obtain ⟨wo, rfl⟩ : ∃ wo : World, wo = wr := ⟨_, rfl⟩
      have HT := Lib.hid hT
      clear hT
      by_cases hlt : k < n
      · obtain ⟨x1, o1, a1', n1', c1', d1, rfl, hx1, hy1, hc1, r1⟩ := (h1.nx kw).at hlt
        obtain ⟨x2, o2, a2', n2', c2', d2, rfl, hx2, hy2, hc2, r2⟩ := (h2.nx kw).at hlt
        have e0 : wo.cell? ⟨x1, o1 + k * 2, none⟩ = some (.int .i64 d1.1) := hc1 0 _ rfl
        have e1 : wo.cell? ⟨x1, o1 + k * 2 + 1, none⟩ = some (.slice a1' n1' c1') := hc1 1 _ rfl
        have f0 : wo.cell? ⟨x2, o2 + k * 2, none⟩ = some (.int .i64 d2.1) := hc2 0 _ rfl
        have f1 : wo.cell? ⟨x2, o2 + k * 2 + 1, none⟩ = some (.slice a2' n2' c2') := hc2 1 _ rfl
        have HY1 := Lib.hid hy1
        have HY2 := Lib.hid hy2
        have L1 := Lib.hid r1.len
        have L2 := Lib.hid r2.len
        have R1 := Lib.hid r1
        have R2 := Lib.hid r2
        have H1 := Lib.hid h1
        have H2 := Lib.hid h2
        have hb1 : n1' ≤ 9223372036854775807 := by rw [← r1.len]; exact HS.out _ (List.mem_of_getElem? hy1)
        have KW := Lib.hid kw
        clear hc1 hc2 hy1 hy2 r1 r2 h1 h2 kw
        by_cases hid : d1.1 = d2.1
        · by_cases hln : n1' = n2'
          · subst hln
            have g1 : decide (d1.1 = d2.1) = true := by simpa using hid
            go_wp2_with fail
            go_quiet (fail)
            go_wp2_with fail
            have KQ := KW.out.drewN 0
            go_loopw [6] (fun i wr => SvRel d1.2 d2.2 n1' wo i wr) (fun i _ => n1' - (intOf i).toNat)
            case atStart => exact ⟨0, by omega, rfl, (Ex.refl wo).drewN _, rfl⟩
            case round =>
              obtain ⟨j, hj, rfl, kv, hT2⟩ := hrel
              obtain ⟨wi, rfl⟩ : ∃ wi : World, wi = wr := ⟨_, rfl⟩
              have HT2 := Lib.hid hT2
              clear hT2
              have e1 := Chg.cellv kv e1 hx1
              have f1 := Chg.cellv kv f1 hx2
              by_cases hjl : j < n1'
              · obtain ⟨x3, o3, y1, rfl, hx3, hy1, hc3⟩ := (R1.out.nx kv).at hjl
                obtain ⟨x4, o4, y2, rfl, hx4, hy2, hc4⟩ := (R2.out.nx kv).at hjl
                have u0 : wi.cell? ⟨x3, o3 + j * 2, none⟩ = some (.int .i64 y1.1) := hc3 0 _ rfl
                have u1 : wi.cell? ⟨x3, o3 + j * 2 + 1, none⟩ = some (.int .i64 y1.2) := hc3 1 _ rfl
                have v0 : wi.cell? ⟨x4, o4 + j * 2, none⟩ = some (.int .i64 y2.1) := hc4 0 _ rfl
                have v1 : wi.cell? ⟨x4, o4 + j * 2 + 1, none⟩ = some (.int .i64 y2.2) := hc4 1 _ rfl
                have HZ1 := Lib.hid hy1
                have HZ2 := Lib.hid hy2
                have KV := Lib.hid kv
                clear hc3 hc4 hy1 hy2 kv e0 f0
                by_cases hy : y1 = y2
                · subst hy
                  go_wp2_with fail
                  go_quiet (fail)
                  go_wp2_with fail
                  exact ⟨⟨j + 1, by omega, by go_num, KV.out.drewN _, take_snoc_eq HT2.out HZ1.out HZ2.out rfl⟩, by simp [intOf]; omega⟩
                · have ND : Hid (decide (L = M) = false) := Lib.hid (decide_eq_false (ne_at HY1.out HY2.out (fun h => ne_at HZ1.out HZ2.out hy (by rw [h]))))
                  obtain ⟨p1, r1⟩ := y1
                  obtain ⟨p2, r2⟩ := y2
                  simp only at u0 u1 v0 v1
                  by_cases hp : p1 = p2
                  · subst hp
                    have hr : ¬ r1 = r2 := fun h => hy (by rw [h])
                    have hb : (r1 == r2) = false := by simpa using hr
                    clear hy HZ1 HZ2
                    go_wp2_with fail
                    go_quiet (fail)
                    go_wp2_with fail
                    go_ret
                    exact ⟨by rw [ND.out]; rfl, (KW.out.nx KV.out).drewN _⟩
                  · have hb : (p1 == p2) = false := by simpa using hp
                    clear hy HZ1 HZ2
                    go_wp2_with fail
                    go_quiet (fail)
                    go_wp2_with fail
                    go_ret
                    exact ⟨by rw [ND.out]; rfl, (KW.out.nx KV.out).drewN _⟩
              · obtain rfl : j = n1' := by omega
                have ED : d1 = d2 := Prod.ext hid (by
                  have h3 := HT2.out
                  rwa [List.take_of_length_le (by rw [L1.out]; exact Nat.le_refl _), List.take_of_length_le (by rw [L2.out]; exact Nat.le_refl _)] at h3)
                have ED := Lib.hid ED
                have KV := Lib.hid kv
                clear kv hj hjl e0 f0
                go_wp2_with fail
                exact ⟨⟨k + 1, by omega, by go_num, KW.out.nx KV.out, take_snoc_eq HT.out HY1.out HY2.out ED.out⟩, by simp [intOf]; omega⟩
          · have g1 : decide (d1.1 = d2.1) = true := by simpa using hid
            have g2 : ¬ (n1' : Int) = (n2' : Int) := by omega
            have ND : Hid (decide (L = M) = false) := Lib.hid (decide_eq_false (ne_at HY1.out HY2.out (fun h => hln (by rw [← L1.out, ← L2.out, h]))))
            go_wp2_with fail
            go_quiet (fail)
            go_wp2_with fail
            go_ret
            exact ⟨by rw [ND.out]; rfl, KW.out.drewN _⟩
        · have g1 : decide (d1.1 = d2.1) = false := by simpa using hid
          have ND : Hid (decide (L = M) = false) := Lib.hid (decide_eq_false (ne_at HY1.out HY2.out (fun h => hid (by rw [h]))))
          go_wp2_with fail
          go_quiet (fail)
          go_wp2_with fail
          go_ret
          exact ⟨by rw [ND.out]; rfl, KW.out.drewN _⟩
      · obtain rfl : k = n := by omega
        have ED : Hid (decide (L = M) = true) := Lib.hid (decide_eq_true (by
          have h3 := HT.out
          rwa [List.take_of_length_le (by rw [HL.out]; exact Nat.le_refl _), List.take_of_length_le (by rw [HM.out]; exact Nat.le_refl _)] at h3))
        clear h1 h2 hk hlt
        go_wp2_with fail
        go_ret
        exact ⟨by rw [ED.out]; rfl, kw⟩
  · have hnm' : ¬ (n : Int) = (m : Int) := by omega
    have ND : Hid (decide (L = M) = false) := Lib.hid (decide_eq_false (fun h => hnm (by rw [← HL.out, ← HM.out, h])))
    clear h1 h2
    go_wp2_with fail
    go_ret
    exact ⟨by rw [ND.out]; rfl, Ex.refl _⟩
theorem samelk_r (a1 a2 : Option Addr) (n m c1 c2 : Nat) (L M : List Lkd) (w : World) (h1 : LkL w a1 n L) (h2 : LkL w a2 m M) (hn : n ≤ 1000000) (hs : ∀ c ∈ L, c.2.length ≤ 1000000) :
    Calls Tryd.prog 41 #[.slice a1 n c1, .slice a2 m c2] w fun e w' => e = .returned (.bool (decide (L = M))) ∧ Ex w w' :=
  samelk_g a1 a2 n m c1 c2 L M w h1 h2 hn (fun c hc => Nat.le_trans (hs c hc) (by omega))
end Go.Proofs.YtbnbjiddffihoaaDoor

/- Same of the package ideal: when two lists of links are equal. -/
namespace Go.Proofs.YtbnbjiddffihoaaDoor
open Go.RowKit

set_option maxHeartbeats 4000000 in
theorem eql_p (a1 a2 : Option Addr) (n m c1 c2 : Nat) (r s : List (Int × Int)) (w : World) (h1 : Sl 2 encS w a1 n r) (h2 : Sl 2 encS w a2 m s) (hn : n ≤ 9223372036854775807) :
    Calls Tryd.prog 118 #[.slice a1 n c1, .slice a2 m c2] w fun e w' => e = .returned (.bool (decide (r = s))) ∧ Ex w w' := by
  have L1 := Lib.hid h1.len
  have L2 := Lib.hid h2.len
  have R1 := Lib.hid h1
  have R2 := Lib.hid h2
  clear h1 h2
  go_enter Tryd.func118, Tryd.ntmps118
  by_cases hnm : n = m
  · subst hnm
    go_wp2_with fail
    go_loopw [13] (fun i wr => SvRel r s n w i wr) (fun i _ => n - (intOf i).toNat)
    case atStart => exact ⟨0, by omega, rfl, Ex.refl w, rfl⟩
    case round =>
      obtain ⟨j, hj, rfl, kv, hT2⟩ := hrel
      obtain ⟨wi, rfl⟩ : ∃ wi : World, wi = wr := ⟨_, rfl⟩
      have HT2 := Lib.hid hT2
      clear hT2
      by_cases hjl : j < n
      · obtain ⟨x3, o3, y1, rfl, hx3, hy1, hc3⟩ := (R1.out.nx kv).at hjl
        obtain ⟨x4, o4, y2, rfl, hx4, hy2, hc4⟩ := (R2.out.nx kv).at hjl
        have u0 : wi.cell? ⟨x3, o3 + j * 2, none⟩ = some (.int .i64 y1.1) := hc3 0 _ rfl
        have u1 : wi.cell? ⟨x3, o3 + j * 2 + 1, none⟩ = some (.int .i64 y1.2) := hc3 1 _ rfl
        have v0 : wi.cell? ⟨x4, o4 + j * 2, none⟩ = some (.int .i64 y2.1) := hc4 0 _ rfl
        have v1 : wi.cell? ⟨x4, o4 + j * 2 + 1, none⟩ = some (.int .i64 y2.2) := hc4 1 _ rfl
        have HZ1 := Lib.hid hy1
        have HZ2 := Lib.hid hy2
        have KV := Lib.hid kv
        clear hc3 hc4 hy1 hy2 kv
        by_cases hy : y1 = y2
        · subst hy
          go_wp2_with fail
          go_quiet (fail)
          go_wp2_with fail
          exact ⟨⟨j + 1, by omega, by go_num, KV.out.drewN _, take_snoc_eq HT2.out HZ1.out HZ2.out rfl⟩, by simp [intOf]; omega⟩
        · have ND : Hid (decide (r = s) = false) := Lib.hid (decide_eq_false (ne_at HZ1.out HZ2.out hy))
          obtain ⟨p1, r1⟩ := y1
          obtain ⟨p2, r2⟩ := y2
          simp only at u0 u1 v0 v1
          by_cases hp : p1 = p2
          · subst hp
            have hr : ¬ r1 = r2 := fun h => hy (by rw [h])
            have hb : (r1 == r2) = false := by simpa using hr
            clear hy HZ1 HZ2
            go_wp2_with fail
            go_quiet (fail)
            go_wp2_with fail
            go_ret
            exact ⟨by rw [ND.out]; rfl, KV.out.drewN _⟩
          · have hb : (p1 == p2) = false := by simpa using hp
            clear hy HZ1 HZ2
            go_wp2_with fail
            go_quiet (fail)
            go_wp2_with fail
            go_ret
            exact ⟨by rw [ND.out]; rfl, KV.out.drewN _⟩
      · obtain rfl : j = n := by omega
        have ED : Hid (decide (r = s) = true) := Lib.hid (decide_eq_true (by
          have h3 := HT2.out
          rwa [List.take_of_length_le (by rw [L1.out]; exact Nat.le_refl _), List.take_of_length_le (by rw [L2.out]; exact Nat.le_refl _)] at h3))
        have KV := Lib.hid kv
        clear kv hj hjl
        go_wp2_with fail
        go_ret
        exact ⟨by rw [ED.out]; rfl, KV.out⟩
  · have hnm' : ¬ (n : Int) = (m : Int) := by omega
    have ND : Hid (decide (r = s) = false) := Lib.hid (decide_eq_false (fun h => hnm (by rw [← L1.out, ← L2.out, h])))
    go_wp2_with fail
    go_ret
    exact ⟨by rw [ND.out]; rfl, Ex.refl _⟩
set_option maxHeartbeats 1000000 in
theorem same1_p (i1 i2 : Int) (a1 a2 : Option Addr) (n m c1 c2 : Nat) (r s : List (Int × Int)) (w : World) (h1 : Sl 2 encS w a1 n r) (h2 : Sl 2 encS w a2 m s) (hn : n ≤ 9223372036854775807) :
    Calls Tryd.prog 117 #[.agg #[.int .i64 i1, .slice a1 n c1], .agg #[.int .i64 i2, .slice a2 m c2]] w fun e w' => e = .returned (.bool (decide ((i1, r) = (i2, s)))) ∧ Ex w w' := by
  go_enter Tryd.func117, Tryd.ntmps117
  by_cases hi : i1 = i2
  · subst hi
    have k1 := Ex.new w (.cells #[.int .i64 i1, .slice a1 n c1] 107)
    have k2 := k1.alloc (.cells #[.int .i64 i1, .slice a2 m c2] 107)
    have R1 := h1.nx k2
    have R2 := h2.nx k2
    have DD : Hid (decide ((i1, r) = (i1, s)) = decide (r = s)) := Lib.hid (by rw [decide_eq_decide]; simp)
    have K2 := Lib.hid k2
    clear h1 h2 k1 k2
    go_wp2_with fail
    (with_reducible refine (eql_p _ _ _ _ _ _ _ _ _ R1 R2 hn).mono ?_)
    rintro e w1 ⟨rfl, kk⟩
    clear R1 R2
    go_wp2_with fail
    go_ret
    exact ⟨by rw [DD.out]; rfl, K2.out.nx kk⟩
  · have d1 : (i1 == i2) = false := by simpa using hi
    have ND : Hid (decide ((i1, r) = (i2, s)) = false) := Lib.hid (decide_eq_false (fun h => hi (by cases h; rfl)))
    clear h1 h2
    go_wp2_with fail
    go_ret
    exact ⟨by rw [ND.out]; rfl, ((Ex.refl w).alloc _).alloc _⟩
set_option maxRecDepth 100000 in
set_option maxHeartbeats 4000000 in
theorem eqf_p (a1 a2 : Option Addr) (n m c1 c2 : Nat) (L M : List Lkd) (w : World) (h1 : LkL w a1 n L) (h2 : LkL w a2 m M) (hn : n ≤ 1000000) (hs : ∀ c ∈ L, c.2.length ≤ 9223372036854775807) :
    Calls Tryd.prog 116 #[.slice a1 n c1, .slice a2 m c2, .func (.func 117) #[] #[]] w fun e w' => e = .returned (.bool (decide (L = M))) ∧ Ex w w' := by
  have HL := Lib.hid h1.len
  have HM := Lib.hid h2.len
  have HS := Lib.hid hs
  have H1 := Lib.hid h1
  have H2 := Lib.hid h2
  clear hs h1 h2
  go_enter Tryd.func116, Tryd.ntmps116
  by_cases hnm : n = m
  · subst hnm
    go_wp2_with fail
    go_loopw [17] (fun i wr => SmRel L M n w i wr) (fun i _ => n - (intOf i).toNat)
    case atStart => exact ⟨0, by omega, rfl, Ex.refl _, rfl⟩
    case round =>
      obtain ⟨k, hk, rfl, kw, hT⟩ := hrel
      obtain ⟨wo, rfl⟩ : ∃ wo : World, wo = wr := ⟨_, rfl⟩
      have HT := Lib.hid hT
      clear hT
      by_cases hlt : k < n
      · obtain ⟨x1, o1, a1', n1', c1', d1, rfl, hx1, hy1, hc1, r1⟩ := (H1.out.nx kw).at hlt
        obtain ⟨x2, o2, a2', n2', c2', d2, rfl, hx2, hy2, hc2, r2⟩ := (H2.out.nx kw).at hlt
        have e0 : wo.cell? ⟨x1, o1 + k * 2, none⟩ = some (.int .i64 d1.1) := hc1 0 _ rfl
        have e1 : wo.cell? ⟨x1, o1 + k * 2 + 1, none⟩ = some (.slice a1' n1' c1') := hc1 1 _ rfl
        have f0 : wo.cell? ⟨x2, o2 + k * 2, none⟩ = some (.int .i64 d2.1) := hc2 0 _ rfl
        have f1 : wo.cell? ⟨x2, o2 + k * 2 + 1, none⟩ = some (.slice a2' n2' c2') := hc2 1 _ rfl
        have hne1 : ¬ x1 = wo.heap.size := by omega
        have hne2 : ¬ x2 = wo.heap.size := by omega
        have HY1 := Lib.hid hy1
        have HY2 := Lib.hid hy2
        have hb1 : n1' ≤ 9223372036854775807 := by rw [← r1.len]; exact HS.out _ (List.mem_of_getElem? hy1)
        have k1 := Ex.new wo (.cells #[.int .i64 d1.1, .slice a1' n1' c1'] 107)
        have k2 := k1.alloc (.cells #[.int .i64 d2.1, .slice a2' n2' c2'] 107)
        have R1 := Lib.hid (fun (cur : World) (k : Ex wo cur) => r1.nx k)
        have R2 := Lib.hid (fun (cur : World) (k : Ex wo cur) => r2.nx k)
        have K2 := Lib.hid k2
        have KW := Lib.hid kw
        clear hc1 hc2 hy1 hy2 r1 r2 k1 k2 kw
        go_wp2_with fail
        (with_reducible refine (same1_p _ _ _ _ _ _ _ _ _ _ _ (R1.out _ K2.out) (R2.out _ K2.out) hb1).mono ?_)
        rintro e w1 ⟨rfl, kk⟩
        have KZ := Lib.hid (KW.out.nx (K2.out.nx kk))
        clear kk K2 R1 R2 e0 e1 f0 f1
        by_cases hd : (d1.1, d1.2) = (d2.1, d2.2)
        · rw [decide_eq_true hd]
          have ED : Hid (d1 = d2) := Lib.hid hd
          clear hd
          go_wp2_with fail
          exact ⟨⟨k + 1, by omega, by go_num, KZ.out, take_snoc_eq HT.out HY1.out HY2.out ED.out⟩, by simp [intOf]; omega⟩
        · rw [decide_eq_false hd]
          have ND : Hid (decide (L = M) = false) := Lib.hid (decide_eq_false (ne_at HY1.out HY2.out hd))
          clear hd
          go_wp2_with fail
          go_ret
          exact ⟨by rw [ND.out]; rfl, KZ.out⟩
      · obtain rfl : k = n := by omega
        have ED : Hid (decide (L = M) = true) := Lib.hid (decide_eq_true (by
          have h3 := HT.out
          rwa [List.take_of_length_le (by rw [HL.out]; exact Nat.le_refl _), List.take_of_length_le (by rw [HM.out]; exact Nat.le_refl _)] at h3))
        clear hk hlt
        go_wp2_with fail
        go_ret
        exact ⟨by rw [ED.out]; rfl, kw⟩
  · have hnm' : ¬ (n : Int) = (m : Int) := by omega
    have ND : Hid (decide (L = M) = false) := Lib.hid (decide_eq_false (fun h => hnm (by rw [← HL.out, ← HM.out, h])))
    go_wp2_with fail
    go_ret
    exact ⟨by rw [ND.out]; rfl, Ex.refl _⟩
theorem same_lp (a1 a2 : Option Addr) (n m c1 c2 : Nat) (L M : List Lkd) (w : World) (h1 : LkL w a1 n L) (h2 : LkL w a2 m M) (hn : n ≤ 1000000) (hs : ∀ c ∈ L, c.2.length ≤ 9223372036854775807) :
    Calls Tryd.prog 80 #[.slice a1 n c1, .slice a2 m c2] w fun e w' => e = .returned (.bool (decide (L = M))) ∧ Ex w w' := by
  go_enter Tryd.func80, Tryd.ntmps80
  go_wp2_with fail
  (with_reducible refine (eqf_p _ _ _ _ _ _ _ _ _ h1 h2 hn hs).mono ?_)
  rintro e w1 ⟨rfl, kk⟩
  clear h1 h2
  go_wp2_with fail
  go_ret
  exact ⟨rfl, kk⟩
end Go.Proofs.YtbnbjiddffihoaaDoor

/- Exact and Rounds of the package bridge. -/
namespace Go.Proofs.YtbnbjiddffihoaaDoor
open Go.RowKit

def rndsB (n h : Int) : Int := if 0 ≤ n ∧ n ≤ 64 ∧ 0 ≤ h ∧ h ≤ 16 then n * h else 0
theorem rounds17_p (n h : Int) (w : World) : Calls Tryd.prog 82 #[.int .i64 n, .int .i64 h] w fun e w' => e = .returned (.int .i64 (rndsB n h)) ∧ w = w' := by
  by_cases hb : 0 ≤ n ∧ n ≤ 64 ∧ 0 ≤ h ∧ h ≤ 16
  · have E : Hid (rndsB n h = n * h) := Lib.hid (if_pos hb)
    obtain ⟨h1, h2, h3, h4⟩ := hb
    have hwr : IntKind.i64.wrap (n * h) = n * h := IntWalk.i64_in _ (by
      have a1 : 0 ≤ n * h := Int.mul_nonneg h1 h3
      have a2 : n * h ≤ 64 * 16 := Int.le_trans (Int.mul_le_mul_of_nonneg_right h2 h3) (Int.mul_le_mul_of_nonneg_left h4 (by omega))
      omega)
    have d1 : decide (n < 0) = false := by simp; omega
    have d2 : decide (n > 64) = false := by simp; omega
    have d3 : decide (h < 0) = false := by simp; omega
    have d4 : decide (h > 16) = false := by simp; omega
    clear h1 h2 h3 h4
    go_enter Tryd.func82, Tryd.ntmps82
    go_wp2_with fail
    go_ret
    exact ⟨by rw [E.out]; rfl, rfl⟩
  · have E : Hid (rndsB n h = 0) := Lib.hid (if_neg hb)
    have hb2 : n < 0 ∨ n > 64 ∨ h < 0 ∨ h > 16 := by omega
    clear hb
    rcases hb2 with hb | hb | hb | hb
    · have d1 : decide (n < 0) = true := by simpa using hb
      clear hb
      go_enter Tryd.func82, Tryd.ntmps82
      go_wp2_with fail
      go_ret
      exact ⟨by rw [E.out]; rfl, rfl⟩
    · have d1 : decide (n < 0) = false := by simp; omega
      have d2 : decide (n > 64) = true := by simpa using hb
      clear hb
      go_enter Tryd.func82, Tryd.ntmps82
      go_wp2_with fail
      go_ret
      exact ⟨by rw [E.out]; rfl, rfl⟩
    · by_cases h1 : n < 0
      · clear hb
        go_enter Tryd.func82, Tryd.ntmps82
        go_wp2_with fail
        go_ret
        exact ⟨by rw [E.out]; rfl, rfl⟩
      by_cases h2 : n > 64
      · clear hb
        go_enter Tryd.func82, Tryd.ntmps82
        go_wp2_with fail
        go_ret
        exact ⟨by rw [E.out]; rfl, rfl⟩
      go_enter Tryd.func82, Tryd.ntmps82
      go_wp2_with fail
      go_ret
      exact ⟨by rw [E.out]; rfl, rfl⟩
    · have h3 : ¬ h < 0 := by omega
      by_cases h1 : n < 0
      · clear hb
        go_enter Tryd.func82, Tryd.ntmps82
        go_wp2_with fail
        go_ret
        exact ⟨by rw [E.out]; rfl, rfl⟩
      by_cases h2 : n > 64
      · clear hb
        go_enter Tryd.func82, Tryd.ntmps82
        go_wp2_with fail
        go_ret
        exact ⟨by rw [E.out]; rfl, rfl⟩
      go_enter Tryd.func82, Tryd.ntmps82
      go_wp2_with fail
      go_ret
      exact ⟨by rw [E.out]; rfl, rfl⟩
theorem OwnLk.nl' {base : Nat} {w : World} {v : Value} {qs : List (Int × Hdr)} {L : List Lkd} (h : OwnLk base w v qs L) : ∃ a cap, v = .slice a L.length cap ∧ LkL w a L.length L := by
  obtain ⟨a, cap, e, r, _⟩ := OwnN.nl (encA := encI) (s1 := 2) (encB := encS) (s2 := 2) (fun _ => rfl) (fun _ => rfl) h
  exact ⟨a, cap, e, r⟩
theorem links_rows (N : List Nd) (P : List Pr) (h : Int) : ∀ c ∈ linksB N P h, c.2.length ≤ 17 := by
  intro c hc
  unfold linksB at hc
  split at hc
  · rename_i hl
    obtain ⟨p, _, rfl⟩ := List.mem_map.1 hc
    unfold lvlN at hl
    simp at hl
    simp
    omega
  · cases hc
theorem links_len (N : List Nd) (P : List Pr) (h : Int) : (linksB N P h).length ≤ N.length := by
  unfold linksB
  split
  · rw [List.length_map]; exact (normal_le N P).1
  · exact Nat.zero_le _
theorem exactB_no {N : List Nd} {P : List Pr} {h : Int} (he : ¬ (buildN N h).2 = 0) : exactB N P h = false := by
  unfold exactB
  rw [show ((buildN N h).2 == 0) = false by simpa using he, Bool.false_and]
theorem exactB_eq {N : List Nd} {P : List Pr} {h : Int} (he : (buildN N h).2 = 0) : exactB N P h = decide (linksB N P h = (buildN N h).1) := by
  unfold exactB
  rw [he]
  rfl
set_option maxHeartbeats 2000000 in
theorem bexact_p (a : Option Addr) (n c : Nat) (N : List Nd) (a2 : Option Addr) (n2 c2 : Nat) (P : List Pr) (hh : Int) (w : World) (h : Sl 3 encN w a n N) (hn : n ≤ 1000) (hc : n ≤ c) (hm : c ≤ maxLen) (hw : ∀ x ∈ N, x.word < 4294967296) (hT : TabG w) (h2 : PL w a2 n2 P) (hn2 : n2 ≤ 4000000000000000000) (hP : SmallP P) :
    Calls Tryd.prog 43 #[.slice a n c, .slice a2 n2 c2, .int .i64 hh] w fun e w' => e = .returned (.bool (exactB N P hh)) ∧ Ex w w' := by
  have HL := Lib.hid h.len
  have HW := Lib.hid hw
  have EX := Ex.refl w
  clear hw
  have HP := Lib.hid hP
  clear hP
  go_enter Tryd.func43, Tryd.ntmps43
  go_wp2_with fail
  (with_reducible refine (build_p _ _ _ N hh _ h hn hc hm HW.out hT).mono ?_)
  rintro e w1 ⟨v, qs, rfl, own, kk⟩
  replace h := h.nx kk
  replace h2 := h2.nx kk
  replace EX := EX.nx kk
  clear kk
  obtain ⟨aB, cB, rfl, LB⟩ := OwnLk.nl' own
  clear own hT
  have LB := Lib.hid LB
  by_cases he : (buildN N hh).2 = 0
  · have E0 := Lib.hid (exactB_eq (P := P) he)
    have d1 : ((buildN N hh).2 == 0) = true := by rw [he]; rfl
    clear he
    have hll := links_len N P hh
    have hlr := Lib.hid (links_rows N P hh)
    go_wp2_with fail
    (with_reducible refine (links_p _ _ _ N _ _ _ P hh _ h hn hc hm HW.out h2 hn2 HP.out).mono ?_)
    rintro e w2 ⟨v, qs, rfl, own, kk⟩
    replace EX := EX.nx kk
    obtain ⟨aL, cL, rfl, LL⟩ := OwnLk.nl' own
    replace LB := Lib.hid (LB.out.nx kk)
    clear h h2 kk own
    have hl : (linksB N P hh).length ≤ 1000000 := by have := HL.out; omega
    go_wp2_with fail
    (with_reducible refine (same_lp _ _ _ _ _ _ _ _ _ LL LB.out hl (fun c hc => Nat.le_trans (hlr.out c hc) (by omega))).mono ?_)
    rintro e w3 ⟨rfl, kk⟩
    rw [← E0.out]
    replace EX := Lib.hid (EX.nx kk)
    clear LL kk
    go_wp2_with fail
    go_ret
    exact ⟨rfl, EX.out⟩
  · have E0 := Lib.hid (exactB_no (P := P) he)
    have d1 : ((buildN N hh).2 == 0) = false := by simpa using he
    have EX := Lib.hid EX
    clear he h h2
    go_wp2_with fail
    go_ret
    exact ⟨by rw [E0.out]; rfl, EX.out⟩
end Go.Proofs.YtbnbjiddffihoaaDoor

/- SameInts of the reference at equal lists. -/
namespace Go.Proofs.YtbnbjiddffihoaaDoor
open Go.RowKit

set_option maxHeartbeats 1000000 in
theorem sameints_x (a1 a2 : Option Addr) (n c1 c2 : Nat) (l : List Int) (w : World) (h1 : Sl 1 encI w a1 n l) (h2 : Sl 1 encI w a2 n l) (hn : n ≤ 1000000) :
    Calls Tryd.prog 24 #[.slice a1 n c1, .slice a2 n c2] w fun e w' => e = .returned (.bool true) ∧ Ex w w' := by
  go_enter Tryd.func24, Tryd.ntmps24
  go_wp2_with fail
  go_loopw [5] (fun i wr => ∃ k : Nat, k ≤ n ∧ i = .int .i64 k ∧ Ex w wr) (fun i _ => n - (intOf i).toNat)
  case atStart => exact ⟨0, by omega, rfl, Ex.refl _⟩
  case round =>
    obtain ⟨k, hk, rfl, kw⟩ := hrel
    obtain ⟨wo, rfl⟩ : ∃ wo : World, wo = wr := ⟨_, rfl⟩
    by_cases hlt : k < n
    · obtain ⟨x1, o1, y, rfl, hx1, hy, hc1⟩ := (h1.nx kw).at hlt
      obtain ⟨x2, o2, y', rfl, hx2, hy', hc2⟩ := (h2.nx kw).at hlt
      obtain rfl : y = y' := Option.some.inj (hy.symm.trans hy')
      have e0 : wo.cell? ⟨x1, o1 + k, none⟩ = some (.int .i64 y) := by simpa using hc1 0 _ rfl
      have f0 : wo.cell? ⟨x2, o2 + k, none⟩ = some (.int .i64 y) := by simpa using hc2 0 _ rfl
      clear hc1 hc2 hy hy' h1 h2
      go_wp2_with fail
      go_quiet (fail)
      go_wp2_with fail
      exact ⟨⟨k + 1, by omega, by go_num, kw.drewN _⟩, by simp [intOf]; omega⟩
    · obtain rfl : k = n := by omega
      clear h1 h2 hk hlt
      go_wp2_with fail
      go_ret
      exact ⟨rfl, kw⟩

end Go.Proofs.YtbnbjiddffihoaaDoor

/- The sanity check of chapter 14 (printed by gen_l14.py). -/
namespace Go.Proofs.YtbnbjiddffihoaaDoor
open Go.RowKit

end Go.Proofs.YtbnbjiddffihoaaDoor

/- Rosters of at least one node, from the tape. -/
namespace Go.Proofs.YtbnbjiddffihoaaDoor
open Go.RowKit

theorem check_one {x : Nd} (h1 : 1 ≤ x.id) (h2 : x.id ≤ 2147483647) (h3 : x.key.size ≤ 64) (h4 : x.word < 65536) : checkN [x] = 0 := by
  have hb : badN x = false := by
    unfold badN validN
    simp
    omega
  have hd : dupN [x] = false := by
    cases h : dupN [x] with
    | false => rfl
    | true =>
      obtain ⟨i, k, _, _, hki, hi, _⟩ := (dupN_iff _).1 h
      have := (List.getElem?_eq_some_iff.1 hi).1
      simp at this
      omega
  unfold checkN
  simp [hb, hd]
/-- a roster of at least one node -/
def SomeOf (n b : Nat) (w w' : World) (v : Value) (L : List Nd) : Prop := RosterOf n b w w' v L ∧ 1 ≤ L.length
set_option maxRecDepth 100000 in
set_option maxHeartbeats 1000000 in
theorem some_n {b : Nat} (n : Nat) (w : World) (h : TK w b) (hL : LetG w) (hgb : ¬ 0 = b) (hn0 : 1 ≤ n) (hn : n ≤ 60) :
    Calls Tryd.prog 27 #[.pointer (some ⟨b, 0, none⟩), .int .i64 n] w fun e w' => ∃ v L, e = .returned v ∧ SomeOf n b w w' v L := by
  have hbw := h.lt
  go_enter Tryd.func27, Tryd.ntmps27
  go_wp2_with fail
  refine (roster_t n _ h hL hgb hn0 hn).mono ?_
  rintro e w1 ⟨v1, L, rfl, R⟩
  obtain ⟨A1, C1, rfl, _, _, _, _⟩ := R.own.slf (fun _ => rfl)
  have T := R.tape
  have L1 := hL.nxb hgb R.k
  clear h hL
  by_cases h0 : L.length = 0
  · have d0 : ((L.length : Int) == 0) = true := by rw [h0]; rfl
    have kk := R.k
    clear R
    go_wp2_with fail
    refine (next_t (3 * (n : Int)) _ T (by omega) (by omega)).mono ?_
    clear T
    rintro e w2 ⟨d, rfl, r0, r1, T, k2⟩
    replace L1 := L1.nxb hgb k2
    replace kk := kk.nxb k2
    clear k2
    go_wp2_with fail
    refine (key_t _ T L1 hgb).mono ?_
    clear T
    rintro e w3 ⟨s, rfl, hs, T, k2⟩
    replace kk := kk.nxb k2
    clear k2 L1
    go_wp2_with fail
    refine (word_t _ T).mono ?_
    clear T
    rintro e w4 ⟨m, rfl, hm, T, k2⟩
    replace kk := kk.nxb k2
    clear k2
    have kz := kk.size
    go_wp2_with fail
    go_ret
    refine ⟨_, [⟨1 + d, s, m⟩], rfl, ⟨OwnL.lit [⟨1 + d, s, m⟩] (fun _ => rfl) kz (by unfold maxLen; simp) rfl, by simp; omega, check_one (by simp; omega) (by simp; omega) hs hm, by simpa using hm, T.nx (Ex.new _ _), kk.nxb ((Ex.new _ _).b b)⟩, by simp⟩
  · have d0 : ((L.length : Int) == 0) = false := by rw [beq_eq_false_iff_ne]; omega
    have R := Lib.hid R
    go_wp2_with fail
    go_ret
    exact ⟨_, L, rfl, R.out, by omega⟩
end Go.Proofs.YtbnbjiddffihoaaDoor

/- Numbers of nodes that are down, and peers, from the tape. -/
namespace Go.Proofs.YtbnbjiddffihoaaDoor
open Go.RowKit

theorem Blk.app {α : Type} {sz e base g : Nat} {enc : α → List Value} {w w' : World} {v : Value} {l : List α} {cs : List Value} {ty : TypeId} (B : Blk w g cs ty) (own : OwnL sz enc e base w v l) (hne : e ≠ ty) (k : Chg (fun k => k < w.heap.size ∧ ¬ v.ownBlock = some k) w w') : Blk w' g cs ty :=
  (Chg.block k g ⟨B.lt, fun hv => own.ne_blk B hne hv rfl⟩).trans B
theorem OwnL.app {α β : Type} {sz sz' e e' base base' : Nat} {enc : α → List Value} {enc' : β → List Value} {w w' : World} {v v' : Value} {l : List α} {l' : List β} (o : OwnL sz enc e base w v l) (own : OwnL sz' enc' e' base' w v' l') (hne : e ≠ e') (k : Chg (fun k => k < w.heap.size ∧ ¬ v'.ownBlock = some k) w w') : OwnL sz enc e base w' v l :=
  o.chg k fun x hx hv => ⟨hx, fun hv' => by
    obtain ⟨_, c1, h1⟩ := o.blk hv
    obtain ⟨_, c2, h2⟩ := own.blk hv'
    exact blk_kind hne h1 h2⟩
/-- a list of at most n numbers -/
structure DnOf (n b : Nat) (w w' : World) (v : Value) (l : List Int) : Prop where
  own : OwnL 1 encI 3 w.heap.size w' v l
  len : l.length ≤ n
  i64 : ∀ x ∈ l, I64 x
  tape : TK w' b
  k : Exb b w w'
/-- a store into a row of another type -/
theorem OwnL.apart {α β : Type} {sz sz' e e' base base' g : Nat} {enc : α → List Value} {enc' : β → List Value} {w w' : World} {v v' : Value} {l : List α} {l' : List β} (o : OwnL sz enc e base w v l) (own : OwnL sz' enc' e' base' w v' l') (hne : e ≠ e') (hg : v'.ownBlock = some g) (k : Exb g w w') : OwnL sz enc e base w' v l :=
  o.chg k fun x hx hv => ⟨hx, by
    rintro rfl
    obtain ⟨_, c1, h1⟩ := o.blk hv
    obtain ⟨_, c2, h2⟩ := own.blk hg
    exact blk_kind hne h1 h2⟩
/-- a peer that was just made -/
structure PeOf (m b : Nat) (w w' : World) (p : Pr) (hk hn : Hdr) : Prop where
  ok : OwnL 1 encI 3 w.heap.size w' hk.val p.known
  on : OwnL 4 encNr 77 w.heap.size w' hn.val p.near
  lk : p.known.length ≤ 3
  ln : p.near.length ≤ m
  id : I64 p.id
  tape : TK w' b
  k : Exb b w w'
end Go.Proofs.YtbnbjiddffihoaaDoor

/- The walk over RedundantGaps (printed by gen_l14.py). -/
namespace Go.Proofs.YtbnbjiddffihoaaDoor
open Go.RowKit

end Go.Proofs.YtbnbjiddffihoaaDoor

/- Lists of peers from the tape. -/
namespace Go.Proofs.YtbnbjiddffihoaaDoor
open Go.RowKit

/-- short lists, numbers that are ints -/
def FewP (m : Nat) (P : List Pr) : Prop := ∀ p ∈ P, p.known.length ≤ 3 ∧ p.near.length ≤ m ∧ I64 p.id
structure PsOf (k m b : Nat) (w w' : World) (v : Value) (qs : List PQ) (P : List Pr) : Prop where
  own : OwnPr w.heap.size w' v qs P
  len : P.length ≤ k
  few : FewP m P
  tape : TK w' b
  k : Exb b w w'
end Go.Proofs.YtbnbjiddffihoaaDoor

/- The walk over RedundantSurvives (printed by gen_l14.py). -/
namespace Go.Proofs.YtbnbjiddffihoaaDoor
open Go.RowKit

end Go.Proofs.YtbnbjiddffihoaaDoor

/- The walk over RedundantWidth (printed by gen_l14.py). -/
namespace Go.Proofs.YtbnbjiddffihoaaDoor
open Go.RowKit

def KtRel (n : Nat) (w : World) (i : Value) (wr : World) : Prop := ∃ k : Nat, k ≤ n ∧ i = .int .i64 k ∧ Ex w wr
end Go.Proofs.YtbnbjiddffihoaaDoor

/- Same of the reference of chapter 14, at equal lists. -/
namespace Go.Proofs.YtbnbjiddffihoaaDoor
open Go.RowKit

set_option maxRecDepth 100000 in
set_option maxHeartbeats 16000000 in
theorem same14_r (a : Option Addr) (n c : Nat) (P : List Pr) (a2 : Option Addr) (c2 : Nat) (w : World) (h : PL w a n P) (h2 : PL w a2 n P) (hn : n ≤ 1000) (hP : ∀ p ∈ P, p.known.length ≤ 1000000 ∧ p.near.length ≤ 1000000) :
    Calls Tryd.prog 37 #[.slice a n c, .slice a2 n c2] w fun e w' => e = .returned (.bool true) ∧ Ex w w' := by
  have H1 := Lib.hid h
  have H2 := Lib.hid h2
  have HP := Lib.hid hP
  clear h h2 hP
  go_enter Tryd.func37, Tryd.ntmps37
  go_wp2_with fail
  go_loopw [5] (fun i wr => KtRel n w i wr) (fun i _ => n - (intOf i).toNat)
  case atStart => exact ⟨0, Nat.zero_le _, rfl, Ex.refl _⟩
  case round =>
    obtain ⟨k, hk, rfl, kw⟩ := hrel
    obtain ⟨wi, rfl⟩ : ∃ wi : World, wi = wr := ⟨_, rfl⟩
    have KW := Lib.hid kw
    clear kw
    by_cases hlt : k < n
    · obtain ⟨xp, op, b1, m1, d1, b4, m4, d4, y, rfl, hxp, hy, p0, p1, p2, p3, p4, s1, s4⟩ := (H1.out.nx KW.out).rd hlt
      obtain ⟨xq, oq, e1, u1, f1, e4, u4, f4, y', rfl, hxq, hy', q0, q1, q2, q3, q4, t1, t4⟩ := (H2.out.nx KW.out).rd hlt
      obtain rfl : y = y' := Option.some.inj (hy.symm.trans hy')
      obtain rfl : m1 = u1 := s1.len.symm.trans t1.len
      obtain rfl : m4 = u4 := s4.len.symm.trans t4.len
      have hyP := HP.out y (List.mem_of_getElem? hy)
      have hm1 : m1 ≤ 1000000 := by have := s1.len; omega
      have hm4 : m4 ≤ 1000000 := by have := s4.len; omega
      have A0 := Lib.hid (fun wq (k : Ex wi wq) => Chg.cellv k p0 hxp)
      have A1 := Lib.hid (fun wq (k : Ex wi wq) => Chg.cellv k p1 hxp)
      have A2 := Lib.hid (fun wq (k : Ex wi wq) => Chg.cellv k p2 hxp)
      have A3 := Lib.hid (fun wq (k : Ex wi wq) => Chg.cellv k p3 hxp)
      have A4 := Lib.hid (fun wq (k : Ex wi wq) => Chg.cellv k p4 hxp)
      have B0 := Lib.hid (fun wq (k : Ex wi wq) => Chg.cellv k q0 hxq)
      have B1 := Lib.hid (fun wq (k : Ex wi wq) => Chg.cellv k q1 hxq)
      have B2 := Lib.hid (fun wq (k : Ex wi wq) => Chg.cellv k q2 hxq)
      have B3 := Lib.hid (fun wq (k : Ex wi wq) => Chg.cellv k q3 hxq)
      have B4 := Lib.hid (fun wq (k : Ex wi wq) => Chg.cellv k q4 hxq)
      have S1 := Lib.hid s1
      have S4 := Lib.hid s4
      have T1 := Lib.hid t1
      have T4 := Lib.hid t4
      clear p0 p1 p2 p3 p4 q0 q1 q2 q3 q4 s1 s4 t1 t4 hxp hxq hy hy' hyP
      go_upto_region 6 with fail
      refine wp_region_held_drew (S := Ex wi) (by kernel_rfl) ((Ex.refl wi).drew) (fun hHeld => ?_)
      obtain ⟨wd, hwdx⟩ : ∃ wd : World, wd = World.drew wi := ⟨_, rfl⟩
      rw [← hwdx] at hHeld ⊢
      have hDrew : Ex wi wd := by rw [hwdx]; exact (Ex.refl wi).drew
      clear hwdx
      refine wpAnyH_take (i := 0) (oi := ⟨some 18, .move (.tmp 0), 36, "ref.go:165", #[], none⟩) (v := ?_) rfl (by kernel_rfl) (by kernel_rfl) (by kernel_rfl) (fun _ _ _ h => h) (Or.inl ⟨by rfl, ?hyr1x0q5⟩) (by assumption) ?restr1x0q5
      case hyr1x0q5 => intro wq hSw; (go_simp); (try with_reducible rfl)
      try simp only [Act.put, List.setIfInBounds_toArray, List.set_cons_zero, List.set_cons_succ]
      refine wpAnyH_take (i := 1) (oi := ⟨some 19, .move (.tmp 5), 3, "ref.go:165", #[], none⟩) (v := ?_) rfl (by kernel_rfl) (by kernel_rfl) (by kernel_rfl) (fun _ _ _ h => h) (Or.inl ⟨by rfl, ?hyr1x1q8⟩) (by assumption) ?restr1x1q8
      case hyr1x1q8 => intro wq hSw; (go_simp); (try with_reducible rfl)
      try simp only [Act.put, List.setIfInBounds_toArray, List.set_cons_zero, List.set_cons_succ]
      refine wpAnyH_take (i := 2) (oi := ⟨some 20, .indexAddr 36 (.tmp 18) (.tmp 19), 0, "ref.go:165", #[⟨0, .data⟩, ⟨1, .data⟩], none⟩) (v := ?_) rfl (by kernel_rfl) (by kernel_rfl) (by kernel_rfl) (fun _ _ _ h => h) (Or.inl ⟨by rfl, ?hyr1x2q11⟩) (by assumption) ?restr1x2q11
      case hyr1x2q11 => intro wq hSw; (go_simp); (try with_reducible rfl)
      try simp only [Act.put, List.setIfInBounds_toArray, List.set_cons_zero, List.set_cons_succ]
      refine wpAnyH_take (i := 3) (oi := ⟨some 21, .fieldAddr 41 (.tmp 20) 0, 0, "ref.go:165", #[⟨2, .data⟩], none⟩) (v := ?_) rfl (by kernel_rfl) (by kernel_rfl) (by kernel_rfl) (fun _ _ _ h => h) (Or.inl ⟨by rfl, ?hyr1x3q14⟩) (by assumption) ?restr1x3q14
      case hyr1x3q14 => intro wq hSw; (go_simp); (try with_reducible rfl)
      try simp only [Act.put, List.setIfInBounds_toArray, List.set_cons_zero, List.set_cons_succ]
      refine wpAnyH_take (i := 4) (oi := ⟨some 22, .load 3 (.tmp 21), 3, "ref.go:165", #[⟨3, .data⟩], none⟩) (v := ?_) rfl (by kernel_rfl) (by kernel_rfl) (by kernel_rfl) (fun _ _ _ h => h) (Or.inl ⟨by rfl, ?hyr1x4q17⟩) (by assumption) ?restr1x4q17
      case hyr1x4q17 => intro wq hSw; (have cq := A0.out wq hSw; go_simp); (try with_reducible rfl)
      try simp only [Act.put, List.setIfInBounds_toArray, List.set_cons_zero, List.set_cons_succ]
      refine wpAnyH_take (i := 5) (oi := ⟨some 23, .move (.tmp 1), 36, "ref.go:165", #[], none⟩) (v := ?_) rfl (by kernel_rfl) (by kernel_rfl) (by kernel_rfl) (fun _ _ _ h => h) (Or.inl ⟨by rfl, ?hyr1x5q20⟩) (by assumption) ?restr1x5q20
      case hyr1x5q20 => intro wq hSw; (go_simp); (try with_reducible rfl)
      try simp only [Act.put, List.setIfInBounds_toArray, List.set_cons_zero, List.set_cons_succ]
      refine wpAnyH_take (i := 6) (oi := ⟨some 24, .move (.tmp 5), 3, "ref.go:165", #[], none⟩) (v := ?_) rfl (by kernel_rfl) (by kernel_rfl) (by kernel_rfl) (fun _ _ _ h => h) (Or.inl ⟨by rfl, ?hyr1x6q23⟩) (by assumption) ?restr1x6q23
      case hyr1x6q23 => intro wq hSw; (go_simp); (try with_reducible rfl)
      try simp only [Act.put, List.setIfInBounds_toArray, List.set_cons_zero, List.set_cons_succ]
      refine wpAnyH_take (i := 7) (oi := ⟨some 25, .indexAddr 36 (.tmp 23) (.tmp 24), 0, "ref.go:165", #[⟨5, .data⟩, ⟨6, .data⟩], none⟩) (v := ?_) rfl (by kernel_rfl) (by kernel_rfl) (by kernel_rfl) (fun _ _ _ h => h) (Or.inl ⟨by rfl, ?hyr1x7q26⟩) (by assumption) ?restr1x7q26
      case hyr1x7q26 => intro wq hSw; (go_simp); (try with_reducible rfl)
      try simp only [Act.put, List.setIfInBounds_toArray, List.set_cons_zero, List.set_cons_succ]
      refine wpAnyH_take (i := 8) (oi := ⟨some 26, .fieldAddr 41 (.tmp 25) 0, 0, "ref.go:165", #[⟨7, .data⟩], none⟩) (v := ?_) rfl (by kernel_rfl) (by kernel_rfl) (by kernel_rfl) (fun _ _ _ h => h) (Or.inl ⟨by rfl, ?hyr1x8q29⟩) (by assumption) ?restr1x8q29
      case hyr1x8q29 => intro wq hSw; (go_simp); (try with_reducible rfl)
      try simp only [Act.put, List.setIfInBounds_toArray, List.set_cons_zero, List.set_cons_succ]
      refine wpAnyH_take (i := 9) (oi := ⟨some 27, .load 3 (.tmp 26), 3, "ref.go:165", #[⟨8, .data⟩], none⟩) (v := ?_) rfl (by kernel_rfl) (by kernel_rfl) (by kernel_rfl) (fun _ _ _ h => h) (Or.inl ⟨by rfl, ?hyr1x9q32⟩) (by assumption) ?restr1x9q32
      case hyr1x9q32 => intro wq hSw; (have cq := B0.out wq hSw; go_simp); (try with_reducible rfl)
      try simp only [Act.put, List.setIfInBounds_toArray, List.set_cons_zero, List.set_cons_succ]
      refine wpAnyH_take (i := 10) (oi := ⟨some 28, .binOp .neq 3 (.tmp 22) (.tmp 27) 3, 4, "ref.go:165", #[⟨4, .data⟩, ⟨9, .data⟩], none⟩) (v := ?_) rfl (by kernel_rfl) (by kernel_rfl) (by kernel_rfl) (fun _ _ _ h => h) (Or.inl ⟨by rfl, ?hyr1x10q35⟩) (by assumption) ?restr1x10q35
      case hyr1x10q35 => intro wq hSw; (go_simp); (try with_reducible rfl)
      try simp only [Act.put, List.setIfInBounds_toArray, List.set_cons_zero, List.set_cons_succ]
      refine wpAnyH_take (i := 11) (oi := ⟨some 29, .move (.tmp 28), 4, "ref.go:165", #[⟨10, .data⟩], none⟩) (v := ?_) rfl (by kernel_rfl) (by kernel_rfl) (by kernel_rfl) (fun _ _ _ h => h) (Or.inl ⟨by rfl, ?hyr1x11q38⟩) (by assumption) ?restr1x11q38
      case hyr1x11q38 => intro wq hSw; (go_simp); (try with_reducible rfl)
      try simp only [Act.put, List.setIfInBounds_toArray, List.set_cons_zero, List.set_cons_succ]
      refine wpAnyH_take (i := 12) (oi := ⟨some 30, .move (.tmp 0), 36, "ref.go:165", #[⟨11, .guard⟩], some (11, false)⟩) (v := ?_) rfl (by kernel_rfl) (by kernel_rfl) (by kernel_rfl) (fun _ _ _ h => h) (Or.inl ⟨by rfl, ?hyr1x12q41⟩) (by assumption) ?restr1x12q41
      case hyr1x12q41 => intro wq hSw; (go_simp); (try with_reducible rfl)
      try simp only [Act.put, List.setIfInBounds_toArray, List.set_cons_zero, List.set_cons_succ]
      refine wpAnyH_take (i := 13) (oi := ⟨some 31, .move (.tmp 5), 3, "ref.go:165", #[⟨11, .guard⟩], some (11, false)⟩) (v := ?_) rfl (by kernel_rfl) (by kernel_rfl) (by kernel_rfl) (fun _ _ _ h => h) (Or.inl ⟨by rfl, ?hyr1x13q44⟩) (by assumption) ?restr1x13q44
      case hyr1x13q44 => intro wq hSw; (go_simp); (try with_reducible rfl)
      try simp only [Act.put, List.setIfInBounds_toArray, List.set_cons_zero, List.set_cons_succ]
      refine wpAnyH_take (i := 14) (oi := ⟨some 32, .indexAddr 36 (.tmp 30) (.tmp 31), 0, "ref.go:165", #[⟨12, .data⟩, ⟨13, .data⟩, ⟨11, .guard⟩], some (11, false)⟩) (v := ?_) rfl (by kernel_rfl) (by kernel_rfl) (by kernel_rfl) (fun _ _ _ h => h) (Or.inl ⟨by rfl, ?hyr1x14q47⟩) (by assumption) ?restr1x14q47
      case hyr1x14q47 => intro wq hSw; (go_simp); (try with_reducible rfl)
      try simp only [Act.put, List.setIfInBounds_toArray, List.set_cons_zero, List.set_cons_succ]
      refine wpAnyH_take (i := 15) (oi := ⟨some 33, .fieldAddr 41 (.tmp 32) 2, 0, "ref.go:165", #[⟨14, .data⟩, ⟨11, .guard⟩], some (11, false)⟩) (v := ?_) rfl (by kernel_rfl) (by kernel_rfl) (by kernel_rfl) (fun _ _ _ h => h) (Or.inl ⟨by rfl, ?hyr1x15q50⟩) (by assumption) ?restr1x15q50
      case hyr1x15q50 => intro wq hSw; (go_simp); (try with_reducible rfl)
      try simp only [Act.put, List.setIfInBounds_toArray, List.set_cons_zero, List.set_cons_succ]
      refine wpAnyH_take (i := 16) (oi := ⟨some 34, .load 3 (.tmp 33), 3, "ref.go:165", #[⟨15, .data⟩, ⟨11, .guard⟩], some (11, false)⟩) (v := ?_) rfl (by kernel_rfl) (by kernel_rfl) (by kernel_rfl) (fun _ _ _ h => h) (Or.inl ⟨by rfl, ?hyr1x16q53⟩) (by assumption) ?restr1x16q53
      case hyr1x16q53 => intro wq hSw; (have cq := A2.out wq hSw; go_simp); (try with_reducible rfl)
      try simp only [Act.put, List.setIfInBounds_toArray, List.set_cons_zero, List.set_cons_succ]
      refine wpAnyH_take (i := 17) (oi := ⟨some 35, .move (.tmp 1), 36, "ref.go:165", #[⟨11, .guard⟩], some (11, false)⟩) (v := ?_) rfl (by kernel_rfl) (by kernel_rfl) (by kernel_rfl) (fun _ _ _ h => h) (Or.inl ⟨by rfl, ?hyr1x17q56⟩) (by assumption) ?restr1x17q56
      case hyr1x17q56 => intro wq hSw; (go_simp); (try with_reducible rfl)
      try simp only [Act.put, List.setIfInBounds_toArray, List.set_cons_zero, List.set_cons_succ]
      refine wpAnyH_take (i := 18) (oi := ⟨some 36, .move (.tmp 5), 3, "ref.go:165", #[⟨11, .guard⟩], some (11, false)⟩) (v := ?_) rfl (by kernel_rfl) (by kernel_rfl) (by kernel_rfl) (fun _ _ _ h => h) (Or.inl ⟨by rfl, ?hyr1x18q59⟩) (by assumption) ?restr1x18q59
      case hyr1x18q59 => intro wq hSw; (go_simp); (try with_reducible rfl)
      try simp only [Act.put, List.setIfInBounds_toArray, List.set_cons_zero, List.set_cons_succ]
      refine wpAnyH_take (i := 19) (oi := ⟨some 37, .indexAddr 36 (.tmp 35) (.tmp 36), 0, "ref.go:165", #[⟨17, .data⟩, ⟨18, .data⟩, ⟨11, .guard⟩], some (11, false)⟩) (v := ?_) rfl (by kernel_rfl) (by kernel_rfl) (by kernel_rfl) (fun _ _ _ h => h) (Or.inl ⟨by rfl, ?hyr1x19q62⟩) (by assumption) ?restr1x19q62
      case hyr1x19q62 => intro wq hSw; (go_simp); (try with_reducible rfl)
      try simp only [Act.put, List.setIfInBounds_toArray, List.set_cons_zero, List.set_cons_succ]
      refine wpAnyH_take (i := 20) (oi := ⟨some 38, .fieldAddr 41 (.tmp 37) 2, 0, "ref.go:165", #[⟨19, .data⟩, ⟨11, .guard⟩], some (11, false)⟩) (v := ?_) rfl (by kernel_rfl) (by kernel_rfl) (by kernel_rfl) (fun _ _ _ h => h) (Or.inl ⟨by rfl, ?hyr1x20q65⟩) (by assumption) ?restr1x20q65
      case hyr1x20q65 => intro wq hSw; (go_simp); (try with_reducible rfl)
      try simp only [Act.put, List.setIfInBounds_toArray, List.set_cons_zero, List.set_cons_succ]
      refine wpAnyH_take (i := 21) (oi := ⟨some 39, .load 3 (.tmp 38), 3, "ref.go:165", #[⟨20, .data⟩, ⟨11, .guard⟩], some (11, false)⟩) (v := ?_) rfl (by kernel_rfl) (by kernel_rfl) (by kernel_rfl) (fun _ _ _ h => h) (Or.inl ⟨by rfl, ?hyr1x21q68⟩) (by assumption) ?restr1x21q68
      case hyr1x21q68 => intro wq hSw; (have cq := B2.out wq hSw; go_simp); (try with_reducible rfl)
      try simp only [Act.put, List.setIfInBounds_toArray, List.set_cons_zero, List.set_cons_succ]
      refine wpAnyH_take (i := 22) (oi := ⟨some 40, .binOp .neq 3 (.tmp 34) (.tmp 39) 3, 4, "ref.go:165", #[⟨16, .data⟩, ⟨21, .data⟩, ⟨11, .guard⟩], some (11, false)⟩) (v := ?_) rfl (by kernel_rfl) (by kernel_rfl) (by kernel_rfl) (fun _ _ _ h => h) (Or.inl ⟨by rfl, ?hyr1x22q71⟩) (by assumption) ?restr1x22q71
      case hyr1x22q71 => intro wq hSw; (go_simp); (try with_reducible rfl)
      try simp only [Act.put, List.setIfInBounds_toArray, List.set_cons_zero, List.set_cons_succ]
      refine wpAnyH_take (i := 23) (oi := ⟨some 41, .pick (.tmp 29) (.const (.bool true)) (.tmp 40), 4, "ref.go:165", #[⟨11, .data⟩, ⟨22, .data⟩], none⟩) (v := ?_) rfl (by kernel_rfl) (by kernel_rfl) (by kernel_rfl) (fun _ _ _ h => h) (Or.inl ⟨by rfl, ?hyr1x23q74⟩) (by assumption) ?restr1x23q74
      case hyr1x23q74 => intro wq hSw; (go_simp); (try with_reducible rfl)
      try simp only [Act.put, List.setIfInBounds_toArray, List.set_cons_zero, List.set_cons_succ]
      refine wpAnyH_take (i := 24) (oi := ⟨some 42, .move (.tmp 41), 4, "ref.go:165", #[⟨23, .data⟩, ⟨11, .chain⟩], none⟩) (v := ?_) rfl (by kernel_rfl) (by kernel_rfl) (by kernel_rfl) (fun _ _ _ h => h) (Or.inl ⟨by rfl, ?hyr1x24q77⟩) (by assumption) ?restr1x24q77
      case hyr1x24q77 => intro wq hSw; (go_simp); (try with_reducible rfl)
      try simp only [Act.put, List.setIfInBounds_toArray, List.set_cons_zero, List.set_cons_succ]
      refine wpAnyH_take (i := 25) (oi := ⟨some 43, .move (.tmp 0), 36, "ref.go:165", #[⟨24, .guard⟩], some (24, false)⟩) (v := ?_) rfl (by kernel_rfl) (by kernel_rfl) (by kernel_rfl) (fun _ _ _ h => h) (Or.inl ⟨by rfl, ?hyr1x25q80⟩) (by assumption) ?restr1x25q80
      case hyr1x25q80 => intro wq hSw; (go_simp); (try with_reducible rfl)
      try simp only [Act.put, List.setIfInBounds_toArray, List.set_cons_zero, List.set_cons_succ]
      refine wpAnyH_take (i := 26) (oi := ⟨some 44, .move (.tmp 5), 3, "ref.go:165", #[⟨24, .guard⟩], some (24, false)⟩) (v := ?_) rfl (by kernel_rfl) (by kernel_rfl) (by kernel_rfl) (fun _ _ _ h => h) (Or.inl ⟨by rfl, ?hyr1x26q83⟩) (by assumption) ?restr1x26q83
      case hyr1x26q83 => intro wq hSw; (go_simp); (try with_reducible rfl)
      try simp only [Act.put, List.setIfInBounds_toArray, List.set_cons_zero, List.set_cons_succ]
      refine wpAnyH_take (i := 27) (oi := ⟨some 45, .indexAddr 36 (.tmp 43) (.tmp 44), 0, "ref.go:165", #[⟨25, .data⟩, ⟨26, .data⟩, ⟨24, .guard⟩], some (24, false)⟩) (v := ?_) rfl (by kernel_rfl) (by kernel_rfl) (by kernel_rfl) (fun _ _ _ h => h) (Or.inl ⟨by rfl, ?hyr1x27q86⟩) (by assumption) ?restr1x27q86
      case hyr1x27q86 => intro wq hSw; (go_simp); (try with_reducible rfl)
      try simp only [Act.put, List.setIfInBounds_toArray, List.set_cons_zero, List.set_cons_succ]
      refine wpAnyH_take (i := 28) (oi := ⟨some 46, .fieldAddr 41 (.tmp 45) 3, 0, "ref.go:165", #[⟨27, .data⟩, ⟨24, .guard⟩], some (24, false)⟩) (v := ?_) rfl (by kernel_rfl) (by kernel_rfl) (by kernel_rfl) (fun _ _ _ h => h) (Or.inl ⟨by rfl, ?hyr1x28q89⟩) (by assumption) ?restr1x28q89
      case hyr1x28q89 => intro wq hSw; (go_simp); (try with_reducible rfl)
      try simp only [Act.put, List.setIfInBounds_toArray, List.set_cons_zero, List.set_cons_succ]
      refine wpAnyH_take (i := 29) (oi := ⟨some 47, .load 3 (.tmp 46), 3, "ref.go:165", #[⟨28, .data⟩, ⟨24, .guard⟩], some (24, false)⟩) (v := ?_) rfl (by kernel_rfl) (by kernel_rfl) (by kernel_rfl) (fun _ _ _ h => h) (Or.inl ⟨by rfl, ?hyr1x29q92⟩) (by assumption) ?restr1x29q92
      case hyr1x29q92 => intro wq hSw; (have cq := A3.out wq hSw; go_simp); (try with_reducible rfl)
      try simp only [Act.put, List.setIfInBounds_toArray, List.set_cons_zero, List.set_cons_succ]
      refine wpAnyH_take (i := 30) (oi := ⟨some 48, .move (.tmp 1), 36, "ref.go:165", #[⟨24, .guard⟩], some (24, false)⟩) (v := ?_) rfl (by kernel_rfl) (by kernel_rfl) (by kernel_rfl) (fun _ _ _ h => h) (Or.inl ⟨by rfl, ?hyr1x30q95⟩) (by assumption) ?restr1x30q95
      case hyr1x30q95 => intro wq hSw; (go_simp); (try with_reducible rfl)
      try simp only [Act.put, List.setIfInBounds_toArray, List.set_cons_zero, List.set_cons_succ]
      refine wpAnyH_take (i := 31) (oi := ⟨some 49, .move (.tmp 5), 3, "ref.go:165", #[⟨24, .guard⟩], some (24, false)⟩) (v := ?_) rfl (by kernel_rfl) (by kernel_rfl) (by kernel_rfl) (fun _ _ _ h => h) (Or.inl ⟨by rfl, ?hyr1x31q98⟩) (by assumption) ?restr1x31q98
      case hyr1x31q98 => intro wq hSw; (go_simp); (try with_reducible rfl)
      try simp only [Act.put, List.setIfInBounds_toArray, List.set_cons_zero, List.set_cons_succ]
      refine wpAnyH_take (i := 32) (oi := ⟨some 50, .indexAddr 36 (.tmp 48) (.tmp 49), 0, "ref.go:165", #[⟨30, .data⟩, ⟨31, .data⟩, ⟨24, .guard⟩], some (24, false)⟩) (v := ?_) rfl (by kernel_rfl) (by kernel_rfl) (by kernel_rfl) (fun _ _ _ h => h) (Or.inl ⟨by rfl, ?hyr1x32q101⟩) (by assumption) ?restr1x32q101
      case hyr1x32q101 => intro wq hSw; (go_simp); (try with_reducible rfl)
      try simp only [Act.put, List.setIfInBounds_toArray, List.set_cons_zero, List.set_cons_succ]
      refine wpAnyH_take (i := 33) (oi := ⟨some 51, .fieldAddr 41 (.tmp 50) 3, 0, "ref.go:165", #[⟨32, .data⟩, ⟨24, .guard⟩], some (24, false)⟩) (v := ?_) rfl (by kernel_rfl) (by kernel_rfl) (by kernel_rfl) (fun _ _ _ h => h) (Or.inl ⟨by rfl, ?hyr1x33q104⟩) (by assumption) ?restr1x33q104
      case hyr1x33q104 => intro wq hSw; (go_simp); (try with_reducible rfl)
      try simp only [Act.put, List.setIfInBounds_toArray, List.set_cons_zero, List.set_cons_succ]
      refine wpAnyH_take (i := 34) (oi := ⟨some 52, .load 3 (.tmp 51), 3, "ref.go:165", #[⟨33, .data⟩, ⟨24, .guard⟩], some (24, false)⟩) (v := ?_) rfl (by kernel_rfl) (by kernel_rfl) (by kernel_rfl) (fun _ _ _ h => h) (Or.inl ⟨by rfl, ?hyr1x34q107⟩) (by assumption) ?restr1x34q107
      case hyr1x34q107 => intro wq hSw; (have cq := B3.out wq hSw; go_simp); (try with_reducible rfl)
      try simp only [Act.put, List.setIfInBounds_toArray, List.set_cons_zero, List.set_cons_succ]
      refine wpAnyH_take (i := 35) (oi := ⟨some 53, .binOp .neq 3 (.tmp 47) (.tmp 52) 3, 4, "ref.go:165", #[⟨29, .data⟩, ⟨34, .data⟩, ⟨24, .guard⟩], some (24, false)⟩) (v := ?_) rfl (by kernel_rfl) (by kernel_rfl) (by kernel_rfl) (fun _ _ _ h => h) (Or.inl ⟨by rfl, ?hyr1x35q110⟩) (by assumption) ?restr1x35q110
      case hyr1x35q110 => intro wq hSw; (go_simp); (try with_reducible rfl)
      try simp only [Act.put, List.setIfInBounds_toArray, List.set_cons_zero, List.set_cons_succ]
      refine wpAnyH_take (i := 36) (oi := ⟨some 54, .pick (.tmp 42) (.const (.bool true)) (.tmp 53), 4, "ref.go:165", #[⟨24, .data⟩, ⟨35, .data⟩], none⟩) (v := ?_) rfl (by kernel_rfl) (by kernel_rfl) (by kernel_rfl) (fun _ _ _ h => h) (Or.inl ⟨by rfl, ?hyr1x36q113⟩) (by assumption) ?restr1x36q113
      case hyr1x36q113 => intro wq hSw; (go_simp); (try with_reducible rfl)
      try simp only [Act.put, List.setIfInBounds_toArray, List.set_cons_zero, List.set_cons_succ]
      refine wpAnyH_take (i := 37) (oi := ⟨some 55, .move (.tmp 54), 4, "ref.go:165", #[⟨36, .data⟩, ⟨24, .chain⟩], none⟩) (v := ?_) rfl (by kernel_rfl) (by kernel_rfl) (by kernel_rfl) (fun _ _ _ h => h) (Or.inl ⟨by rfl, ?hyr1x37q116⟩) (by assumption) ?restr1x37q116
      case hyr1x37q116 => intro wq hSw; (go_simp); (try with_reducible rfl)
      try simp only [Act.put, List.setIfInBounds_toArray, List.set_cons_zero, List.set_cons_succ]
      refine wpAnyH_take (i := 38) (oi := ⟨some 56, .move (.tmp 0), 36, "ref.go:165", #[⟨37, .guard⟩], some (37, false)⟩) (v := ?_) rfl (by kernel_rfl) (by kernel_rfl) (by kernel_rfl) (fun _ _ _ h => h) (Or.inl ⟨by rfl, ?hyr1x38q119⟩) (by assumption) ?restr1x38q119
      case hyr1x38q119 => intro wq hSw; (go_simp); (try with_reducible rfl)
      try simp only [Act.put, List.setIfInBounds_toArray, List.set_cons_zero, List.set_cons_succ]
      refine wpAnyH_take (i := 39) (oi := ⟨some 57, .move (.tmp 5), 3, "ref.go:165", #[⟨37, .guard⟩], some (37, false)⟩) (v := ?_) rfl (by kernel_rfl) (by kernel_rfl) (by kernel_rfl) (fun _ _ _ h => h) (Or.inl ⟨by rfl, ?hyr1x39q122⟩) (by assumption) ?restr1x39q122
      case hyr1x39q122 => intro wq hSw; (go_simp); (try with_reducible rfl)
      try simp only [Act.put, List.setIfInBounds_toArray, List.set_cons_zero, List.set_cons_succ]
      refine wpAnyH_take (i := 40) (oi := ⟨some 58, .indexAddr 36 (.tmp 56) (.tmp 57), 0, "ref.go:165", #[⟨38, .data⟩, ⟨39, .data⟩, ⟨37, .guard⟩], some (37, false)⟩) (v := ?_) rfl (by kernel_rfl) (by kernel_rfl) (by kernel_rfl) (fun _ _ _ h => h) (Or.inl ⟨by rfl, ?hyr1x40q125⟩) (by assumption) ?restr1x40q125
      case hyr1x40q125 => intro wq hSw; (go_simp); (try with_reducible rfl)
      try simp only [Act.put, List.setIfInBounds_toArray, List.set_cons_zero, List.set_cons_succ]
      refine wpAnyH_take (i := 41) (oi := ⟨some 59, .fieldAddr 41 (.tmp 58) 1, 0, "ref.go:165", #[⟨40, .data⟩, ⟨37, .guard⟩], some (37, false)⟩) (v := ?_) rfl (by kernel_rfl) (by kernel_rfl) (by kernel_rfl) (fun _ _ _ h => h) (Or.inl ⟨by rfl, ?hyr1x41q128⟩) (by assumption) ?restr1x41q128
      case hyr1x41q128 => intro wq hSw; (go_simp); (try with_reducible rfl)
      try simp only [Act.put, List.setIfInBounds_toArray, List.set_cons_zero, List.set_cons_succ]
      refine wpAnyH_take (i := 42) (oi := ⟨some 60, .load 22 (.tmp 59), 22, "ref.go:165", #[⟨41, .data⟩, ⟨37, .guard⟩], some (37, false)⟩) (v := ?_) rfl (by kernel_rfl) (by kernel_rfl) (by kernel_rfl) (fun _ _ _ h => h) (Or.inl ⟨by rfl, ?hyr1x42q131⟩) (by assumption) ?restr1x42q131
      case hyr1x42q131 => intro wq hSw; (have cq := A1.out wq hSw; go_simp); (try with_reducible rfl)
      try simp only [Act.put, List.setIfInBounds_toArray, List.set_cons_zero, List.set_cons_succ]
      refine wpAnyH_take (i := 43) (oi := ⟨some 61, .move (.tmp 1), 36, "ref.go:165", #[⟨37, .guard⟩], some (37, false)⟩) (v := ?_) rfl (by kernel_rfl) (by kernel_rfl) (by kernel_rfl) (fun _ _ _ h => h) (Or.inl ⟨by rfl, ?hyr1x43q134⟩) (by assumption) ?restr1x43q134
      case hyr1x43q134 => intro wq hSw; (go_simp); (try with_reducible rfl)
      try simp only [Act.put, List.setIfInBounds_toArray, List.set_cons_zero, List.set_cons_succ]
      refine wpAnyH_take (i := 44) (oi := ⟨some 62, .move (.tmp 5), 3, "ref.go:165", #[⟨37, .guard⟩], some (37, false)⟩) (v := ?_) rfl (by kernel_rfl) (by kernel_rfl) (by kernel_rfl) (fun _ _ _ h => h) (Or.inl ⟨by rfl, ?hyr1x44q137⟩) (by assumption) ?restr1x44q137
      case hyr1x44q137 => intro wq hSw; (go_simp); (try with_reducible rfl)
      try simp only [Act.put, List.setIfInBounds_toArray, List.set_cons_zero, List.set_cons_succ]
      refine wpAnyH_take (i := 45) (oi := ⟨some 63, .indexAddr 36 (.tmp 61) (.tmp 62), 0, "ref.go:165", #[⟨43, .data⟩, ⟨44, .data⟩, ⟨37, .guard⟩], some (37, false)⟩) (v := ?_) rfl (by kernel_rfl) (by kernel_rfl) (by kernel_rfl) (fun _ _ _ h => h) (Or.inl ⟨by rfl, ?hyr1x45q140⟩) (by assumption) ?restr1x45q140
      case hyr1x45q140 => intro wq hSw; (go_simp); (try with_reducible rfl)
      try simp only [Act.put, List.setIfInBounds_toArray, List.set_cons_zero, List.set_cons_succ]
      refine wpAnyH_take (i := 46) (oi := ⟨some 64, .fieldAddr 41 (.tmp 63) 1, 0, "ref.go:165", #[⟨45, .data⟩, ⟨37, .guard⟩], some (37, false)⟩) (v := ?_) rfl (by kernel_rfl) (by kernel_rfl) (by kernel_rfl) (fun _ _ _ h => h) (Or.inl ⟨by rfl, ?hyr1x46q143⟩) (by assumption) ?restr1x46q143
      case hyr1x46q143 => intro wq hSw; (go_simp); (try with_reducible rfl)
      try simp only [Act.put, List.setIfInBounds_toArray, List.set_cons_zero, List.set_cons_succ]
      refine wpAnyH_take (i := 47) (oi := ⟨some 65, .load 22 (.tmp 64), 22, "ref.go:165", #[⟨46, .data⟩, ⟨37, .guard⟩], some (37, false)⟩) (v := ?_) rfl (by kernel_rfl) (by kernel_rfl) (by kernel_rfl) (fun _ _ _ h => h) (Or.inl ⟨by rfl, ?hyr1x47q146⟩) (by assumption) ?restr1x47q146
      case hyr1x47q146 => intro wq hSw; (have cq := B1.out wq hSw; go_simp); (try with_reducible rfl)
      try simp only [Act.put, List.setIfInBounds_toArray, List.set_cons_zero, List.set_cons_succ]
      refine wpAnyH_ready (rs := [48]) (by kernel_rfl) (by simp) ?_
      refine AllReadyH.cons (o := ⟨some 66, .call { callee := .value (.func 24), args := #[.tmp 60, .tmp 65], argTypes := #[22, 22] }, 4, "ref.go:165", #[⟨42, .data⟩, ⟨47, .data⟩, ⟨37, .chain⟩, ⟨37, .guard⟩], some (37, false)⟩) rfl (fun K hK => ?_) AllReadyH.nil
      go_simp
      (with_reducible refine (sameints_x _ _ _ _ _ y.known _ (S1.out.nx hHeld) (T1.out.nx hHeld) (by omega)).mono ?_)
      rintro e wb ⟨rfl, kk⟩
      replace hHeld := hHeld.nx kk
      clear kk
      refine hK.out _ _ (hHeld) (fun hHeld => ?_)
      clear hK K
      try simp only [Act.put, List.setIfInBounds_toArray, List.set_cons_zero, List.set_cons_succ]
      refine wpAnyH_take (i := 49) (oi := ⟨some 67, .unOp .not 4 (.tmp 66), 4, "ref.go:165", #[⟨48, .data⟩, ⟨37, .guard⟩], some (37, false)⟩) (v := ?_) rfl (by kernel_rfl) (by kernel_rfl) (by kernel_rfl) (fun _ _ _ h => h) (Or.inl ⟨by rfl, ?hyr1x49q159⟩) (by assumption) ?restr1x49q159
      case hyr1x49q159 => intro wq hSw; (go_simp); (try with_reducible rfl)
      try simp only [Act.put, List.setIfInBounds_toArray, List.set_cons_zero, List.set_cons_succ]
      refine wpAnyH_take (i := 50) (oi := ⟨some 68, .pick (.tmp 55) (.const (.bool true)) (.tmp 67), 4, "ref.go:165", #[⟨37, .data⟩, ⟨49, .data⟩], none⟩) (v := ?_) rfl (by kernel_rfl) (by kernel_rfl) (by kernel_rfl) (fun _ _ _ h => h) (Or.inl ⟨by rfl, ?hyr1x50q162⟩) (by assumption) ?restr1x50q162
      case hyr1x50q162 => intro wq hSw; (go_simp); (try with_reducible rfl)
      try simp only [Act.put, List.setIfInBounds_toArray, List.set_cons_zero, List.set_cons_succ]
      refine wpAnyH_take (i := 51) (oi := ⟨some 69, .move (.tmp 68), 4, "ref.go:165", #[⟨50, .data⟩, ⟨48, .chain⟩], none⟩) (v := ?_) rfl (by kernel_rfl) (by kernel_rfl) (by kernel_rfl) (fun _ _ _ h => h) (Or.inl ⟨by rfl, ?hyr1x51q165⟩) (by assumption) ?restr1x51q165
      case hyr1x51q165 => intro wq hSw; (go_simp); (try with_reducible rfl)
      try simp only [Act.put, List.setIfInBounds_toArray, List.set_cons_zero, List.set_cons_succ]
      refine wpAnyH_take (i := 52) (oi := ⟨some 70, .move (.tmp 0), 36, "ref.go:165", #[⟨51, .guard⟩], some (51, false)⟩) (v := ?_) rfl (by kernel_rfl) (by kernel_rfl) (by kernel_rfl) (fun _ _ _ h => h) (Or.inl ⟨by rfl, ?hyr1x52q168⟩) (by assumption) ?restr1x52q168
      case hyr1x52q168 => intro wq hSw; (go_simp); (try with_reducible rfl)
      try simp only [Act.put, List.setIfInBounds_toArray, List.set_cons_zero, List.set_cons_succ]
      refine wpAnyH_take (i := 53) (oi := ⟨some 71, .move (.tmp 5), 3, "ref.go:165", #[⟨51, .guard⟩], some (51, false)⟩) (v := ?_) rfl (by kernel_rfl) (by kernel_rfl) (by kernel_rfl) (fun _ _ _ h => h) (Or.inl ⟨by rfl, ?hyr1x53q171⟩) (by assumption) ?restr1x53q171
      case hyr1x53q171 => intro wq hSw; (go_simp); (try with_reducible rfl)
      try simp only [Act.put, List.setIfInBounds_toArray, List.set_cons_zero, List.set_cons_succ]
      refine wpAnyH_take (i := 54) (oi := ⟨some 72, .indexAddr 36 (.tmp 70) (.tmp 71), 0, "ref.go:165", #[⟨52, .data⟩, ⟨53, .data⟩, ⟨51, .guard⟩], some (51, false)⟩) (v := ?_) rfl (by kernel_rfl) (by kernel_rfl) (by kernel_rfl) (fun _ _ _ h => h) (Or.inl ⟨by rfl, ?hyr1x54q174⟩) (by assumption) ?restr1x54q174
      case hyr1x54q174 => intro wq hSw; (go_simp); (try with_reducible rfl)
      try simp only [Act.put, List.setIfInBounds_toArray, List.set_cons_zero, List.set_cons_succ]
      refine wpAnyH_take (i := 55) (oi := ⟨some 73, .fieldAddr 41 (.tmp 72) 4, 0, "ref.go:165", #[⟨54, .data⟩, ⟨51, .guard⟩], some (51, false)⟩) (v := ?_) rfl (by kernel_rfl) (by kernel_rfl) (by kernel_rfl) (fun _ _ _ h => h) (Or.inl ⟨by rfl, ?hyr1x55q177⟩) (by assumption) ?restr1x55q177
      case hyr1x55q177 => intro wq hSw; (go_simp); (try with_reducible rfl)
      try simp only [Act.put, List.setIfInBounds_toArray, List.set_cons_zero, List.set_cons_succ]
      refine wpAnyH_take (i := 56) (oi := ⟨some 74, .load 39 (.tmp 73), 39, "ref.go:165", #[⟨55, .data⟩, ⟨51, .guard⟩], some (51, false)⟩) (v := ?_) rfl (by kernel_rfl) (by kernel_rfl) (by kernel_rfl) (fun _ _ _ h => h) (Or.inl ⟨by rfl, ?hyr1x56q180⟩) (by assumption) ?restr1x56q180
      case hyr1x56q180 => intro wq hSw; (have cq := A4.out wq hSw; go_simp); (try with_reducible rfl)
      try simp only [Act.put, List.setIfInBounds_toArray, List.set_cons_zero, List.set_cons_succ]
      refine wpAnyH_take (i := 57) (oi := ⟨some 75, .call { callee := .builtin .len, args := #[.tmp 74], argTypes := #[39] }, 3, "ref.go:165", #[⟨56, .data⟩, ⟨51, .guard⟩], some (51, false)⟩) (v := ?_) rfl (by kernel_rfl) (by kernel_rfl) (by kernel_rfl) (fun _ _ _ h => h) (Or.inl ⟨by rfl, ?hyr1x57q183⟩) (by assumption) ?restr1x57q183
      case hyr1x57q183 => intro wq hSw; (go_simp); (try with_reducible rfl)
      try simp only [Act.put, List.setIfInBounds_toArray, List.set_cons_zero, List.set_cons_succ]
      refine wpAnyH_take (i := 58) (oi := ⟨some 76, .move (.tmp 1), 36, "ref.go:165", #[⟨51, .guard⟩], some (51, false)⟩) (v := ?_) rfl (by kernel_rfl) (by kernel_rfl) (by kernel_rfl) (fun _ _ _ h => h) (Or.inl ⟨by rfl, ?hyr1x58q186⟩) (by assumption) ?restr1x58q186
      case hyr1x58q186 => intro wq hSw; (go_simp); (try with_reducible rfl)
      try simp only [Act.put, List.setIfInBounds_toArray, List.set_cons_zero, List.set_cons_succ]
      refine wpAnyH_take (i := 59) (oi := ⟨some 77, .move (.tmp 5), 3, "ref.go:165", #[⟨51, .guard⟩], some (51, false)⟩) (v := ?_) rfl (by kernel_rfl) (by kernel_rfl) (by kernel_rfl) (fun _ _ _ h => h) (Or.inl ⟨by rfl, ?hyr1x59q189⟩) (by assumption) ?restr1x59q189
      case hyr1x59q189 => intro wq hSw; (go_simp); (try with_reducible rfl)
      try simp only [Act.put, List.setIfInBounds_toArray, List.set_cons_zero, List.set_cons_succ]
      refine wpAnyH_take (i := 60) (oi := ⟨some 78, .indexAddr 36 (.tmp 76) (.tmp 77), 0, "ref.go:165", #[⟨58, .data⟩, ⟨59, .data⟩, ⟨51, .guard⟩], some (51, false)⟩) (v := ?_) rfl (by kernel_rfl) (by kernel_rfl) (by kernel_rfl) (fun _ _ _ h => h) (Or.inl ⟨by rfl, ?hyr1x60q192⟩) (by assumption) ?restr1x60q192
      case hyr1x60q192 => intro wq hSw; (go_simp); (try with_reducible rfl)
      try simp only [Act.put, List.setIfInBounds_toArray, List.set_cons_zero, List.set_cons_succ]
      refine wpAnyH_take (i := 61) (oi := ⟨some 79, .fieldAddr 41 (.tmp 78) 4, 0, "ref.go:165", #[⟨60, .data⟩, ⟨51, .guard⟩], some (51, false)⟩) (v := ?_) rfl (by kernel_rfl) (by kernel_rfl) (by kernel_rfl) (fun _ _ _ h => h) (Or.inl ⟨by rfl, ?hyr1x61q195⟩) (by assumption) ?restr1x61q195
      case hyr1x61q195 => intro wq hSw; (go_simp); (try with_reducible rfl)
      try simp only [Act.put, List.setIfInBounds_toArray, List.set_cons_zero, List.set_cons_succ]
      refine wpAnyH_take (i := 62) (oi := ⟨some 80, .load 39 (.tmp 79), 39, "ref.go:165", #[⟨61, .data⟩, ⟨51, .guard⟩], some (51, false)⟩) (v := ?_) rfl (by kernel_rfl) (by kernel_rfl) (by kernel_rfl) (fun _ _ _ h => h) (Or.inl ⟨by rfl, ?hyr1x62q198⟩) (by assumption) ?restr1x62q198
      case hyr1x62q198 => intro wq hSw; (have cq := B4.out wq hSw; go_simp); (try with_reducible rfl)
      try simp only [Act.put, List.setIfInBounds_toArray, List.set_cons_zero, List.set_cons_succ]
      refine wpAnyH_take (i := 63) (oi := ⟨some 81, .call { callee := .builtin .len, args := #[.tmp 80], argTypes := #[39] }, 3, "ref.go:165", #[⟨62, .data⟩, ⟨51, .guard⟩], some (51, false)⟩) (v := ?_) rfl (by kernel_rfl) (by kernel_rfl) (by kernel_rfl) (fun _ _ _ h => h) (Or.inl ⟨by rfl, ?hyr1x63q201⟩) (by assumption) ?restr1x63q201
      case hyr1x63q201 => intro wq hSw; (go_simp); (try with_reducible rfl)
      try simp only [Act.put, List.setIfInBounds_toArray, List.set_cons_zero, List.set_cons_succ]
      refine wpAnyH_take (i := 64) (oi := ⟨some 82, .binOp .neq 3 (.tmp 75) (.tmp 81) 3, 4, "ref.go:165", #[⟨57, .data⟩, ⟨63, .data⟩, ⟨51, .guard⟩], some (51, false)⟩) (v := ?_) rfl (by kernel_rfl) (by kernel_rfl) (by kernel_rfl) (fun _ _ _ h => h) (Or.inl ⟨by rfl, ?hyr1x64q204⟩) (by assumption) ?restr1x64q204
      case hyr1x64q204 => intro wq hSw; (go_simp); (try with_reducible rfl)
      try simp only [Act.put, List.setIfInBounds_toArray, List.set_cons_zero, List.set_cons_succ]
      refine wpAnyH_take (i := 65) (oi := ⟨some 83, .pick (.tmp 69) (.const (.bool true)) (.tmp 82), 4, "ref.go:165", #[⟨51, .data⟩, ⟨64, .data⟩], none⟩) (v := ?_) rfl (by kernel_rfl) (by kernel_rfl) (by kernel_rfl) (fun _ _ _ h => h) (Or.inl ⟨by rfl, ?hyr1x65q207⟩) (by assumption) ?restr1x65q207
      case hyr1x65q207 => intro wq hSw; (go_simp); (try with_reducible rfl)
      try simp only [Act.put, List.setIfInBounds_toArray, List.set_cons_zero, List.set_cons_succ]
      refine wpAnyH_done (by kernel_rfl) ?_ _
      have K6 := Lib.hid hHeld
      clear hHeld hDrew
      have cq := A4.out _ K6.out
      go_wp2_with fail
      go_loopw [6] (fun i wr => KtRel m4 wb i wr) (fun i _ => m4 - (intOf i).toNat)
      case atStart => exact ⟨0, Nat.zero_le _, rfl, Ex.refl _⟩
      case round =>
        clear cq
        obtain ⟨t, ht, rfl, kv⟩ := hrel
        obtain ⟨wj, rfl⟩ : ∃ wj : World, wj = wr := ⟨_, rfl⟩
        have KV := Lib.hid (K6.out.nx kv)
        have KJ := Lib.hid kv
        clear kv
        have cq := A4.out _ KV.out
        have cr := B4.out _ KV.out
        by_cases htt : t < m4
        · obtain ⟨xa, oa, z, rfl, hxa, hz, hca⟩ := (S4.out.nx KV.out).at htt
          obtain ⟨xb, ob, z', rfl, hxb, hz', hcb⟩ := (T4.out.nx KV.out).at htt
          obtain rfl : z = z' := Option.some.inj (hz.symm.trans hz')
          have f0 : wj.cell? ⟨xa, oa + t * 4, none⟩ = some (.int .i64 z.1) := by simpa using hca 0 _ rfl
          have f1 : wj.cell? ⟨xa, oa + t * 4 + 1, none⟩ = some (.int .i64 z.2.1) := by simpa using hca 1 _ rfl
          have f2 : wj.cell? ⟨xa, oa + t * 4 + 1 + 1, none⟩ = some (.int .i64 z.2.2.1) := by simpa [Nat.add_assoc] using hca 2 _ rfl
          have f3 : wj.cell? ⟨xa, oa + t * 4 + 1 + 1 + 1, none⟩ = some (.int .i64 z.2.2.2) := by simpa [Nat.add_assoc] using hca 3 _ rfl
          have g0 : wj.cell? ⟨xb, ob + t * 4, none⟩ = some (.int .i64 z.1) := by simpa using hcb 0 _ rfl
          have g1 : wj.cell? ⟨xb, ob + t * 4 + 1, none⟩ = some (.int .i64 z.2.1) := by simpa using hcb 1 _ rfl
          have g2 : wj.cell? ⟨xb, ob + t * 4 + 1 + 1, none⟩ = some (.int .i64 z.2.2.1) := by simpa [Nat.add_assoc] using hcb 2 _ rfl
          have g3 : wj.cell? ⟨xb, ob + t * 4 + 1 + 1 + 1, none⟩ = some (.int .i64 z.2.2.2) := by simpa [Nat.add_assoc] using hcb 3 _ rfl
          have RR := Lib.hid (fun m => show KtRel m4 wb (.int .i64 ((t : Int) + 1)) (wj.drewN m) from ⟨t + 1, by omega, by go_num, KJ.out.drewN m⟩)
          clear hca hcb hz hz' hxa hxb
          go_wp2_with fail
          go_quiet (fail)
          go_wp2_with fail
          exact ⟨RR.out _, by simp [intOf]; omega⟩
        · obtain rfl : t = m4 := by omega
          have RR := Lib.hid (show KtRel n w (.int .i64 ((k : Int) + 1)) wj from ⟨k + 1, by omega, by go_num, KW.out.nx KV.out⟩)
          clear ht htt
          go_wp2_with fail
          exact ⟨RR.out, by simp [intOf]; omega⟩
    · obtain rfl : k = n := by omega
      have K1 := Lib.hid KW.out
      clear hk
      go_wp2_with fail
      go_ret
      exact ⟨rfl, K1.out⟩
end Go.Proofs.YtbnbjiddffihoaaDoor

/- The sanity check of chapter 17. -/
namespace Go.Proofs.YtbnbjiddffihoaaDoor
open Go.RowKit

def threeN : List Nd := [⟨1, ⟨#[97]⟩, 0⟩, ⟨2, ⟨#[98]⟩, 1⟩, ⟨3, ⟨#[99]⟩, 2⟩]
def lowI : Nat → List Pr
  | 0 => [⟨1, 0, 2, [], []⟩, ⟨2, 1, 3, [], []⟩, ⟨3, 2, 0, [], []⟩]
  | k + 1 => bRoundN threeN (lowI k) 1
def thrP : List Pr := peersN threeN 1 1
theorem threeW : ∀ x ∈ threeN, x.word < 4294967296 := by decide +kernel
theorem thr_len : thrP.length = 3 := by decide +kernel
theorem thr_round : bRoundN threeN thrP 1 = thrP := by kernel_rfl
theorem smallA {P : List Pr} (h : P.all (fun p => decide (p.known.length ≤ 10) && decide (p.near.length ≤ 10)) = true) : ∀ p ∈ P, p.known.length ≤ 10 ∧ p.near.length ≤ 10 := fun p hp => by
  have := List.all_eq_true.1 h p hp
  simpa only [Bool.and_eq_true, decide_eq_true_eq] using this
theorem thr_small : ∀ p ∈ thrP, p.known.length ≤ 10 ∧ p.near.length ≤ 10 := smallA (by decide +kernel)
theorem low_small : ∀ k, k ≤ 3 → ∀ p ∈ lowI k, p.known.length ≤ 10 ∧ p.near.length ≤ 10
  | 0, _ => smallA (by decide +kernel)
  | 1, _ => smallA (by decide +kernel)
  | 2, _ => smallA (by decide +kernel)
  | 3, _ => smallA (by decide +kernel)
  | k + 4, h => absurd h (by omega)
theorem low_len : ∀ k, k ≤ 3 → (lowI k).length = 3
  | 0, _ => by decide +kernel
  | 1, _ => by decide +kernel
  | 2, _ => by decide +kernel
  | 3, _ => by decide +kernel
  | k + 4, h => absurd h (by omega)
theorem small10 {P : List Pr} (h : ∀ p ∈ P, p.known.length ≤ 10 ∧ p.near.length ≤ 10) : SmallP P := fun p hp => by have := h p hp; omega
theorem three_b : (buildN threeN 1).2 = 0 := by decide +kernel
theorem thr_exact : exactB threeN thrP 1 = true := by
  rw [exactB_eq three_b]
  exact decide_eq_true (by decide +kernel)
theorem low_exact : exactB threeN (lowI 3) 1 = true := by
  rw [exactB_eq three_b]
  exact decide_eq_true (by decide +kernel)
theorem low_link : ((lowI 3)[0]?).map (fun y => linkB threeN y 1) = some (0, 3) := by decide +kernel
theorem rnds_31 : rndsB 3 1 = 3 := by decide +kernel
def TnPost (w : World) (e : Ending) (w' : World) : Prop := ∃ a, e = .returned (.slice a 3 3) ∧ Sl 3 encN w' a 3 threeN ∧ Ex w w'
theorem three_x (w : World) : Calls Tryd.prog 81 #[] w (TnPost w) := by
  go_enter Tryd.func81, Tryd.ntmps81
  go_wp2_with fail
  go_ret
  exact ⟨_, rfl, Sl.lit threeN rfl rfl (fun _ => rfl) rfl, Ex.new _ _⟩
theorem lowLit (w : World) : ∃ g v, g = w.heap.size ∧ v = w.alloc (.cells #[.int .i64 1, .slice none 0 0, .int .i64 0, .int .i64 2, .slice none 0 0, .int .i64 2, .slice none 0 0, .int .i64 1, .int .i64 3, .slice none 0 0, .int .i64 3, .slice none 0 0, .int .i64 2, .int .i64 0, .slice none 0 0] 41) ∧
    PL v (some ⟨g, 0, none⟩) 3 (lowI 0) ∧ Ex w v := by
  refine ⟨_, _, rfl, rfl, ⟨[((1, 0, 2), (none, 0, 0), (none, 0, 0)), ((2, 1, 3), (none, 0, 0), (none, 0, 0)), ((3, 2, 0), (none, 0, 0), (none, 0, 0))], ?_, rfl, fun j q p hq hp => ?_⟩, Ex.new _ _⟩
  · exact Sl.lit (enc := encQ) (sz := 5) (w := w) (s := w.heap.size) (ty := 41) (n := 3) [((1, 0, 2), (none, 0, 0), (none, 0, 0)), ((2, 1, 3), (none, 0, 0), (none, 0, 0)), ((3, 2, 0), (none, 0, 0), (none, 0, 0))] rfl rfl encQ_len rfl
  · rcases j with _ | _ | _ | j
    · simp only [List.getElem?_cons_zero, Option.some.injEq, lowI] at hq hp
      subst hq hp
      exact ⟨rfl, Sl.nil _ _ _ _, Sl.nil _ _ _ _⟩
    · simp only [List.getElem?_cons_zero, List.getElem?_cons_succ, Option.some.injEq, lowI] at hq hp
      subst hq hp
      exact ⟨rfl, Sl.nil _ _ _ _, Sl.nil _ _ _ _⟩
    · simp only [List.getElem?_cons_zero, List.getElem?_cons_succ, Option.some.injEq, lowI] at hq hp
      subst hq hp
      exact ⟨rfl, Sl.nil _ _ _ _, Sl.nil _ _ _ _⟩
    · simp at hq
def LwRel (w : World) (o i : Value) (wr : World) : Prop :=
  ∃ (k : Nat) (a : Option Addr) (c : Nat), k ≤ 3 ∧ i = .int .i64 k ∧ o = .slice a 3 c ∧ PL wr a 3 (lowI k) ∧ Ex w wr
set_option maxRecDepth 100000 in
set_option maxHeartbeats 8000000 in
theorem sane17_x (w : World) (hT : TabG w) : Calls Tryd.prog 44 #[] w fun e w' => e = .returned (.bool true) ∧ Ex w w' := by
  go_enter Tryd.func44, Tryd.ntmps44
  have k := Ex.refl w
  go_wp2_with fail
  (with_reducible refine (three_x _).mono ?_)
  rintro e w1 ⟨a1, rfl, S1, kk⟩
  replace k := k.nx kk
  replace hT := hT.nx kk
  clear kk
  go_wp2_with fail
  (with_reducible refine (peers_p _ _ _ threeN 1 1 _ S1 (by omega) (by omega) (by unfold maxLen; omega) threeW hT).mono ?_)
  rintro e w2 ⟨v, qs, rfl, own, kk⟩
  replace k := k.nx kk
  replace hT := hT.nx kk
  clear kk S1
  replace own : OwnPr w1.heap.size w2 v qs thrP := own
  obtain ⟨aP, cP, rfl, PP, _, _, _, _⟩ := own.pl
  rw [thr_len] at PP ⊢
  clear own
  go_wp2_with fail
  (with_reducible refine (three_x _).mono ?_)
  rintro e w3 ⟨a1, rfl, S1, kk⟩
  replace k := k.nx kk
  replace hT := hT.nx kk
  replace PP := PP.nx kk
  clear kk
  go_wp2_with fail
  (with_reducible refine (bround_p _ _ _ threeN _ _ _ thrP 1 _ S1 (by omega) (by omega) (by unfold maxLen; omega) threeW PP (by omega) (small10 thr_small)).mono ?_)
  rintro e w4 ⟨v, qs, rfl, own, kk⟩
  replace k := k.nx kk
  replace hT := hT.nx kk
  replace PP := PP.nx kk
  clear kk S1
  rw [thr_round] at own
  obtain ⟨aQ, cQ, rfl, PQ, _, _, _, _⟩ := own.pl
  rw [thr_len] at PQ ⊢
  clear own
  obtain ⟨g5, w5, hg5, hw5, PL0, kk⟩ := lowLit w4
  replace k := k.nx kk
  replace hT := hT.nx kk
  replace PP := PP.nx kk
  replace PQ := PQ.nx kk
  have Hg5 := Lib.hid hg5
  have Hw5 := Lib.hid hw5
  have PP := Lib.hid PP
  have PQ := Lib.hid PQ
  have hT := Lib.hid hT
  have k := Lib.hid k
  clear kk hg5 hw5
  go_upto_region 5 with fail
  rw [← Hg5.out, ← Hw5.out]
  clear Hg5 Hw5
  go_loopw [3, 4] (fun o i wr => LwRel w5 o i wr) (fun _ i _ => 3 - (intOf i).toNat)
  case atStart => exact ⟨0, _, _, by omega, rfl, rfl, PL0, Ex.refl _⟩
  case round =>
    clear PL0
    obtain ⟨j, aL, cL, hj, rfl, rfl, PJ, ki⟩ := hrel
    obtain ⟨wi, rfl⟩ : ∃ wi : World, wi = wr := ⟨_, rfl⟩
    by_cases hjm : j < 3
    · go_wp2_with fail
      (with_reducible refine (three_x _).mono ?_)
      rintro e w6 ⟨a1, rfl, S1, kk⟩
      replace ki := ki.nx kk
      replace PJ := PJ.nx kk
      clear kk
      go_wp2_with fail
      (with_reducible refine (bround_p _ _ _ threeN _ _ _ (lowI j) 1 _ S1 (by omega) (by omega) (by unfold maxLen; omega) threeW PJ (by omega) (small10 (low_small j (by omega)))).mono ?_)
      rintro e w7 ⟨v, qs, rfl, own, kk⟩
      replace ki := ki.nx kk
      replace own : OwnPr w6.heap.size w7 v qs (lowI (j + 1)) := own
      obtain ⟨aM, cM, rfl, PM, _, _, _, _⟩ := own.pl
      rw [low_len (j + 1) (by omega)] at PM ⊢
      have PM := Lib.hid PM
      have ki := Lib.hid ki
      clear kk own PJ S1
      go_wp2_with fail
      exact ⟨⟨j + 1, _, _, by omega, by go_num, rfl, PM.out, ki.out⟩, by simp [intOf]; omega⟩
    · obtain rfl : j = 3 := by omega
      have PZ := Lib.hid PJ
      have K := Lib.hid (k.out.nx ki)
      replace PP := Lib.hid (PP.out.nx ki)
      replace PQ := Lib.hid (PQ.out.nx ki)
      have T := Lib.hid (hT.out.nx ki)
      obtain ⟨x5, o5, b1, m1, d1, b4, m4, d4, y, hea, hx5, hy, e0, e1, e2, e3, e4, s1, s4⟩ := PJ.rd (show 0 < 3 by omega)
      subst hea
      have HLK : Hid (linkB threeN y 1 = (0, 3)) := Lib.hid (by have h := low_link; rw [hy] at h; simpa using h)
      have hm4 : m4 ≤ 10 := by have := (low_small 3 (by omega) y (List.mem_of_getElem? hy)).2; have := s4.len; omega
      have S4 := Lib.hid s4
      have EY0 : Hid (∀ wq, Ex wi wq → wq.cell? ⟨x5, o5, none⟩ = some (.int .i64 y.id)) := Lib.hid (fun wq kq => Chg.cellv kq (by simpa using e0) hx5)
      have EY1 : Hid (∀ wq, Ex wi wq → wq.cell? ⟨x5, o5 + 1, none⟩ = some (.slice b1 m1 d1)) := Lib.hid (fun wq kq => Chg.cellv kq (by simpa using e1) hx5)
      have EY2 : Hid (∀ wq, Ex wi wq → wq.cell? ⟨x5, o5 + 1 + 1, none⟩ = some (.int .i64 y.left)) := Lib.hid (fun wq kq => Chg.cellv kq (by simpa using e2) hx5)
      have EY3 : Hid (∀ wq, Ex wi wq → wq.cell? ⟨x5, o5 + 1 + 1 + 1, none⟩ = some (.int .i64 y.right)) := Lib.hid (fun wq kq => Chg.cellv kq (by simpa using e3) hx5)
      have EY4 : Hid (∀ wq, Ex wi wq → wq.cell? ⟨x5, o5 + 1 + 1 + 1 + 1, none⟩ = some (.slice b4 m4 d4)) := Lib.hid (fun wq kq => Chg.cellv kq (by simpa using e4) hx5)
      clear e0 e1 e2 e3 e4 s1 s4 hy hx5 ki PJ hj hjm k hT
      go_wp2_with fail
      refine wp_region_held_drew (S := Ex wi) (by kernel_rfl) ((Ex.refl wi).drew) (fun hHeld => ?_)
      obtain ⟨wd, hwdx⟩ : ∃ wd : World, wd = World.drew wi := ⟨_, rfl⟩
      rw [← hwdx] at hHeld ⊢
      have hDrew : Ex wi wd := by rw [hwdx]; exact (Ex.refl wi).drew
      clear hwdx
      refine wpAnyH_take (i := 0) (oi := ⟨some 21, .move (.tmp 1), 36, "law.go:28", #[], none⟩) (v := ?_) rfl (by kernel_rfl) (by kernel_rfl) (by kernel_rfl) (fun _ _ _ h => h) (Or.inl ⟨by rfl, ?hyr1x0q5⟩) (by assumption) ?restr1x0q5
      case hyr1x0q5 => intro wq hSw; (go_simp); (try with_reducible rfl)
      try simp only [Act.put, List.setIfInBounds_toArray, List.set_cons_zero, List.set_cons_succ]
      refine wpAnyH_take (i := 1) (oi := ⟨some 22, .call { callee := .builtin .len, args := #[.tmp 21], argTypes := #[36] }, 3, "law.go:28", #[⟨0, .data⟩], none⟩) (v := ?_) rfl (by kernel_rfl) (by kernel_rfl) (by kernel_rfl) (fun _ _ _ h => h) (Or.inl ⟨by rfl, ?hyr1x1q8⟩) (by assumption) ?restr1x1q8
      case hyr1x1q8 => intro wq hSw; (go_simp); (try with_reducible rfl)
      try simp only [Act.put, List.setIfInBounds_toArray, List.set_cons_zero, List.set_cons_succ]
      refine wpAnyH_take (i := 2) (oi := ⟨some 23, .binOp .eql 3 (.tmp 22) (.const (.int .i64 3)) 3, 4, "law.go:28", #[⟨1, .data⟩], none⟩) (v := ?_) rfl (by kernel_rfl) (by kernel_rfl) (by kernel_rfl) (fun _ _ _ h => h) (Or.inl ⟨by rfl, ?hyr1x2q11⟩) (by assumption) ?restr1x2q11
      case hyr1x2q11 => intro wq hSw; (go_simp); (try with_reducible rfl)
      try simp only [Act.put, List.setIfInBounds_toArray, List.set_cons_zero, List.set_cons_succ]
      refine wpAnyH_take (i := 3) (oi := ⟨some 24, .move (.tmp 23), 4, "law.go:28", #[⟨2, .data⟩], none⟩) (v := ?_) rfl (by kernel_rfl) (by kernel_rfl) (by kernel_rfl) (fun _ _ _ h => h) (Or.inl ⟨by rfl, ?hyr1x3q14⟩) (by assumption) ?restr1x3q14
      case hyr1x3q14 => intro wq hSw; (go_simp); (try with_reducible rfl)
      try simp only [Act.put, List.setIfInBounds_toArray, List.set_cons_zero, List.set_cons_succ]
      refine wpAnyH_take (i := 4) (oi := ⟨some 25, .move (.tmp 1), 36, "law.go:28", #[⟨3, .guard⟩], some (3, true)⟩) (v := ?_) rfl (by kernel_rfl) (by kernel_rfl) (by kernel_rfl) (fun _ _ _ h => h) (Or.inl ⟨by rfl, ?hyr1x4q17⟩) (by assumption) ?restr1x4q17
      case hyr1x4q17 => intro wq hSw; (go_simp); (try with_reducible rfl)
      try simp only [Act.put, List.setIfInBounds_toArray, List.set_cons_zero, List.set_cons_succ]
      refine wpAnyH_take (i := 5) (oi := ⟨some 26, .move (.tmp 2), 36, "law.go:28", #[⟨3, .guard⟩], some (3, true)⟩) (v := ?_) rfl (by kernel_rfl) (by kernel_rfl) (by kernel_rfl) (fun _ _ _ h => h) (Or.inl ⟨by rfl, ?hyr1x5q20⟩) (by assumption) ?restr1x5q20
      case hyr1x5q20 => intro wq hSw; (go_simp); (try with_reducible rfl)
      try simp only [Act.put, List.setIfInBounds_toArray, List.set_cons_zero, List.set_cons_succ]
      refine wpAnyH_ready (rs := [6]) (by kernel_rfl) (by simp) ?_
      refine AllReadyH.cons (o := ⟨some 27, .call { callee := .value (.func 37), args := #[.tmp 25, .tmp 26], argTypes := #[36, 36] }, 4, "law.go:28", #[⟨4, .data⟩, ⟨5, .data⟩, ⟨3, .chain⟩, ⟨3, .guard⟩], some (3, true)⟩) rfl (fun K hK => ?_) AllReadyH.nil
      go_simp
      (with_reducible refine (same14_r _ _ _ thrP _ _ _ (PP.out.nx hHeld) (PQ.out.nx hHeld) (by omega) (fun p hp => by have := thr_small p hp; omega)).mono ?_)
      rintro e wz ⟨rfl, kk⟩
      replace hHeld := hHeld.nx kk
      clear kk
      refine hK.out _ _ (hHeld) (fun hHeld => ?_)
      clear hK K
      try simp only [Act.put, List.setIfInBounds_toArray, List.set_cons_zero, List.set_cons_succ]
      refine wpAnyH_take (i := 7) (oi := ⟨some 28, .pick (.tmp 24) (.tmp 27) (.const (.bool false)), 4, "law.go:28", #[⟨3, .data⟩, ⟨6, .data⟩], none⟩) (v := ?_) rfl (by kernel_rfl) (by kernel_rfl) (by kernel_rfl) (fun _ _ _ h => h) (Or.inl ⟨by rfl, ?hyr1x7q33⟩) (by assumption) ?restr1x7q33
      case hyr1x7q33 => intro wq hSw; (go_simp); (try with_reducible rfl)
      try simp only [Act.put, List.setIfInBounds_toArray, List.set_cons_zero, List.set_cons_succ]
      refine wpAnyH_take (i := 8) (oi := ⟨some 29, .move (.tmp 28), 4, "law.go:28", #[⟨7, .data⟩, ⟨6, .chain⟩], none⟩) (v := ?_) rfl (by kernel_rfl) (by kernel_rfl) (by kernel_rfl) (fun _ _ _ h => h) (Or.inl ⟨by rfl, ?hyr1x8q36⟩) (by assumption) ?restr1x8q36
      case hyr1x8q36 => intro wq hSw; (go_simp); (try with_reducible rfl)
      try simp only [Act.put, List.setIfInBounds_toArray, List.set_cons_zero, List.set_cons_succ]
      refine wpAnyH_take (i := 10) (oi := ⟨some 31, .move (.tmp 1), 36, "law.go:28", #[⟨8, .guard⟩], some (8, true)⟩) (v := ?_) rfl (by kernel_rfl) (by kernel_rfl) (by kernel_rfl) (fun _ _ _ h => h) (Or.inl ⟨by rfl, ?hyr1x10q39⟩) (by assumption) ?restr1x10q39
      case hyr1x10q39 => intro wq hSw; (go_simp); (try with_reducible rfl)
      try simp only [Act.put, List.setIfInBounds_toArray, List.set_cons_zero, List.set_cons_succ]
      refine wpAnyH_ready (rs := [9]) (by kernel_rfl) (by simp) ?_
      refine AllReadyH.cons (o := ⟨some 30, .call { callee := .value (.func 81), args := #[], argTypes := #[] }, 23, "law.go:28", #[⟨8, .chain⟩, ⟨8, .guard⟩], some (8, true)⟩) rfl (fun K hK => ?_) AllReadyH.nil
      go_simp
      (with_reducible refine (three_x _).mono ?_)
      rintro e wz ⟨a5, rfl, s5, kk⟩
      replace hHeld := hHeld.nx kk
      clear kk
      refine hK.out _ _ (hHeld) (fun hHeld => ?_)
      clear hK K
      try simp only [Act.put, List.setIfInBounds_toArray, List.set_cons_zero, List.set_cons_succ]
      refine wpAnyH_ready (rs := [11]) (by kernel_rfl) (by simp) ?_
      refine AllReadyH.cons (o := ⟨some 32, .call { callee := .value (.func 43), args := #[.tmp 30, .tmp 31, .const (.int .i64 1)], argTypes := #[23, 36, 3] }, 4, "law.go:28", #[⟨9, .data⟩, ⟨10, .data⟩, ⟨9, .chain⟩, ⟨8, .guard⟩], some (8, true)⟩) rfl (fun K hK => ?_) AllReadyH.nil
      go_simp
      (with_reducible refine (bexact_p _ _ _ threeN _ _ _ thrP 1 _ s5 (by omega) (by omega) (by unfold maxLen; omega) threeW (T.out.nx hHeld) (PP.out.nx hHeld) (by omega) (small10 thr_small)).mono ?_)
      rintro e wz ⟨rfl, kk⟩
      rw [thr_exact]
      replace hHeld := hHeld.nx kk
      clear kk s5
      refine hK.out _ _ (hHeld) (fun hHeld => ?_)
      clear hK K
      try simp only [Act.put, List.setIfInBounds_toArray, List.set_cons_zero, List.set_cons_succ]
      refine wpAnyH_take (i := 12) (oi := ⟨some 33, .pick (.tmp 29) (.tmp 32) (.const (.bool false)), 4, "law.go:28", #[⟨8, .data⟩, ⟨11, .data⟩], none⟩) (v := ?_) rfl (by kernel_rfl) (by kernel_rfl) (by kernel_rfl) (fun _ _ _ h => h) (Or.inl ⟨by rfl, ?hyr1x12q63⟩) (by assumption) ?restr1x12q63
      case hyr1x12q63 => intro wq hSw; (go_simp); (try with_reducible rfl)
      try simp only [Act.put, List.setIfInBounds_toArray, List.set_cons_zero, List.set_cons_succ]
      refine wpAnyH_take (i := 13) (oi := ⟨some 34, .move (.tmp 33), 4, "law.go:28", #[⟨12, .data⟩, ⟨11, .chain⟩], none⟩) (v := ?_) rfl (by kernel_rfl) (by kernel_rfl) (by kernel_rfl) (fun _ _ _ h => h) (Or.inl ⟨by rfl, ?hyr1x13q66⟩) (by assumption) ?restr1x13q66
      case hyr1x13q66 => intro wq hSw; (go_simp); (try with_reducible rfl)
      try simp only [Act.put, List.setIfInBounds_toArray, List.set_cons_zero, List.set_cons_succ]
      refine wpAnyH_take (i := 15) (oi := ⟨some 36, .move (.tmp 3), 36, "law.go:28", #[⟨13, .guard⟩], some (13, true)⟩) (v := ?_) rfl (by kernel_rfl) (by kernel_rfl) (by kernel_rfl) (fun _ _ _ h => h) (Or.inl ⟨by rfl, ?hyr1x15q69⟩) (by assumption) ?restr1x15q69
      case hyr1x15q69 => intro wq hSw; (go_simp); (try with_reducible rfl)
      try simp only [Act.put, List.setIfInBounds_toArray, List.set_cons_zero, List.set_cons_succ]
      refine wpAnyH_ready (rs := [14]) (by kernel_rfl) (by simp) ?_
      refine AllReadyH.cons (o := ⟨some 35, .call { callee := .value (.func 81), args := #[], argTypes := #[] }, 23, "law.go:28", #[⟨13, .chain⟩, ⟨13, .guard⟩], some (13, true)⟩) rfl (fun K hK => ?_) AllReadyH.nil
      go_simp
      (with_reducible refine (three_x _).mono ?_)
      rintro e wz ⟨a5, rfl, s5, kk⟩
      replace hHeld := hHeld.nx kk
      clear kk
      refine hK.out _ _ (hHeld) (fun hHeld => ?_)
      clear hK K
      try simp only [Act.put, List.setIfInBounds_toArray, List.set_cons_zero, List.set_cons_succ]
      refine wpAnyH_ready (rs := [16]) (by kernel_rfl) (by simp) ?_
      refine AllReadyH.cons (o := ⟨some 37, .call { callee := .value (.func 43), args := #[.tmp 35, .tmp 36, .const (.int .i64 1)], argTypes := #[23, 36, 3] }, 4, "law.go:28", #[⟨14, .data⟩, ⟨15, .data⟩, ⟨14, .chain⟩, ⟨13, .guard⟩], some (13, true)⟩) rfl (fun K hK => ?_) AllReadyH.nil
      go_simp
      (with_reducible refine (bexact_p _ _ _ threeN _ _ _ (lowI 3) 1 _ s5 (by omega) (by omega) (by unfold maxLen; omega) threeW (T.out.nx hHeld) (PZ.out.nx hHeld) (by omega) (small10 (low_small 3 (by omega)))).mono ?_)
      rintro e wz ⟨rfl, kk⟩
      rw [low_exact]
      replace hHeld := hHeld.nx kk
      clear kk s5
      refine hK.out _ _ (hHeld) (fun hHeld => ?_)
      clear hK K
      try simp only [Act.put, List.setIfInBounds_toArray, List.set_cons_zero, List.set_cons_succ]
      refine wpAnyH_take (i := 17) (oi := ⟨some 38, .pick (.tmp 34) (.tmp 37) (.const (.bool false)), 4, "law.go:28", #[⟨13, .data⟩, ⟨16, .data⟩], none⟩) (v := ?_) rfl (by kernel_rfl) (by kernel_rfl) (by kernel_rfl) (fun _ _ _ h => h) (Or.inl ⟨by rfl, ?hyr1x17q93⟩) (by assumption) ?restr1x17q93
      case hyr1x17q93 => intro wq hSw; (go_simp); (try with_reducible rfl)
      try simp only [Act.put, List.setIfInBounds_toArray, List.set_cons_zero, List.set_cons_succ]
      refine wpAnyH_take (i := 18) (oi := ⟨some 39, .move (.tmp 38), 4, "law.go:28", #[⟨17, .data⟩, ⟨16, .chain⟩], none⟩) (v := ?_) rfl (by kernel_rfl) (by kernel_rfl) (by kernel_rfl) (fun _ _ _ h => h) (Or.inl ⟨by rfl, ?hyr1x18q96⟩) (by assumption) ?restr1x18q96
      case hyr1x18q96 => intro wq hSw; (go_simp); (try with_reducible rfl)
      try simp only [Act.put, List.setIfInBounds_toArray, List.set_cons_zero, List.set_cons_succ]
      refine wpAnyH_take (i := 19) (oi := ⟨some 40, .move (.tmp 3), 36, "law.go:28", #[⟨18, .guard⟩], some (18, true)⟩) (v := ?_) rfl (by kernel_rfl) (by kernel_rfl) (by kernel_rfl) (fun _ _ _ h => h) (Or.inl ⟨by rfl, ?hyr1x19q99⟩) (by assumption) ?restr1x19q99
      case hyr1x19q99 => intro wq hSw; (go_simp); (try with_reducible rfl)
      try simp only [Act.put, List.setIfInBounds_toArray, List.set_cons_zero, List.set_cons_succ]
      refine wpAnyH_take (i := 20) (oi := ⟨some 41, .call { callee := .builtin .len, args := #[.tmp 40], argTypes := #[36] }, 3, "law.go:28", #[⟨19, .data⟩, ⟨18, .guard⟩], some (18, true)⟩) (v := ?_) rfl (by kernel_rfl) (by kernel_rfl) (by kernel_rfl) (fun _ _ _ h => h) (Or.inl ⟨by rfl, ?hyr1x20q102⟩) (by assumption) ?restr1x20q102
      case hyr1x20q102 => intro wq hSw; (go_simp); (try with_reducible rfl)
      try simp only [Act.put, List.setIfInBounds_toArray, List.set_cons_zero, List.set_cons_succ]
      refine wpAnyH_take (i := 21) (oi := ⟨some 42, .binOp .eql 3 (.tmp 41) (.const (.int .i64 3)) 3, 4, "law.go:28", #[⟨20, .data⟩, ⟨18, .guard⟩], some (18, true)⟩) (v := ?_) rfl (by kernel_rfl) (by kernel_rfl) (by kernel_rfl) (fun _ _ _ h => h) (Or.inl ⟨by rfl, ?hyr1x21q105⟩) (by assumption) ?restr1x21q105
      case hyr1x21q105 => intro wq hSw; (go_simp); (try with_reducible rfl)
      try simp only [Act.put, List.setIfInBounds_toArray, List.set_cons_zero, List.set_cons_succ]
      refine wpAnyH_take (i := 22) (oi := ⟨some 43, .pick (.tmp 39) (.tmp 42) (.const (.bool false)), 4, "law.go:28", #[⟨18, .data⟩, ⟨21, .data⟩], none⟩) (v := ?_) rfl (by kernel_rfl) (by kernel_rfl) (by kernel_rfl) (fun _ _ _ h => h) (Or.inl ⟨by rfl, ?hyr1x22q108⟩) (by assumption) ?restr1x22q108
      case hyr1x22q108 => intro wq hSw; (go_simp); (try with_reducible rfl)
      try simp only [Act.put, List.setIfInBounds_toArray, List.set_cons_zero, List.set_cons_succ]
      refine wpAnyH_take (i := 23) (oi := ⟨some 44, .move (.tmp 43), 4, "law.go:28", #[⟨22, .data⟩, ⟨18, .chain⟩], none⟩) (v := ?_) rfl (by kernel_rfl) (by kernel_rfl) (by kernel_rfl) (fun _ _ _ h => h) (Or.inl ⟨by rfl, ?hyr1x23q111⟩) (by assumption) ?restr1x23q111
      case hyr1x23q111 => intro wq hSw; (go_simp); (try with_reducible rfl)
      try simp only [Act.put, List.setIfInBounds_toArray, List.set_cons_zero, List.set_cons_succ]
      refine wpAnyH_take (i := 25) (oi := ⟨some 46, .move (.tmp 3), 36, "law.go:28", #[⟨23, .guard⟩], some (23, true)⟩) (v := ?_) rfl (by kernel_rfl) (by kernel_rfl) (by kernel_rfl) (fun _ _ _ h => h) (Or.inl ⟨by rfl, ?hyr1x25q114⟩) (by assumption) ?restr1x25q114
      case hyr1x25q114 => intro wq hSw; (go_simp); (try with_reducible rfl)
      try simp only [Act.put, List.setIfInBounds_toArray, List.set_cons_zero, List.set_cons_succ]
      refine wpAnyH_take (i := 26) (oi := ⟨some 47, .indexAddr 36 (.tmp 46) (.const (.int .i64 0)), 0, "law.go:28", #[⟨25, .data⟩, ⟨23, .guard⟩], some (23, true)⟩) (v := ?_) rfl (by kernel_rfl) (by kernel_rfl) (by kernel_rfl) (fun _ _ _ h => h) (Or.inl ⟨by rfl, ?hyr1x26q117⟩) (by assumption) ?restr1x26q117
      case hyr1x26q117 => intro wq hSw; (go_simp); (try with_reducible rfl)
      try simp only [Act.put, List.setIfInBounds_toArray, List.set_cons_zero, List.set_cons_succ]
      refine wpAnyH_take (i := 27) (oi := ⟨some 48, .load 41 (.tmp 47), 41, "law.go:28", #[⟨26, .data⟩, ⟨23, .guard⟩], some (23, true)⟩) (v := ?_) rfl (by kernel_rfl) (by kernel_rfl) (by kernel_rfl) (fun _ _ _ h => h) (Or.inl ⟨by rfl, ?hyr1x27q120⟩) (by assumption) ?restr1x27q120
      case hyr1x27q120 => intro wq hSw; (have c0 := EY0.out wq hSw; have c1 := EY1.out wq hSw; have c2 := EY2.out wq hSw; have c3 := EY3.out wq hSw; have c4 := EY4.out wq hSw; go_simp); (try with_reducible rfl)
      try simp only [Act.put, List.setIfInBounds_toArray, List.set_cons_zero, List.set_cons_succ]
      refine wpAnyH_take (i := 29) (oi := ⟨some 50, .build 92 #[(1, .const (.int .i64 3))], 92, "law.go:28", #[⟨23, .guard⟩], some (23, true)⟩) (v := ?_) rfl (by kernel_rfl) (by kernel_rfl) (by kernel_rfl) (fun _ _ _ h => h) (Or.inl ⟨by rfl, ?hyr1x29q123⟩) (by assumption) ?restr1x29q123
      case hyr1x29q123 => intro wq hSw; (go_simp); (try with_reducible rfl)
      try simp only [Act.put, List.setIfInBounds_toArray, List.set_cons_zero, List.set_cons_succ]
      refine wpAnyH_ready (rs := [24]) (by kernel_rfl) (by simp) ?_
      refine AllReadyH.cons (o := ⟨some 45, .call { callee := .value (.func 81), args := #[], argTypes := #[] }, 23, "law.go:28", #[⟨23, .chain⟩, ⟨23, .guard⟩], some (23, true)⟩) rfl (fun K hK => ?_) AllReadyH.nil
      go_simp
      (with_reducible refine (three_x _).mono ?_)
      rintro e wz ⟨a5, rfl, s5, kk⟩
      replace hHeld := hHeld.nx kk
      clear kk
      refine hK.out _ _ (hHeld) (fun hHeld => ?_)
      clear hK K
      try simp only [Act.put, List.setIfInBounds_toArray, List.set_cons_zero, List.set_cons_succ]
      refine wpAnyH_ready (rs := [28]) (by kernel_rfl) (by simp) ?_
      refine AllReadyH.cons (o := ⟨some 49, .call { callee := .value (.func 79), args := #[.tmp 45, .tmp 48, .const (.int .i64 1)], argTypes := #[23, 41, 3] }, 92, "law.go:28", #[⟨24, .data⟩, ⟨27, .data⟩, ⟨24, .chain⟩, ⟨23, .guard⟩], some (23, true)⟩) rfl (fun K hK => ?_) AllReadyH.nil
      go_simp
      (with_reducible refine (link_p _ _ _ threeN y _ _ _ _ _ _ 1 _ s5 (by omega) (by omega) (by unfold maxLen; omega) threeW (S4.out.nx hHeld) (by omega)).mono ?_)
      rintro e wz ⟨rfl, kk⟩
      rw [HLK.out]
      replace hHeld := hHeld.nx kk
      clear kk s5
      refine hK.out _ _ (hHeld) (fun hHeld => ?_)
      clear hK K
      try simp only [Act.put, List.setIfInBounds_toArray, List.set_cons_zero, List.set_cons_succ]
      refine wpAnyH_take (i := 30) (oi := ⟨some 51, .binOp .eql 92 (.tmp 49) (.tmp 50) 92, 4, "law.go:28", #[⟨28, .data⟩, ⟨29, .data⟩, ⟨23, .guard⟩], some (23, true)⟩) (v := ?_) rfl (by kernel_rfl) (by kernel_rfl) (by kernel_rfl) (fun _ _ _ h => h) (Or.inl ⟨by rfl, ?hyr1x30q147⟩) (by assumption) ?restr1x30q147
      case hyr1x30q147 => intro wq hSw; (go_simp); (try with_reducible rfl)
      try simp only [Act.put, List.setIfInBounds_toArray, List.set_cons_zero, List.set_cons_succ]
      refine wpAnyH_take (i := 31) (oi := ⟨some 52, .pick (.tmp 44) (.tmp 51) (.const (.bool false)), 4, "law.go:28", #[⟨23, .data⟩, ⟨30, .data⟩], none⟩) (v := ?_) rfl (by kernel_rfl) (by kernel_rfl) (by kernel_rfl) (fun _ _ _ h => h) (Or.inl ⟨by rfl, ?hyr1x31q150⟩) (by assumption) ?restr1x31q150
      case hyr1x31q150 => intro wq hSw; (go_simp); (try with_reducible rfl)
      try simp only [Act.put, List.setIfInBounds_toArray, List.set_cons_zero, List.set_cons_succ]
      refine wpAnyH_take (i := 32) (oi := ⟨some 53, .move (.tmp 52), 4, "law.go:28", #[⟨31, .data⟩, ⟨28, .chain⟩], none⟩) (v := ?_) rfl (by kernel_rfl) (by kernel_rfl) (by kernel_rfl) (fun _ _ _ h => h) (Or.inl ⟨by rfl, ?hyr1x32q153⟩) (by assumption) ?restr1x32q153
      case hyr1x32q153 => intro wq hSw; (go_simp); (try with_reducible rfl)
      try simp only [Act.put, List.setIfInBounds_toArray, List.set_cons_zero, List.set_cons_succ]
      refine wpAnyH_ready (rs := [33]) (by kernel_rfl) (by simp) ?_
      refine AllReadyH.cons (o := ⟨some 54, .call { callee := .value (.func 82), args := #[.const (.int .i64 3), .const (.int .i64 1)], argTypes := #[3, 3] }, 3, "law.go:28", #[⟨32, .chain⟩, ⟨32, .guard⟩], some (32, true)⟩) rfl (fun K hK => ?_) AllReadyH.nil
      go_simp
      (with_reducible refine (rounds17_p 3 1 _).mono ?_)
      rintro e wz ⟨rfl, rfl⟩
      rw [rnds_31]
      refine hK.out _ _ (hHeld) (fun hHeld => ?_)
      clear hK K
      try simp only [Act.put, List.setIfInBounds_toArray, List.set_cons_zero, List.set_cons_succ]
      refine wpAnyH_take (i := 34) (oi := ⟨some 55, .binOp .eql 3 (.tmp 54) (.const (.int .i64 3)) 3, 4, "law.go:28", #[⟨33, .data⟩, ⟨32, .guard⟩], some (32, true)⟩) (v := ?_) rfl (by kernel_rfl) (by kernel_rfl) (by kernel_rfl) (fun _ _ _ h => h) (Or.inl ⟨by rfl, ?hyr1x34q165⟩) (by assumption) ?restr1x34q165
      case hyr1x34q165 => intro wq hSw; (go_simp); (try with_reducible rfl)
      try simp only [Act.put, List.setIfInBounds_toArray, List.set_cons_zero, List.set_cons_succ]
      refine wpAnyH_take (i := 35) (oi := ⟨some 56, .pick (.tmp 53) (.tmp 55) (.const (.bool false)), 4, "law.go:28", #[⟨32, .data⟩, ⟨34, .data⟩], none⟩) (v := ?_) rfl (by kernel_rfl) (by kernel_rfl) (by kernel_rfl) (fun _ _ _ h => h) (Or.inl ⟨by rfl, ?hyr1x35q168⟩) (by assumption) ?restr1x35q168
      case hyr1x35q168 => intro wq hSw; (go_simp); (try with_reducible rfl)
      try simp only [Act.put, List.setIfInBounds_toArray, List.set_cons_zero, List.set_cons_succ]
      refine wpAnyH_take (i := 36) (oi := ⟨some 0, .assign (.tmp 56), 4, "law.go:28", #[⟨35, .data⟩, ⟨33, .chain⟩, ⟨0, .phase⟩, ⟨1, .phase⟩, ⟨2, .phase⟩, ⟨3, .phase⟩, ⟨4, .phase⟩, ⟨5, .phase⟩, ⟨6, .phase⟩, ⟨7, .phase⟩, ⟨8, .phase⟩, ⟨9, .phase⟩, ⟨10, .phase⟩, ⟨11, .phase⟩, ⟨12, .phase⟩, ⟨13, .phase⟩, ⟨14, .phase⟩, ⟨15, .phase⟩, ⟨16, .phase⟩, ⟨17, .phase⟩, ⟨18, .phase⟩, ⟨19, .phase⟩, ⟨20, .phase⟩, ⟨21, .phase⟩, ⟨22, .phase⟩, ⟨23, .phase⟩, ⟨24, .phase⟩, ⟨25, .phase⟩, ⟨26, .phase⟩, ⟨27, .phase⟩, ⟨28, .phase⟩, ⟨29, .phase⟩, ⟨30, .phase⟩, ⟨31, .phase⟩, ⟨32, .phase⟩, ⟨33, .phase⟩, ⟨34, .phase⟩, ⟨35, .phase⟩], none⟩) (v := ?_) rfl (by kernel_rfl) (by kernel_rfl) (by kernel_rfl) (fun _ _ _ h => h) (Or.inl ⟨by rfl, ?hyr1x36q171⟩) (by assumption) ?restr1x36q171
      case hyr1x36q171 => intro wq hSw; (go_simp); (try with_reducible rfl)
      try simp only [Act.put, List.setIfInBounds_toArray, List.set_cons_zero, List.set_cons_succ]
      refine wpAnyH_done (by kernel_rfl) ?_ _
      have KE := Lib.hid (K.out.nx hHeld)
      clear hHeld hDrew
      go_wp2_with fail
      go_ret
      exact ⟨rfl, KE.out⟩
end Go.Proofs.YtbnbjiddffihoaaDoor

/- What the law walks of chapter 17 share. -/
namespace Go.Proofs.YtbnbjiddffihoaaDoor
open Go.RowKit

theorem peers_map {N : List Nd} (h0 : checkN N = 0) (w : Int) {h : Nat} (hh : h ≤ 16) : peersN N w (h : Int) = (sortN N).map (peerC N w (h : Int)) := by
  unfold peersN
  rw [if_pos ⟨h0, by unfold lvlN; simp; omega⟩]
theorem peers_at {N : List Nd} (h0 : checkN N = 0) (w : Int) {h : Nat} (hh : h ≤ 16) {x : Nd} (hx : x ∈ N) : peerN (peersN N w (h : Int)) x.id = peerC N w (h : Int) x := by
  rw [peers_map h0 w hh]
  exact peer_map (sort_ids h0) (fun x => by rw [peerC_eq h0]) ((sortN_mem N x).2 hx)
theorem peers_fullN {N : List Nd} (h0 : checkN N = 0) (w : Int) {h : Nat} (hh : h ≤ 16) : Full N (peersN N w (h : Int)) h := by
  refine ⟨⟨h0, fun x hx => ?_⟩, fun x hx => ?_⟩
  · rw [peers_at h0 w hh hx, peerC_eq h0]; rfl
  · rw [peers_at h0 w hh hx, peerC_eq h0]; simp
theorem peers_self {N : List Nd} (h0 : checkN N = 0) (w : Int) {h : Nat} (hh : h ≤ 16) : peersN N w (h : Int) = (sortN N).map fun x => peerN (peersN N w (h : Int)) x.id := by
  conv => lhs; rw [peers_map h0 w hh]
  exact List.map_congr_left fun x hx => (peers_at h0 w hh ((sortN_mem N x).1 hx)).symm
theorem peers_len {N : List Nd} (h0 : checkN N = 0) (w : Int) {h : Nat} (hh : h ≤ 16) : (peersN N w (h : Int)).length = N.length := by
  rw [peers_map h0 w hh, List.length_map, sortN_length]
theorem peers_fewR {N : List Nd} (h0 : checkN N = 0) {w h : Nat} (hw : w ≤ 10) (hh : h ≤ 16) : ∀ p ∈ peersN N (w : Int) (h : Int), p.known.length ≤ 1000 ∧ p.near.length ≤ 1000 := by
  intro p hp
  rw [peers_map h0 _ hh] at hp
  obtain ⟨x, _, rfl⟩ := List.mem_map.1 hp
  rw [peerC_eq h0]
  have h1 := contacts_len h0 x.id w (h := h)
  have h2 : 2 * w * (h + 1) ≤ 20 * 17 := Nat.mul_le_mul (by omega) (by omega)
  refine ⟨by show (contactsN N x.id w h).length ≤ 1000; omega, ?_⟩
  show ((List.range ((h : Int)).toNat).map (nearG N x)).length ≤ 1000
  simp
  omega
end Go.Proofs.YtbnbjiddffihoaaDoor

/- The walk over BridgeFixed. -/
namespace Go.Proofs.YtbnbjiddffihoaaDoor
open Go.RowKit

set_option maxRecDepth 100000 in
set_option maxHeartbeats 16000000 in
theorem bridgefixed_walk (a1 : Option Addr) (n1 c1 : Nat) (l1 : List Int) (w : World) (h1 : Sl 1 encI w a1 n1 l1) (hc1 : n1 ≤ c1) (hm1 : c1 ≤ maxLen) (hT : TabG w) (hL : LetG w) :
    Calls Tryd.prog 10 #[.slice a1 n1 c1] w fun e w' => e = .returned (.bool true) ∧ Ex w w' := by
  go_enter Tryd.func10, Tryd.ntmps10
  go_wp2_with fail
  refine (new_t _ _ _ l1 _ h1 hc1 hm1).mono ?_
  rintro e w1 ⟨rfl, T, kk, z1⟩
  obtain ⟨b, hb⟩ : ∃ b, b = w.heap.size := ⟨_, rfl⟩
  rw [← hb] at T ⊢
  have hgt : ¬ 1 = b := by have := hT.lt; omega
  have hgl : ¬ 0 = b := by have := hL.lt; omega
  have T1 : Hid (TabG w1) := Lib.hid (hT.nx kk)
  have L1 : Hid (LetG w1) := Lib.hid (hL.nx kk)
  have QL : Hid (Exl b w w1) := Lib.hid ⟨kk, by omega⟩
  clear h1 hT hL kk hb z1
  have hbo := T.lt
  go_wp2_with fail
  refine (some_n 8 _ T L1.out hgl (by omega) (by omega)).mono ?_
  clear T
  rintro e x1 ⟨v1, L, rfl, R, hL1⟩
  have kw := R.k
  have T := R.tape
  obtain ⟨aX, cX, rfl, SX, hcX, hmX, _⟩ := R.own.slf (fun _ => rfl)
  have SX := SX.slb hbo
  have RL := R.len
  have H0 := Lib.hid R.ok
  have HW : Hid (∀ x ∈ L, x.word < 4294967296) := Lib.hid (fun x hx => by have := R.word x hx; omega)
  clear R
  go_wp2_with fail
  refine (next_t 4 _ T (by omega) (by omega)).mono ?_
  clear T
  rintro e x2 ⟨hh, rfl, hh0, hh1, T, kk⟩
  replace kw := kw.nxb kk
  replace SX := SX.nxb kk
  clear kk
  obtain ⟨ht, rfl⟩ : ∃ t : Nat, hh = t := ⟨hh.toNat, by omega⟩
  go_wp2_with fail
  refine (next_t 4 _ T (by omega) (by omega)).mono ?_
  clear T
  rintro e x3 ⟨ww, rfl, hw0, hw1, T, kk⟩
  replace kw := kw.nxb kk
  replace SX := (SX.nxb kk).sl
  clear kk T
  obtain ⟨wd, rfl⟩ : ∃ t : Nat, ww = t := ⟨ww.toNat, by omega⟩
  have TG := Lib.hid (T1.out.nxb hgt kw)
  have QX := Lib.hid (QL.out.nxb kw).1
  have HS := Lib.hid SX
  have hh16 : ht ≤ 16 := by omega
  have FX := Lib.hid (fixed_law H0.out HW.out hh16 (peers_fullN H0.out (wd : Int) hh16) (peers_self H0.out (wd : Int) hh16))
  have RT := Lib.hid (full_right H0.out HW.out hh16 (peers_fullN H0.out (wd : Int) hh16))
  have LK := Lib.hid (links_build H0.out hh16 RT.out)
  have XT := Lib.hid (exact_yes H0.out hh16 RT.out)
  have PL0 := Lib.hid (peers_len H0.out (wd : Int) hh16)
  have PF := Lib.hid (peers_fewR H0.out (w := wd) (by omega) hh16)
  have BO := Lib.hid (build_ok0 H0.out hh16).1
  have BR := Lib.hid (build_ok0 H0.out hh16).2
  clear SX kw RT
  go_wp2_with fail
  (with_reducible refine (peers_p _ _ _ L wd ht _ HS.out (by omega) hcX hmX HW.out TG.out).mono ?_)
  rintro e x4 ⟨v, qs, rfl, own, kk⟩
  generalize peersN L (wd : Int) (ht : Int) = P at own FX LK XT PL0 PF
  obtain ⟨aP, cP, rfl, PP, _, _, _, _⟩ := own.pl
  rw [PL0.out] at PP ⊢
  replace HS := Lib.hid (HS.out.nx kk)
  replace TG := Lib.hid (TG.out.nx kk)
  replace QX := Lib.hid (QX.out.nx kk)
  have PS : Hid (SmallP P) := Lib.hid (fun p hp => by have := PF.out p hp; omega)
  clear kk own
  go_wp2_with fail
  (with_reducible refine (build_p _ _ _ L ht _ HS.out (by omega) hcX hmX HW.out TG.out).mono ?_)
  rintro e x5 ⟨v, qs, rfl, own, kk⟩
  obtain ⟨aB, cB, rfl, LB⟩ := OwnLk.nl' own
  rw [BO.out]
  replace HS := Lib.hid (HS.out.nx kk)
  replace TG := Lib.hid (TG.out.nx kk)
  replace QX := Lib.hid (QX.out.nx kk)
  replace PP := PP.nx kk
  replace LB := Lib.hid LB
  clear kk own
  go_wp2_with fail
  (with_reducible refine (bround_p _ _ _ L _ _ _ P ht _ HS.out (by omega) hcX hmX HW.out PP (by omega) PS.out).mono ?_)
  rintro e x6 ⟨v, qs, rfl, own, kk⟩
  rw [FX.out] at own
  obtain ⟨aQ, cQ, rfl, PQ, _, _, _, _⟩ := own.pl
  rw [PL0.out] at PQ ⊢
  replace HS := Lib.hid (HS.out.nx kk)
  replace TG := Lib.hid (TG.out.nx kk)
  replace QX := Lib.hid (QX.out.nx kk)
  replace LB := Lib.hid (LB.out.nx kk)
  replace PP := PP.nx kk
  clear kk own
  go_wp2_with fail
  (with_reducible refine (same14_r _ _ _ P _ _ _ PQ PP (by omega) (fun p hp => by have := PF.out p hp; omega)).mono ?_)
  rintro e x7 ⟨rfl, kk⟩
  replace HS := Lib.hid (HS.out.nx kk)
  replace TG := Lib.hid (TG.out.nx kk)
  replace QX := Lib.hid (QX.out.nx kk)
  replace LB := Lib.hid (LB.out.nx kk)
  replace PP := PP.nx kk
  clear kk PQ
  go_wp2_with fail
  (with_reducible refine (links_p _ _ _ L _ _ _ P ht _ HS.out (by omega) hcX hmX HW.out PP (by omega) PS.out).mono ?_)
  rintro e x8 ⟨v, qs, rfl, own, kk⟩
  rw [LK.out] at own
  obtain ⟨aL, cL, rfl, LL⟩ := OwnLk.nl' own
  replace HS := Lib.hid (HS.out.nx kk)
  replace TG := Lib.hid (TG.out.nx kk)
  replace QX := Lib.hid (QX.out.nx kk)
  replace LB := Lib.hid (LB.out.nx kk)
  replace PP := PP.nx kk
  have HBL := Lib.hid BR.out.1
  clear kk own
  go_wp2_with fail
  (with_reducible refine (samelk_r _ _ _ _ _ _ _ _ _ LL LB.out (by have := HBL.out; omega) (fun c hc => by have := BR.out.2 c hc; omega)).mono ?_)
  rintro e x9 ⟨rfl, kk⟩
  rw [decide_eq_true (rfl : (buildN L (ht : Int)).1 = (buildN L (ht : Int)).1)]
  replace HS := Lib.hid (HS.out.nx kk)
  replace TG := Lib.hid (TG.out.nx kk)
  replace QX := Lib.hid (QX.out.nx kk)
  replace PP := PP.nx kk
  clear kk LL LB
  go_wp2_with fail
  (with_reducible refine (bexact_p _ _ _ L _ _ _ P ht _ HS.out (by omega) hcX hmX HW.out TG.out PP (by omega) PS.out).mono ?_)
  rintro e x10 ⟨rfl, kk⟩
  rw [XT.out]
  replace TG := Lib.hid (TG.out.nx kk)
  replace QX := Lib.hid (QX.out.nx kk)
  clear kk PP
  go_wp2_with fail
  refine (sane17_x _ TG.out).mono ?_
  rintro e x11 ⟨rfl, kk⟩
  replace QX := Lib.hid (QX.out.nx kk)
  clear kk
  go_wp2_with fail
  go_ret
  exact ⟨rfl, QX.out⟩
end Go.Proofs.YtbnbjiddffihoaaDoor

/- What the laid tables give the walks. -/
namespace Go.Proofs.YtbnbjiddffihoaaDoor
open Go.RowKit

theorem Tryd.gTab : Tryd.prog.globalNamed "math/bits.deBruijn32tab" = some 1 := by kernel_rfl
theorem Tryd.tTab : (Tryd.prog.globals[1]?).map (·.type) = some 171 := by kernel_rfl
theorem Tryd.cells32 : Tryd.prog.cellsOf 171 = 32 := by kernel_rfl
theorem Tryd.cellsU8 : Tryd.prog.cellsOf 5 = 1 := by kernel_rfl
theorem laid_tab {H : Type} : (Rows.laid_math_bits_deBruijn32tab : DataW H) = Lib.tabData .u8 (Lib.deBruijn32tab.map fun (n : Nat) => (n : Int)) := rfl

theorem tabG_of {rest : List (String × DataW Unit)} {W : World} (h : laidMetH Tryd.prog (("math/bits.deBruijn32tab", Rows.laid_math_bits_deBruijn32tab) :: rest) W)
    (hp : ((("math/bits.deBruijn32tab", Rows.laid_math_bits_deBruijn32tab) :: rest).all fun x => x.2.handleName?.isNone) = true) : TabG W := by
  rw [MakeChecks.laidMetH_plain _ _ _ hp, laid_tab] at h
  have ht := Lib.tabIs_of_head Tryd.gTab Tryd.tTab Tryd.underlying171 Tryd.underlying5 Tryd.cellsU8 Tryd.cells32 h
  intro j hj
  have := ht.cell Tryd.gTab j (by simp [Lib.deBruijn32tab]; omega)
  rw [this]
  congr 2
  simp [List.getD, List.getElem?_map]
  cases h : Lib.deBruijn32tab[j]? <;> simp
end Go.Proofs.YtbnbjiddffihoaaDoor

/- What the laid letters give the walks. -/
namespace Go.Proofs.YtbnbjiddffihoaaDoor
open Go.RowKit

theorem Tryd.gLet : Tryd.prog.globalNamed "skipgraph/skipgraphworld.letters" = some 0 := by kernel_rfl
theorem Tryd.tLet : (Tryd.prog.globals[0]?).map (·.type) = some 113 := by kernel_rfl
theorem Tryd.cells6 : Tryd.prog.cellsOf 113 = 6 := by kernel_rfl
theorem Tryd.cellsStr : Tryd.prog.cellsOf 9 = 1 := by kernel_rfl
def letL : List (List UInt8) := [[97], [98], [99], [0], [255], [109]]

/-- AN ARRAY OF STRINGS THAT READS AS A LIST OF STRINGS HOLDS THEM, CELL FOR CELL. -/
theorem cells_of_strs {H : Type} {enc : TypeId × Value → H} {P : Program} {w : World} {base : Nat} {sp : Nat → Bool} {held : Bool} {fuel : Nat} {t e : TypeId} {n : Nat} {cs : List Value} {zs : List (List UInt8)} {p : List MemPlace}
    (ht : P.underlying t = some (.array n e)) (he : P.underlying e = some .string) (hce : P.cellsOf e = 1) (hct : P.cellsOf t = n)
    (h : DataW.trod enc P w base sp held fuel t cs = some (.agg (zs.map fun z => .lit (.string z)), p)) : ∀ (i : Nat) (z : List UInt8), zs[i]? = some z → ∃ s : ByteArray, s.data.toList = z ∧ cs[i]? = some (.string s) := by
  cases fuel with
  | zero => simp [DataW.trod] at h
  | succ fuel =>
    simp only [DataW.trod, ht, hce, hct, Nat.mul_one] at h
    split at h
    · rename_i hl
      obtain ⟨xs, hm, hx⟩ := Option.map_eq_some_iff.1 h
      have hxs : xs.map (·.1) = zs.map fun z => (DataW.lit (.string z) : DataW H) := by
        have := congrArg Prod.fst hx
        simpa using this
      have hxl : xs.length = n := by simpa using Lib.mapM_length hm
      have hzl : zs.length = n := by
        have := congrArg List.length hxs
        simp at this
        omega
      intro i z hz
      have hi : i < n := by have := (List.getElem?_eq_some_iff.1 hz).1; omega
      obtain ⟨b, hb, hf⟩ := Lib.mapM_at hm i i (by simp [hi])
      obtain ⟨s, hc, rfl, _⟩ := DataW.trod_string he hf
      have h1 : cs[i]? = some (.string s) := by
        have := congrArg (·[0]?) hc
        simpa [List.getElem?_take, List.getElem?_drop] using this
      have h2 : (xs.map (·.1))[i]? = some (DataW.lit (.string s.data.toList) : DataW H) := by simp [hb]
      rw [hxs] at h2
      simp only [List.getElem?_map, Option.map_eq_some_iff, DataW.lit.injEq, Lit.string.injEq] at h2
      obtain ⟨z', hz', hzz⟩ := h2
      have : z = z' := Option.some.inj (hz.symm.trans hz')
      exact ⟨s, by rw [this, hzz], h1⟩
    · cases h

theorem laid_let {H : Type} : (Rows.laid_skipgraph_skipgraphworld_letters : DataW H) = .agg (letL.map fun z => .lit (.string z)) := rfl
theorem letG_head {rest : List (String × DataW Unit)} {W : World} (h : laidMet Tryd.prog (("skipgraph/skipgraphworld.letters", .agg (letL.map fun z => .lit (.string z))) :: rest) W) : LetG W := by
  obtain ⟨ps, ⟨g', t', cs, fuel, p, q, hg', ht', hvar, hd, _, _⟩, _⟩ := h
  obtain rfl := Option.some.inj (Tryd.gLet.symm.trans hg')
  obtain rfl := Option.some.inj (Tryd.tLet.symm.trans ht')
  intro j hj
  obtain ⟨z, hz⟩ : ∃ z, letL[j]? = some z := ⟨letL[j]'(by simp [letL]; omega), by simp⟩
  obtain ⟨s, h1, h2⟩ := cells_of_strs Tryd.underlying113 Tryd.underlying9 Tryd.cellsStr Tryd.cells6 hd j z hz
  refine ⟨s, ?_, ?_⟩
  · have hl : z.length = 1 := by
      have : ∀ j, j < 6 → (letL[j]?.getD []).length = 1 := by decide
      have := this j hj
      rw [hz] at this
      exact this
    have : s.data.toList.length = 1 := by rw [h1]; exact hl
    rw [Array.length_toList] at this
    exact this
  · rw [World.var?_cell Tryd.gLet hvar j]
    simpa using h2
end Go.Proofs.YtbnbjiddffihoaaDoor

/- The letters, where they are second on the list of what is laid. -/
namespace Go.Proofs.YtbnbjiddffihoaaDoor
open Go.RowKit

theorem letG_second {x : String × DataW Unit} {W : World} (h : laidMetH Tryd.prog [x, ("skipgraph/skipgraphworld.letters", Rows.laid_skipgraph_skipgraphworld_letters)] W)
    (hp : ([x, ("skipgraph/skipgraphworld.letters", Rows.laid_skipgraph_skipgraphworld_letters)].all fun x => x.2.handleName?.isNone) = true) (hx : decide (x.1 = "skipgraph/skipgraphworld.letters") = false) : LetG W := by
  rw [MakeChecks.laidMetH_plain _ _ _ hp, laid_let] at h
  have h2 := h.filter (fun y => decide (y.1 = "skipgraph/skipgraphworld.letters"))
  rw [List.filter_cons_of_neg (by rw [hx]; simp), List.filter_cons_of_pos (by simp), List.filter_nil] at h2
  exact letG_head h2
end Go.Proofs.YtbnbjiddffihoaaDoor
