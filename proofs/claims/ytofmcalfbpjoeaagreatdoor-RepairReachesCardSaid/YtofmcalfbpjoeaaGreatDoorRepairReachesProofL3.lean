/- Texts for RepairReachesProof. -/
import Derived.Test.YtofmcalfbpjoeaaGreatDoorRpAll1
import Derived.Test.YtofmcalfbpjoeaaGreatDoorRpAll3
import Derived.Test.YtofmcalfbpjoeaaGreatDoorRpAll6
import Derived.Test.YtofmcalfbpjoeaaGreatDoorRpAll11
import Derived.Test.YtofmcalfbpjoeaaGreatDoorRpAll12
import Derived.Test.YtofmcalfbpjoeaaGreatDoorRpAll14
import Derived.Test.YtofmcalfbpjoeaaGreatDoorRpAll16
import Derived.Test.YtofmcalfbpjoeaaGreatDoorRpAll19
import Derived.Test.YtofmcalfbpjoeaaGreatDoorRpAll20
import Derived.Test.YtofmcalfbpjoeaaGreatDoorRpAll21
import Derived.Test.YtofmcalfbpjoeaaGreatDoorRpAll22
import Derived.Test.YtofmcalfbpjoeaaGreatDoorRpAll23
import Derived.Test.YtofmcalfbpjoeaaGreatDoorRpAll24
import Derived.Test.YtofmcalfbpjoeaaGreatDoorRpAll25
import Derived.Test.YtofmcalfbpjoeaaGreatDoorRpAll28
import Derived.Test.YtofmcalfbpjoeaaGreatDoorRpAll29
import Derived.Test.YtofmcalfbpjoeaaGreatDoorRpAll31
import Derived.Test.YtofmcalfbpjoeaaGreatDoorRpAll32
import Derived.Test.YtofmcalfbpjoeaaGreatDoorRpABDE1
import Derived.Test.YtofmcalfbpjoeaaGreatDoorRpABCE1
import Derived.Test.YtofmcalfbpjoeaaGreatDoorRpACD1
import Derived.Test.YtofmcalfbpjoeaaGreatDoorRpACE1
import Derived.Test.YtofmcalfbpjoeaaGreatDoorRpAD1
import Derived.Test.YtofmcalfbpjoeaaGreatDoorRpAD2
import Derived.Test.YtofmcalfbpjoeaaGreatDoorRpAD3
import Derived.Test.YtofmcalfbpjoeaaGreatDoorRpAE1
import Derived.Test.YtofmcalfbpjoeaaGreatDoorRepairReachesProofL2

namespace Go.Proofs.YtofmcalfbpjoeaaGreatDoor
open Go.RowKit
structure JoOf (b : Nat) (l : List Nd) (w w' : World) (v : Value) (qs : List PQ) (P : List Pr) : Prop where
 own : OwnPr w.heap.size w' v qs P
 ids : SameIds l P
 conn : ConnN l P
 small : ∀ p ∈ P, p.known.length ≤ 100 ∧ p.near.length ≤ 200
 tape : TK w' b
 k : Exb b w w'
def JoPost (b : Nat) (l : List Nd) (w : World) (e : Ending) (w' : World) : Prop := ∃ v qs P, e = .returned v ∧ JoOf b l w w' v qs P
theorem same_snoc {l : List Nd} {P : List Pr} (h : ∀ (i : Nat) (x : Nd) (p : Pr), l[i]? = some x → P[i]? = some p → p.id = x.id) {x : Nd} {p : Pr} (hx : l[P.length]? = some x) (hp : p.id = x.id) :
  ∀ (i : Nat) (x : Nd) (q : Pr), l[i]? = some x → (P ++ [p])[i]? = some q → q.id = x.id := by
 intro i y q hy hq
 rcases Nat.lt_or_ge i P.length with h1 | h1
 ·rw [List.getElem?_append_left h1] at hq
  exact h i y q hy hq
 ·have h2 := (List.getElem?_eq_some_iff.1 hq).1
  rw [List.length_append, List.length_singleton] at h2
  obtain rfl : i = P.length := by omega
  rw [hx] at hy
  cases hy
  simp at hq
  rw [← hq]
  exact hp
theorem same_set {l : List Nd} {P : List Pr} (h : SameIds l P) {a : Nat} {p p' : Pr} (hp : P[a]? = some p) (he : p'.id = p.id) : SameIds l (P.set a p') := by
 refine ⟨by rw [List.length_set]; exact h.1, fun i x q hx hq => ?_⟩
 by_cases hia : i = a
 ·subst hia
  rw [List.getElem?_set_self (List.getElem?_eq_some_iff.1 hp).1] at hq
  cases hq
  rw [he]
  exact h.2 i x p hx hp
 ·rw [List.getElem?_set_ne (fun h => hia h.symm)] at hq
  exact h.2 i x q hx hq
def JoARel (m b na : Nat) (l : List Nd) (w : World) (o i : Value) (wr : World) : Prop :=
 ∃ (j : Nat) (qs : List PQ) (P : List Pr), j ≤ na ∧ i = .int .i64 j ∧ OwnPr w.heap.size wr o qs P ∧ P.length = j ∧ (∀ (i : Nat) (x : Nd) (p : Pr), l[i]? = some x → P[i]? = some p → p.id = x.id) ∧ FewQ 3 m P ∧ TK wr b ∧ Exb b w wr
def JoBRel (m b na : Nat) (l : List Nd) (v : Value) (w : World) (i : Value) (wr : World) : Prop :=
 ∃ (k : Nat) (qs : List PQ) (P : List Pr), 1 ≤ k ∧ k ≤ na + 1 ∧ i = .int .i64 k ∧ OwnPr w.heap.size wr v qs P ∧ SameIds l P ∧ FewQ (3 + k) (m + k) P ∧ TK wr b ∧ Exb b w wr
def JoXCut (b na : Nat) (w5 : World) (s11 s12 : Value) (wx : World) : Prop := ∃ a c : Nat, s11 = .int .i64 a ∧ s12 = .int .i64 c ∧ a < na ∧ c < na ∧ TK wx b ∧ Exb b w5 wx
def JoCRel (b na : Nat) (m M : Nat) (l : List Nd) (v : Value) (w : World) (i : Value) (wr : World) : Prop :=
 ∃ (k : Nat) (qs : List PQ) (P : List Pr), 1 ≤ k ∧ k ≤ na + 1 ∧ i = .int .i64 k ∧ OwnPr w.heap.size wr v qs P ∧ SameIds l P ∧ (∀ (i : Nat) (x : Nd) (p : Pr), i + 1 < k → l[i]? = some x → P[i + 1]? = some p → x.id ∈ p.known) ∧ FewQ (m + k) M P ∧ TK wr b ∧ Exb b w wr
set_option maxRecDepth 100000 in
set_option maxHeartbeats 16000000 in
theorem joined_t {b : Nat} (ht : Nat) (a : Option Addr) (na cp : Nat) (l : List Nd) (w : World) (h : TK w b) (hs : Slb 3 encN b w a na l) (hna : na ≤ 20) (hcp : na ≤ cp) (hmx : cp ≤ maxLen) (h0 : checkN l = 0) (hht : ht ≤ 100) :
  Calls Tryz.prog 32 #[.pointer (some ⟨b, 0, none⟩), .slice a na cp, .int .i64 ht] w (JoPost b l w) := by
 have hbw := h.lt
 have H0 := Lib.hid h0
 have HI : Hid (∀ x ∈ l, I64 x.id) := Lib.hid (fun x hx => (roster_ok h0 x hx).1.1)
 have HS := Lib.hid hs
 have HLN := Lib.hid hs.len
 clear hs h0
 go_enter Tryz.func32, Tryz.ntmps32
 go_wp2_with fail
 go_loopw [7, 8] (fun o i wr => JoARel (ht + 1) b na l w o i wr) (fun _ i _ => na - (intOf i).toNat)
 case atStart => exact ⟨0, [], [], by omega, rfl, OwnP.nil _ _ _ _ _, rfl, by intro i x p _ h; simp at h, by intro p h; simp at h, h, Exb.refl _ _⟩
 case round =>
  clear h
  obtain ⟨j, qs, P, hj, rfl, own, hPl, hids, few, T, kw⟩ := hrel
  obtain ⟨wo, rfl⟩ : ∃ wo : World, wo = wr := ⟨_, rfl⟩
  have zo := kw.size
  have hql : qs.length = j := by rw [own.2.1, hPl]
  have OWN := Lib.hid own
  have HIDS := Lib.hid hids
  have FEW := Lib.hid few
  have KW := Lib.hid kw
  clear own hids few kw
  by_cases hjn : j < na
  ·obtain ⟨xl, ol, y, rfl, hxl, hy, hcl⟩ := Rd.at (HS.out.nxb KW.out) (j := j) hjn
   have e0 : wo.cell? ⟨xl, ol + j * 3, none⟩ = some (.int .i64 y.id) := hcl 0 _ rfl
   have HY := Lib.hid hy
   clear hcl hy
   go_wp2_with fail
   (refine (peer_t ht _ _ _ l _ T (HS.out.nxb KW.out) (by omega) HI.out hht).mono ?_)
   clear T
   rintro e w2 ⟨p, ⟨A1, m1, c1⟩, ⟨A4, m4, c4⟩, rfl, D⟩
   have ok := D.ok
   have on := D.on
   have T := D.tape
   have K2 := Lib.hid D.k
   have dl := Lib.hid (show p.known.length ≤ 3 ∧ p.near.length ≤ ht + 1 from ⟨D.lk, D.ln⟩)
   replace e0 := Chg.cellv D.k e0 hxl
   have hx2 := Nat.lt_of_lt_of_le hxl.1 D.k.size
   have hxb := hxl.2
   simp only [Hdr.val] at ok on ⊢
   have z2 := D.k.size
   clear D
   have B9 := Blk.new w2 [.int .i64 p.id, .slice A1 m1 c1, .int .i64 p.left, .int .i64 p.right, .slice A4 m4 c4] 42
   have kk := Ex.new w2 (.cells #[.int .i64 p.id, .slice A1 m1 c1, .int .i64 p.left, .int .i64 p.right, .slice A4 m4 c4] 42)
   obtain ⟨w4, hw4⟩ : ∃ w4, w4 = w2.alloc (.cells #[.int .i64 p.id, .slice A1 m1 c1, .int .i64 p.left, .int .i64 p.right, .slice A4 m4 c4] 42) := ⟨_, rfl⟩
   obtain ⟨g9, hg9⟩ : ∃ g9, g9 = w2.heap.size := ⟨_, rfl⟩
   replace B9 : Blk w4 g9 [.int .i64 p.id, .slice A1 m1 c1, .int .i64 p.left, .int .i64 p.right, .slice A4 m4 c4] 42 := by rw [hw4, hg9]; exact B9
   rw [← hw4] at kk
   have Hw4 := Lib.hid hw4
   have Hg9 := Lib.hid hg9
   replace ok := ok.nx kk
   replace on := on.nx kk
   replace T := T.nx kk
   have zg9 : wo.heap.size ≤ g9 := by omega
   have zb9 : b < g9 := by omega
   have nx9 : ¬ xl = g9 := by omega
   replace e0 := Chg.cellv (p := ⟨xl, ol + j * 3, none⟩) kk e0 hx2
   replace K2 := Lib.hid (K2.out.nxb (kk.b b))
   clear kk hw4 hg9
   go_upto_region 6 with fail
   rw [← Hg9.out, ← Hw4.out]
   clear Hg9 Hw4
   have c0 := B9.cell 0 _ rfl
   have f0 := B9.free 0
   have KS : Exb g9 w4 (w4.setCell ⟨g9, 0, none⟩ (.int .i64 y.id)) := (Exb.refl g9 w4).setB (p := ⟨g9, 0, none⟩) _ rfl
   obtain ⟨w5, hw5⟩ : ∃ w5, w5 = w4.setCell ⟨g9, 0, none⟩ (.int .i64 y.id) := ⟨_, rfl⟩
   go_upto_region 7 with fail
   rw [← hw5] at KS ⊢
   have ok5 := ok.put B9 (by decide) KS
   have on5 := on.put B9 (by decide) KS
   have T5 : TK w5 b := by rw [hw5]; exact T.set (p := ⟨g9, 0, none⟩) _ zb9
   have K5 : Exb b wo w5 := by rw [hw5]; exact K2.out.setNew (p := ⟨g9, 0, none⟩) _ zg9
   replace B9 : Blk w5 g9 [.int .i64 y.id, .slice A1 m1 c1, .int .i64 p.left, .int .i64 p.right, .slice A4 m4 c4] 42 := by rw [hw5]; exact B9.set 0 _
   have p0 := B9.cell 0 _ rfl
   have p1 := B9.cell 1 _ rfl
   have p2 := B9.cell 2 _ rfl
   have p3 := B9.cell 3 _ rfl
   have p4 := B9.cell 4 _ rfl
   have OWN5 := Lib.hid (OWN.out.nxb hbw K5)
   have KW5 := Lib.hid (KW.out.nxb K5)
   have kl := Ex.new w5 (.cells #[.int .i64 y.id, .slice A1 m1 c1, .int .i64 p.left, .int .i64 p.right, .slice A4 m4 c4] 42)
   have OL := Lib.hid (OWN5.out.nx kl)
   have okl := Lib.hid (ok5.nx kl)
   have onl := Lib.hid (on5.nx kl)
   have Tl := T5.nx kl
   have KL := Lib.hid (KW5.out.nxb (kl.b b))
   have zl := KL.out.size
   have SN := Lib.hid (same_snoc (p := ⟨y.id, p.left, p.right, p.known, p.near⟩) HIDS.out (by rw [hPl]; exact HY.out) rfl)
   clear hw5 c0 f0 KS ok on T B9 e0 T5 K5 ok5 on5 kl
   go_wp2_with (at_builtin; (refine wpList_append_W (enc := encQ) _ rfl _ _ 24 rfl w.heap.size 42 (.agg #[.int .i64 0, .slice none 0 0, .int .i64 0, .int .i64 0, .slice none 0 0]) 5 72 Tryz.underlying24 Tryz.infoPr rfl (by omega) (by omega) _ qs OL.out.row rfl _ 1 1 [((y.id, p.left, p.right), (A1, m1, c1), (A4, m4, c4))] (Sl.lit _ rfl rfl encQ_len rfl) encQ_len encQ_one rfl (by omega) (by omega) zl ?_); intro v9 w9 own9 ch0 ch1 _)
   have O9 := OWN.out.app2 (p := ⟨y.id, p.left, p.right, p.known, p.near⟩) (hk := (A1, m1, c1)) (hn := (A4, m4, c4)) (by decide) (by decide) zo OL.out okl.out onl.out own9 ch0
   exact ⟨⟨j + 1, _, P ++ [⟨y.id, p.left, p.right, p.known, p.near⟩], by omega, by go_num, O9, by simp [hPl], SN.out, FEW.out.snoc dl.out, TP.chg Tl ch1 (fun x hx => by omega), Chg.trans KL.out (ch1.mono (fun x hx => hx.1))⟩, by simp [intOf]; omega⟩
  ·obtain rfl : j = na := by omega
   obtain ⟨aV, cV, rfl, _, _, _, hVg, _⟩ := OWN.out.pl
   rw [hPl] at OWN ⊢
   have SI : Hid (SameIds l P) := Lib.hid ⟨by rw [hPl]; exact HLN.out.symm, HIDS.out⟩
   have HVG : Hid (1 ≤ j → ∃ g, aV = some ⟨g, 0, none⟩ ∧ w.heap.size ≤ g) := Lib.hid (fun h1 => hVg (fun hP => by rw [hP] at hPl; simp at hPl; omega))
   have FEW1 : Hid (FewQ (3 + 1) (ht + 1 + 1) P) := Lib.hid (fun p hp => by have := FEW.out p hp; omega)
   clear HIDS hVg hjn hj zo
   go_wp2_with fail
   go_loopw [10] (fun i wr => JoBRel (ht + 1) b j l (.slice aV j cV) w i wr) (fun i _ => j + 1 - (intOf i).toNat)
   case atStart => exact ⟨1, qs, P, by omega, by omega, rfl, OWN.out, SI.out, FEW1.out, T, KW.out⟩
   case round =>
    clear T OWN SI FEW FEW1 KW
    obtain ⟨k, qs, P, hk1, hk, rfl, own, si, few, T, kw⟩ := hrel
    obtain ⟨wo, rfl⟩ : ∃ wo : World, wo = wr := ⟨_, rfl⟩
    have OWN := Lib.hid own
    have SI := Lib.hid si
    have FEW := Lib.hid few
    have KW := Lib.hid kw
    clear own si few kw
    by_cases hkn : k < j
    ·obtain ⟨g, hge, hg⟩ := HVG.out (by omega)
     subst hge
     go_wp2_with fail
     (refine (next_t k _ T (by omega) (by omega)).mono ?_)
     clear T
     rintro e w5 ⟨r, rfl, hr0, hr1, T, kk⟩
     obtain ⟨r, rfl⟩ : ∃ t : Nat, r = t := ⟨r.toNat, by omega⟩
     replace KW := Lib.hid (KW.out.nxb kk)
     replace OWN := Lib.hid (OWN.out.nxb hbw kk)
     clear kk
     go_wp2_with fail
     (refine (bool_t 2 _ T (by omega) (by omega)).mono ?_)
     clear T
     rintro e w6 ⟨rb, rfl, T, kk⟩
     replace KW := Lib.hid (KW.out.nxb kk)
     replace OWN := Lib.hid (OWN.out.nxb hbw kk)
     clear kk
     go_upto_if 46 with fail
     go_cut [11, 12] from 47 to 89 (fun s11 s12 wx => JoXCut b j w6 s11 s12 wx)
     case first =>
      cases rb with
      | true =>
       have CUT := Lib.hid (show JoXCut b j w6 (.int .i64 r) (.int .i64 k) w6 from ⟨r, k, rfl, rfl, by omega, hkn, T, Exb.refl _ _⟩)
       clear T
       go_wp2_with fail
       go_meet
       exact CUT.out
      | false =>
       have CUT := Lib.hid (show JoXCut b j w6 (.int .i64 k) (.int .i64 r) w6 from ⟨k, r, rfl, rfl, hkn, by omega, T, Exb.refl _ _⟩)
       clear T
       go_wp2_with fail
       go_meet
       exact CUT.out
     case rest =>
      clear T
      rename World => w7
      obtain ⟨x, y, rfl, rfl, hx, hy, T, k7⟩ := hcut
      replace KW := Lib.hid (KW.out.nxb k7)
      replace OWN := Lib.hid (OWN.out.nxb hbw k7)
      obtain ⟨xl, ol, nd, rfl, hxl, hnd, hcl⟩ := Rd.at (HS.out.nxb KW.out) (j := y) hy
      have e0 : w7.cell? ⟨xl, ol + y * 3, none⟩ = some (.int .i64 nd.id) := hcl 0 _ rfl
      clear k7 hcl hnd
      go_wp2_with fail
      (refine (next_t 4 _ T (by omega) (by omega)).mono ?_)
      clear T
      rintro e w8 ⟨q, rfl, hq0, hq1, T, kk⟩
      replace KW := Lib.hid (KW.out.nxb kk)
      have own8 := OWN.out.nxb hbw kk
      clear kk e0 OWN
      have hlP : P.length = j := by rw [SI.out.1, HLN.out]
      obtain ⟨p, hp⟩ : ∃ p, P[x]? = some p := ⟨P[x]'(by omega), by simp⟩
      obtain ⟨⟨A1, m1, c1⟩, ⟨A4, m4, c4⟩, hq, ok, on⟩ := own8.get hp
      have fp := FEW.out p (List.mem_of_getElem? hp)
      have zbg : b < g := by omega
      have z8 := KW.out.size
      have FS : Hid (∀ p' : Pr, p'.known.length ≤ p.known.length + 1 → p'.near.length ≤ p.near.length + 1 → FewQ (3 + (k + 1)) (ht + 1 + (k + 1)) (P.set x p')) := Lib.hid (fun p' h1 h2 => FEW.out.set (by omega) (by omega) (by omega))
      have SS : Hid (∀ p' : Pr, p'.id = p.id → SameIds l (P.set x p')) := Lib.hid (fun p' h1 => same_set SI.out hp h1)
      rcases (show q = 0 ∨ q = 1 ∨ (q ≠ 0 ∧ q ≠ 1) by omega) with rfl | rfl | ⟨hqa, hqb⟩
      ·obtain ⟨s1, s2, O9⟩ := own8.num (by decide) (by decide) (p' := { p with left := nd.id }) (c := 2) (x := nd.id) hq hp (by omega) rfl rfl rfl
       have s1' : w8.cell? ⟨g, x * 5 + 2, none⟩ = some (.int .i64 p.left) := s1
       have RR := Lib.hid (show JoBRel (ht + 1) b j l (.slice (some ⟨g, 0, none⟩) j cV) w (.int .i64 ((k : Int) + 1)) (w8.setCell ⟨g, x * 5 + 2, none⟩ (.int .i64 nd.id)) from
        ⟨k + 1, _, _, by omega, by omega, by go_num, O9, SS.out _ rfl, FS.out _ (by simp) (by simp), T.set (p := ⟨g, x * 5 + 2, none⟩) _ zbg, KW.out.setNew (p := ⟨g, x * 5 + 2, none⟩) _ hg⟩)
       clear s1 O9 own8 hq hp ok on T
       go_wp2_with fail
       exact ⟨RR.out, by simp [intOf]; omega⟩
      ·have s4 : w8.cell? ⟨g, x * 5 + 4, none⟩ = some (.slice A4 m4 c4) := (OwnW.set1 encQ_len own8.1 hq (c := 4) (by omega)).1
       have kl := Ex.new w8 (.cells #[.int .i64 0, .int .i64 0, .int .i64 0, .int .i64 nd.id] 75)
       have on9 := on.nx kl
       have OW9 := Lib.hid (own8.nx kl)
       have zb := Nat.le_trans z8 kl.size
       have T9 := Lib.hid (T.nx kl)
       have K9 := Lib.hid (KW.out.nxb (kl.b b))
       simp only [Hdr.val] at on9
       clear own8 ok on T
       go_wp2_with (at_builtin; (refine wpList_append_rda (enc := encNr) _ rfl _ _ 40 rfl w.heap.size 75 (.agg #[.int .i64 0, .int .i64 0, .int .i64 0, .int .i64 0]) 4 32 Tryz.underlying40 Tryz.infoNr rfl (by omega) (by omega) _ p.near on9 rfl _ _ 1 1 [(0, 0, 0, nd.id)] (Sl.lit _ rfl rfl (fun _ => rfl) rfl) (fun h => by cases h) (fun _ => rfl) (by simp [encNr, Value.oneCell']) rfl (by omega) (by omega) zb ?_); intro va w1 A ch0 ch1 hva; obtain ⟨A9, C9, e9, _, _, _, _⟩ := A.rd (fun _ => rfl); generalize (p.near ++ [(0, 0, 0, nd.id)]).length = L9 at e9; subst e9; obtain ⟨s1, s2, O9⟩ := OW9.out.growN (hn' := (A9, L9, C9)) (by decide) (by decide) (by decide) hq hp A ch0 (show ∀ g, (Value.slice A9 L9 C9).ownBlock = some g → (Hdr.val (A4, m4, c4)).ownBlock = some g ∨ _ from own_hist hva (Nat.le_refl _)); simp only [Hdr.val] at s1 O9; replace O9 := Lib.hid O9)
       have RR := Lib.hid (show JoBRel (ht + 1) b j l (.slice (some ⟨g, 0, none⟩) j cV) w (.int .i64 ((k : Int) + 1)) (w1.setCell ⟨g, x * 5 + 4, none⟩ (.slice A9 L9 C9)) from
        ⟨k + 1, _, _, by omega, by omega, by go_num, O9.out, SS.out { p with near := (p.near ++ [(0, 0, 0, nd.id)]) } rfl, FS.out { p with near := (p.near ++ [(0, 0, 0, nd.id)]) } (by simp) (by simp), (show TK w1 b from TP.chg T9.out ch1 (fun x hx => by omega)).set (p := ⟨g, x * 5 + 4, none⟩) _ zbg, (show Exb b w w1 from Chg.trans K9.out (ch1.mono (fun x hx => hx.1))).setNew (p := ⟨g, x * 5 + 4, none⟩) _ hg⟩)
       exact ⟨RR.out, by simp [intOf]; omega⟩
      ·have d0 : (q == 0) = false := by simpa using hqa
       have d1 : (q == 1) = false := by simpa using hqb
       have s4 : w8.cell? ⟨g, x * 5 + 1, none⟩ = some (.slice A1 m1 c1) := (OwnW.set1 encQ_len own8.1 hq (c := 1) (by omega)).1
       have kl := Ex.new w8 (.cells #[.int .i64 nd.id] 3)
       have ok9 := ok.nx kl
       have OW9 := Lib.hid (own8.nx kl)
       have zb := Nat.le_trans z8 kl.size
       have T9 := Lib.hid (T.nx kl)
       have K9 := Lib.hid (KW.out.nxb (kl.b b))
       simp only [Hdr.val] at ok9
       clear own8 ok on T hqa hqb
       go_wp2_with (at_builtin; (refine wpList_append_rda (enc := encI) _ rfl _ _ 22 rfl w.heap.size 3 (.int .i64 0) 1 8 Tryz.underlying22 Tryz.infoI6 rfl (by omega) (by omega) _ p.known ok9 rfl _ _ 1 1 [nd.id] (Sl.lit _ rfl rfl (fun _ => rfl) rfl) (fun h => by cases h) (fun _ => rfl) (by simp [encI, Value.oneCell']) rfl (by omega) (by omega) zb ?_); intro va w1 A ch0 ch1 hva; obtain ⟨A9, C9, e9, _, _, _, _⟩ := A.rd (fun _ => rfl); generalize (p.known ++ [nd.id]).length = L9 at e9; subst e9; obtain ⟨s1, s2, O9⟩ := OW9.out.growK (hk' := (A9, L9, C9)) (by decide) (by decide) (by decide) hq hp A ch0 (show ∀ g, (Value.slice A9 L9 C9).ownBlock = some g → (Hdr.val (A1, m1, c1)).ownBlock = some g ∨ _ from own_hist hva (Nat.le_refl _)); simp only [Hdr.val] at s1 O9; replace O9 := Lib.hid O9)
       have RR := Lib.hid (show JoBRel (ht + 1) b j l (.slice (some ⟨g, 0, none⟩) j cV) w (.int .i64 ((k : Int) + 1)) (w1.setCell ⟨g, x * 5 + 1, none⟩ (.slice A9 L9 C9)) from
        ⟨k + 1, _, _, by omega, by omega, by go_num, O9.out, SS.out { p with known := (p.known ++ [nd.id]) } rfl, FS.out { p with known := (p.known ++ [nd.id]) } (by simp) (by simp), (show TK w1 b from TP.chg T9.out ch1 (fun x hx => by omega)).set (p := ⟨g, x * 5 + 1, none⟩) _ zbg, (show Exb b w w1 from Chg.trans K9.out (ch1.mono (fun x hx => hx.1))).setNew (p := ⟨g, x * 5 + 1, none⟩) _ hg⟩)
       exact ⟨RR.out, by simp [intOf]; omega⟩
    ·obtain ⟨aX, cX, hXe, PX, _, _, _, _⟩ := OWN.out.pl
     have hlP : P.length = j := by rw [SI.out.1, HLN.out]
     rw [hlP] at hXe PX
     injection hXe with hx1 hx2 hx3
     subst hx1 hx3
     have HP := Lib.hid PX
     have KS := KW.out.size
     clear PX hx2
     have FC : Hid (∀ p ∈ P, p.known.length ≤ 2000000 ∧ p.near.length ≤ 2000000) := Lib.hid (fun p hp => by have := FEW.out p hp; omega)
     go_wp2_with fail
     (with_reducible refine (connected_r _ _ _ l _ _ _ P _ (HS.out.nxb KW.out).sl (by omega) HP.out (by omega) FC.out).mono ?_)
     rintro e w6 ⟨rfl, kk⟩
     have OWN6 := Lib.hid (OWN.out.nx kk)
     have KW6 := Lib.hid (KW.out.nxb (kk.b b))
     have T6 := T.nx kk
     clear kk OWN KW T HP KS
     cases hcb : connB l P with
     | true =>
      have FIN := Lib.hid (show JoOf b l w w6 (.slice aV j cV) qs P from ⟨OWN6.out, SI.out, connB_iff.1 hcb, fun p hp => by have := FEW.out p hp; omega, T6, KW6.out⟩)
      clear hcb T6
      go_wp2_with fail
      go_ret
      exact ⟨_, qs, P, rfl, FIN.out⟩
     | false =>
      have m0 : ∃ m0, m0 = 3 + k := ⟨_, rfl⟩
      obtain ⟨m0, hm0⟩ := m0
      obtain ⟨M0, hM0⟩ : ∃ M0, M0 = ht + 1 + k := ⟨_, rfl⟩
      have FEW3 : Hid (FewQ (m0 + 1) M0 P) := Lib.hid (fun p hp => by have := FEW.out p hp; omega)
      have hm25 : m0 ≤ 24 := by omega
      have hM200 : M0 ≤ 200 := by omega
      clear hcb FEW hm0 hM0
      go_wp2_with fail
      go_loopw [14] (fun i wr => JoCRel b j m0 M0 l (.slice aV j cV) w i wr) (fun i _ => j + 1 - (intOf i).toNat)
      case atStart => exact ⟨1, qs, P, by omega, by omega, rfl, OWN6.out, SI.out, fun i x p h => by omega, FEW3.out, T6, KW6.out⟩
      case round =>
       clear T6 OWN6 SI FEW3 KW6 hk hk1 hkn
       obtain ⟨k, qs, P, hk1, hk, rfl, own, si, hch, few, T, kw⟩ := hrel
       obtain ⟨wo, rfl⟩ : ∃ wo : World, wo = wr := ⟨_, rfl⟩
       have OWN := Lib.hid own
       have SI := Lib.hid si
       have CH := Lib.hid hch
       have FEW := Lib.hid few
       have KW := Lib.hid kw
       have TH := Lib.hid T
       clear own si few kw hch T
       have hlP : P.length = j := by rw [SI.out.1, HLN.out]
       by_cases hkn : k < j
       ·obtain ⟨g, hge, hg⟩ := HVG.out (by omega)
        subst hge
        obtain ⟨xl, ol, nd, rfl, hxl, hnd, hcl⟩ := Rd.at (HS.out.nxb KW.out) (j := k - 1) (by omega)
        have CL : Hid (∀ wq, Ex wo wq → wq.cell? ⟨xl, ol + (k - 1) * 3, none⟩ = some (.int .i64 nd.id)) := Lib.hid (fun wq kq => Chg.cellv kq (hcl 0 _ rfl) hxl.1)
        obtain ⟨p, hp⟩ : ∃ p, P[k]? = some p := ⟨P[k]'(by omega), by simp⟩
        obtain ⟨⟨A1, m1, c1⟩, hn, hq, ok, on⟩ := OWN.out.get hp
        have fp := FEW.out p (List.mem_of_getElem? hp)
        have s4 : wo.cell? ⟨g, k * 5 + 1, none⟩ = some (.slice A1 m1 c1) := (OwnW.set1 encQ_len OWN.out.1 hq (c := 1) (by omega)).1
        have hgo : g < wo.heap.size := OwnW.blk_lt OWN.out.1 rfl
        have CR : Hid (∀ wq, Ex wo wq → wq.cell? ⟨g, k * 5 + 1, none⟩ = some (.slice A1 m1 c1)) := Lib.hid (fun wq kq => Chg.cellv kq s4 hgo)
        have FS : Hid (FewQ (m0 + (k + 1)) M0 (P.set k { p with known := p.known ++ [nd.id] })) := Lib.hid (FEW.out.set (by omega) (by omega) ⟨by simp; omega, by simp; omega⟩)
        have SS : Hid (SameIds l (P.set k { p with known := p.known ++ [nd.id] })) := Lib.hid (same_set SI.out hp rfl)
        have CS : Hid (∀ (i : Nat) (x : Nd) (q : Pr), i + 1 < k + 1 → l[i]? = some x → (P.set k { p with known := p.known ++ [nd.id] })[i + 1]? = some q → x.id ∈ q.known) := Lib.hid (fun i x q hi hx hq => by
         by_cases hik : i + 1 = k
         ·subst hik
          rw [List.getElem?_set_self (by omega)] at hq
          cases hq
          rw [Nat.add_sub_cancel] at hnd
          rw [Option.some.inj (hx.symm.trans hnd)]
          simp
         ·rw [List.getElem?_set_ne (fun h => hik h.symm)] at hq
          exact CH.out i x q (by omega) hx hq)
        have hwk : IntKind.i64.wrap ((k : Int) - 1) = (k : Int) - 1 := IntWalk.i64_in _ (by omega)
        have h01 : (1 : Int) ≤ (k : Int) := by omega
        have h02 : (k : Int) - 1 < (j : Int) := by omega
        have h03 : (k : Int) < (j : Int) := by omega
        have zbg : b < g := by omega
        have zo := KW.out.size
        have OK := Lib.hid ok
        have HQ := Lib.hid hq
        have HP := Lib.hid hp
        clear hcl hnd hp hq ok on s4 hxl
        go_upto_region 25 with fail
        refine wp_region_late_drew (S := Ex wo) [14, 15, 16, 17] (by kernel_rfl) ((Ex.refl wo).drew) (fun hHeld => ?_)
        obtain ⟨wd, hwdx⟩ : ∃ wd : World, wd = World.drew wo := ⟨_, rfl⟩
        rw [← hwdx] at hHeld ⊢
        have hDrew : Ex wo wd := by rw [hwdx]; exact (Ex.refl wo).drew
        clear hwdx
        refine wpAnyL_takeP (i := 0) (oi := ⟨_, _, _, _, _, _⟩) (v := ?_) rfl (by kernel_rfl) (by kernel_rfl) (by kernel_rfl) (fun _ _ _ h => h) (Or.inl ⟨by rfl, ?hyr1x0q5⟩) ?restr1x0q5
        case hyr1x0q5 => intro wq hSw; (go_simp); (try with_reducible rfl)
        refine wpAnyL_takeP (i := 1) (oi := ⟨_, _, _, _, _, _⟩) (v := ?_) rfl (by kernel_rfl) (by kernel_rfl) (by kernel_rfl) (fun _ _ _ h => h) (Or.inl ⟨by rfl, ?hyr1x1q8⟩) ?restr1x1q8
        case hyr1x1q8 => intro wq hSw; (go_simp); (try with_reducible rfl)
        refine wpAnyL_take (i := 2) (oi := ⟨_, _, _, _, _, _⟩) (v := ?_) rfl (by kernel_rfl) (by kernel_rfl) (by kernel_rfl) (fun _ _ _ h => h) (Or.inl ⟨by rfl, ?hyr1x2q11⟩) (by kernel_rfl) (by kernel_rfl) (by assumption) ?restr1x2q11
        case hyr1x2q11 => intro wq hSw; (go_simp); (try with_reducible rfl)
        refine wpAnyL_take (i := 3) (oi := ⟨_, _, _, _, _, _⟩) (v := ?_) rfl (by kernel_rfl) (by kernel_rfl) (by kernel_rfl) (fun _ _ _ h => h) (Or.inl ⟨by rfl, ?hyr1x3q14⟩) (by kernel_rfl) (by kernel_rfl) (by assumption) ?restr1x3q14
        case hyr1x3q14 => intro wq hSw; (go_simp); (try with_reducible rfl)
        refine wpAnyL_take (i := 4) (oi := ⟨_, _, _, _, _, _⟩) (v := ?_) rfl (by kernel_rfl) (by kernel_rfl) (by kernel_rfl) (fun _ _ _ h => h) (Or.inl ⟨by rfl, ?hyr1x4q17⟩) (by kernel_rfl) (by kernel_rfl) (by assumption) ?restr1x4q17
        case hyr1x4q17 => intro wq hSw; (go_simp); (try with_reducible rfl)
        refine wpAnyL_take (i := 5) (oi := ⟨_, _, _, _, _, _⟩) (v := ?_) rfl (by kernel_rfl) (by kernel_rfl) (by kernel_rfl) (fun _ _ _ h => h) (Or.inl ⟨by rfl, ?hyr1x5q20⟩) (by kernel_rfl) (by kernel_rfl) (by assumption) ?restr1x5q20
        case hyr1x5q20 => intro wq hSw; (go_simp); (try with_reducible rfl)
        refine wpAnyL_take (i := 6) (oi := ⟨_, _, _, _, _, _⟩) (v := ?_) rfl (by kernel_rfl) (by kernel_rfl) (by kernel_rfl) (fun _ _ _ h => h) (Or.inl ⟨by rfl, ?hyr1x6q23⟩) (by kernel_rfl) (by kernel_rfl) (by assumption) ?restr1x6q23
        case hyr1x6q23 => intro wq hSw; (have cq := CR.out wq hSw; go_simp); (try with_reducible rfl)
        refine wpAnyL_take (i := 7) (oi := ⟨_, _, _, _, _, _⟩) (v := ?_) rfl (by kernel_rfl) (by kernel_rfl) (by kernel_rfl) (fun _ _ _ h => h) (Or.inl ⟨by rfl, ?hyr1x7q26⟩) (by kernel_rfl) (by kernel_rfl) (by assumption) ?restr1x7q26
        case hyr1x7q26 => intro wq hSw; (go_simp); (try with_reducible rfl)
        refine wpAnyL_take (i := 8) (oi := ⟨_, _, _, _, _, _⟩) (v := ?_) rfl (by kernel_rfl) (by kernel_rfl) (by kernel_rfl) (fun _ _ _ h => h) (Or.inl ⟨by rfl, ?hyr1x8q29⟩) (by kernel_rfl) (by kernel_rfl) (by assumption) ?restr1x8q29
        case hyr1x8q29 => intro wq hSw; (go_simp); (try with_reducible rfl)
        refine wpAnyL_take (i := 9) (oi := ⟨_, _, _, _, _, _⟩) (v := ?_) rfl (by kernel_rfl) (by kernel_rfl) (by kernel_rfl) (fun _ _ _ h => h) (Or.inl ⟨by rfl, ?hyr1x9q32⟩) (by kernel_rfl) (by kernel_rfl) (by assumption) ?restr1x9q32
        case hyr1x9q32 => intro wq hSw; (go_simp); (try with_reducible rfl)
        refine wpAnyL_take (i := 10) (oi := ⟨_, _, _, _, _, _⟩) (v := ?_) rfl (by kernel_rfl) (by kernel_rfl) (by kernel_rfl) (fun _ _ _ h => h) (Or.inl ⟨by rfl, ?hyr1x10q35⟩) (by kernel_rfl) (by kernel_rfl) (by assumption) ?restr1x10q35
        case hyr1x10q35 => intro wq hSw; (go_simp); (try with_reducible rfl)
        refine wpAnyL_take (i := 11) (oi := ⟨_, _, _, _, _, _⟩) (v := ?_) rfl (by kernel_rfl) (by kernel_rfl) (by kernel_rfl) (fun _ _ _ h => h) (Or.inl ⟨by rfl, ?hyr1x11q38⟩) (by kernel_rfl) (by kernel_rfl) (by assumption) ?restr1x11q38
        case hyr1x11q38 => intro wq hSw; (go_simp); (try with_reducible rfl)
        refine wpAnyL_take (i := 12) (oi := ⟨_, _, _, _, _, _⟩) (v := ?_) rfl (by kernel_rfl) (by kernel_rfl) (by kernel_rfl) (fun _ _ _ h => h) (Or.inl ⟨by rfl, ?hyr1x12q41⟩) (by kernel_rfl) (by kernel_rfl) (by assumption) ?restr1x12q41
        case hyr1x12q41 => intro wq hSw; (have cq := CL.out wq hSw; go_simp); (try with_reducible rfl)
        refine wpAnyL_ready (rs := [13]) (by kernel_rfl) (by simp) ?_
        refine AllReadyL.cons (o := ⟨_, _, _, _, _, _⟩) rfl (fun K hK => ?_) AllReadyL.nil
        go_simp
        obtain ⟨g8, wq, hg8, hwq, SX, kk⟩ := litF hHeld.size nd.id
        rw [← hg8, ← hwq]
        clear hg8 hwq
        replace hHeld := hHeld.nx kk
        clear kk
        refine hK.out _ _ (hHeld) (fun hHeld => ?_)
        clear hK K
        refine wpAnyL_ready (rs := [14]) (by kernel_rfl) (by simp) ?_
        refine AllReadyL.consL (o := ⟨_, _, _, _, _, _⟩) rfl (by rfl) (fun K hK => ?_) AllReadyL.nil
        rw [if_pos (by rfl)]
        have rx := OK.out.nx hHeld
        simp only [Hdr.val] at rx
        have zbase := Nat.le_trans zo hHeld.size
        refine wp_append_rda (enc := encI) _ (.tmp 106) (.tmp 113) 22 rfl w.heap.size 3 (.int .i64 0) 1 8 Tryz.underlying22 Tryz.infoI6 rfl (by omega) (by omega) _ p.known rx rfl _ _ 1 1 [nd.id] SX (fun h => by cases h) (fun _ => rfl) (by simp [encI, Value.oneCell']) rfl (by omega) (by omega) zbase ?_
        intro va w1 A ch0 ch1 hva
        obtain ⟨A9, C9, e9, _, _, _, _⟩ := A.rd (fun _ => rfl)
        generalize (p.known ++ [nd.id]).length = L9 at e9
        subst e9
        obtain ⟨s1, s2, O9⟩ := (OWN.out.nx hHeld).growK (hk' := (A9, L9, C9)) (by decide) (by decide) (by decide) HQ.out HP.out A ch0 (show ∀ g, (Value.slice A9 L9 C9).ownBlock = some g → (Hdr.val (A1, m1, c1)).ownBlock = some g ∨ _ from own_hist hva (Nat.le_refl _))
        simp only [Hdr.val] at s1 O9
        replace O9 := Lib.hid O9
        refine hK.out _ _ ?_
        clear hK K
        refine wpAnyL_ready (rs := [15]) (by kernel_rfl) (by simp) ?_
        refine AllReadyL.consL (o := ⟨_, _, _, _, _, _⟩) rfl (by rfl) (fun K hK => ?_) AllReadyL.nil
        go_simp
        refine hK.out _ _ ?_
        clear hK K
        refine wpAnyL_ready (rs := [16]) (by kernel_rfl) (by simp) ?_
        refine AllReadyL.consL (o := ⟨_, _, _, _, _, _⟩) rfl (by rfl) (fun K hK => ?_) AllReadyL.nil
        go_simp
        refine hK.out _ _ ?_
        clear hK K
        refine wpAnyL_ready (rs := [17]) (by kernel_rfl) (by simp) ?_
        refine AllReadyL.consL (o := ⟨_, _, _, _, _, _⟩) rfl (by rfl) (fun K hK => ?_) AllReadyL.nil
        go_simp
        refine hK.out _ _ ?_
        clear hK K
        refine wpAnyL_done (by kernel_rfl) ?_ _
        have RR := Lib.hid (show JoCRel b j m0 M0 l (.slice (some ⟨g, 0, none⟩) j cV) w (.int .i64 ((k : Int) + 1)) (w1.setCell ⟨g, k * 5 + 1, none⟩ (.slice A9 L9 C9)) from
         ⟨k + 1, _, _, by omega, by omega, by go_num, O9.out, SS.out, CS.out, FS.out, (show TK w1 b from TP.chg (TH.out.nx hHeld) ch1 (fun x hx => by omega)).set (p := ⟨g, k * 5 + 1, none⟩) _ zbg, (show Exb b w w1 from Chg.trans (KW.out.nxb (hHeld.b b)) (ch1.mono (fun x hx => hx.1))).setNew (p := ⟨g, k * 5 + 1, none⟩) _ hg⟩)
        clear ch0 ch1 hva rx hHeld SX s1 s2 A
        go_wp2_with fail
        exact ⟨RR.out, by simp [intOf]; omega⟩
       ·have hjk : j ≤ k := by omega
        have FIN := Lib.hid (show JoOf b l w wo (.slice aV j cV) qs P from ⟨OWN.out, SI.out, back_conn H0.out SI.out (fun i x p hx hp => CH.out i x p (by have := (List.getElem?_eq_some_iff.1 hp).1; omega) hx hp), fun p hp => by have := FEW.out p hp; omega, TH.out, KW.out⟩)
        go_wp2_with fail
        go_ret
        exact ⟨_, qs, P, rfl, FIN.out⟩
set_option maxRecDepth 100000 in
set_option maxHeartbeats 16000000 in
theorem repairreaches_walk (a1 : Option Addr) (n1 c1 : Nat) (l1 : List Int) (more : Int) (w : World) (h1 : Sl 1 encI w a1 n1 l1) (hc1 : n1 ≤ c1) (hm1 : c1 ≤ maxLen) (hT : TabG w) (hL : LetG w) :
  Calls Tryz.prog 10 #[.slice a1 n1 c1, .int .i64 more] w fun e w' => e = .returned (.bool true) ∧ Ex w w' := by
 go_enter Tryz.func10, Tryz.ntmps10
 go_wp2_with fail
 refine (new_t _ _ _ l1 _ h1 hc1 hm1).mono ?_
 rintro e w1 ⟨rfl, T, kk, z1⟩
 obtain ⟨b, hb⟩ : ∃ b, b = w.heap.size := ⟨_, rfl⟩
 rw [← hb] at T ⊢
 have hgt : ¬ 1 = b := by have := hT.lt; omega
 have hgl : ¬ 0 = b := by have := hL.lt; omega
 have T1 : Hid (TabG w1) := Lib.hid (hT.nx kk)
 have L1 : Hid (LetG w1) := Lib.hid (hL.nx kk)
 have QL : Hid (Exl b w w1) := Lib.hid ⟨kk, by omega⟩
 clear h1 hT hL kk hb z1
 have hbo := T.lt
 go_wp2_with fail
 refine (some_n 7 _ T L1.out hgl (by omega) (by omega)).mono ?_
 clear T
 rintro e x1 ⟨v1, L, rfl, R, hL1⟩
 have kw := R.k
 have T := R.tape
 obtain ⟨aX, cX, rfl, SX, hcX, hmX, _⟩ := R.own.slf (fun _ => rfl)
 have SX := SX.slb hbo
 have RL := R.len
 have H0 := Lib.hid R.ok
 have HW : Hid (∀ x ∈ L, x.word < 4294967296) := Lib.hid (fun x hx => by have := R.word x hx; omega)
 have HI : Hid (∀ x ∈ L, I64 x.id) := Lib.hid (fun x hx => (roster_ok R.ok x hx).1.1)
 clear R
 go_wp2_with fail
 refine (next_t 4 _ T (by omega) (by omega)).mono ?_
 clear T
 rintro e x2 ⟨hh, rfl, hh0, hh1, T, kk⟩
 replace kw := kw.nxb kk
 replace SX := SX.nxb kk
 clear kk
 obtain ⟨ht, rfl⟩ : ∃ t : Nat, hh = t := ⟨hh.toNat, by omega⟩
 have ht16 : ht ≤ 16 := by omega
 go_wp2_with fail
 refine (joined_t ht _ _ _ L _ T SX (by omega) hcX hmX H0.out (by omega)).mono ?_
 clear T
 rintro e x3 ⟨vJ, qs, P0, rfl, J⟩
 replace kw := kw.nxb J.k
 replace SX := (SX.nxb J.k).sl
 obtain ⟨aJ, cJ, rfl, PJ, _, _, _⟩ := J.own.pl
 have HC := Lib.hid J.conn
 have HF : Hid (FewQ 100 200 P0) := Lib.hid J.small
 have hPJ : P0.length = L.length := J.ids.1
 rw [hPJ] at PJ ⊢
 have TG := Lib.hid (T1.out.nxb hgt kw)
 have QX := Lib.hid (QL.out.nxb kw).1
 have HS := Lib.hid SX
 have HPJ := Lib.hid PJ
 have SM := Lib.hid (few_smallR HF.out)
 clear J SX kw PJ hPJ
 obtain ⟨m, hm⟩ : ∃ m : Nat, m = L.length * (ht + 1) := ⟨_, rfl⟩
 have hm1 : m ≤ 200 := by
  have : L.length * (ht + 1) ≤ 20 * 5 := Nat.mul_le_mul (by omega) (by omega)
  omega
 have hmi : (L.length : Int) * ((ht : Int) + 1) = (m : Int) := by rw [hm]; push_cast; rfl
 have hrn : rndsR (L.length : Int) (ht : Int) = (m : Int) := by unfold rndsR; rw [if_pos (by omega), hmi]
 have hwh : IntKind.i64.wrap ((ht : Int) + 1) = (ht : Int) + 1 := IntWalk.i64_in _ (by omega)
 have hwm : IntKind.i64.wrap ((L.length : Int) * ((ht : Int) + 1)) = (m : Int) := by rw [hmi]; exact IntWalk.i64_in _ (by omega)
 have HM := Lib.hid hm
 clear hm hmi
 have R1 := Lib.hid (run_law HW.out ht16 HC.out (r := (m : Int)) (by rw [HM.out]; exact Int.le_refl _))
 have R2 := Lib.hid (fun s => run_more HW.out ht16 HC.out (r := (m : Int)) (s := s) (by rw [HM.out]; exact Int.le_refl _))
 have RN := Lib.hid (needed_law HW.out ht16 HC.out)
 have RL1 := Lib.hid (run_len (P := P0) H0.out ht16 (m : Int))
 have RF := Lib.hid (run_few (N := L) (by omega) HF.out (ht : Int) (m : Int))
 have BO := Lib.hid (build_ok0 H0.out ht16)
 go_wp2_with fail
 (with_reducible refine (rounds18_p (L.length : Int) (ht : Int) _).mono ?_)
 rintro e w7 ⟨rfl, hw7⟩
 subst hw7
 rw [hrn]
 clear hrn
 go_wp2_with fail
 (with_reducible refine (run_p _ _ _ L _ _ _ P0 (ht : Int) (m : Int) _ HS.out (by omega) hcX hmX HW.out HPJ.out (by omega) SM.out).mono ?_)
 rintro e x4 ⟨v, q4, rfl, own, kk⟩
 replace TG := Lib.hid (TG.out.nx kk)
 replace QX := Lib.hid (QX.out.nx kk)
 replace HS := Lib.hid (HS.out.nx kk)
 replace HPJ := Lib.hid (HPJ.out.nx kk)
 obtain ⟨aA, cA, rfl, PA, _, _, _, _⟩ := own.pl
 clear own
 generalize repN L P0 (ht : Int) (m : Int) = A at PA R1 R2 RL1 RF ⊢
 rw [RL1.out] at PA ⊢
 replace PA := Lib.hid PA
 clear kk
 go_wp2_with fail
 refine (mod_any more 9 _ (by omega) (by omega)).mono ?_
 rintro e w8 ⟨rfl, hw8⟩
 subst hw8
 have R3 := Lib.hid (R2.out (more % 9))
 have RL3 := Lib.hid (run_len (P := A) H0.out ht16 (more % 9))
 have RF3 := Lib.hid (run_few (N := L) (by omega) RF.out (ht : Int) (more % 9))
 go_wp2_with fail
 (with_reducible refine (run_p _ _ _ L _ _ _ A (ht : Int) (more % 9) _ HS.out (by omega) hcX hmX HW.out PA.out (by omega) (few_smallR RF.out)).mono ?_)
 rintro e x5 ⟨v, q5, rfl, own, kk⟩
 replace TG := Lib.hid (TG.out.nx kk)
 replace QX := Lib.hid (QX.out.nx kk)
 replace HS := Lib.hid (HS.out.nx kk)
 replace HPJ := Lib.hid (HPJ.out.nx kk)
 replace PA := Lib.hid (PA.out.nx kk)
 obtain ⟨aB, cB, rfl, PB, _, _, _, _⟩ := own.pl
 clear own R2
 generalize repN L A (ht : Int) (more % 9) = B at PB R3 RL3 RF3 ⊢
 rw [RL3.out] at PB ⊢
 replace PB := Lib.hid PB
 clear kk
 go_wp2_with fail
 (with_reducible refine (needed_p _ _ _ L _ _ _ P0 (ht : Int) _ HS.out (by omega) hcX hmX HW.out TG.out HPJ.out (by omega) SM.out).mono ?_)
 rintro e x6 ⟨rfl, kk⟩
 replace TG := Lib.hid (TG.out.nx kk)
 replace QX := Lib.hid (QX.out.nx kk)
 replace HS := Lib.hid (HS.out.nx kk)
 replace HPJ := Lib.hid (HPJ.out.nx kk)
 replace PA := Lib.hid (PA.out.nx kk)
 replace PB := Lib.hid (PB.out.nx kk)
 obtain ⟨q, hq1, hq2⟩ := RN.out
 rw [hq1]
 rw [← HM.out] at hq2
 have g1 : (q : Int) ≥ 0 := by omega
 have g2 : (q : Int) ≤ (m : Int) := by omega
 clear RN hq1 hq2
 clear kk
 go_wp2_with fail
 (with_reducible refine (build_p _ _ _ L ht _ HS.out (by omega) hcX hmX HW.out TG.out).mono ?_)
 rintro e x7 ⟨v, qs, rfl, own, kk⟩
 replace TG := Lib.hid (TG.out.nx kk)
 replace QX := Lib.hid (QX.out.nx kk)
 replace HS := Lib.hid (HS.out.nx kk)
 replace HPJ := Lib.hid (HPJ.out.nx kk)
 replace PA := Lib.hid (PA.out.nx kk)
 replace PB := Lib.hid (PB.out.nx kk)
 obtain ⟨aW, cW, rfl, _⟩ := OwnLk.nl' own
 rw [BO.out.1, BO.out.2.1]
 clear own
 clear kk
 go_wp2_with fail
 (with_reducible refine (bexact_p _ _ _ L _ _ _ A ht _ HS.out (by omega) hcX hmX HW.out TG.out PA.out (by omega) (few_smallR RF.out)).mono ?_)
 rintro e x8 ⟨rfl, kk⟩
 replace TG := Lib.hid (TG.out.nx kk)
 replace QX := Lib.hid (QX.out.nx kk)
 replace HS := Lib.hid (HS.out.nx kk)
 replace HPJ := Lib.hid (HPJ.out.nx kk)
 replace PA := Lib.hid (PA.out.nx kk)
 replace PB := Lib.hid (PB.out.nx kk)
 rw [R1.out]
 clear kk
 go_wp2_with fail
 (with_reducible refine (bexact_p _ _ _ L _ _ _ B ht _ HS.out (by omega) hcX hmX HW.out TG.out PB.out (by omega) (few_smallR RF3.out)).mono ?_)
 rintro e x9 ⟨rfl, kk⟩
 replace TG := Lib.hid (TG.out.nx kk)
 replace QX := Lib.hid (QX.out.nx kk)
 replace HS := Lib.hid (HS.out.nx kk)
 replace HPJ := Lib.hid (HPJ.out.nx kk)
 replace PA := Lib.hid (PA.out.nx kk)
 replace PB := Lib.hid (PB.out.nx kk)
 rw [R3.out]
 clear kk
 go_wp2_with fail
 (with_reducible refine (sane18_x _ TG.out).mono ?_)
 rintro e y1 ⟨rfl, kk⟩
 replace TG := Lib.hid (TG.out.nx kk)
 replace QX := Lib.hid (QX.out.nx kk)
 replace HS := Lib.hid (HS.out.nx kk)
 replace HPJ := Lib.hid (HPJ.out.nx kk)
 replace PA := Lib.hid (PA.out.nx kk)
 replace PB := Lib.hid (PB.out.nx kk)
 clear kk
 go_wp2_with fail
 go_ret
 exact ⟨rfl, QX.out⟩
end Go.Proofs.YtofmcalfbpjoeaaGreatDoor
/-
 RepairReaches returns true for every list of numbers and every number, and leaves its arguments as they were.
 Condition: the table of math/bits and the letters of the keys are as the program text lays them (tied by the card).
-/
namespace Go.Proofs.YtofmcalfbpjoeaaGreatDoor
open Go.ChangeShapes Go.WideShapes Go.ChangeAt Go.RowKit Go.Deep Go.Joins
open Go.ChangeMaps (open_string shut_string)
set_option linter.unusedVariables false
theorem Tryz.cellsInt : Tryz.prog.cellsOf 3 = 1 := by kernel_rfl
set_option maxRecDepth 100000 in
set_option maxHeartbeats 1000000 in
theorem repairReaches_lifted (os : Os) (started : os.Started) (H : Type) (enc : TypeId × Value → H) :
  ReturnsInHanded {} Tryz.checked os 10 .any (fun w args => (Rows.repairReachesSpec.pre enc Tryz.prog Tryz.f10 [] false w args ∧ laidMetH Tryz.prog Rows.repairReachesRow.laid w) ∧ sizedMet enc Tryz.prog Tryz.f10 (OpenSpec.ofChange Rows.repairReachesSpec) false w args)
   (Rows.repairReachesSpec.post enc Tryz.prog Tryz.f10 false true false false) := by
 refine returnsInHanded_of_change_and (C := Tryz.checked) (X := fun w _ => laidMetH Tryz.prog Rows.repairReachesRow.laid w) (fun _ _ _ hh h => h.of_heap hh) own started (by kernel_rfl) Tryz.func10
  (ChangeSpec.witness_shaped (enc := enc) (C := Tryz.checked) (os := os) (X := fun w _ => laidMetH Tryz.prog Rows.repairReachesRow.laid w) false (World.doorLaid Tryz.prog 400 os) #[.slice none 0 0, .int .i64 0] 8 rfl (World.shaped_of_RefB (by kernel_rfl) (by kernel_rfl)) (by kernel_rfl) (by kernel_rfl) (by kernel_rfl) (laidMetH_of_parts3 (fuel := 8) (laidMet_of_run' 8 (by kernel_rfl) (by kernel_rfl)) (by kernel_rfl) (by kernel_rfl))) ?_
 intro W base args ds gs before hval0 hW _ _ hL _
 have hval : ∀ (j : Nat) t v, Tryz.f10.params[j]? = some t → args[j]? = some v → Value.okWide Tryz.prog W .any base t v := hval0
 have hW' := hW
 obtain ⟨p, q, hA0, hV, rfl, hfz, hnd⟩ := hW
 have hA : DataW.TrodAll enc Tryz.prog W 0 (fun _ => true) true Tryz.f10.params.toList args.toList ds p := hA0
 rw [Tryz.params10] at hA hval
 obtain ⟨v0, vs0, d0, ds0, p0, q0, hargs, rfl, rfl, h0, r0⟩ := trodAll_cons hA
 obtain ⟨v1, vs1, d1, ds1, p1, q1, rfl, rfl, rfl, h1, r1⟩ := trodAll_cons r0
 obtain ⟨rfl, rfl, rfl⟩ := trodAll_nil r1
 obtain rfl : args = #[v0, v1] := by cases args; simp_all
 obtain ⟨rfl, rfl⟩ := trodVars_none hV
 have k0 := h0
 have lt0 : ∀ x ∈ p0, x.block < W.heap.size := by obtain ⟨m, hm⟩ := k0; exact DataW.trod_lt m _ _ _ hm
 have k1 := h1
 have lt1 : ∀ x ∈ p1, x.block < W.heap.size := by obtain ⟨m, hm⟩ := k1; exact DataW.trod_lt m _ _ _ hm
 obtain ⟨A0, n0, cap0, l0, rfl, rd0, hc0, hm0, wf0, nl0⟩ := rd_ints Tryz.underlying22 Tryz.underlying3 Tryz.cellsInt (hval 0 22 v0 rfl rfl) h0
 obtain ⟨a1, rfl, rfl, rfl, wa1⟩ := open_int Tryz.underlying3 (hval 1 3 v1 rfl rfl) h1
 clear hA0 hval0
 have hT : TabG W := tabG_of hL (by kernel_rfl)
 have hL2 : LetG W := letG_second hL (by kernel_rfl) (by kernel_rfl)
 refine (repairreaches_walk A0 n0 cap0 l0 a1 W rd0 hc0 hm0 hT hL2).mono fun e W' ⟨he, hch⟩ => ?_
 have bel : Below W.heap.size W W' := hch.below (fun _ h => h)
 subst he
 exact ⟨_, rfl, _, _, _, [], _, [], hW', trodAll_mk1 (shut_bool Tryz.underlying4 _), (trodAll_cons_mk (Below.trod laidOut (by kernel_rfl) (of_decide_eq_true (by kernel_rfl)) k0 bel lt0) (trodAll_cons_mk (Below.trod laidOut (by kernel_rfl) (of_decide_eq_true (by kernel_rfl)) k1 bel lt1) trodAll_mk0)), rfl, bel.frame _, fun h => by cases h⟩
theorem repairReaches_over : Rows.repairReachesRow.holds Tryz.pinned (OpenSpec.ofChange Rows.repairReachesSpec) :=
 OpenClaim.holds_of_wide 10 Tryz.f10 rfl rfl rfl rfl rfl rfl rfl ⟨rfl, rfl, rfl, rfl, rfl⟩ rfl rfl rfl rfl rfl (by kernel_rfl) Tryz.func10 (by kernel_rfl)
  (of_decide_eq_true (by kernel_rfl)) (by unfold Func.isWrapper; first | (rw [if_pos (by decide +kernel)]; kernel_rfl) | (rw [if_neg (by decide +kernel)]; exact ⟨rfl, rfl⟩))
  (fun os started H enc _ => repairReaches_lifted os started H enc)
theorem RepairReaches_holds : Rows.RepairReachesCardSaid :=
 Claim7.holds_tied_plain_at .later [] [.data, .data] true (true, "5382a17f03ad80346d37b8e8ce80e9277767ee8e1a8a2278f259a77532a7d0ca") false
  repairReaches_over (fun _ h => by cases h) (by kernel_rfl) (fun _ h => by cases h) repairReaches_row_tie rfl ⟨rfl, rfl⟩ (by kernel_rfl) rfl
  (fun f fn hf hfn => by
   obtain rfl : f = 10 := Option.some.inj ((show Tryz.prog.funcNamed "skipgraph/skipgraphlaw18.RepairReaches" = some 10 by kernel_rfl).symm.trans hf) |>.symm
   obtain rfl : fn = Tryz.f10 := (Option.some.inj (Tryz.func10.symm.trans hfn)).symm
   exact ⟨by kernel_rfl, fun j t ht => by
    rw [Tryz.params10] at ht
    have hm : t ∈ [22, 3] := by simpa using Array.mem_of_getElem? ht
    have hall : ([22, 3].all fun u => !Tryz.prog.wantsStandIn u) = true := by kernel_rfl
    exact (show Tryz.prog.wantsStandIn t = false by simpa using List.all_eq_true.1 hall t hm)⟩)
  (by kernel_rfl)
#print axioms RepairReaches_holds
end Go.Proofs.YtofmcalfbpjoeaaGreatDoor
