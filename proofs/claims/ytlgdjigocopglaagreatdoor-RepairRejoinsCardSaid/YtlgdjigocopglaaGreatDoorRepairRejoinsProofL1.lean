/- Texts for RepairRejoinsProof. -/
import Derived.Test.YtlgdjigocopglaaGreatDoorRqABCDF1
import Derived.Test.YtlgdjigocopglaaGreatDoorRqCDE1
import Derived.Test.YtlgdjigocopglaaGreatDoorRqDE1
set_option linter.unusedSimpArgs false
set_option linter.unusedVariables false

namespace Go.Proofs.YtlgdjigocopglaaGreatDoor
open Go.RowKit
section
variable {eP eI eN : TypeId} {base : Nat} {w w1 : World} {v : Value} {qs : List PQ} {P : List Pr}
theorem OwnP.growK (hI : eP ≠ eI) (hN : eP ≠ eN) (hIN : eI ≠ eN) {g n cap : Nat} (h : OwnP eP eI eN base w (.slice (some ⟨g, 0, none⟩) n cap) qs P) {a : Nat} {p : Pr} {hk hn hk' : Hdr} {kn : List Int} (hq : qs[a]? = some (p.nums, hk, hn)) (hp : P[a]? = some p)
  (A : OwnL 1 encI eI base w1 hk'.val kn) (k1 : Chg (fun k => k < w.heap.size ∧ ¬ hk.val.ownBlock = some k) w w1) (la : ∀ g, hk'.val.ownBlock = some g → hk.val.ownBlock = some g ∨ w.heap.size ≤ g) :
  w1.cell? ⟨g, a * 5 + 1, none⟩ = some hk.val ∧ w1.frozen? ⟨g, a * 5 + 1, none⟩ = false ∧
   OwnP eP eI eN base (w1.setCell ⟨g, a * 5 + 1, none⟩ hk'.val) (.slice (some ⟨g, 0, none⟩) n cap) (qs.set a (p.nums, hk', hn)) (P.set a { p with known := kn }) := by
 have row1 : OwnW 5 encQ eP base w1 (.slice (some ⟨g, 0, none⟩) n cap) qs := h.1.chg k1 (fun x hx hv => ⟨hx, fun hh => h.neI hI hq hh hv⟩)
 obtain ⟨s1, s2, s3⟩ := OwnW.set1 encQ_len row1 hq (c := 1) (by omega)
 have ch := set_chg (g := g) (o := a * 5 + 1) w1 hk'.val
 obtain ⟨_, r2a, r3a⟩ := h.2.2.1 a _ p hq hp
 have nK : ∀ (j : Nat) (r : PQ) (d : Pr), j ≠ a → qs[j]? = some r → P[j]? = some d → OwnL 1 encI eI base (w1.setCell ⟨g, a * 5 + 1, none⟩ hk'.val) r.2.1.val d.known := fun j r d hj hr hd => by
  obtain ⟨_, r2, _⟩ := h.2.2.1 j r d hr hd
  refine (r2.chg k1 (fun x hx hv => ⟨hx, fun hh => hj (h.2.2.2.1 j a r _ x hr hq hv hh)⟩)).chg ch (fun x hx hv => ⟨hx, fun he => ?_⟩)
  subst he; exact h.neI hI hr hv rfl
 have nN : ∀ (j : Nat) (r : PQ) (d : Pr), qs[j]? = some r → P[j]? = some d → OwnL 4 encNr eN base (w1.setCell ⟨g, a * 5 + 1, none⟩ hk'.val) r.2.2.val d.near := fun j r d hr hd => by
  obtain ⟨_, _, r3⟩ := h.2.2.1 j r d hr hd
  refine (r3.chg k1 (fun x hx hv => ⟨hx, fun hh => ?_⟩)).chg ch (fun x hx hv => ⟨hx, fun he => ?_⟩)
  ·obtain ⟨_, c1, h1⟩ := r3.blk hv
   obtain ⟨_, c2, h2⟩ := r2a.blk hh
   exact blk_kind (fun e => hIN e.symm) h1 h2
  ·subst he; exact h.neN hN hr hv rfl
 have A2 : OwnL 1 encI eI base (w1.setCell ⟨g, a * 5 + 1, none⟩ hk'.val) hk'.val kn := A.chg ch (fun x hx hv => ⟨hx, fun he => by
  subst he
  obtain ⟨_, c1, h1⟩ := A.blk hv
  obtain ⟨_, c2, h2⟩ := row1.blk rfl
  exact blk_kind hI h2 h1⟩)
 refine ⟨s1, s2, h.upd (q' := (p.nums, hk', hn)) (p' := { p with known := kn }) (List.getElem?_eq_some_iff.1 hq).1 (s3 _ _ rfl) rfl A2 (show OwnL 4 encNr eN base _ hn.val p.near from nN a (p.nums, hk, hn) p hq hp) (fun j r d hj hr hd => ⟨nK j r d hj hr hd, nN j r d hr hd⟩) (fun j r g' hj hr hg hv => ?_) (fun j r g' hj hr hg hv => ?_)⟩
 ·rcases la g' hv with h1 | h1
  ·exact hj (h.2.2.2.1 j a r _ g' hr hq hg h1)
  ·obtain ⟨d, hd⟩ : ∃ d, P[j]? = some d := ⟨P[j]'(by have := (List.getElem?_eq_some_iff.1 hr).1; have := h.2.1; omega), by simp⟩
   have := ((h.2.2.1 j r d hr hd).2.1.lt g' hg).2
   omega
 ·exact hj (h.2.2.2.2 j a r _ g' hr hq hg hv)
end
def kl3 (p : Pr) : Int × Int × Int := (p.id, p.left, p.right)
theorem peer_kl3 : ∀ {P R : List Pr}, P.map kl3 = R.map kl3 → ∀ id, kl3 (peerN P id) = kl3 (peerN R id)
 | [], [], _, _ => rfl
 | [], r :: R, h, _ => by simp at h
 | p :: P, [], h, _ => by simp at h
 | p :: P, r :: R, h, id => by
  simp only [List.map_cons, List.cons.injEq] at h
  obtain ⟨h1, h3⟩ := h
  have hid : p.id = r.id := congrArg Prod.fst h1
  unfold peerN
  rw [List.find?_cons, List.find?_cons, hid]
  cases r.id == id with
  | true => exact h1
  | false => exact peer_kl3 h3 id
theorem kl3_set {P : List Pr} {a : Nat} {p p' : Pr} (hp : P[a]? = some p) (h : kl3 p' = kl3 p) : (P.set a p').map kl3 = P.map kl3 := by
 rw [List.map_set, h]
 apply List.ext_getElem?
 intro i
 by_cases hi : i = a
 ·subst hi
  rw [List.getElem?_set_self (by rw [List.length_map]; exact (List.getElem?_eq_some_iff.1 hp).1), List.getElem?_map, hp]
  rfl
 ·rw [List.getElem?_set_ne (fun h => hi h.symm)]
theorem exact_kl3 {N : List Nd} {P R : List Pr} (h : P.map kl3 = R.map kl3) (hE : exactL N R) : exactL N P := by
 refine ⟨hE.1, fun x hx => ?_⟩
 have hk := peer_kl3 h x.id
 have hl : (peerN P x.id).left = (peerN R x.id).left := congrArg (fun q => q.2.1) hk
 have hr : (peerN P x.id).right = (peerN R x.id).right := congrArg (fun q => q.2.2) hk
 rw [hl, hr]
 exact hE.2 x hx
theorem few_setN {P : List Pr} {a : Nat} {p : Pr} (h : FewQ 100 200 P) (h1 : p.known.length ≤ 100) (h2 : p.near.length ≤ 200) : FewQ 100 200 (P.set a p) := fun q hq => by
 rcases List.mem_or_eq_of_mem_set hq with hq | rfl
 ·exact h q hq
 ·exact ⟨h1, h2⟩
theorem OwnP.nearIn {eP eI eN : TypeId} {base : Nat} {w w1 : World} {v : Value} {qs : List PQ} {P : List Pr} (hI : eP ≠ eI) (hN : eP ≠ eN) (hIN : eI ≠ eN) (h : OwnP eP eI eN base w v qs P) {a : Nat} {p : Pr} {hk hn : Hdr} {nr : List Nr} (hq : qs[a]? = some (p.nums, hk, hn)) (hp : P[a]? = some p)
  (A : OwnL 4 encNr eN base w1 hn.val nr) (k1 : Chg (fun k => k < w.heap.size ∧ ¬ hn.val.ownBlock = some k) w w1) : OwnP eP eI eN base w1 v qs (P.set a { p with near := nr }) := by
 have row1 : OwnW 5 encQ eP base w1 v qs := h.1.chg k1 (fun x hx hv => ⟨hx, fun hh => h.neN hN hq hh hv⟩)
 obtain ⟨_, r2a, r3a⟩ := h.2.2.1 a _ p hq hp
 have nK : ∀ (j : Nat) (r : PQ) (d : Pr), qs[j]? = some r → P[j]? = some d → OwnL 1 encI eI base w1 r.2.1.val d.known := fun j r d hr hd => by
  obtain ⟨_, r2, _⟩ := h.2.2.1 j r d hr hd
  refine r2.chg k1 (fun x hx hv => ⟨hx, fun hh => ?_⟩)
  obtain ⟨_, c1, h1⟩ := r2.blk hv
  obtain ⟨_, c2, h2⟩ := r3a.blk hh
  exact blk_kind hIN h1 h2
 refine ⟨row1, by rw [List.length_set]; exact h.2.1, fun j r d hr hd => ?_, h.2.2.2⟩
 by_cases hja : j = a
 ·subst hja
  rw [List.getElem?_set_self (List.getElem?_eq_some_iff.1 hp).1] at hd
  rw [hq] at hr
  cases hr
  cases hd
  exact ⟨rfl, nK j _ p hq hp, A⟩
 ·rw [List.getElem?_set_ne (fun e => hja e.symm)] at hd
  obtain ⟨r1, _, r3⟩ := h.2.2.1 j r d hr hd
  exact ⟨r1, nK j r d hr hd, r3.chg k1 (fun x hx hv => ⟨hx, fun hh => hja (h.2.2.2.2 j a r _ x hr hq hv hh)⟩)⟩
theorem near_set4 {e base g n cap j : Nat} {w : World} {L : List Nr} {y : Nr} (h : OwnL 4 encNr e base w (.slice (some ⟨g, 0, none⟩) n cap) L) (hy : L[j]? = some y) (a b c d : Int) :
  w.cell? ⟨g, j * 4, none⟩ = some (.int .i64 y.1) ∧ w.cell? ⟨g, j * 4 + 1, none⟩ = some (.int .i64 y.2.1) ∧ w.cell? ⟨g, j * 4 + 2, none⟩ = some (.int .i64 y.2.2.1) ∧ w.cell? ⟨g, j * 4 + 3, none⟩ = some (.int .i64 y.2.2.2) ∧
  w.frozen? ⟨g, j * 4, none⟩ = false ∧ w.frozen? ⟨g, j * 4 + 1, none⟩ = false ∧ w.frozen? ⟨g, j * 4 + 2, none⟩ = false ∧ w.frozen? ⟨g, j * 4 + 3, none⟩ = false ∧
   OwnL 4 encNr e base ((((w.setCell ⟨g, j * 4, none⟩ (.int .i64 a)).setCell ⟨g, j * 4 + 1, none⟩ (.int .i64 b)).setCell ⟨g, j * 4 + 2, none⟩ (.int .i64 c)).setCell ⟨g, j * 4 + 3, none⟩ (.int .i64 d)) (.slice (some ⟨g, 0, none⟩) n cap) (L.set j (a, b, c, d)) := by
 have hj := (List.getElem?_eq_some_iff.1 hy).1
 obtain ⟨⟨s1, s2⟩, ⟨f1, f2⟩, h4⟩ := near_setL h hy a b
 obtain ⟨⟨s3, s4⟩, ⟨f3, f4⟩, _⟩ := near_setR h hy c d
 obtain ⟨_, _, h5⟩ := near_setR h4 (List.getElem?_set_self hj) c d
 rw [List.set_set] at h5
 exact ⟨s1, s2, s3, s4, f1, f2, f3, f4, h5⟩
def RjRel (L : List Nd) (b s g n c : Nat) (K0 : List (Int × Int × Int)) (w1 : World) (i : Value) (wr : World) : Prop :=
 ∃ (k : Nat) (qs : List PQ) (P : List Pr), k ≤ 8 ∧ i = .int .i64 k ∧ OwnPr s wr (.slice (some ⟨g, 0, none⟩) n c) qs P ∧ P.map kl3 = K0 ∧ FewQ 100 200 P ∧ P.length = n ∧ TK wr b ∧ Exb b w1 wr
set_option maxRecDepth 100000 in
set_option maxHeartbeats 16000000 in
theorem repairrejoins_walk (a1 : Option Addr) (n1 c1 : Nat) (l1 : List Int) (w : World) (h1 : Sl 1 encI w a1 n1 l1) (hc1 : n1 ≤ c1) (hm1 : c1 ≤ maxLen) (hT : TabG w) (hL : LetG w) :
  Calls Tryz.prog 6 #[.slice a1 n1 c1] w fun e w' => e = .returned (.bool true) ∧ Ex w w' := by
 go_enter Tryz.func6, Tryz.ntmps6
 go_wp2_with fail
 refine (new_t _ _ _ l1 _ h1 hc1 hm1).mono ?_
 rintro e w1 ⟨rfl, T, kk, z1⟩
 obtain ⟨b, hb⟩ : ∃ b, b = w.heap.size := ⟨_, rfl⟩
 rw [← hb] at T ⊢
 have hgt : ¬ 1 = b := by have := hT.lt; omega
 have hgl : ¬ 0 = b := by have := hL.lt; omega
 have T1 : Hid (TabG w1) := lH (hT.nx kk)
 have L1 : Hid (LetG w1) := lH (hL.nx kk)
 have QL : Hid (Exl b w w1) := lH ⟨kk, by omega⟩
 clear h1 hT hL kk hb z1
 have hbo := T.lt
 go_wp2_with fail
 refine (some_n 7 _ T L1.out hgl (by omega) (by omega)).mono ?_
 clear T
 rintro e x1 ⟨v1, L, rfl, R, hL1⟩
 have kw := R.k
 have T := R.tape
 obtain ⟨aX, cX, rfl, SX, hcX, hmX, _⟩ := R.own.slf (fun _ => rfl)
 have SX := SX.slb hbo
 have RL := R.len
 have H0 := lH R.ok
 have HW : Hid (∀ x ∈ L, x.word < 4294967296) := lH (fun x hx => by have := R.word x hx; omega)
 have HI : Hid (∀ x ∈ L, I64 x.id) := lH (fun x hx => (roster_ok R.ok x hx).1.1)
 clear R
 go_wp2_with fail
 refine (next_t 3 _ T (by omega) (by omega)).mono ?_
 clear T
 rintro e x2 ⟨h0, rfl, h00, h01, T, kk⟩
 replace kw := kw.nxb kk
 replace SX := SX.nxb kk
 clear kk
 obtain ⟨ht, hht⟩ : ∃ t : Nat, 1 + h0 = t := ⟨(1 + h0).toNat, by omega⟩
 have hwh0 : IntKind.i64.wrap (1 + h0) = (ht : Int) := by rw [hht]; exact IntWalk.i64_in _ (by omega)
 have ht1 : 1 ≤ ht := by omega
 have ht3 : ht ≤ 3 := by omega
 have ht16 : ht ≤ 16 := by omega
 clear h00 h01 hht
 have KW := lH kw
 have SXH := lH SX
 have TH := lH T
 have hb2 := T.lt
 clear kw SX T
 go_wp2_with fail
 (with_reducible refine (peers_p _ _ _ L 1 (ht : Int) _ SXH.out.sl (by omega) hcX hmX HW.out (T1.out.nxb hgt KW.out)).mono ?_)
 rintro e x3 ⟨v, qs, rfl, own, kk⟩
 have E0 := lH (show exactL L (peersN L 1 ht) from (peers_fullN H0.out 1 ht16).1)
 have F0 := lH (peers_sm (N := L) 1 ht16 (by omega))
 have PL0 := lH (peers_len H0.out 1 ht16)
 generalize peersN L 1 (ht : Int) = P0 at own E0 F0 PL0
 obtain ⟨aP, cP, rfl, _, _, _, hPg, _⟩ := own.pl
 obtain ⟨g, hge, hgb⟩ := hPg (fun h => by have := PL0.out; rw [h] at this; simp at this; omega)
 subst hge
 obtain ⟨s, hs⟩ : ∃ s, s = x2.heap.size := ⟨_, rfl⟩
 have HSS := lH hs
 rw [← hs] at own hgb hb2
 rw [PL0.out] at own ⊢
 have OWN := lH own
 have KB := lH (kk.b b)
 have T := TH.out.nx kk
 clear own kk hPg TH hs
 go_wp2_with fail
 refine (next_t 8 _ T (by omega) (by omega)).mono ?_
 clear T
 rintro e x4 ⟨r, rfl, r0, r1, T, kk⟩
 obtain ⟨r, rfl⟩ := Int.eq_ofNat_of_zero_le r0
 replace KB := lH (KB.out.nxb kk)
 replace OWN := lH (OWN.out.nxb hb2 kk)
 clear kk
 go_wp2_with fail
 go_loopw [7] (fun i wr => RjRel L b s g L.length cP (P0.map kl3) x2 i wr) (fun i _ => (intOf i).toNat)
 case atStart => exact ⟨r, qs, P0, by omega, rfl, OWN.out, rfl, F0.out, PL0.out, T, KB.out⟩
 case round =>
  clear T r0 r1
  obtain ⟨k, qz, P, hk8, rfl, own, hK, hF, hPl, T, kz⟩ := hrel
  obtain ⟨wo, rfl⟩ : ∃ wo : World, wo = wr := ⟨_, rfl⟩
  have KZ := lH kz
  have HK := lH hK
  have HF := lH hF
  have OWK := lH own
  clear kz hK hF own
  by_cases hk0 : 0 < k
  ·have hki : (k : Int) > 0 := by omega
   have hkw : IntKind.i64.wrap ((k : Int) - 1) = (k : Int) - 1 := IntWalk.i64_in _ (by omega)
   go_wp2_with fail
   refine (next_t (L.length : Int) _ T (by omega) (by omega)).mono ?_
   clear T
   rintro e w2 ⟨j, rfl, j0, j1, T, kk⟩
   obtain ⟨j, rfl⟩ := Int.eq_ofNat_of_zero_le j0
   have hjL : j < L.length := by omega
   have hji : (j : Int) < (L.length : Int) := by omega
   obtain ⟨p, hp⟩ : ∃ p, P[j]? = some p := ⟨P[j]'(by omega), by simp⟩
   have own := OWK.out.nxb hb2 kk
   replace KZ := lH (KZ.out.nxb kk)
   obtain ⟨⟨B1, k1, f1⟩, ⟨B4, k4, f4⟩, hq, _, _⟩ := own.get hp
   obtain ⟨s1, s2, O3⟩ := own.growK (hk' := (none, 0, 0)) (kn := []) (by decide) (by decide) (by decide) hq hp (OwnL.nil _ _ _ _ _) (Chg.refl _ _) (fun g h => by simp [Hdr.val, Value.ownBlock] at h)
   simp only [Hdr.val] at s1 O3
   obtain ⟨w3, hw3⟩ : ∃ w3, w3 = w2.setCell ⟨g, j * 5 + 1, none⟩ (.slice none 0 0) := ⟨_, rfl⟩
   rw [← hw3] at O3
   have T3 : TK w3 b := by rw [hw3]; exact T.set (p := ⟨g, j * 5 + 1, none⟩) _ (show b < g by omega)
   have KZ3 := lH (show Exb b x2 w3 by rw [hw3]; exact KZ.out.setNew (p := ⟨g, j * 5 + 1, none⟩) _ (by rw [← HSS.out]; exact hgb))
   have HP2 : Hid ((P.set j { p with known := [] })[j]? = some { p with known := [] }) := lH (List.getElem?_set_self (by omega))
   have HQ2 : Hid ((qz.set j (p.nums, (none, 0, 0), (B4, k4, f4)))[j]? = some (({ p with known := [] } : Pr).nums, (none, 0, 0), (B4, k4, f4))) := lH (List.getElem?_set_self (List.getElem?_eq_some_iff.1 hq).1)
   have HK2 := lH ((kl3_set (p' := { p with known := [] }) hp rfl).trans HK.out)
   have hfp := HF.out p (List.mem_of_getElem? hp)
   have HF2 := lH (few_setN (a := j) (p := { p with known := [] }) HF.out (by simp) hfp.2)
   have hP2l : (P.set j { p with known := [] }).length = L.length := by rw [List.length_set]; exact hPl
   obtain ⟨_, _, oN⟩ := O3.2.2.1 j _ _ HQ2.out HP2.out
   obtain ⟨a4, c4', e4, _, hc4, _, ha4⟩ := oN.rd (fun _ => rfl)
   simp only [Hdr.val] at e4
   injection e4 with e4a e4b e4c
   have c4 : w3.cell? ⟨g, j * 5 + 4, none⟩ = some (.slice B4 k4 f4) := (OwnW.set1 encQ_len O3.1 HQ2.out (c := 4) (by omega)).1
   have hgo : g < w3.heap.size := OwnW.blk_lt O3.1 rfl
   have O3H := lH O3
   have ON := lH oN
   have Hw3 := lH hw3
   have hnl : k4 = ({ p with known := [] } : Pr).near.length := e4b
   have C4 : Hid (∀ wq, Exb b w3 wq → wq.cell? ⟨g, j * 5 + 4, none⟩ = some (.slice B4 k4 f4)) := lH (fun wq kq => Chg.cellv kq c4 ⟨hgo, show ¬ g = b by omega⟩)
   generalize ({ p with known := [] } : Pr) = p2 at HP2 HQ2 HK2 HF2 hP2l O3H ON hnl ha4
   have HA4 := lH ha4
   have HE4 := lH e4a
   have HT3 := lH T3
   have hkk : k - 1 ≤ 8 := by omega
   have hkc : ((k - 1 : Nat) : Int) = (k : Int) - 1 := by omega
   clear O3 oN hw3 T hq hp own kk hfp e4a e4b e4c ha4 j0 j1 hc4
   go_upto_region 11 with fail
   rw [← Hw3.out]
   clear s1 s2 Hw3
   by_cases hkn : k4 = ht
   ·have dl : ((k4 : Int) == (ht : Int)) = true := by simp [hkn]
    obtain ⟨g4, hg4, hgb4⟩ := HA4.out (fun h => by rw [h] at hnl; simp at hnl; omega)
    have hB4 : B4 = some ⟨g4, 0, none⟩ := HE4.out.trans hg4
    subst hB4
    go_upto_region 12 with fail
    clear c4 dl
    have T3 : TK w3.drew b := HT3.out.nx (Ex.refl w3).drew
    clear HT3
    refine wp_region_late_drew (S := Exb b w3) [21] (by kernel_rfl) ((Exb.refl b w3).drew) (fun hHeld => ?_)
    refine tkL 0 (v := ?_) rfl (by kernel_rfl) (fun _ _ _ h => h) (by rfl) ?y1x0q1 (by assumption) ?z1x0q1
    case y1x0q1 => intro wq hSw; (go_simp); (try with_reducible rfl)
    refine tkL 1 (v := ?_) rfl (by kernel_rfl) (fun _ _ _ h => h) (by rfl) ?y1x1q4 (by assumption) ?z1x1q4
    case y1x1q4 => intro wq hSw; (go_simp); (try with_reducible rfl)
    refine tkL 2 (v := ?_) rfl (by kernel_rfl) (fun _ _ _ h => h) (by rfl) ?y1x2q7 (by assumption) ?z1x2q7
    case y1x2q7 => intro wq hSw; (go_simp); (try with_reducible rfl)
    refine tkL 3 (v := ?_) rfl (by kernel_rfl) (fun _ _ _ h => h) (by rfl) ?y1x3q10 (by assumption) ?z1x3q10
    case y1x3q10 => intro wq hSw; (have cq := C4.out wq hSw; go_simp); (try with_reducible rfl)
    refine tkL 4 (v := ?_) rfl (by kernel_rfl) (fun _ _ _ h => h) (by rfl) ?y1x4q13 (by assumption) ?z1x4q13
    case y1x4q13 => intro wq hSw; (go_simp); (try with_reducible rfl)
    refine tkL 5 (v := ?_) rfl (by kernel_rfl) (fun _ _ _ h => h) (by rfl) ?y1x5q16 (by assumption) ?z1x5q16
    case y1x5q16 => intro wq hSw; (go_simp); (try with_reducible rfl)
    refine tkL 7 (v := ?_) rfl (by kernel_rfl) (fun _ _ _ h => h) (by rfl) ?y1x7q19 (by assumption) ?z1x7q19
    case y1x7q19 => intro wq hSw; (go_simp); (try with_reducible rfl)
    refine tkL 8 (v := ?_) rfl (by kernel_rfl) (fun _ _ _ h => h) (by rfl) ?y1x8q22 (by assumption) ?z1x8q22
    case y1x8q22 => intro wq hSw; (go_simp); (try with_reducible rfl)
    refine tkL 10 (v := ?_) rfl (by kernel_rfl) (fun _ _ _ h => h) (by rfl) ?y1x10q25 (by assumption) ?z1x10q25
    case y1x10q25 => intro wq hSw; (go_simp); (try with_reducible rfl)
    refine tkL 13 (v := ?_) rfl (by kernel_rfl) (fun _ _ _ h => h) (by rfl) ?y1x13q28 (by assumption) ?z1x13q28
    case y1x13q28 => intro wq hSw; (go_simp); (try with_reducible rfl)
    refine tkL 14 (v := ?_) rfl (by kernel_rfl) (fun _ _ _ h => h) (by rfl) ?y1x14q31 (by assumption) ?z1x14q31
    case y1x14q31 => intro wq hSw; (go_simp); (try with_reducible rfl)
    refine tkL 16 (v := ?_) rfl (by kernel_rfl) (fun _ _ _ h => h) (by rfl) ?y1x16q34 (by assumption) ?z1x16q34
    case y1x16q34 => intro wq hSw; (go_simp); (try with_reducible rfl)
    refine wpAnyL_ready (rs := [6]) (by kernel_rfl) (by simp) ?_
    refine AllReadyL.cons (o := ⟨_, _, _, _, _, _⟩) rfl (fun K hK => ?_) AllReadyL.nil
    go_simp
    refine (next_t (ht : Int) _ T3 (by omega) (by omega)).mono ?_
    clear T3
    rintro e y1 ⟨ix, rfl, i0, i1, T3, kk⟩
    replace hHeld := hHeld.nxb kk
    clear kk
    obtain ⟨ix, rfl⟩ := Int.eq_ofNat_of_zero_le i0
    have hix : ix < p2.near.length := by omega
    have hixi : (ix : Int) < (k4 : Int) := by omega
    refine hK.out _ _ (hHeld) (fun hHeld => ?_)
    clear hK K
    refine wpAnyL_ready (rs := [9]) (by kernel_rfl) (by simp) ?_
    refine AllReadyL.cons (o := ⟨_, _, _, _, _, _⟩) rfl (fun K hK => ?_) AllReadyL.nil
    go_simp
    refine (id_t _ _ _ L _ T3 (SXH.out.nxb (KZ3.out.nxb hHeld)) (by omega) HI.out).mono ?_
    clear T3
    rintro e y2 ⟨d1, rfl, _, T3, kk⟩
    replace hHeld := hHeld.nxb kk
    clear kk
    refine hK.out _ _ (hHeld) (fun hHeld => ?_)
    clear hK K
    refine wpAnyL_ready (rs := [11]) (by kernel_rfl) (by simp) ?_
    refine AllReadyL.cons (o := ⟨_, _, _, _, _, _⟩) rfl (fun K hK => ?_) AllReadyL.nil
    go_simp
    refine (next_t 2 _ T3 (by omega) (by omega)).mono ?_
    clear T3
    rintro e y3 ⟨u1, rfl, u10, u11, T3, kk⟩
    replace hHeld := hHeld.nxb kk
    clear kk
    refine hK.out _ _ (hHeld) (fun hHeld => ?_)
    clear hK K
    refine tkL 12 (v := ?_) rfl (by kernel_rfl) (fun _ _ _ h => h) (by rfl) ?y1x12q73 (by assumption) ?z1x12q73
    case y1x12q73 => intro wq hSw; (go_simp); (try with_reducible rfl)
    refine wpAnyL_ready (rs := [15]) (by kernel_rfl) (by simp) ?_
    refine AllReadyL.cons (o := ⟨_, _, _, _, _, _⟩) rfl (fun K hK => ?_) AllReadyL.nil
    go_simp
    refine (id_t _ _ _ L _ T3 (SXH.out.nxb (KZ3.out.nxb hHeld)) (by omega) HI.out).mono ?_
    clear T3
    rintro e y4 ⟨d2, rfl, _, T3, kk⟩
    replace hHeld := hHeld.nxb kk
    clear kk
    refine hK.out _ _ (hHeld) (fun hHeld => ?_)
    clear hK K
    refine wpAnyL_ready (rs := [17]) (by kernel_rfl) (by simp) ?_
    refine AllReadyL.cons (o := ⟨_, _, _, _, _, _⟩) rfl (fun K hK => ?_) AllReadyL.nil
    go_simp
    refine (next_t 2 _ T3 (by omega) (by omega)).mono ?_
    clear T3
    rintro e y5 ⟨u2, rfl, u20, u21, T3, kk⟩
    replace hHeld := hHeld.nxb kk
    clear kk
    refine hK.out _ _ (hHeld) (fun hHeld => ?_)
    clear hK K
    refine tkL 18 (v := ?_) rfl (by kernel_rfl) (fun _ _ _ h => h) (by rfl) ?y1x18q98 (by assumption) ?z1x18q98
    case y1x18q98 => intro wq hSw; (go_simp); (try with_reducible rfl)
    refine tkL 19 (v := ?_) rfl (by kernel_rfl) (fun _ _ _ h => h) (by rfl) ?y1x19q101 (by assumption) ?z1x19q101
    case y1x19q101 => intro wq hSw; (go_simp); (try with_reducible rfl)
    refine tkL 20 (v := ?_) rfl (by kernel_rfl) (fun _ _ _ h => h) (by rfl) ?y1x20q104 (by assumption) ?z1x20q104
    case y1x20q104 => intro wq hSw; (go_simp); (try with_reducible rfl)
    refine wpAnyL_ready (rs := [21]) (by kernel_rfl) (by simp) ?_
    refine AllReadyL.consL (o := ⟨_, _, _, _, _, _⟩) rfl (by rfl) (fun K hK => ?_) AllReadyL.nil
    obtain ⟨c0, c1, c2, c3, q0, q1, q2, q3, O4⟩ := near_set4 (y := p2.near[ix]) (ON.out.nxb hb2 hHeld) (List.getElem?_eq_getElem hix) (IntKind.i64.wrap (d1 * u1)) 0 0 (IntKind.i64.wrap (d2 * u2))
    go_simp
    clear c0 c1 c2 c3 q0 q1 q2 q3
    refine hK.out _ _ ?_
    clear hK K
    refine wpAnyL_done (by kernel_rfl) ?_ _
    obtain ⟨w9, hw9⟩ : ∃ w9, w9 = (((y5.setCell ⟨g4, ix * 4, none⟩ (.int .i64 (IntKind.i64.wrap (d1 * u1)))).setCell ⟨g4, ix * 4 + 1, none⟩ (.int .i64 0)).setCell ⟨g4, ix * 4 + 2, none⟩ (.int .i64 0)).setCell ⟨g4, ix * 4 + 3, none⟩ (.int .i64 (IntKind.i64.wrap (d2 * u2))) := ⟨_, rfl⟩
    rw [← hw9] at O4 ⊢
    have ch : Chg (fun k => k < y5.heap.size ∧ ¬ (Hdr.val (some ⟨g4, 0, none⟩, k4, f4)).ownBlock = some k) y5 w9 := by rw [hw9]; exact ((((Chg.refl _ y5).setCell (p := ⟨g4, ix * 4, none⟩) _ (fun k hk => fun he => hk.2 (by rw [show k = g4 from he]; rfl))).setCell (p := ⟨g4, ix * 4 + 1, none⟩) _ (fun k hk => fun he => hk.2 (by rw [show k = g4 from he]; rfl))).setCell (p := ⟨g4, ix * 4 + 2, none⟩) _ (fun k hk => fun he => hk.2 (by rw [show k = g4 from he]; rfl))).setCell (p := ⟨g4, ix * 4 + 3, none⟩) _ (fun k hk => fun he => hk.2 (by rw [show k = g4 from he]; rfl))
    have O5 := (O3H.out.nxb hb2 hHeld).nearIn (by decide) (by decide) (by decide) HQ2.out HP2.out O4 ch
    have T9 : TK w9 b := by rw [hw9]; exact (((T3.set (p := ⟨g4, ix * 4, none⟩) _ (show b < g4 by omega)).set (p := ⟨g4, ix * 4 + 1, none⟩) _ (show b < g4 by omega)).set (p := ⟨g4, ix * 4 + 2, none⟩) _ (show b < g4 by omega)).set (p := ⟨g4, ix * 4 + 3, none⟩) _ (show b < g4 by omega)
    have hgs : x2.heap.size ≤ g4 := by rw [← HSS.out]; exact hgb4
    have K9 : Exb b x2 w9 := by rw [hw9]; exact ((((KZ3.out.nxb hHeld).setNew (p := ⟨g4, ix * 4, none⟩) _ hgs).setNew (p := ⟨g4, ix * 4 + 1, none⟩) _ hgs).setNew (p := ⟨g4, ix * 4 + 2, none⟩) _ hgs).setNew (p := ⟨g4, ix * 4 + 3, none⟩) _ hgs
    have hf2 := HF2.out p2 (List.mem_of_getElem? HP2.out)
    have FN := lH (show RjRel L b s g L.length cP (P0.map kl3) x2 (.int .i64 ((k : Int) - 1)) w9 from ⟨k - 1, _, _, hkk, by rw [hkc], O5, (kl3_set (p' := { p2 with near := p2.near.set ix (IntKind.i64.wrap (d1 * u1), 0, 0, IntKind.i64.wrap (d2 * u2)) }) HP2.out rfl).trans HK2.out, few_setN HF2.out hf2.1 (by rw [List.length_set]; exact hf2.2), by rw [List.length_set]; exact hP2l, T9, K9⟩)
    clear O4 O5 ch T9 K9 hw9 T3 hHeld hf2
    go_wp2_with fail
    exact ⟨FN.out, by simp [intOf]; omega⟩
   ·have dl : ((k4 : Int) == (ht : Int)) = false := by simp; omega
    have FN := lH (show RjRel L b s g L.length cP (P0.map kl3) x2 (.int .i64 ((k : Int) - 1)) w3 from ⟨k - 1, _, _, hkk, by rw [hkc], O3H.out, HK2.out, HF2.out, hP2l, HT3.out, KZ3.out⟩)
    clear HT3 hnl hkn
    go_wp2_with fail
    exact ⟨FN.out, by simp [intOf]; omega⟩
  ·obtain rfl : k = 0 := by omega
   have TG := lH (T1.out.nxb hgt (KW.out.nxb KZ.out))
   have QX := lH (QL.out.nxb (KW.out.nxb KZ.out)).1
   have HS := lH (SXH.out.nxb KZ.out).sl
   have HC : Hid (ConnN L P) := lH (exact_conn (exact_kl3 HK.out E0.out))
   have CB := lH (connB_iff.2 HC.out)
   have PP : Hid (PL wo (some ⟨g, 0, none⟩) L.length P) := lH (by
    obtain ⟨_, _, e, q, _⟩ := OWK.out.pl
    injection e with e1 e2 e3
    subst e1
    rw [← e2] at q
    exact q)
   clear T OWK hk0 hk8
   obtain ⟨m, hm⟩ : ∃ m : Nat, m = L.length * (ht + 1) := ⟨_, rfl⟩
   have hm1 : m ≤ 200 := by
    have : L.length * (ht + 1) ≤ 20 * 5 := Nat.mul_le_mul (by omega) (by omega)
    omega
   have hmi : (L.length : Int) * ((ht : Int) + 1) = (m : Int) := by rw [hm]; push_cast; rfl
   have hrn : rndsR (L.length : Int) (ht : Int) = (m : Int) := by unfold rndsR; rw [if_pos (by omega), hmi]
   have hwh : IntKind.i64.wrap ((ht : Int) + 1) = (ht : Int) + 1 := IntWalk.i64_in _ (by omega)
   have hwm : IntKind.i64.wrap ((L.length : Int) * ((ht : Int) + 1)) = (m : Int) := by rw [hmi]; exact IntWalk.i64_in _ (by omega)
   have HM := lH hm
   clear hm hmi
   have R1 := lH (run_law HW.out ht16 HC.out (r := (m : Int)) (by rw [HM.out]; exact Int.le_refl _))
   have RL1 := lH (run_len (P := P) H0.out ht16 (m : Int))
   have RF := lH (run_few (N := L) (by omega) HF.out (ht : Int) (m : Int))
   go_wp2_with fail
   (with_reducible refine (rounds18_p (L.length : Int) (ht : Int) _).mono ?_)
   rintro e w7 ⟨rfl, hw7⟩
   subst hw7
   rw [hrn]
   clear hrn
   go_wp2_with fail
   (with_reducible refine (connected_p _ _ _ L _ _ _ P _ HS.out (by omega) hcX hmX PP.out (by omega) (few_connR HF.out)).mono ?_)
   rintro e y5 ⟨rfl, kk⟩
   replace TG := lH (TG.out.nx kk)
   replace QX := lH (QX.out.nx kk)
   replace HS := lH (HS.out.nx kk)
   replace PP := lH (PP.out.nx kk)
   rw [CB.out]
   clear kk
   go_wp2_with fail
   (with_reducible refine (run_p _ _ _ L _ _ _ P (ht : Int) (m : Int) _ HS.out (by omega) hcX hmX HW.out PP.out (by omega) (few_smallR HF.out)).mono ?_)
   rintro e y4 ⟨v, q4, rfl, own, kk⟩
   replace TG := lH (TG.out.nx kk)
   replace QX := lH (QX.out.nx kk)
   replace HS := lH (HS.out.nx kk)
   replace PP := lH (PP.out.nx kk)
   obtain ⟨aA, cA, rfl, PA, _, _, _, _⟩ := own.pl
   clear own
   generalize repN L P (ht : Int) (m : Int) = A at PA R1 RL1 RF ⊢
   rw [RL1.out] at PA ⊢
   replace PA := lH PA
   clear kk
   go_wp2_with fail
   (with_reducible refine (bexact_p _ _ _ L _ _ _ A ht _ HS.out (by omega) hcX hmX HW.out TG.out PA.out (by omega) (few_smallR RF.out)).mono ?_)
   rintro e y6 ⟨rfl, kk⟩
   replace TG := lH (TG.out.nx kk)
   replace QX := lH (QX.out.nx kk)
   replace HS := lH (HS.out.nx kk)
   replace PP := lH (PP.out.nx kk)
   replace PA := lH (PA.out.nx kk)
   rw [R1.out]
   clear kk
   go_wp2_with fail
   (with_reducible refine (sane18_x _ TG.out).mono ?_)
   rintro e y7 ⟨rfl, kk⟩
   replace TG := lH (TG.out.nx kk)
   replace QX := lH (QX.out.nx kk)
   replace HS := lH (HS.out.nx kk)
   replace PP := lH (PP.out.nx kk)
   replace PA := lH (PA.out.nx kk)
   clear kk
   go_wp2_with fail
   go_ret
   exact ⟨rfl, QX.out⟩
end Go.Proofs.YtlgdjigocopglaaGreatDoor
/-
 RepairRejoins returns true for every list of numbers, and leaves its arguments as they were.
 Condition: the table of math/bits and the letters of the keys are as the program text lays them (tied by the card).
-/
namespace Go.Proofs.YtlgdjigocopglaaGreatDoor
open Go.ChangeShapes Go.WideShapes Go.ChangeAt Go.RowKit Go.Deep Go.Joins
open Go.ChangeMaps (open_string shut_string)
set_option linter.unusedVariables false
theorem Tryz.cellsInt : Tryz.prog.cellsOf 3 = 1 := by kernel_rfl
set_option maxRecDepth 100000 in
set_option maxHeartbeats 1000000 in
theorem repairRejoins_lifted (os : Os) (started : os.Started) (H : Type) (enc : TypeId × Value → H) :
  ReturnsInHanded {} Tryz.checked os 6 .any (fun w args => (Rows.repairRejoinsSpec.pre enc Tryz.prog Tryz.f6 [] false w args ∧ laidMetH Tryz.prog Rows.repairRejoinsRow.laid w) ∧ sizedMet enc Tryz.prog Tryz.f6 (OpenSpec.ofChange Rows.repairRejoinsSpec) false w args)
   (Rows.repairRejoinsSpec.post enc Tryz.prog Tryz.f6 false true false false) := by
 refine returnsInHanded_of_change_and (C := Tryz.checked) (X := fun w _ => laidMetH Tryz.prog Rows.repairRejoinsRow.laid w) (fun _ _ _ hh h => h.of_heap hh) own started (by kernel_rfl) Tryz.func6
  (ChangeSpec.witness_shaped (enc := enc) (C := Tryz.checked) (os := os) (X := fun w _ => laidMetH Tryz.prog Rows.repairRejoinsRow.laid w) false (World.doorLaid Tryz.prog 400 os) #[.slice none 0 0] 8 rfl (World.shaped_of_RefB (by kernel_rfl) (by kernel_rfl)) (by kernel_rfl) (by kernel_rfl) (by kernel_rfl) (laidMetH_of_parts3 (fuel := 8) (laidMet_of_run' 8 (by kernel_rfl) (by kernel_rfl)) (by kernel_rfl) (by kernel_rfl))) ?_
 intro W base args ds gs before hval0 hW _ _ hL _
 have hval : ∀ (j : Nat) t v, Tryz.f6.params[j]? = some t → args[j]? = some v → Value.okWide Tryz.prog W .any base t v := hval0
 have hW' := hW
 obtain ⟨p, q, hA0, hV, rfl, hfz, hnd⟩ := hW
 have hA : DataW.TrodAll enc Tryz.prog W 0 (fun _ => true) true Tryz.f6.params.toList args.toList ds p := hA0
 rw [Tryz.params6] at hA hval
 obtain ⟨v0, vs0, d0, ds0, p0, q0, hargs, rfl, rfl, h0, r0⟩ := trodAll_cons hA
 obtain ⟨rfl, rfl, rfl⟩ := trodAll_nil r0
 obtain rfl : args = #[v0] := by cases args; simp_all
 obtain ⟨rfl, rfl⟩ := trodVars_none hV
 have k0 := h0
 have lt0 : ∀ x ∈ p0, x.block < W.heap.size := by obtain ⟨m, hm⟩ := k0; exact DataW.trod_lt m _ _ _ hm
 obtain ⟨A0, n0, cap0, l0, rfl, rd0, hc0, hm0, wf0, nl0⟩ := rd_ints Tryz.underlying22 Tryz.underlying3 Tryz.cellsInt (hval 0 22 v0 rfl rfl) h0
 clear hA0 hval0
 have hT : TabG W := tabG_of hL (by kernel_rfl)
 have hL2 : LetG W := letG_second hL (by kernel_rfl) (by kernel_rfl)
 refine (repairrejoins_walk A0 n0 cap0 l0 W rd0 hc0 hm0 hT hL2).mono fun e W' ⟨he, hch⟩ => ?_
 have bel : Below W.heap.size W W' := hch.below (fun _ h => h)
 subst he
 exact ⟨_, rfl, _, _, _, [], _, [], hW', trodAll_mk1 (shut_bool Tryz.underlying4 _), (trodAll_cons_mk (Below.trod laidOut (by kernel_rfl) (of_decide_eq_true (by kernel_rfl)) k0 bel lt0) trodAll_mk0), rfl, bel.frame _, fun h => by cases h⟩
theorem repairRejoins_over : Rows.repairRejoinsRow.holds Tryz.pinned (OpenSpec.ofChange Rows.repairRejoinsSpec) :=
 OpenClaim.holds_of_wide 6 Tryz.f6 rfl rfl rfl rfl rfl rfl rfl ⟨rfl, rfl, rfl, rfl, rfl⟩ rfl rfl rfl rfl rfl (by kernel_rfl) Tryz.func6 (by kernel_rfl)
  (of_decide_eq_true (by kernel_rfl)) (by unfold Func.isWrapper; first | (rw [if_pos (by decide +kernel)]; kernel_rfl) | (rw [if_neg (by decide +kernel)]; exact ⟨rfl, rfl⟩))
  (fun os started H enc _ => repairRejoins_lifted os started H enc)
theorem RepairRejoins_holds : Rows.RepairRejoinsCardSaid :=
 Claim7.holds_tied_plain_at .later [] [.data, .data] true (true, "b790f26ef35c85b0afa36e3ca6ce5369a92ddcf9cf001d61a03045e2f3eaabbf") false
  repairRejoins_over (fun _ h => by cases h) (by kernel_rfl) (fun _ h => by cases h) repairRejoins_row_tie rfl ⟨rfl, rfl⟩ (by kernel_rfl) rfl
  (fun f fn hf hfn => by
   obtain rfl : f = 6 := Option.some.inj ((show Tryz.prog.funcNamed "skipgraph/skipgraphlaw18.RepairRejoins" = some 6 by kernel_rfl).symm.trans hf) |>.symm
   obtain rfl : fn = Tryz.f6 := (Option.some.inj (Tryz.func6.symm.trans hfn)).symm
   exact ⟨by kernel_rfl, fun j t ht => by
    rw [Tryz.params6] at ht
    have hm : t ∈ [22] := by simpa using Array.mem_of_getElem? ht
    have hall : ([22].all fun u => !Tryz.prog.wantsStandIn u) = true := by kernel_rfl
    exact (show Tryz.prog.wantsStandIn t = false by simpa using List.all_eq_true.1 hall t hm)⟩)
  (by kernel_rfl)
#print axioms RepairRejoins_holds
end Go.Proofs.YtlgdjigocopglaaGreatDoor
