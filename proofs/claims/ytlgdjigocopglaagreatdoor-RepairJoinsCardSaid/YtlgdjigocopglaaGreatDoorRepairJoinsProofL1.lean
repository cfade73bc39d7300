/- Texts for RepairJoinsProof. -/
import Derived.Test.YtlgdjigocopglaaGreatDoorRqABCE1
import Derived.Test.YtlgdjigocopglaaGreatDoorRqCDE1
import Derived.Test.YtlgdjigocopglaaGreatDoorRqDE1
set_option linter.unusedSimpArgs false
set_option linter.unusedVariables false

namespace Go.Proofs.YtlgdjigocopglaaGreatDoor
open Go.RowKit
section
variable {N : List Nd} {P : List Pr}
theorem join_conn {M : List Nd} {Q : List Pr} (h0 : checkN N = 0) (hsub : ∀ x ∈ M, x ∈ N) (he : ConnN M Q) (hQ : ∀ x ∈ M, ∀ v, v ∈ refsN M (peerN Q x.id) → v ∈ refsN N (peerN P x.id)) (hj : ∀ y ∈ N, y ∈ M ∨ ∃ x ∈ M, x.id ∈ refsN N (peerN P y.id)) : ConnN N P := by
 have hin : ∀ x ∈ M, ∀ y ∈ M, Cl (EdgeN N P) x.id y.id := fun x hx y hy => (he.2 x hx y hy).mono fun a b e => by
  obtain ⟨⟨z, hz, rfl⟩, hv⟩ := e
  exact Cl.one (.inl ⟨⟨z, hsub z hz, rfl⟩, hQ z hz b hv⟩)
 have hto : ∀ y ∈ N, ∃ x ∈ M, Cl (EdgeN N P) y.id x.id := by
  intro y hy
  rcases hj y hy with h | ⟨x, hx, hv⟩
  ·exact ⟨y, h, .refl _⟩
  ·exact ⟨x, hx, Cl.one (.inl ⟨⟨y, hy, rfl⟩, hv⟩)⟩
 refine ⟨h0, fun a ha b hb => ?_⟩
 obtain ⟨x, hx, h1⟩ := hto a ha
 obtain ⟨y, hy, h2⟩ := hto b hb
 exact (h1.trans (hin x hx y hy)).trans h2.symm
end
theorem Sl.pre {α : Type} {sz n m : Nat} {enc : α → List Value} {w : World} {a : Option Addr} {l : List α} (h : Sl sz enc w a n l) (hm : m ≤ n) : Sl sz enc w a m (l.take m) := by
 refine ⟨by rw [List.length_take, h.1]; omega, ?_⟩
 rcases h.2 with h0 | ⟨x, o, e1, e2, e3⟩
 ·exact .inl (by omega)
 ·refine .inr ⟨x, o, e1, e2, fun j y hy => e3 j y ?_⟩
  rw [List.getElem?_take] at hy
  split at hy
  ·exact hy
  ·cases hy
theorem take_check {l : List Nd} (h0 : checkN l = 0) (m : Nat) : checkN (l.take m) = 0 := by
 have hk := check_keys h0
 unfold checkN at h0 ⊢
 split at h0
 ·omega
 rename_i hlen
 split at h0
 ·omega
 rename_i hbad
 have hle := List.length_take_le m l
 rw [if_neg (by rw [List.length_take]; omega), if_neg (by
  intro hb
  obtain ⟨x, hx, hxb⟩ := List.any_eq_true.1 hb
  exact hbad (List.any_eq_true.2 ⟨x, List.mem_of_mem_take hx, hxb⟩)), if_neg]
 intro hd
 obtain ⟨i, k, x, y, hki, hx, hy, he⟩ := (dupN_iff _).1 hd
 have h2 : (l.take m).Pairwise fun x y => x.key.toList ≠ y.key.toList ∧ x.id ≠ y.id := List.Pairwise.sublist (List.take_sublist _ _) (keys_pw hk)
 obtain ⟨hi, e1⟩ := List.getElem?_eq_some_iff.1 hx
 obtain ⟨hk, e2⟩ := List.getElem?_eq_some_iff.1 hy
 have := List.pairwise_iff_getElem.1 h2 k i hk hi hki
 rw [e1, e2] at this
 unfold eqN at he
 rcases Bool.or_eq_true_iff.1 he with h1 | h1
 ·exact this.2 (by simpa using (beq_iff_eq.1 h1).symm)
 ·exact this.1 (beq_iff_eq.1 h1).symm
theorem peer_app_old {P : List Pr} {p : Pr} {v : Int} (h : ∃ q ∈ P, q.id = v) : peerN (P ++ [p]) v = peerN P v := by
 obtain ⟨q, hq, hv⟩ := h
 unfold peerN
 rw [List.find?_append]
 cases hf : P.find? fun p => p.id == v with
 | none => exact absurd (by simpa using hv) (List.find?_eq_none.1 hf q hq)
 | some z => rfl
theorem peer_app_new {P : List Pr} {p : Pr} {v : Int} (h : ∀ q ∈ P, q.id ≠ v) (hp : p.id = v) : peerN (P ++ [p]) v = p := by
 unfold peerN
 rw [List.find?_append]
 have hf : P.find? (fun p => p.id == v) = none := List.find?_eq_none.2 fun q hq => by simpa using h q hq
 rw [hf]
 simp [List.find?, hp]
def JnP (L : List Nd) (i : Nat) (P : List Pr) : Prop := ConnN (L.take i) P ∧ ∀ v, (∃ p ∈ P, p.id = v) ↔ ∃ x ∈ L.take i, x.id = v
theorem join_step {L : List Nd} (h0 : checkN L = 0) {i r : Nat} {y x : Nd} {P : List Pr} (hy : L[i]? = some y) (hx : L[r]? = some x) (hr : r < i) (h : JnP L i P) : JnP L (i + 1) (P ++ [⟨y.id, 0, 0, [x.id], []⟩]) := by
 have hT : L.take (i + 1) = L.take i ++ [y] := by rw [List.take_add_one, hy]; rfl
 have hxT : x ∈ L.take i := List.mem_of_getElem? (i := r) (by rw [List.getElem?_take, if_pos hr, hx])
 have h01 := take_check h0 (i + 1)
 have hne : ∀ z ∈ L.take i, z.id ≠ y.id := fun z hz => by
  have h2 := keys_pw (check_keys h01)
  rw [hT] at h2
  exact ((List.pairwise_append.1 h2).2.2 z hz y (by simp)).2
 refine ⟨join_conn (M := L.take i) (Q := P) h01 (fun z hz => by rw [hT]; simp [hz]) h.1 (fun z hz v hv => ?_) (fun z hz => ?_), fun v => ?_⟩
 ·rw [peer_app_old ((h.2 z.id).2 ⟨z, hz, rfl⟩)]
  obtain ⟨⟨u, hu, e⟩, h2, h3⟩ := (mem_refs h.1.1).1 hv
  exact (mem_refs h01).2 ⟨⟨u, by rw [hT]; simp [hu], e⟩, h2, h3⟩
 ·rw [hT] at hz
  rcases List.mem_append.1 hz with hz | hz
  ·exact .inl hz
  ·simp only [List.mem_singleton] at hz
   subst hz
   refine .inr ⟨x, hxT, ?_⟩
   rw [peer_app_new (fun q hq he => by
    obtain ⟨u, hu, e⟩ := (h.2 z.id).1 ⟨q, hq, he⟩
    exact hne u hu e) rfl]
   exact (mem_refs h01).2 ⟨⟨x, by rw [hT]; simp [hxT], rfl⟩, hne x hxT, by unfold numsP; simp⟩
 ·rw [hT]
  constructor
  ·rintro ⟨p, hp, rfl⟩
   rcases List.mem_append.1 hp with hp | hp
   ·obtain ⟨u, hu, e⟩ := (h.2 p.id).1 ⟨p, hp, rfl⟩
    exact ⟨u, by simp [hu], e⟩
   ·simp only [List.mem_singleton] at hp
    subst hp
    exact ⟨y, by simp, rfl⟩
  ·rintro ⟨u, hu, rfl⟩
   rcases List.mem_append.1 hu with hu | hu
   ·obtain ⟨p, hp, e⟩ := (h.2 u.id).2 ⟨u, hu, rfl⟩
    exact ⟨p, by simp [hp], e⟩
   ·simp only [List.mem_singleton] at hu
    subst hu
    exact ⟨⟨u.id, 0, 0, [x.id], []⟩, by simp, rfl⟩
theorem jn_start {L : List Nd} (h0 : checkN L = 0) (i : Nat) (wd : Int) {h : Nat} (hh : h ≤ 16) : JnP L i (peersN (L.take i) wd h) := by
 have hc := take_check h0 i
 refine ⟨exact_conn (peers_fullN hc wd hh).1, fun v => ?_⟩
 have hp : peersN (L.take i) wd h = (sortN (L.take i)).map (peerC (L.take i) wd h) := by unfold peersN; rw [if_pos ⟨hc, lvl_of (by omega) (by omega)⟩]
 rw [hp]
 constructor
 ·rintro ⟨p, hp, rfl⟩
  obtain ⟨x, hx, rfl⟩ := List.mem_map.1 hp
  exact ⟨x, (sortN_mem _ x).1 hx, rfl⟩
 ·rintro ⟨x, hx, rfl⟩
  exact ⟨_, List.mem_map.2 ⟨x, (sortN_mem _ x).2 hx, rfl⟩, rfl⟩
theorem litO {w0 u : World} (hz : w0.heap.size ≤ u.heap.size) (x : Int) : ∃ g v, g = u.heap.size ∧ v = u.alloc (.cells #[.int .i64 x] 3) ∧ OwnL 1 encI 3 w0.heap.size v (.slice (some ⟨g, 0, none⟩) 1 1) [x] ∧ Ex u v :=
 ⟨_, _, rfl, rfl, OwnL.lit [x] (fun _ => rfl) hz (by unfold maxLen; simp) rfl, Ex.new _ _⟩
theorem litQ (u : World) (id : Int) (g8 : Nat) : ∃ g v, g = u.heap.size ∧ v = u.alloc (.cells #[.int .i64 id, .slice (some ⟨g8, 0, none⟩) 1 1, .int .i64 0, .int .i64 0, .slice none 0 0] 41) ∧ Sl 5 encQ v (some ⟨g, 0, none⟩) 1 [((id, 0, 0), (some ⟨g8, 0, none⟩, 1, 1), (none, 0, 0))] ∧ Ex u v :=
 ⟨_, _, rfl, rfl, Sl.lit _ rfl rfl encQ_len rfl, Ex.new _ _⟩
theorem few_snoc {P : List Pr} {p : Pr} (h : FewQ 100 200 P) (h1 : p.known.length ≤ 100) (h2 : p.near.length ≤ 200) : FewQ 100 200 (P ++ [p]) := fun q hq => by
 rcases List.mem_append.1 hq with hq | hq
 ·exact h q hq
 ·simp only [List.mem_singleton] at hq
  subst hq
  exact ⟨h1, h2⟩
def JnRel (L : List Nd) (b s n : Nat) (w1 : World) (o i : Value) (wr : World) : Prop :=
 ∃ (k : Nat) (qs : List PQ) (P : List Pr), n ≤ k ∧ k ≤ L.length ∧ i = .int .i64 k ∧ OwnPr s wr o qs P ∧ JnP L k P ∧ FewQ 100 200 P ∧ P.length = k ∧ TK wr b ∧ Exb b w1 wr
set_option maxRecDepth 100000 in
set_option maxHeartbeats 16000000 in
theorem repairjoins_walk (a1 : Option Addr) (n1 c1 : Nat) (l1 : List Int) (w : World) (h1 : Sl 1 encI w a1 n1 l1) (hc1 : n1 ≤ c1) (hm1 : c1 ≤ maxLen) (hT : TabG w) (hL : LetG w) :
  Calls Tryz.prog 7 #[.slice a1 n1 c1] w fun e w' => e = .returned (.bool true) ∧ Ex w w' := by
 go_enter Tryz.func7, Tryz.ntmps7
 go_wp2_with fail
 refine (new_t _ _ _ l1 _ h1 hc1 hm1).mono ?_
 rintro e w1 ⟨rfl, T, kk, z1⟩
 obtain ⟨b, hb⟩ : ∃ b, b = w.heap.size := ⟨_, rfl⟩
 rw [← hb] at T ⊢
 have hgt : ¬ 1 = b := by have := hT.lt; omega
 have hgl : ¬ 0 = b := by have := hL.lt; omega
 have T1 : Hid (TabG w1) := lH (hT.nx kk)
 have L1 : Hid (LetG w1) := lH (hL.nx kk)
 have QL : Hid (Exl b w w1) := lH ⟨kk, by omega⟩
 clear h1 hT hL kk hb z1
 have hbo := T.lt
 go_wp2_with fail
 refine (some_n 8 _ T L1.out hgl (by omega) (by omega)).mono ?_
 clear T
 rintro e x1 ⟨v1, L, rfl, R, hL1⟩
 have kw := R.k
 have T := R.tape
 obtain ⟨aX, cX, rfl, SX, hcX, hmX, _⟩ := R.own.slf (fun _ => rfl)
 have SX := SX.slb hbo
 have RL := R.len
 have H0 := lH R.ok
 have HW : Hid (∀ x ∈ L, x.word < 4294967296) := lH (fun x hx => by have := R.word x hx; omega)
 have HI : Hid (∀ x ∈ L, I64 x.id) := lH (fun x hx => (roster_ok R.ok x hx).1.1)
 clear R
 go_wp2_with fail
 refine (next_t 3 _ T (by omega) (by omega)).mono ?_
 clear T
 rintro e x2 ⟨hh, rfl, hh0, hh1, T, kk⟩
 replace kw := kw.nxb kk
 replace SX := SX.nxb kk
 clear kk
 obtain ⟨ht, rfl⟩ : ∃ t : Nat, hh = t := ⟨hh.toNat, by omega⟩
 have ht16 : ht ≤ 16 := by omega
 go_wp2_with fail
 refine (next_t (L.length : Int) _ T (by omega) (by omega)).mono ?_
 clear T
 rintro e x3 ⟨q, rfl, q0, q1, T, kk⟩
 replace kw := kw.nxb kk
 replace SX := SX.nxb kk
 clear kk
 obtain ⟨q, rfl⟩ := Int.eq_ofNat_of_zero_le q0
 obtain ⟨n, hn⟩ : ∃ n, n = q + 1 := ⟨_, rfl⟩
 have hw1 : IntKind.i64.wrap (1 + (q : Int)) = (n : Int) := by rw [IntWalk.i64_in _ (by omega)]; omega
 have hnL : n ≤ L.length := by omega
 have hn0 : 1 ≤ n := by omega
 clear q0 q1 hn
 have hb3 := T.lt
 obtain ⟨x0, o0, _, rfl, _, _, _⟩ := Rd.at SX (j := 0) (by omega)
 have KW := lH kw
 have SXH := lH SX
 have hnc : n ≤ cX := by omega
 have hni : (n : Int) ≤ (cX : Int) := by omega
 clear kw SX
 go_upto_region 4 with fail
 have T3 : TK x3.drew b := T.nx (Ex.refl x3).drew
 clear T
 refine wp_region_held_drew (S := Exb b x3) (by kernel_rfl) ((Exb.refl b x3).drew) (fun hHeld => ?_)
 refine tkH 0 (v := ?_) rfl (by kernel_rfl) (fun _ _ _ h => h) (by rfl) ?y1x0q1 (by assumption) ?z1x0q1
 case y1x0q1 => intro wq hSw; (go_simp); (try with_reducible rfl)
 refine tkH 1 (v := ?_) rfl (by kernel_rfl) (fun _ _ _ h => h) (by rfl) ?y1x1q4 (by assumption) ?z1x1q4
 case y1x1q4 => intro wq hSw; (go_simp); (try with_reducible rfl)
 refine tkH 2 (v := ?_) rfl (by kernel_rfl) (fun _ _ _ h => h) (by rfl) ?y1x2q7 (by assumption) ?z1x2q7
 case y1x2q7 => intro wq hSw; (go_simp); (try with_reducible rfl)
 refine tkH 3 (v := ?_) rfl (by kernel_rfl) (fun _ _ _ h => h) (by rfl) ?y1x3q10 (by assumption) ?z1x3q10
 case y1x3q10 => intro wq hSw; (go_simp); (try with_reducible rfl)
 refine tkH 6 (v := ?_) rfl (by kernel_rfl) (fun _ _ _ h => h) (by rfl) ?y1x6q13 (by assumption) ?z1x6q13
 case y1x6q13 => intro wq hSw; (go_simp); (try with_reducible rfl)
 refine wpAnyH_ready (rs := [4]) (by kernel_rfl) (by simp) ?_
 refine AllReadyH.cons (o := ⟨_, _, _, _, _, _⟩) rfl (fun K hK => ?_) AllReadyH.nil
 go_simp
 refine (next_t 2 _ T3 (by omega) (by omega)).mono ?_
 clear T3
 rintro e x4 ⟨r2, rfl, r20, r21, T, kk⟩
 replace hHeld := hHeld.nxb kk
 clear kk
 have hw2 : IntKind.i64.wrap (1 + r2) = 1 + r2 := IntWalk.i64_in _ (by omega)
 refine hK.out _ _ (hHeld) (fun hHeld => ?_)
 clear hK K
 refine tkH 5 (v := ?_) rfl (by kernel_rfl) (fun _ _ _ h => h) (by rfl) ?y1x5q28 (by assumption) ?z1x5q28
 case y1x5q28 => intro wq hSw; (go_simp); (try with_reducible rfl)
 refine wpAnyH_ready (rs := [7]) (by kernel_rfl) (by simp) ?_
 refine AllReadyH.cons (o := ⟨_, _, _, _, _, _⟩) rfl (fun K hK => ?_) AllReadyH.nil
 go_simp
 (with_reducible refine (peers_p _ _ _ (L.take n) (1 + r2) (ht : Int) _ ((SXH.out.nxb hHeld).sl.pre hnL) (by omega) hnc hmX (fun x hx => HW.out x (List.mem_of_mem_take hx)) (T1.out.nxb hgt (KW.out.nxb hHeld))).mono ?_)
 rintro e x5 ⟨vP, qs, rfl, own, kk⟩
 have H4 := lH hHeld
 refine hK.out _ _ (hHeld.nxb (kk.b b)) (fun hHeld => ?_)
 clear hK K
 refine tkH 8 (v := ?_) rfl (by kernel_rfl) (fun _ _ _ h => h) (by rfl) ?y1x8q40 (by assumption) ?z1x8q40
 case y1x8q40 => intro wq hSw; (go_simp); (try with_reducible rfl)
 refine wpAnyH_done (by kernel_rfl) ?_ _
 skip
 have KW5 := lH (KW.out.nxb H4.out)
 have SX5 := lH (SXH.out.nxb H4.out)
 have KB := lH (kk.b b)
 have hbs : b < x4.heap.size := T.lt
 replace T := T.nx kk
 have J0 := lH (jn_start H0.out n (1 + r2) ht16)
 have F0 := lH (peers_sm (N := L.take n) (1 + r2) ht16 (by rw [List.length_take]; omega))
 have L0 : Hid ((peersN (L.take n) (1 + r2) ht).length = n) := lH (by rw [peers_len (take_check H0.out n) _ ht16, List.length_take]; omega)
 generalize peersN (L.take n) (1 + r2) (ht : Int) = P0 at own J0 F0 L0
 obtain ⟨s, hs⟩ : ∃ s, s = x4.heap.size := ⟨_, rfl⟩
 rw [← hs] at own hbs
 have OWN := lH own
 have zs : s ≤ x5.heap.size := by have := kk.size; omega
 have HZS := lH zs
 have HSS := lH hs
 clear own kk hs hHeld zs H4
 go_wp2_with fail
 go_loopw [7, 8] (fun o i wr => JnRel L b s n x4 o i wr) (fun _ i _ => L.length - (intOf i).toNat)
 case atStart => exact ⟨n, qs, P0, by omega, hnL, rfl, OWN.out, J0.out, F0.out, L0.out, T, KB.out⟩
 case round =>
  clear T
  obtain ⟨k, qz, P, hk0, hk, rfl, own, hJ, hF, hPl, T, kz⟩ := hrel
  obtain ⟨wo, rfl⟩ : ∃ wo : World, wo = wr := ⟨_, rfl⟩
  have KZ := lH kz
  have HJ := lH hJ
  have HF := lH hF
  have OWK := lH own
  have hql : qz.length = k := by rw [own.2.1, hPl]
  have zwo : s ≤ wo.heap.size := by have := kz.size; rw [HSS.out]; exact this
  have SXW := lH (SX5.out.nxb kz)
  clear kz hJ hF own
  by_cases hkL : k < L.length
  ·obtain ⟨xl, ol, y, hee, hxl, hy, hcl⟩ := Rd.at SXW.out hkL
   cases hee
   have E0 : Hid (∀ wq, Exb b wo wq → wq.cell? ⟨x0, o0 + k * 3, none⟩ = some (.int .i64 y.id)) := lH (fun wq kq => Chg.cellv kq (hcl 0 _ rfl) hxl)
   have HY := lH hy
   have hki : (k : Int) < (L.length : Int) := by omega
   have TKH := lH T
   clear hcl hy hxl T
   go_upto_region 8 with fail
   have T3 : TK wo.drew b := TKH.out.nx (Ex.refl wo).drew
   refine wp_region_late_drew (S := Exb b wo) [16, 17] (by kernel_rfl) ((Exb.refl b wo).drew) (fun hHeld => ?_)
   refine tkL 0 (v := ?_) rfl (by kernel_rfl) (fun _ _ _ h => h) (by rfl) ?y2x0q1 (by assumption) ?z2x0q1
   case y2x0q1 => intro wq hSw; (go_simp); (try with_reducible rfl)
   refine tkL 1 (v := ?_) rfl (by kernel_rfl) (fun _ _ _ h => h) (by rfl) ?y2x1q4 (by assumption) ?z2x1q4
   case y2x1q4 => intro wq hSw; (go_simp); (try with_reducible rfl)
   refine tkL 2 (v := ?_) rfl (by kernel_rfl) (fun _ _ _ h => h) (by rfl) ?y2x2q7 (by assumption) ?z2x2q7
   case y2x2q7 => intro wq hSw; (go_simp); (try with_reducible rfl)
   refine tkL 3 (v := ?_) rfl (by kernel_rfl) (fun _ _ _ h => h) (by rfl) ?y2x3q10 (by assumption) ?z2x3q10
   case y2x3q10 => intro wq hSw; (go_simp); (try with_reducible rfl)
   refine tkL 4 (v := ?_) rfl (by kernel_rfl) (fun _ _ _ h => h) (by rfl) ?y2x4q13 (by assumption) ?z2x4q13
   case y2x4q13 => intro wq hSw; (go_simp); (try with_reducible rfl)
   refine tkL 5 (v := ?_) rfl (by kernel_rfl) (fun _ _ _ h => h) (by rfl) ?y2x5q16 (by assumption) ?z2x5q16
   case y2x5q16 => intro wq hSw; (have c0 := E0.out wq hSw; go_simp); (try with_reducible rfl)
   refine tkL 6 (v := ?_) rfl (by kernel_rfl) (fun _ _ _ h => h) (by rfl) ?y2x6q19 (by assumption) ?z2x6q19
   case y2x6q19 => intro wq hSw; (go_simp); (try with_reducible rfl)
   refine tkL 7 (v := ?_) rfl (by kernel_rfl) (fun _ _ _ h => h) (by rfl) ?y2x7q22 (by assumption) ?z2x7q22
   case y2x7q22 => intro wq hSw; (go_simp); (try with_reducible rfl)
   refine tkL 8 (v := ?_) rfl (by kernel_rfl) (fun _ _ _ h => h) (by rfl) ?y2x8q25 (by assumption) ?z2x8q25
   case y2x8q25 => intro wq hSw; (go_simp); (try with_reducible rfl)
   refine wpAnyL_ready (rs := [9]) (by kernel_rfl) (by simp) ?_
   refine AllReadyL.cons (o := ⟨_, _, _, _, _, _⟩) rfl (fun K hK => ?_) AllReadyL.nil
   go_simp
   refine (next_t (k : Int) _ T3 (by omega) (by omega)).mono ?_
   clear T3
   rintro e x6 ⟨r, rfl, r0, r1, T, kk⟩
   replace hHeld := hHeld.nxb kk
   clear kk
   obtain ⟨r, rfl⟩ := Int.eq_ofNat_of_zero_le r0
   have hrk : r < k := by omega
   have hri : (r : Int) < (L.length : Int) := by omega
   obtain ⟨xr, orr, x, hee, hxr, hx, hcr⟩ := Rd.at SXW.out (show r < L.length by omega)
   cases hee
   have E1 : Hid (∀ wq, Exb b wo wq → wq.cell? ⟨x0, o0 + r * 3, none⟩ = some (.int .i64 x.id)) := lH (fun wq kq => Chg.cellv kq (hcr 0 _ rfl) hxr)
   have HX := lH hx
   clear hcr hx hxr r0 r1
   refine hK.out _ _ (hHeld) (fun hHeld => ?_)
   clear hK K
   refine tkL 10 (v := ?_) rfl (by kernel_rfl) (fun _ _ _ h => h) (by rfl) ?y2x10q47 (by assumption) ?z2x10q47
   case y2x10q47 => intro wq hSw; (go_simp); (try with_reducible rfl)
   refine tkL 11 (v := ?_) rfl (by kernel_rfl) (fun _ _ _ h => h) (by rfl) ?y2x11q50 (by assumption) ?z2x11q50
   case y2x11q50 => intro wq hSw; (go_simp); (try with_reducible rfl)
   refine tkL 12 (v := ?_) rfl (by kernel_rfl) (fun _ _ _ h => h) (by rfl) ?y2x12q53 (by assumption) ?z2x12q53
   case y2x12q53 => intro wq hSw; (have c1 := E1.out wq hSw; go_simp); (try with_reducible rfl)
   refine wpAnyL_ready (rs := [13]) (by kernel_rfl) (by simp) ?_
   refine AllReadyL.cons (o := ⟨_, _, _, _, _, _⟩) rfl (fun K hK => ?_) AllReadyL.nil
   go_simp
   obtain ⟨g8, wq2, hg8, hwq2, OK8, kk⟩ := litO hHeld.size x.id
   rw [← hg8, ← hwq2]
   replace hHeld := hHeld.nxb (kk.b b)
   replace T := T.nx kk
   clear hg8 hwq2 kk
   refine hK.out _ _ (hHeld) (fun hHeld => ?_)
   clear hK K
   refine tkL 14 (v := ?_) rfl (by kernel_rfl) (fun _ _ _ h => h) (by rfl) ?y2x14q67 (by assumption) ?z2x14q67
   case y2x14q67 => intro wq hSw; (go_simp); (try with_reducible rfl)
   refine wpAnyL_ready (rs := [15]) (by kernel_rfl) (by simp) ?_
   refine AllReadyL.cons (o := ⟨_, _, _, _, _, _⟩) rfl (fun K hK => ?_) AllReadyL.nil
   go_simp
   obtain ⟨g9, wq3, hg9, hwq3, SP9, kk⟩ := litQ wq2 y.id g8
   rw [← hg9, ← hwq3]
   replace hHeld := hHeld.nxb (kk.b b)
   replace T := T.nx kk
   replace OK8 := OK8.nx kk
   clear hg9 hwq3 kk
   refine hK.out _ _ (hHeld) (fun hHeld => ?_)
   clear hK K
   refine wpAnyL_ready (rs := [16]) (by kernel_rfl) (by simp) ?_
   refine AllReadyL.consL (o := ⟨_, _, _, _, _, _⟩) rfl (by rfl) (fun K hK => ?_) AllReadyL.nil
   rw [if_pos (by rfl)]
   have O8 := OWK.out.nxb hbs hHeld
   have zb := Nat.le_trans zwo hHeld.size
   refine wp_append_W (enc := encQ) _ _ _ 24 rfl s 41 (.agg #[.int .i64 0, .slice none 0 0, .int .i64 0, .int .i64 0, .slice none 0 0]) 5 72 Tryz.underlying24 Tryz.infoPr rfl (by omega) (by omega) _ qz O8.row rfl _ 1 1 [((y.id, 0, 0), (some ⟨g8, 0, none⟩, 1, 1), (none, 0, 0))] SP9 encQ_len encQ_one rfl (by omega) (by omega) zb ?_
   intro v9 w9 own9 ch0 ch1 _
   have O9 := OWK.out.app2 (p := ⟨y.id, 0, 0, [x.id], []⟩) (hk := (some ⟨g8, 0, none⟩, 1, 1)) (hn := (none, 0, 0)) (by decide) (by decide) zwo O8 OK8 (OwnL.nil _ _ _ _ _) own9 ch0
   have K9 : Exb b x4 w9 := Chg.trans (KZ.out.nxb hHeld) (ch1.mono (fun x hx => by have := hx.1; rw [HSS.out]; exact this))
   have T9 : TK w9 b := TP.chg T ch1 (fun x hx => by omega)
   have FN := lH (show JnRel L b s n x4 v9 (.int .i64 ((k : Int) + 1)) w9 from ⟨k + 1, _, _, by omega, by omega, by go_num, O9, join_step H0.out HY.out HX.out hrk HJ.out, few_snoc HF.out (by simp) (by simp), by simp [hPl], T9, K9⟩)
   refine hK.out _ _ ?_
   clear hK K
   refine wpAnyL_ready (rs := [17]) (by kernel_rfl) (by simp) ?_
   refine AllReadyL.consL (o := ⟨_, _, _, _, _, _⟩) rfl (by rfl) (fun K hK => ?_) AllReadyL.nil
   go_simp
   refine hK.out _ _ ?_
   clear hK K
   refine wpAnyL_done (by kernel_rfl) ?_ _
   clear own9 ch0 ch1 O9 O8 K9 T9 OK8 SP9
   go_wp2_with fail
   exact ⟨FN.out, by simp [intOf]; omega⟩
  ·obtain rfl : k = L.length := by omega
   have TG := lH (T1.out.nxb hgt (KW5.out.nxb KZ.out))
   have QX := lH (QL.out.nxb (KW5.out.nxb KZ.out)).1
   have HS := lH SXW.out.sl
   have HC : Hid (ConnN L P) := lH (by have := HJ.out.1; rwa [List.take_length] at this)
   have CB := lH (connB_iff.2 HC.out)
   obtain ⟨aP, cP, rfl, PP, _, _, _⟩ := OWK.out.pl
   rw [hPl] at PP ⊢
   replace PP := lH PP
   clear T OWK hk hkL
   obtain ⟨m, hm⟩ : ∃ m : Nat, m = L.length * (ht + 1) := ⟨_, rfl⟩
   have hm1 : m ≤ 200 := by
    have : L.length * (ht + 1) ≤ 20 * 5 := Nat.mul_le_mul (by omega) (by omega)
    omega
   have hmi : (L.length : Int) * ((ht : Int) + 1) = (m : Int) := by rw [hm]; push_cast; rfl
   have hrn : rndsR (L.length : Int) (ht : Int) = (m : Int) := by unfold rndsR; rw [if_pos (by omega), hmi]
   have hwh : IntKind.i64.wrap ((ht : Int) + 1) = (ht : Int) + 1 := IntWalk.i64_in _ (by omega)
   have hwm : IntKind.i64.wrap ((L.length : Int) * ((ht : Int) + 1)) = (m : Int) := by rw [hmi]; exact IntWalk.i64_in _ (by omega)
   have HM := lH hm
   clear hm hmi
   have R1 := lH (run_law HW.out ht16 HC.out (r := (m : Int)) (by rw [HM.out]; exact Int.le_refl _))
   have RL1 := lH (run_len (P := P) H0.out ht16 (m : Int))
   have RF := lH (run_few (N := L) (by omega) HF.out (ht : Int) (m : Int))
   go_wp2_with fail
   (with_reducible refine (rounds18_p (L.length : Int) (ht : Int) _).mono ?_)
   rintro e w7 ⟨rfl, hw7⟩
   subst hw7
   rw [hrn]
   clear hrn
   go_wp2_with fail
   (with_reducible refine (run_p _ _ _ L _ _ _ P (ht : Int) (m : Int) _ HS.out (by omega) hcX hmX HW.out PP.out (by omega) (few_smallR HF.out)).mono ?_)
   rintro e y4 ⟨v, q4, rfl, own, kk⟩
   replace TG := lH (TG.out.nx kk)
   replace QX := lH (QX.out.nx kk)
   replace HS := lH (HS.out.nx kk)
   replace PP := lH (PP.out.nx kk)
   obtain ⟨aA, cA, rfl, PA, _, _, _, _⟩ := own.pl
   clear own
   generalize repN L P (ht : Int) (m : Int) = A at PA R1 RL1 RF ⊢
   rw [RL1.out] at PA ⊢
   replace PA := lH PA
   clear kk
   go_wp2_with fail
   (with_reducible refine (connected_p _ _ _ L _ _ _ P _ HS.out (by omega) hcX hmX PP.out (by omega) (few_connR HF.out)).mono ?_)
   rintro e y5 ⟨rfl, kk⟩
   replace TG := lH (TG.out.nx kk)
   replace QX := lH (QX.out.nx kk)
   replace HS := lH (HS.out.nx kk)
   replace PP := lH (PP.out.nx kk)
   replace PA := lH (PA.out.nx kk)
   rw [CB.out]
   clear kk
   go_wp2_with fail
   (with_reducible refine (bexact_p _ _ _ L _ _ _ A ht _ HS.out (by omega) hcX hmX HW.out TG.out PA.out (by omega) (few_smallR RF.out)).mono ?_)
   rintro e y6 ⟨rfl, kk⟩
   replace TG := lH (TG.out.nx kk)
   replace QX := lH (QX.out.nx kk)
   replace HS := lH (HS.out.nx kk)
   replace PP := lH (PP.out.nx kk)
   replace PA := lH (PA.out.nx kk)
   rw [R1.out]
   clear kk
   go_wp2_with fail
   (with_reducible refine (sane18_x _ TG.out).mono ?_)
   rintro e y7 ⟨rfl, kk⟩
   replace TG := lH (TG.out.nx kk)
   replace QX := lH (QX.out.nx kk)
   replace HS := lH (HS.out.nx kk)
   replace PP := lH (PP.out.nx kk)
   replace PA := lH (PA.out.nx kk)
   clear kk
   go_wp2_with fail
   go_ret
   exact ⟨rfl, QX.out⟩
end Go.Proofs.YtlgdjigocopglaaGreatDoor
/-
 RepairJoins returns true for every list of numbers, and leaves its arguments as they were.
 Condition: the table of math/bits and the letters of the keys are as the program text lays them (tied by the card).
-/
namespace Go.Proofs.YtlgdjigocopglaaGreatDoor
open Go.ChangeShapes Go.WideShapes Go.ChangeAt Go.RowKit Go.Deep Go.Joins
open Go.ChangeMaps (open_string shut_string)
set_option linter.unusedVariables false
theorem Tryz.cellsInt : Tryz.prog.cellsOf 3 = 1 := by kernel_rfl
set_option maxRecDepth 100000 in
set_option maxHeartbeats 1000000 in
theorem repairJoins_lifted (os : Os) (started : os.Started) (H : Type) (enc : TypeId × Value → H) :
  ReturnsInHanded {} Tryz.checked os 7 .any (fun w args => (Rows.repairJoinsSpec.pre enc Tryz.prog Tryz.f7 [] false w args ∧ laidMetH Tryz.prog Rows.repairJoinsRow.laid w) ∧ sizedMet enc Tryz.prog Tryz.f7 (OpenSpec.ofChange Rows.repairJoinsSpec) false w args)
   (Rows.repairJoinsSpec.post enc Tryz.prog Tryz.f7 false true false false) := by
 refine returnsInHanded_of_change_and (C := Tryz.checked) (X := fun w _ => laidMetH Tryz.prog Rows.repairJoinsRow.laid w) (fun _ _ _ hh h => h.of_heap hh) own started (by kernel_rfl) Tryz.func7
  (ChangeSpec.witness_shaped (enc := enc) (C := Tryz.checked) (os := os) (X := fun w _ => laidMetH Tryz.prog Rows.repairJoinsRow.laid w) false (World.doorLaid Tryz.prog 400 os) #[.slice none 0 0] 8 rfl (World.shaped_of_RefB (by kernel_rfl) (by kernel_rfl)) (by kernel_rfl) (by kernel_rfl) (by kernel_rfl) (laidMetH_of_parts3 (fuel := 8) (laidMet_of_run' 8 (by kernel_rfl) (by kernel_rfl)) (by kernel_rfl) (by kernel_rfl))) ?_
 intro W base args ds gs before hval0 hW _ _ hL _
 have hval : ∀ (j : Nat) t v, Tryz.f7.params[j]? = some t → args[j]? = some v → Value.okWide Tryz.prog W .any base t v := hval0
 have hW' := hW
 obtain ⟨p, q, hA0, hV, rfl, hfz, hnd⟩ := hW
 have hA : DataW.TrodAll enc Tryz.prog W 0 (fun _ => true) true Tryz.f7.params.toList args.toList ds p := hA0
 rw [Tryz.params7] at hA hval
 obtain ⟨v0, vs0, d0, ds0, p0, q0, hargs, rfl, rfl, h0, r0⟩ := trodAll_cons hA
 obtain ⟨rfl, rfl, rfl⟩ := trodAll_nil r0
 obtain rfl : args = #[v0] := by cases args; simp_all
 obtain ⟨rfl, rfl⟩ := trodVars_none hV
 have k0 := h0
 have lt0 : ∀ x ∈ p0, x.block < W.heap.size := by obtain ⟨m, hm⟩ := k0; exact DataW.trod_lt m _ _ _ hm
 obtain ⟨A0, n0, cap0, l0, rfl, rd0, hc0, hm0, wf0, nl0⟩ := rd_ints Tryz.underlying22 Tryz.underlying3 Tryz.cellsInt (hval 0 22 v0 rfl rfl) h0
 clear hA0 hval0
 have hT : TabG W := tabG_of hL (by kernel_rfl)
 have hL2 : LetG W := letG_second hL (by kernel_rfl) (by kernel_rfl)
 refine (repairjoins_walk A0 n0 cap0 l0 W rd0 hc0 hm0 hT hL2).mono fun e W' ⟨he, hch⟩ => ?_
 have bel : Below W.heap.size W W' := hch.below (fun _ h => h)
 subst he
 exact ⟨_, rfl, _, _, _, [], _, [], hW', trodAll_mk1 (shut_bool Tryz.underlying4 _), (trodAll_cons_mk (Below.trod laidOut (by kernel_rfl) (of_decide_eq_true (by kernel_rfl)) k0 bel lt0) trodAll_mk0), rfl, bel.frame _, fun h => by cases h⟩
theorem repairJoins_over : Rows.repairJoinsRow.holds Tryz.pinned (OpenSpec.ofChange Rows.repairJoinsSpec) :=
 OpenClaim.holds_of_wide 7 Tryz.f7 rfl rfl rfl rfl rfl rfl rfl ⟨rfl, rfl, rfl, rfl, rfl⟩ rfl rfl rfl rfl rfl (by kernel_rfl) Tryz.func7 (by kernel_rfl)
  (of_decide_eq_true (by kernel_rfl)) (by unfold Func.isWrapper; first | (rw [if_pos (by decide +kernel)]; kernel_rfl) | (rw [if_neg (by decide +kernel)]; exact ⟨rfl, rfl⟩))
  (fun os started H enc _ => repairJoins_lifted os started H enc)
theorem RepairJoins_holds : Rows.RepairJoinsCardSaid :=
 Claim7.holds_tied_plain_at .later [] [.data, .data] true (true, "b790f26ef35c85b0afa36e3ca6ce5369a92ddcf9cf001d61a03045e2f3eaabbf") false
  repairJoins_over (fun _ h => by cases h) (by kernel_rfl) (fun _ h => by cases h) repairJoins_row_tie rfl ⟨rfl, rfl⟩ (by kernel_rfl) rfl
  (fun f fn hf hfn => by
   obtain rfl : f = 7 := Option.some.inj ((show Tryz.prog.funcNamed "skipgraph/skipgraphlaw18.RepairJoins" = some 7 by kernel_rfl).symm.trans hf) |>.symm
   obtain rfl : fn = Tryz.f7 := (Option.some.inj (Tryz.func7.symm.trans hfn)).symm
   exact ⟨by kernel_rfl, fun j t ht => by
    rw [Tryz.params7] at ht
    have hm : t ∈ [22] := by simpa using Array.mem_of_getElem? ht
    have hall : ([22].all fun u => !Tryz.prog.wantsStandIn u) = true := by kernel_rfl
    exact (show Tryz.prog.wantsStandIn t = false by simpa using List.all_eq_true.1 hall t hm)⟩)
  (by kernel_rfl)
#print axioms RepairJoins_holds
end Go.Proofs.YtlgdjigocopglaaGreatDoor
