/- Texts for RepairCleansProof. -/
import Derived.Test.YtlgdjigocopglaaGreatDoorRqABC2
import Derived.Test.YtlgdjigocopglaaGreatDoorRqCDE1
import Derived.Test.YtlgdjigocopglaaGreatDoorRqCF1
set_option linter.unusedSimpArgs false
set_option linter.unusedVariables false

namespace Go.Proofs.YtlgdjigocopglaaGreatDoor
open Go.RowKit
section
variable {N : List Nd} {P Q : List Pr}
theorem rruns_add (N : List Nd) (P : List Pr) (k : Int) (a : Nat) : ∀ b, rRunsN N (rRunsN N P k a) k b = rRunsN N P k (a + b)
 | 0 => rfl
 | b + 1 => by
  show rRoundN N (rRunsN N (rRunsN N P k a) k b) k = rRoundN N (rRunsN N P k (a + b)) k
  rw [rruns_add N P k a b]
theorem rruns_norm (h0 : checkN N = 0) {k : Nat} (hk : k ≤ 16) (hP : normalN N P = P) : ∀ t, normalN N (rRunsN N P (k : Int) t) = rRunsN N P (k : Int) t
 | 0 => hP
 | _ + 1 => rr_norm h0 hk
theorem run_parts (h0 : checkN N = 0) {h : Nat} (hh : h ≤ 16) {a b : Int} (ha : 0 ≤ a) (ha2 : a ≤ 100) (hb : 0 ≤ b) (hb2 : b ≤ 100) : repN N (repN N P h a) h b = repN N P h (a + b) := by
 have e : ∀ R r, repN N R h r = rRunsN N (normalN N R) h (max (min r 4096) 0).toNat := fun R r => by unfold repN; rw [if_pos (lvl_of (by omega) (by omega))]
 rw [e, e P a, e P (a + b), rruns_norm h0 hh (norm_idem N P), rruns_add]
 congr 1
 omega
end
def cleanP (N : List Nd) (p : Pr) : Pr := { p with known := refsN N ⟨p.id, 0, 0, p.known, []⟩ }
theorem clean_refs {N : List Nd} (h0 : checkN N = 0) (p : Pr) : refsN N (cleanP N p) = refsN N p := by
 unfold refsN
 rw [if_pos h0, if_pos h0]
 unfold ordN
 congr 1
 refine List.filter_congr fun x hx => ?_
 have hxN := (sortN_mem N x).1 hx
 have h1 := check_id h0 hxN
 have hk : x.id ≠ p.id → (x.id ∈ (cleanP N p).known ↔ x.id ∈ p.known) := fun hne => by
  show x.id ∈ refsN N ⟨p.id, 0, 0, p.known, []⟩ ↔ _
  rw [mem_refs h0]
  constructor
  ·rintro ⟨_, _, h⟩
   unfold numsP at h
   simp only [List.mem_append, List.mem_cons, List.not_mem_nil, or_false, List.flatMap_nil] at h
   rcases h with h | h | h
   ·exact h
   ·omega
   ·omega
  ·intro h
   exact ⟨⟨x, hxN, rfl⟩, hne, by unfold numsP; simp [h]⟩
 rw [Bool.eq_iff_iff]
 simp only [Bool.and_eq_true, Bool.not_eq_true', beq_eq_false_iff_ne, List.contains_iff_mem]
 show x.id ≠ p.id ∧ _ ↔ x.id ≠ p.id ∧ _
 refine and_congr_right fun hne => ?_
 unfold numsP
 simp only [List.mem_append]
 rw [hk hne]
 exact Iff.rfl
theorem clean_ar {N : List Nd} (h0 : checkN N = 0) (p : Pr) : arN N (cleanP N p) = arN N p := by
 unfold arN
 rw [clean_refs h0]
 rfl
theorem clean_rnd {N : List Nd} (h0 : checkN N = 0) (M : List (Int × Int)) (p : Pr) (nr : List Nr) : { rndP N M (cleanP N p) with near := nr } = { rndP N M p with near := nr } := by
 have e : keepN N (cleanP N p) = keepN N p := by
  unfold keepN
  rw [clean_ar h0]
  rfl
 unfold rndP
 rw [e]
 rfl
theorem clean_intros {N : List Nd} (h0 : checkN N = 0) (p : Pr) : introsN N (cleanP N p) = introsN N p := by
 unfold introsN
 rw [clean_ar h0]
 rfl
theorem clean_peer {N : List Nd} (h0 : checkN N = 0) (P : List Pr) (v : Int) : peerN (P.map (cleanP N)) v = cleanP N (peerN P v) := by
 unfold peerN
 rw [List.find?_map, show ((fun p : Pr => p.id == v) ∘ cleanP N) = fun p => p.id == v from rfl]
 cases hf : P.find? fun p => p.id == v with
 | some q => rfl
 | none =>
  show (⟨v, 0, 0, [], []⟩ : Pr) = ⟨v, 0, 0, refsN N ⟨v, 0, 0, [], []⟩, []⟩
  have e : refsN N ⟨v, 0, 0, [], []⟩ = [] := by
   refine List.eq_nil_iff_forall_not_mem.2 fun u hu => ?_
   obtain ⟨⟨x, hx, rfl⟩, _, h⟩ := (mem_refs h0).1 hu
   have h1 := check_id h0 hx
   unfold numsP at h
   simp only [List.mem_append, List.mem_cons, List.not_mem_nil, or_false, false_or, List.flatMap_nil] at h
   omega
  rw [e]
theorem clean_round {N : List Nd} (h0 : checkN N = 0) (P : List Pr) {h : Nat} (hh : h ≤ 16) : rRoundN N (P.map (cleanP N)) (h : Int) = rRoundN N P (h : Int) := by
 have hM : (normalN N (P.map (cleanP N))).flatMap (introsN N) = (normalN N P).flatMap (introsN N) := by
  unfold normalN
  rw [if_pos h0, if_pos h0, List.flatMap_map, List.flatMap_map]
  congr 1
  funext x
  rw [clean_peer h0, clean_intros h0]
 rw [rround_map h0 hh, rround_map h0 hh, hM]
 have e : peerN (P.map (cleanP N)) = fun v => cleanP N (peerN P v) := funext (clean_peer h0 P)
 rw [e]
 refine List.map_congr_left fun x _ => ?_
 show { rndP N ((normalN N P).flatMap (introsN N)) (cleanP N (peerN P x.id)) with near := nextB N (peerN P) (peerN P x.id) h } = _
 rw [clean_rnd h0]
def mixG {α : Type} (A P : List α) (j : Nat) : List α := A.take j ++ P.drop j
theorem mixG_at {α : Type} {A P : List α} (h : A.length = P.length) {j : Nat} {p : α} (hp : P[j]? = some p) : (mixG A P j)[j]? = some p := by
 have hj := (List.getElem?_eq_some_iff.1 hp).1
 unfold mixG
 rw [List.getElem?_append_right (by rw [List.length_take]; omega), List.length_take, show j - min j A.length = 0 by omega, List.getElem?_drop, Nat.add_zero]
 exact hp
theorem mixG_next {α : Type} {A P : List α} (h : A.length = P.length) {j i : Nat} {p : α} (hp : A[j]? = some p) : (mixG A P (j + 1))[i]? = if i = j then some p else (mixG A P j)[i]? := by
 have hj := (List.getElem?_eq_some_iff.1 hp).1
 unfold mixG
 by_cases hij : i = j
 ·subst hij
  rw [if_pos rfl, List.getElem?_append_left (by rw [List.length_take]; omega), List.getElem?_take, if_pos (by omega), hp]
 ·rw [if_neg hij]
  by_cases hl : i < j
  ·rw [List.getElem?_append_left (by rw [List.length_take]; omega), List.getElem?_append_left (by rw [List.length_take]; omega), List.getElem?_take, List.getElem?_take, if_pos hl, if_pos (by omega)]
  ·rw [List.getElem?_append_right (by rw [List.length_take]; omega), List.getElem?_append_right (by rw [List.length_take]; omega), List.getElem?_drop, List.getElem?_drop, List.length_take, List.length_take]
   congr 1
   omega
theorem clean_sm {N : List Nd} {P : List Pr} (hN : N.length ≤ 100) (h : FewQ 100 200 P) : FewQ 100 200 (P.map (cleanP N)) := fun p hp => by
 obtain ⟨q, hq, rfl⟩ := List.mem_map.1 hp
 refine ⟨?_, (h q hq).2⟩
 show (refsN N _).length ≤ 100
 unfold refsN
 split
 ·exact Nat.le_trans (ord_len _ _) hN
 ·exact Nat.zero_le _
theorem hdrR {α : Type} {sz e base : Nat} {enc : α → List Value} {w : World} {h : Hdr} {l : List α} (o : OwnL sz enc e base w h.val l) (hsz : ∀ y, (enc y).length = sz) : Sl sz enc w h.1 h.2.1 l := by
 obtain ⟨a, n, c⟩ := h
 obtain ⟨_, _, e, r, _⟩ := o.rd hsz
 injection e with h1 h2 h3
 subst h1 h2 h3
 exact r.mono (fun _ hk => hk.2)
theorem prv_own {eP eI eN : TypeId} {base : Nat} {w : World} {v : Value} {qs : List PQ} {P : List Pr} (h : OwnP eP eI eN base w v qs P) : ∀ (j : Nat) (q : PQ) (p : Pr), qs[j]? = some q → P[j]? = some p → PrV w q p := fun j q p hq hp => by
 obtain ⟨r1, r2, r3⟩ := h.2.2.1 j q p hq hp
 exact ⟨r1, hdrR r2 (fun _ => rfl), hdrR r3 (fun _ => rfl)⟩
theorem hdrB {α : Type} {sz e base b : Nat} {enc : α → List Value} {w : World} {h : Hdr} {l : List α} (o : OwnL sz enc e base w h.val l) (hsz : ∀ y, (enc y).length = sz) (hb : b < base) : Slb sz enc b w h.1 h.2.1 l := by
 obtain ⟨a, n, c⟩ := h
 obtain ⟨_, _, e, r, _⟩ := o.rd hsz
 injection e with h1 h2 h3
 subst h1 h2 h3
 exact r.mono (fun _ hk => ⟨hk.2, by have := hk.1; omega⟩)
theorem prv_ownb {eP eI eN : TypeId} {base b : Nat} {w : World} {v : Value} {qs : List PQ} {P : List Pr} (h : OwnP eP eI eN base w v qs P) (hb : b < base) : ∀ (j : Nat) (q : PQ) (p : Pr), qs[j]? = some q → P[j]? = some p → PrVb b w q p := fun j q p hq hp => by
 obtain ⟨r1, r2, r3⟩ := h.2.2.1 j q p hq hp
 exact ⟨r1, hdrB r2 (fun _ => rfl) hb, hdrB r3 (fun _ => rfl) hb⟩
theorem rowb {e base b n : Nat} {w : World} {a : Option Addr} {c : Nat} {qs : List PQ} (o : OwnW 5 encQ e base w (.slice a n c) qs) (hb : b < base) : Slb 5 encQ b w a n qs := by
 obtain ⟨_, _, e, r, _⟩ := o.rd encQ_len
 injection e with h1 h2 h3
 subst h1 h2 h3
 exact r.mono (fun _ hk => ⟨hk.2, by have := hk.1; omega⟩)
theorem own_plb {eP eI eN : TypeId} {base b n c : Nat} {w : World} {a : Option Addr} {qs : List PQ} {P : List Pr} (h : OwnP eP eI eN base w (.slice a n c) qs P) (hb : b < base) : PLb b w a n P :=
 ⟨qs, rowb h.1 hb, by
  obtain ⟨_, _, e, _, _⟩ := h.pl
  injection e with h1 h2 h3
  exact h2.symm, prv_ownb h hb⟩
theorem slb_join {α : Type} {sz n b g : Nat} {enc : α → List Value} {w w' : World} {a : Option Addr} {l : List α} (h1 : Slb sz enc b w a n l) (h2 : Slb sz enc g w' a n l) : Slb sz enc b w' a n l := by
 refine ⟨h2.1, ?_⟩
 rcases h1.2 with h0 | ⟨x, o, e1, s1, _⟩
 ·exact .inl h0
 rcases h2.2 with h0 | ⟨x', o', e2, s2, c2⟩
 ·exact .inl h0
 rw [e1] at e2
 simp only [Option.some.injEq, Addr.mk.injEq, and_true] at e2
 obtain ⟨rfl, rfl⟩ := e2
 exact .inr ⟨x, o, e1, ⟨s2.1, s1.2⟩, c2⟩
theorem PrVb.join {w w' : World} {q : PQ} {p : Pr} {b g : Nat} (h1 : PrVb b w q p) (h2 : PrVb g w' q p) : PrVb b w' q p := ⟨h1.1, slb_join h1.2.1 h2.2.1, slb_join h1.2.2 h2.2.2⟩
theorem PrV.bb {w : World} {q : PQ} {p : Pr} {b : Nat} (h : PrV w q p) (hb : w.heap.size ≤ b) : PrVb b w q p := ⟨h.1, h.2.1.slb hb, h.2.2.slb hb⟩
def CleRel (L : List Nd) (a : Option Addr) (b g c : Nat) (P : List Pr) (w : World) (i : Value) (wr : World) : Prop :=
 ∃ (k : Nat) (qc : List PQ), k ≤ P.length ∧ i = .int .i64 k ∧ OwnW 5 encQ 41 w.heap.size wr (.slice a P.length c) qc ∧ qc.length = P.length ∧
  (∀ (j : Nat) (q : PQ) (p : Pr), qc[j]? = some q → (mixG (P.map (cleanP L)) P k)[j]? = some p → PrVb g wr q p) ∧
  (∀ (j : Nat) (q : PQ) (p : Pr), qc[j]? = some q → (mixG (P.map (cleanP L)) P k)[j]? = some p → PrVb b wr q p) ∧ Ex w wr
theorem cle_step {L : List Nd} {P : List Pr} {qc : List PQ} {k g : Nat} {w : World} {pid plf prt : Int} {pkn : List Int} {pnr : List Nr} {q' q0 : PQ} (hl : (P.map (cleanP L)).length = P.length) (hp : P[k]? = some ⟨pid, plf, prt, pkn, pnr⟩) (hq0 : qc[k]? = some q0)
  (h : ∀ (j : Nat) (q : PQ) (p : Pr), qc[j]? = some q → (mixG (P.map (cleanP L)) P k)[j]? = some p → PrVb g w q p) (h0 : q'.1 = (pid, plf, prt)) (h1 : Slb 1 encI g w q'.2.1.1 q'.2.1.2.1 (refsN L ⟨pid, 0, 0, pkn, []⟩)) (h2 : Slb 4 encNr g w q'.2.2.1 q'.2.2.2.1 pnr) :
  ∀ (j : Nat) (q : PQ) (p : Pr), (qc.set k q')[j]? = some q → (mixG (P.map (cleanP L)) P (k + 1))[j]? = some p → PrVb g w q p := fun j q p hq hp' => by
 have hA : (P.map (cleanP L))[k]? = some (cleanP L ⟨pid, plf, prt, pkn, pnr⟩) := by rw [List.getElem?_map, hp]; rfl
 rw [mixG_next hl hA] at hp'
 by_cases hj : j = k
 ·subst hj
  rw [if_pos rfl] at hp'
  rw [List.getElem?_set_self (List.getElem?_eq_some_iff.1 hq0).1] at hq
  cases hq
  cases hp'
  exact ⟨h0, h1, h2⟩
 ·rw [if_neg hj] at hp'
  rw [List.getElem?_set_ne (fun e => hj e.symm)] at hq
  exact h j q p hq hp'
set_option maxRecDepth 100000 in
set_option maxHeartbeats 16000000 in
theorem repaircleans_walk (a1 : Option Addr) (n1 c1 : Nat) (l1 : List Int) (m : Int) (w : World) (h1 : Sl 1 encI w a1 n1 l1) (hc1 : n1 ≤ c1) (hm1 : c1 ≤ maxLen) (hT : TabG w) (hL : LetG w) :
  Calls Tryz.prog 5 #[.slice a1 n1 c1, .int .i64 m] w fun e w' => e = .returned (.bool true) ∧ Ex w w' := by
 go_enter Tryz.func5, Tryz.ntmps5
 go_wp2_with fail
 refine (new_t _ _ _ l1 _ h1 hc1 hm1).mono ?_
 rintro e w1 ⟨rfl, T, kk, z1⟩
 obtain ⟨b, hb⟩ : ∃ b, b = w.heap.size := ⟨_, rfl⟩
 rw [← hb] at T ⊢
 have hgt : ¬ 1 = b := by have := hT.lt; omega
 have hgl : ¬ 0 = b := by have := hL.lt; omega
 have T1 : Hid (TabG w1) := lH (hT.nx kk)
 have L1 : Hid (LetG w1) := lH (hL.nx kk)
 have QL : Hid (Exl b w w1) := lH ⟨kk, by omega⟩
 clear h1 hT hL kk hb z1
 have hbo := T.lt
 go_wp2_with fail
 refine (some_n 7 _ T L1.out hgl (by omega) (by omega)).mono ?_
 clear T
 rintro e x1 ⟨v1, L, rfl, R, hL1⟩
 have kw := R.k
 have T := R.tape
 obtain ⟨aX, cX, rfl, SX, hcX, hmX, _⟩ := R.own.slf (fun _ => rfl)
 have SX := SX.slb hbo
 have RL := R.len
 have H0 := lH R.ok
 have HW : Hid (∀ x ∈ L, x.word < 4294967296) := lH (fun x hx => by have := R.word x hx; omega)
 have HI : Hid (∀ x ∈ L, I64 x.id) := lH (fun x hx => (roster_ok R.ok x hx).1.1)
 clear R
 go_wp2_with fail
 refine (next_t 3 _ T (by omega) (by omega)).mono ?_
 clear T
 rintro e x2 ⟨hh, rfl, hh0, hh1, T, kk⟩
 replace kw := kw.nxb kk
 replace SX := SX.nxb kk
 clear kk
 obtain ⟨ht, rfl⟩ : ∃ t : Nat, hh = t := ⟨hh.toNat, by omega⟩
 have ht16 : ht ≤ 16 := by omega
 have hb3 := T.lt
 go_wp2_with fail
 refine (peers_t ht _ _ _ L _ T SX (by omega) HI.out (by omega)).mono ?_
 clear T
 rintro e x3 ⟨v3, q3, P0, rfl, RP⟩
 replace kw := kw.nxb RP.k
 have TH := lH RP.tape
 have SXH := lH (SX.nxb RP.k)
 have hPl := RP.len
 have HF : Hid (FewQ 100 200 P0) := lH (fun p hp => by have := RP.few p hp; omega)
 obtain ⟨aP, cP, rfl, PP, hPc, hPm, hPg, hPn⟩ := RP.own.pl
 have OWP := lH RP.own
 have TG := lH (T1.out.nxb hgt kw)
 have QY := lH (QL.out.nxb kw)
 have HS := lH SXH.out.sl
 replace PP := lH PP
 have PB := lH (own_plb OWP.out hb3)
 have hgb : ∀ g, aP = some ⟨g, 0, none⟩ → P0 ≠ [] → b < g := fun g hg h => by
  obtain ⟨g', e, hg'⟩ := hPg h
  rw [hg] at e
  simp at e
  omega
 clear RP kw SX hPg
 go_wp2_with fail
 (with_reducible refine (rround_p _ _ _ L _ _ _ P0 (ht : Int) _ HS.out (by omega) hcX hmX HW.out PP.out (by omega) (few_smallR HF.out)).mono ?_)
 rintro e x4 ⟨v, q4, rfl, own, kk⟩
 have R1 := lH (show (rRoundN L P0 (ht : Int)).length = L.length by rw [rround_map H0.out ht16, List.length_map, sortN_length])
 have RS := lH (stale_law (P := P0) H0.out ht16)
 have RF := lH (rr_fewR (N := L) (by omega) P0 (ht : Int))
 have RC := lH (clean_round H0.out P0 ht16)
 generalize rRoundN L P0 (ht : Int) = A at own R1 RS RF RC
 have hb4 : b < x4.heap.size := Nat.lt_of_lt_of_le TH.out.lt kk.size
 obtain ⟨aA, cA, rfl, PA, _, _, _, _⟩ := own.pl
 have AB := lH (own_plb own TH.out.lt)
 rw [R1.out] at PA AB ⊢
 replace PA := lH PA
 replace PB := lH (PB.out.nxb (kk.b b))
 replace SXH := lH (SXH.out.nxb (kk.b b))
 replace TG := lH (TG.out.nx kk)
 replace QY := lH (QY.out.nxb (kk.b b))
 replace HS := lH (HS.out.nx kk)
 replace PP := lH (PP.out.nx kk)
 replace TH := lH (TH.out.nx kk)
 replace OWP := lH (OWP.out.nx kk)
 clear own kk
 have OE := lH (OwnL.empty (sz := 5) (enc := encQ) (e := 41) (base := x4.heap.size) (w := x4) (s := x4.heap.size) (Nat.le_refl _) rfl)
 have kn := lH (Ex.new x4 (.cells #[] 41))
 have hqn : q3.length = P0.length := OWP.out.2.1
 have RQ : Hid (Sl 5 encQ (x4.alloc (.cells #[] 41)) aP P0.length q3) := lH (by
  obtain ⟨a', c', e', r, _⟩ := (OWP.out.nx kn.out).1.rd encQ_len
  injection e' with e1 e2 e3
  subst e1 e3
  rw [← hqn]
  exact r.mono (fun _ hk => hk.2))
 have zb := kn.out.size
 go_upto_region 6 with (at_builtin; (refine wpList_append_rda (enc := encQ) _ rfl _ _ 24 rfl x4.heap.size 41 (.agg #[.int .i64 0, .slice none 0 0, .int .i64 0, .int .i64 0, .slice none 0 0]) 5 72 Tryz.underlying24 Tryz.infoPr rfl (by omega) (by omega) _ [] OE.out rfl _ _ _ _ q3 RQ.out hPn encQ_len encQ_one rfl (by simp) (by omega) zb ?_); intro v9 x5 own9 ch0 ch1 _; have OW9 := lH own9; have K9 := lH (show Ex x4 x5 from Chg.trans kn.out ch1); clear own9 ch0 ch1)
 rw [List.nil_append] at OW9
 obtain ⟨a9, c9, rfl, _, _, _, ha9⟩ := OW9.out.rd encQ_len
 rw [hqn] at OW9 ⊢
 obtain ⟨g, hag, hgz⟩ : ∃ g, (P0 ≠ [] → a9 = some ⟨g, 0, none⟩) ∧ x4.heap.size ≤ g := by
  by_cases hP : P0 = []
  ·exact ⟨x4.heap.size, fun h => absurd hP h, Nat.le_refl _⟩
  ·obtain ⟨g, h1, h2⟩ := ha9 (fun h => hP (List.eq_nil_of_length_eq_zero (by rw [← hqn, h]; rfl)))
   exact ⟨g, fun _ => h1, h2⟩
 have PV0 := lH (fun j q p hq hp => (((prv_own OWP.out) j q p hq hp).bb hgz).nxb (K9.out.b g))
 have PV1 := lH (fun j q p hq hp => ((prv_ownb OWP.out hb3) j q p hq hp).nxb (K9.out.b b))
 have HAG := lH hag
 clear RQ OE ha9 kn zb hag
 go_wp2_with fail
 go_loopw [11] (fun i wr => CleRel L a9 b g c9 P0 x4 i wr) (fun i _ => P0.length - (intOf i).toNat)
 case atStart => exact ⟨0, q3, by omega, rfl, OW9.out.toW, hqn, fun j q p hq hp => PV0.out j q p hq hp, fun j q p hq hp => PV1.out j q p hq hp, K9.out⟩
 case round =>
  obtain ⟨k, qc, hk, rfl, own, hql, hpv, hpb, kz⟩ := hrel
  obtain ⟨wi, rfl⟩ : ∃ wi : World, wi = wr := ⟨_, rfl⟩
  have KZ := lH kz
  have HV := lH hpv
  have HVB := lH hpb
  have OWN := lH own
  clear kz hpv hpb
  by_cases hkm : k < P0.length
  ·have ha := HAG.out (fun h => by rw [h] at hkm; simp at hkm)
   subst ha
   obtain ⟨p, hp⟩ : ∃ p, P0[k]? = some p := ⟨P0[k], by simp⟩
   obtain ⟨⟨nm, ⟨B1, k1, f1⟩, ⟨B4, k4, f4⟩⟩, hqc⟩ : ∃ q, qc[k]? = some q := ⟨qc[k]'(by omega), by simp⟩
   have hlm : (P0.map (cleanP L)).length = P0.length := by rw [List.length_map]
   obtain ⟨hnm, s1, s4⟩ := HV.out k _ p hqc (mixG_at hlm hp)
   simp only at hnm s1 s4
   subst hnm
   obtain ⟨_, b1, b4⟩ := HVB.out k _ p hqc (mixG_at hlm hp)
   simp only at b1 b4
   have hgw : g < wi.heap.size := OwnW.blk_lt own rfl
   have c0 := (OwnW.set1 encQ_len own hqc (c := 0) (by omega)).1
   have c1 := (OwnW.set1 encQ_len own hqc (c := 1) (by omega)).1
   simp only [Hdr.val, encQ, Pr.nums, List.getElem?_cons_zero, List.getElem?_cons_succ] at c0 c1
   rw [Nat.add_zero] at c0
   have C0 : Hid (∀ wq, Ex wi wq → wq.cell? ⟨g, k * 5, none⟩ = some (.int .i64 p.id)) := lH (fun wq kq => Chg.cellv kq c0 hgw)
   have C1 : Hid (∀ wq, Ex wi wq → wq.cell? ⟨g, k * 5 + 1, none⟩ = some (.slice B1 k1 f1)) := lH (fun wq kq => Chg.cellv kq c1 hgw)
   have hk1 : k1 ≤ 100 := by have h1 := s1.sl.len; have h2 := (HF.out p (List.mem_of_getElem? hp)).1; omega
   have S1 := lH s1
   have S4 := lH s4
   have D4 := lH b4
   have HQC := lH hqc
   have HP := lH hp
   have HLM := lH hlm
   have hki : (k : Int) < (P0.length : Int) := by omega
   obtain ⟨pid, plf, prt, pkn, pnr⟩ := p
   simp only at C0 S1 S4 D4
   clear own c0 c1 s1 s4 b1 b4 hqc hp hlm
   go_upto_region 9 with fail
   refine wp_region_late_drew (S := Ex wi) [15, 16, 17] (by kernel_rfl) ((Ex.refl wi).drew) (fun hHeld => ?_)
   obtain ⟨wd, hwdx⟩ : ∃ wd : World, wd = World.drew wi := ⟨_, rfl⟩
   rw [← hwdx] at hHeld ⊢
   have hDrew : Ex wi wd := by rw [hwdx]; exact (Ex.refl wi).drew
   clear hwdx
   refine tkL 0 (v := ?_) rfl (by kernel_rfl) (fun _ _ _ h => h) (by rfl) ?y1x0q5 (by assumption) ?z1x0q5
   case y1x0q5 => intro wq hSw; (go_simp); (try with_reducible rfl)
   refine tkL 1 (v := ?_) rfl (by kernel_rfl) (fun _ _ _ h => h) (by rfl) ?y1x1q8 (by assumption) ?z1x1q8
   case y1x1q8 => intro wq hSw; (go_simp); (try with_reducible rfl)
   refine tkL 2 (v := ?_) rfl (by kernel_rfl) (fun _ _ _ h => h) (by rfl) ?y1x2q11 (by assumption) ?z1x2q11
   case y1x2q11 => intro wq hSw; (go_simp); (try with_reducible rfl)
   refine tkL 3 (v := ?_) rfl (by kernel_rfl) (fun _ _ _ h => h) (by rfl) ?y1x3q14 (by assumption) ?z1x3q14
   case y1x3q14 => intro wq hSw; (go_simp); (try with_reducible rfl)
   refine tkL 4 (v := ?_) rfl (by kernel_rfl) (fun _ _ _ h => h) (by rfl) ?y1x4q17 (by assumption) ?z1x4q17
   case y1x4q17 => intro wq hSw; (go_simp); (try with_reducible rfl)
   refine tkL 5 (v := ?_) rfl (by kernel_rfl) (fun _ _ _ h => h) (by rfl) ?y1x5q20 (by assumption) ?z1x5q20
   case y1x5q20 => intro wq hSw; (go_simp); (try with_reducible rfl)
   refine tkL 6 (v := ?_) rfl (by kernel_rfl) (fun _ _ _ h => h) (by rfl) ?y1x6q23 (by assumption) ?z1x6q23
   case y1x6q23 => intro wq hSw; (go_simp); (try with_reducible rfl)
   refine tkL 7 (v := ?_) rfl (by kernel_rfl) (fun _ _ _ h => h) (by rfl) ?y1x7q26 (by assumption) ?z1x7q26
   case y1x7q26 => intro wq hSw; (have cq := C0.out wq hSw; go_simp); (try with_reducible rfl)
   refine tkL 8 (v := ?_) rfl (by kernel_rfl) (fun _ _ _ h => h) (by rfl) ?y1x8q29 (by assumption) ?z1x8q29
   case y1x8q29 => intro wq hSw; (go_simp); (try with_reducible rfl)
   refine tkL 9 (v := ?_) rfl (by kernel_rfl) (fun _ _ _ h => h) (by rfl) ?y1x9q32 (by assumption) ?z1x9q32
   case y1x9q32 => intro wq hSw; (go_simp); (try with_reducible rfl)
   refine tkL 10 (v := ?_) rfl (by kernel_rfl) (fun _ _ _ h => h) (by rfl) ?y1x10q35 (by assumption) ?z1x10q35
   case y1x10q35 => intro wq hSw; (go_simp); (try with_reducible rfl)
   refine tkL 11 (v := ?_) rfl (by kernel_rfl) (fun _ _ _ h => h) (by rfl) ?y1x11q38 (by assumption) ?z1x11q38
   case y1x11q38 => intro wq hSw; (go_simp); (try with_reducible rfl)
   refine tkL 12 (v := ?_) rfl (by kernel_rfl) (fun _ _ _ h => h) (by rfl) ?y1x12q41 (by assumption) ?z1x12q41
   case y1x12q41 => intro wq hSw; (have cq := C1.out wq hSw; go_simp); (try with_reducible rfl)
   refine tkL 13 (v := ?_) rfl (by kernel_rfl) (fun _ _ _ h => h) (by rfl) ?y1x13q44 (by assumption) ?z1x13q44
   case y1x13q44 => intro wq hSw; (go_simp); (try with_reducible rfl)
   refine wpAnyL_ready (rs := [14]) (by kernel_rfl) (by simp) ?_
   refine AllReadyL.cons (o := ⟨_, _, _, _, _, _⟩) rfl (fun K hK => ?_) AllReadyL.nil
   go_simp
   (refine (refs_p _ _ _ L ⟨pid, 0, 0, pkn, []⟩ _ _ _ none 0 0 _ (HS.out.nx (KZ.out.nx hHeld)) (by omega) hcX hmX (S1.out.sl.nx hHeld) (Sl.nil _ _ _ _) (by omega) (by omega)).mono ?_)
   rintro e wz ⟨vz, rfl, oz, kk⟩
   obtain ⟨az, cz, rfl, rz, _, _, _⟩ := oz.slf (fun _ => rfl)
   have SZ := (rz.slb (Nat.lt_of_lt_of_le hgw hHeld.size))
   have DZ := (rz.slb (Nat.lt_of_lt_of_le (Nat.lt_of_lt_of_le hb4 KZ.out.size) hHeld.size))
   replace hHeld := hHeld.nx kk
   clear kk oz rz
   refine hK.out _ _ (hHeld) (fun hHeld => ?_)
   clear hK K
   refine wpAnyL_ready (rs := [15]) (by kernel_rfl) (by simp) ?_
   refine AllReadyL.consL (o := ⟨_, _, _, _, _, _⟩) rfl (by rfl) (fun K hK => ?_) AllReadyL.nil
   go_simp
   refine hK.out _ _ ?_
   clear hK K
   refine wpAnyL_ready (rs := [16]) (by kernel_rfl) (by simp) ?_
   refine AllReadyL.consL (o := ⟨_, _, _, _, _, _⟩) rfl (by rfl) (fun K hK => ?_) AllReadyL.nil
   go_simp
   refine hK.out _ _ ?_
   clear hK K
   refine wpAnyL_ready (rs := [17]) (by kernel_rfl) (by simp) ?_
   refine AllReadyL.consL (o := ⟨_, _, _, _, _, _⟩) rfl (by rfl) (fun K hK => ?_) AllReadyL.nil
   obtain ⟨t1, t2, t3⟩ := OwnW.set1 encQ_len (OWN.out.nx hHeld) HQC.out (c := 1) (by omega)
   simp only [Hdr.val, encQ, List.getElem?_cons_zero, List.getElem?_cons_succ] at t1
   go_simp
   clear t1 t2
   refine hK.out _ _ ?_
   clear hK K
   refine wpAnyL_done (by kernel_rfl) ?_ _
   generalize hln : (refsN L ⟨pid, 0, 0, pkn, []⟩).length = nz at SZ DZ
   have t4 := t3 ((pid, plf, prt), (az, nz, cz), (B4, k4, f4)) (.slice az nz cz) rfl
   obtain ⟨wv, hwv⟩ : ∃ wv, wv = wz.setCell ⟨g, k * 5 + 1, none⟩ (.slice az nz cz) := ⟨_, rfl⟩
   rw [← hwv] at t4 ⊢
   have KE : Exb g wz wv := by rw [hwv]; exact (Exb.refl g _).setB (p := ⟨g, k * 5 + 1, none⟩) _ rfl
   have KX : Ex x4 wv := by rw [hwv]; exact (KZ.out.nx hHeld).setNew (p := ⟨g, k * 5 + 1, none⟩) _ hgz
   have FN := lH (show CleRel L (some ⟨g, 0, none⟩) b g c9 P0 x4 (.int .i64 ((k : Int) + 1)) wv from ⟨k + 1, qc.set k ((pid, plf, prt), (az, nz, cz), (B4, k4, f4)), by omega, by go_num, t4, by rw [List.length_set]; exact hql, cle_step HLM.out (HP.out) HQC.out (fun j q p hq hp => ((HV.out j q p hq hp).nxb (hHeld.b g)).nxb KE) rfl (SZ.nxb KE) ((S4.out.nxb (hHeld.b g)).nxb KE), cle_step HLM.out (HP.out) HQC.out (fun j q p hq hp => (HVB.out j q p hq hp).join (((HV.out j q p hq hp).nxb (hHeld.b g)).nxb KE)) rfl (slb_join DZ (SZ.nxb KE)) (slb_join D4.out ((S4.out.nxb (hHeld.b g)).nxb KE)), KX⟩)
   clear t3 t4 hwv KE KX SZ DZ hHeld hDrew
   go_wp2_with fail
   exact ⟨FN.out, by simp [intOf]; omega⟩
  ·obtain rfl : k = P0.length := by omega
   have hmx : mixG (P0.map (cleanP L)) P0 P0.length = P0.map (cleanP L) := by unfold mixG; rw [List.drop_length, List.append_nil, List.take_of_length_le (by rw [List.length_map]; omega)]
   rw [hmx] at HV
   rw [hmx] at HVB
   have PC : Hid (PLb b wi a9 P0.length (P0.map (cleanP L))) := lH ⟨qc, rowb OWN.out hb4, List.length_map _, fun j q p hq hp => HVB.out j q p hq hp⟩
   have FC := lH (clean_sm (N := L) (by omega) HF.out)
   replace TG := lH (TG.out.nx KZ.out)
   replace QY := lH (QY.out.nxb (KZ.out.b b))
   replace PB := lH (PB.out.nxb (KZ.out.b b))
   replace AB := lH (AB.out.nxb (KZ.out.b b))
   replace SXH := lH (SXH.out.nxb (KZ.out.b b))
   clear PP PA HS
   have T := TH.out.nx KZ.out
   clear TH KZ OWN HV HVB own hmx hk hkm HAG OW9 PV0 PV1 K9
   generalize P0.map (cleanP L) = C at PC FC RC
   go_wp2_with fail
   refine (mod_any m 6 _ (by omega) (by omega)).mono ?_
   rintro e w8 ⟨rfl, hw8⟩
   subst hw8
   obtain ⟨pa, hpa⟩ : ∃ t : Nat, m % 6 = t := ⟨(m % 6).toNat, by omega⟩
   have hpa5 : pa ≤ 5 := by omega
   rw [hpa]
   go_wp2_with fail
   refine (next_t 5 _ T (by omega) (by omega)).mono ?_
   clear T
   rintro e x6 ⟨pb, rfl, pb0, pb1, _, kk⟩
   obtain ⟨pb, rfl⟩ := Int.eq_ofNat_of_zero_le pb0
   have QX := lH (QY.out.nxb kk).1
   replace TG := lH (TG.out.nxb hgt kk)
   have HS := lH (SXH.out.nxb kk).sl
   have PP := lH (PB.out.nxb kk).pl
   have PA := lH (AB.out.nxb kk).pl
   have PX := lH (PC.out.nxb kk).pl
   have hwp : IntKind.i64.wrap ((pa : Int) + (pb : Int)) = (pa : Int) + (pb : Int) := IntWalk.i64_in _ (by omega)
   have RPP := lH (run_parts (P := P0) H0.out ht16 (a := (pa : Int)) (b := (pb : Int)) (by omega) (by omega) (by omega) (by omega))
   clear kk SXH PB AB PC QY hpa
   go_wp2_with fail
   (with_reducible refine (stale_p _ _ _ L _ _ _ A _ HS.out (by omega) hcX hmX PA.out (by omega) (few_two RF.out)).mono ?_)
   rintro e y1 ⟨rfl, kk⟩
   replace TG := lH (TG.out.nx kk)
   replace QX := lH (QX.out.nx kk)
   replace HS := lH (HS.out.nx kk)
   replace PP := lH (PP.out.nx kk)
   replace PA := lH (PA.out.nx kk)
   replace PX := lH (PX.out.nx kk)
   rw [RS.out]
   clear kk
   go_wp2_with fail
   (with_reducible refine (rround_p _ _ _ L _ _ _ C (ht : Int) _ HS.out (by omega) hcX hmX HW.out PX.out (by omega) (few_smallR FC.out)).mono ?_)
   rintro e y2 ⟨v, q5, rfl, own, kk⟩
   replace TG := lH (TG.out.nx kk)
   replace QX := lH (QX.out.nx kk)
   replace HS := lH (HS.out.nx kk)
   replace PP := lH (PP.out.nx kk)
   replace PA := lH (PA.out.nx kk)
   replace PX := lH (PX.out.nx kk)
   rw [RC.out] at own
   obtain ⟨aB, cB, rfl, PB, _, _, _, _⟩ := own.pl
   clear own
   rw [R1.out] at PB ⊢
   replace PB := lH PB
   clear kk
   go_wp2_with fail
   (with_reducible refine (same14_r _ _ _ A _ _ _ PA.out PB.out (by omega) (few_connR RF.out)).mono ?_)
   rintro e y3 ⟨rfl, kk⟩
   replace TG := lH (TG.out.nx kk)
   replace QX := lH (QX.out.nx kk)
   replace HS := lH (HS.out.nx kk)
   replace PP := lH (PP.out.nx kk)
   replace PA := lH (PA.out.nx kk)
   replace PX := lH (PX.out.nx kk)
   clear kk
   clear PA PB PX
   go_wp2_with fail
   (with_reducible refine (run_p _ _ _ L _ _ _ P0 (ht : Int) (pa : Int) _ HS.out (by omega) hcX hmX HW.out PP.out (by omega) (few_smallR HF.out)).mono ?_)
   rintro e y4 ⟨v, q6, rfl, own, kk⟩
   replace TG := lH (TG.out.nx kk)
   replace QX := lH (QX.out.nx kk)
   replace HS := lH (HS.out.nx kk)
   replace PP := lH (PP.out.nx kk)
   have RX := lH (run_few (N := L) (by omega) HF.out (ht : Int) (pa : Int))
   have LX := lH (run_len (P := P0) H0.out ht16 (pa : Int))
   generalize repN L P0 (ht : Int) (pa : Int) = X at own RPP RX LX
   obtain ⟨aX2, cX2, rfl, PX, _, _, _, _⟩ := own.pl
   clear own
   rw [LX.out] at PX ⊢
   replace PX := lH PX
   clear kk
   go_wp2_with fail
   (with_reducible refine (run_p _ _ _ L _ _ _ X (ht : Int) (pb : Int) _ HS.out (by omega) hcX hmX HW.out PX.out (by omega) (few_smallR RX.out)).mono ?_)
   rintro e y5 ⟨v, q7, rfl, own, kk⟩
   replace TG := lH (TG.out.nx kk)
   replace QX := lH (QX.out.nx kk)
   replace HS := lH (HS.out.nx kk)
   replace PP := lH (PP.out.nx kk)
   replace PX := lH (PX.out.nx kk)
   have RY := lH (run_few (N := L) (by omega) RX.out (ht : Int) (pb : Int))
   have LY := lH (run_len (P := X) H0.out ht16 (pb : Int))
   generalize repN L X (ht : Int) (pb : Int) = Y at own RPP RY LY
   obtain ⟨aY, cY, rfl, PY, _, _, _, _⟩ := own.pl
   clear own
   rw [LY.out] at PY ⊢
   replace PY := lH PY
   clear kk
   go_wp2_with fail
   (with_reducible refine (run_p _ _ _ L _ _ _ P0 (ht : Int) ((pa : Int) + (pb : Int)) _ HS.out (by omega) hcX hmX HW.out PP.out (by omega) (few_smallR HF.out)).mono ?_)
   rintro e y6 ⟨v, q8, rfl, own, kk⟩
   replace TG := lH (TG.out.nx kk)
   replace QX := lH (QX.out.nx kk)
   replace HS := lH (HS.out.nx kk)
   replace PP := lH (PP.out.nx kk)
   replace PX := lH (PX.out.nx kk)
   replace PY := lH (PY.out.nx kk)
   rw [← RPP.out] at own
   obtain ⟨aZ, cZ, rfl, PZ, _, _, _, _⟩ := own.pl
   clear own
   rw [LY.out] at PZ ⊢
   replace PZ := lH PZ
   clear kk
   go_wp2_with fail
   (with_reducible refine (same14_r _ _ _ Y _ _ _ PY.out PZ.out (by omega) (few_connR RY.out)).mono ?_)
   rintro e y7 ⟨rfl, kk⟩
   replace TG := lH (TG.out.nx kk)
   replace QX := lH (QX.out.nx kk)
   replace HS := lH (HS.out.nx kk)
   replace PP := lH (PP.out.nx kk)
   replace PX := lH (PX.out.nx kk)
   replace PY := lH (PY.out.nx kk)
   replace PZ := lH (PZ.out.nx kk)
   clear kk
   go_wp2_with fail
   (with_reducible refine (sane18_x _ TG.out).mono ?_)
   rintro e y8 ⟨rfl, kk⟩
   replace TG := lH (TG.out.nx kk)
   replace QX := lH (QX.out.nx kk)
   replace HS := lH (HS.out.nx kk)
   replace PP := lH (PP.out.nx kk)
   replace PX := lH (PX.out.nx kk)
   replace PY := lH (PY.out.nx kk)
   replace PZ := lH (PZ.out.nx kk)
   clear kk
   go_wp2_with fail
   go_ret
   exact ⟨rfl, QX.out⟩
end Go.Proofs.YtlgdjigocopglaaGreatDoor
/-
 RepairCleans returns true for every list of numbers and every number, and leaves its arguments as they were.
 Condition: the table of math/bits and the letters of the keys are as the program text lays them (tied by the card).
-/
namespace Go.Proofs.YtlgdjigocopglaaGreatDoor
open Go.ChangeShapes Go.WideShapes Go.ChangeAt Go.RowKit Go.Deep Go.Joins
open Go.ChangeMaps (open_string shut_string)
set_option linter.unusedVariables false
theorem Tryz.cellsInt : Tryz.prog.cellsOf 3 = 1 := by kernel_rfl
set_option maxRecDepth 100000 in
set_option maxHeartbeats 1000000 in
theorem repairCleans_lifted (os : Os) (started : os.Started) (H : Type) (enc : TypeId × Value → H) :
  ReturnsInHanded {} Tryz.checked os 5 .any (fun w args => (Rows.repairCleansSpec.pre enc Tryz.prog Tryz.f5 [] false w args ∧ laidMetH Tryz.prog Rows.repairCleansRow.laid w) ∧ sizedMet enc Tryz.prog Tryz.f5 (OpenSpec.ofChange Rows.repairCleansSpec) false w args)
   (Rows.repairCleansSpec.post enc Tryz.prog Tryz.f5 false true false false) := by
 refine returnsInHanded_of_change_and (C := Tryz.checked) (X := fun w _ => laidMetH Tryz.prog Rows.repairCleansRow.laid w) (fun _ _ _ hh h => h.of_heap hh) own started (by kernel_rfl) Tryz.func5
  (ChangeSpec.witness_shaped (enc := enc) (C := Tryz.checked) (os := os) (X := fun w _ => laidMetH Tryz.prog Rows.repairCleansRow.laid w) false (World.doorLaid Tryz.prog 400 os) #[.slice none 0 0, .int .i64 0] 8 rfl (World.shaped_of_RefB (by kernel_rfl) (by kernel_rfl)) (by kernel_rfl) (by kernel_rfl) (by kernel_rfl) (laidMetH_of_parts3 (fuel := 8) (laidMet_of_run' 8 (by kernel_rfl) (by kernel_rfl)) (by kernel_rfl) (by kernel_rfl))) ?_
 intro W base args ds gs before hval0 hW _ _ hL _
 have hval : ∀ (j : Nat) t v, Tryz.f5.params[j]? = some t → args[j]? = some v → Value.okWide Tryz.prog W .any base t v := hval0
 have hW' := hW
 obtain ⟨p, q, hA0, hV, rfl, hfz, hnd⟩ := hW
 have hA : DataW.TrodAll enc Tryz.prog W 0 (fun _ => true) true Tryz.f5.params.toList args.toList ds p := hA0
 rw [Tryz.params5] at hA hval
 obtain ⟨v0, vs0, d0, ds0, p0, q0, hargs, rfl, rfl, h0, r0⟩ := trodAll_cons hA
 obtain ⟨v1, vs1, d1, ds1, p1, q1, rfl, rfl, rfl, h1, r1⟩ := trodAll_cons r0
 obtain ⟨rfl, rfl, rfl⟩ := trodAll_nil r1
 obtain rfl : args = #[v0, v1] := by cases args; simp_all
 obtain ⟨rfl, rfl⟩ := trodVars_none hV
 have k0 := h0
 have lt0 : ∀ x ∈ p0, x.block < W.heap.size := by obtain ⟨m, hm⟩ := k0; exact DataW.trod_lt m _ _ _ hm
 have k1 := h1
 have lt1 : ∀ x ∈ p1, x.block < W.heap.size := by obtain ⟨m, hm⟩ := k1; exact DataW.trod_lt m _ _ _ hm
 obtain ⟨A0, n0, cap0, l0, rfl, rd0, hc0, hm0, wf0, nl0⟩ := rd_ints Tryz.underlying22 Tryz.underlying3 Tryz.cellsInt (hval 0 22 v0 rfl rfl) h0
 obtain ⟨a1, rfl, rfl, rfl, wa1⟩ := open_int Tryz.underlying3 (hval 1 3 v1 rfl rfl) h1
 clear hA0 hval0
 have hT : TabG W := tabG_of hL (by kernel_rfl)
 have hL2 : LetG W := letG_second hL (by kernel_rfl) (by kernel_rfl)
 refine (repaircleans_walk A0 n0 cap0 l0 a1 W rd0 hc0 hm0 hT hL2).mono fun e W' ⟨he, hch⟩ => ?_
 have bel : Below W.heap.size W W' := hch.below (fun _ h => h)
 subst he
 exact ⟨_, rfl, _, _, _, [], _, [], hW', trodAll_mk1 (shut_bool Tryz.underlying4 _), (trodAll_cons_mk (Below.trod laidOut (by kernel_rfl) (of_decide_eq_true (by kernel_rfl)) k0 bel lt0) (trodAll_cons_mk (Below.trod laidOut (by kernel_rfl) (of_decide_eq_true (by kernel_rfl)) k1 bel lt1) trodAll_mk0)), rfl, bel.frame _, fun h => by cases h⟩
theorem repairCleans_over : Rows.repairCleansRow.holds Tryz.pinned (OpenSpec.ofChange Rows.repairCleansSpec) :=
 OpenClaim.holds_of_wide 5 Tryz.f5 rfl rfl rfl rfl rfl rfl rfl ⟨rfl, rfl, rfl, rfl, rfl⟩ rfl rfl rfl rfl rfl (by kernel_rfl) Tryz.func5 (by kernel_rfl)
  (of_decide_eq_true (by kernel_rfl)) (by unfold Func.isWrapper; first | (rw [if_pos (by decide +kernel)]; kernel_rfl) | (rw [if_neg (by decide +kernel)]; exact ⟨rfl, rfl⟩))
  (fun os started H enc _ => repairCleans_lifted os started H enc)
theorem RepairCleans_holds : Rows.RepairCleansCardSaid :=
 Claim7.holds_tied_plain_at .later [] [.data, .data] true (true, "b790f26ef35c85b0afa36e3ca6ce5369a92ddcf9cf001d61a03045e2f3eaabbf") false
  repairCleans_over (fun _ h => by cases h) (by kernel_rfl) (fun _ h => by cases h) repairCleans_row_tie rfl ⟨rfl, rfl⟩ (by kernel_rfl) rfl
  (fun f fn hf hfn => by
   obtain rfl : f = 5 := Option.some.inj ((show Tryz.prog.funcNamed "skipgraph/skipgraphlaw18.RepairCleans" = some 5 by kernel_rfl).symm.trans hf) |>.symm
   obtain rfl : fn = Tryz.f5 := (Option.some.inj (Tryz.func5.symm.trans hfn)).symm
   exact ⟨by kernel_rfl, fun j t ht => by
    rw [Tryz.params5] at ht
    have hm : t ∈ [22, 3] := by simpa using Array.mem_of_getElem? ht
    have hall : ([22, 3].all fun u => !Tryz.prog.wantsStandIn u) = true := by kernel_rfl
    exact (show Tryz.prog.wantsStandIn t = false by simpa using List.all_eq_true.1 hall t hm)⟩)
  (by kernel_rfl)
#print axioms RepairCleans_holds
end Go.Proofs.YtlgdjigocopglaaGreatDoor
