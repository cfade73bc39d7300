/- Texts for RepairRoundsProof. -/
import Derived.Test.YtlgdjigocopglaaGreatDoorRqAll14
import Derived.Test.YtlgdjigocopglaaGreatDoorRqBCDEF2
import Derived.Test.YtlgdjigocopglaaGreatDoorRqABC2
import Derived.Test.YtlgdjigocopglaaGreatDoorRqAB3
import Derived.Test.YtlgdjigocopglaaGreatDoorRepairRoundsProofL1
set_option linter.unusedSimpArgs false
set_option linter.unusedVariables false

namespace Go.Proofs.YtlgdjigocopglaaGreatDoor
open Go.RowKit
def Sm2 (P : List Pr) : Prop := ∀ p ∈ P, p.known.length ≤ 2000000 ∧ p.near.length ≤ 2000000
theorem Sm2.sm {P : List Pr} (h : Sm2 P) : SmallP P := fun p hp => by have := h p hp; omega
theorem normal_sm2V (N : List Nd) {P : List Pr} (h : Sm2 P) : Sm2 (normalN N P) := by
 intro p hp
 unfold normalN at hp
 split at hp
 ·obtain ⟨x, _, rfl⟩ := List.mem_map.1 hp
  unfold peerN
  cases hf : P.find? fun p => p.id == x.id with
  | none => exact ⟨Nat.zero_le _, Nat.zero_le _⟩
  | some q => exact h q (List.mem_of_find?_eq_some hf)
 ·cases hp
theorem own_lit2 {e base g : Nat} {w : World} {x y : Int} (B : Blk w g [.int .i64 x, .int .i64 y] e) (hb : base ≤ g) : OwnL 1 encI e base w (.slice (some ⟨g, 0, none⟩) 2 2) [x, y] :=
 ⟨rfl, .inr ⟨g, 2, #[.int .i64 x, .int .i64 y], rfl, hb, B, Nat.le_refl _, by unfold maxLen; omega, rfl, rfl⟩⟩
def S19 (g : Nat) (id : Int) (w wq : World) : Prop := Exb g w wq ∧ wq.cell? ⟨g, 0, none⟩ = some (.int .i64 id)
def RaRel (N : List Nd) (Q : List Pr) (w : World) (o i : Value) (wr : World) : Prop :=
 ∃ j : Nat, j ≤ Q.length ∧ i = .int .i64 j ∧ OwnL 2 encS 111 w.heap.size wr o ((Q.take j).flatMap (introsN N)) ∧ Ex w wr
def RcRel (M : List (Int × Int)) (id kl kr : Int) (w : World) (o i : Value) (wr : World) : Prop :=
 ∃ k : Nat, k ≤ M.length ∧ i = .int .i64 k ∧ OwnL 1 encI 3 w.heap.size wr o ([kl, kr] ++ toldN (M.take k) id) ∧ Ex w wr
theorem told_take {M : List (Int × Int)} {k : Nat} {m : Int × Int} (h : M[k]? = some m) (id : Int) : toldN (M.take (k + 1)) id = toldN (M.take k) id ++ (if m.1 = id then [m.2] else []) := by
 rw [List.take_add_one, h]
 unfold toldN
 rw [List.filter_append, List.map_append]
 congr 1
 by_cases he : m.1 = id
 ·rw [if_pos he]; simp [he]
 ·rw [if_neg he]; simp [he]
theorem told_le (M : List (Int × Int)) (id : Int) : (toldN M id).length ≤ M.length := by
 unfold toldN
 rw [List.length_map]
 exact List.length_filter_le _ _
set_option maxRecDepth 100000 in
set_option maxHeartbeats 16000000 in
theorem round_r (a : Option Addr) (n c : Nat) (N : List Nd) (a2 : Option Addr) (n2 c2 : Nat) (P : List Pr) (w : World) (h : Sl 3 encN w a n N) (hn : n ≤ 1000) (h2 : PL w a2 n2 P) (hn2 : n2 ≤ 1000000) (hP : Sm2 P) :
  Calls Tryz.prog 91 #[.slice a n c, .slice a2 n2 c2] w (PlPost (roundN N P) w) := by
 have HL := lH h.len
 go_enter Tryz.func91, Tryz.ntmps91
 go_wp2_with fail
 (with_reducible refine (normal_r _ _ _ N _ _ _ P _ h hn h2 hn2 hP.sm).mono ?_)
 rintro e w3 ⟨v3, qs, rfl, OQ, kk⟩
 replace h := h.nx kk
 clear h2
 have K03 := lH kk
 obtain ⟨hQ1, hQ2⟩ := normal_le N P
 have HR := lH (roundN_eq N P)
 have HQS := lH (normal_sm2V N hP)
 generalize normalN N P = Q at OQ hQ1 hQ2 HR HQS
 obtain ⟨aQ, cQ, rfl, PQ0, _, _, _, _⟩ := OQ.pl
 have HPQ := lH PQ0
 have HOQ := lH OQ
 have hQn : Q.length ≤ n := by have := HL.out; omega
 have hNn : N.length ≤ 1000 := by have := HL.out; omega
 have hz3 := kk.size
 have HS3 := lH h
 have HQ2 := lH hQ2
 clear OQ PQ0 kk hQ1 hQ2 hP h
 go_wp2_with fail
 go_loopw [6, 7] (fun o i wr => RaRel N Q w3 o i wr) (fun _ i _ => Q.length - (intOf i).toNat)
 case atStart => exact ⟨0, by omega, rfl, OwnL.nil _ _ _ _ _, Ex.refl _⟩
 case round =>
  obtain ⟨j, hj, rfl, own, ki⟩ := hrel
  obtain ⟨wi, rfl⟩ : ∃ wi : World, wi = wr := ⟨_, rfl⟩
  by_cases hjm : j < Q.length
  ·obtain ⟨x5, o5, b1, m1, d1, b4, m4, d4, y, rfl, hx5, hy, e0, e1, e2, e3, e4, s1, s4⟩ := (HPQ.out.nx ki).rd hjm
   have FSn := lH (flat_snoc (N := N) hy)
   have hEl : ((Q.take j).flatMap (introsN N)).length ≤ 1000 * 2000 := by
    refine Nat.le_trans (flat_len N (Q.take j)) (Nat.mul_le_mul ?_ ?_)
    ·rw [List.length_take]; omega
    ·omega
   have hIl : (introsN N y).length ≤ 2000 := Nat.le_trans (intros_len N y) (by omega)
   have hyP := HQS.out y (List.mem_of_getElem? hy)
   have hl1 : m1 ≤ 2000000 := by have := s1.len; omega
   have hl4 : m4 ≤ 2000000 := by have := s4.len; omega
   have S1 := lH s1
   have S4 := lH s4
   have KI := lH ki
   have hwi := ki.size
   generalize (Q.take j).flatMap (introsN N) = E at own FSn hEl
   have OWN := lH own
   clear hy hyP s1 s4 ki own
   go_wp2_with fail
   (with_reducible refine (intros_r _ _ _ N y _ _ _ _ _ _ _ (HS3.out.nx KI.out) hn S1.out S4.out hl1 hl4).mono ?_)
   rintro e w5 ⟨vI, rfl, oI, kk⟩
   rename_i hK
   obtain ⟨aI, cI, rfl, rI, _, _, _⟩ := oI.rd (fun _ => rfl)
   have SI : Rd 2 encS (fun k => k < w5.heap.size) w5 aI (introsN N y).length (introsN N y) := rI.mono (fun _ hk => hk.2)
   have OW5 := OWN.out.nx kk
   have K5 := lH (KI.out.nx kk)
   have z5 := K5.out.size
   have hnil : aI = none → cI = 0 := by
    intro he
    obtain ⟨a', c', e', _, _, _, hz⟩ := (show OwnL 2 encS 111 wi.heap.size w5 (.slice aI (introsN N y).length cI) (introsN N y) from oI).slf (fun _ => rfl)
    injection e' with x1 x2 x3
    rw [x3]
    exact hz (by rw [← x1]; exact he)
   clear e0 e1 e2 e3 e4 oI rI kk
   generalize introsN N y = I at SI FSn hIl hnil ⊢
   refine hK _ _ ?_
   clear hK
   refine wpList_append_rda (enc := encS) w5 rfl (.tmp 23) (.tmp 29) 108 rfl w3.heap.size 111 (.agg #[.int .i64 0, .int .i64 0]) 2 16 Tryz.underlying108 Tryz.infoIn rfl (by omega) (by omega) _ E OW5 rfl _ aI I.length cI I SI hnil (fun _ => rfl) (by simp [encS, Value.oneCell']) rfl (by omega) (by omega) z5 ?_
   intro v6 w6 own6 ch0 ch1 hz6
   go_wp2_with fail
   exact ⟨⟨j + 1, by omega, by go_num, by rw [FSn.out]; exact own6, Chg.trans K5.out ch1⟩, by simp [intOf]; omega⟩
  ·obtain rfl : j = Q.length := by omega
   rw [List.take_of_length_le (Nat.le_refl _)] at own
   have hMl : (Q.flatMap (introsN N)).length ≤ 2000000 := Nat.le_trans (flat_len N Q) (Nat.le_trans (Nat.mul_le_mul (show Q.length ≤ 1000 by omega) (show 2 * N.length ≤ 2000 by omega)) (by omega))
   have HMs : Hid (0 < Q.length → (Q.flatMap (introsN N)).length ≤ 128000) := lH (fun h0 => by
    have hN64 : N.length ≤ 64 := check_len (HQ2.out h0)
    exact Nat.le_trans (flat_len N Q) (Nat.le_trans (Nat.mul_le_mul (show Q.length ≤ 1000 by omega) (show 2 * N.length ≤ 128 by omega)) (by omega)))
   obtain ⟨aM, cM, rfl, rM, _, _, _⟩ := own.rd (fun _ => rfl)
   have SM : Hid (Sl 2 encS wi aM (Q.flatMap (introsN N)).length (Q.flatMap (introsN N))) := lH (rM.mono (fun _ hk => hk.2))
   generalize Q.flatMap (introsN N) = M at SM HR hMl HMs own rM ⊢
   have K3 := lH ki
   clear own rM ki hj hjm
   go_wp2_with fail
   go_loopw [8, 9] (fun o i wr => LtRel N Q M qs w.heap.size wi o i wr) (fun _ i _ => Q.length - (intOf i).toNat)
   case atStart => exact ⟨0, [], by omega, rfl, OwnP.nil _ _ _ _ _, (fun g hg => by cases hg), (by intro i q h; simp at h), Ex.refl _⟩
   case round =>
    obtain ⟨j2, qz, hj2, rfl, own, hblk, hnear, ki⟩ := hrel
    obtain ⟨wk, rfl⟩ : ∃ wk : World, wk = wr := ⟨_, rfl⟩
    have HB := lH hblk
    have HN := lH hnear
    clear hblk hnear
    by_cases hjm : j2 < Q.length
    ·have hM1 := HMs.out (by omega)
     have own0 := HOQ.out.nx (K3.out.nx ki)
     obtain ⟨y, hy⟩ : ∃ y, Q[j2]? = some y := ⟨Q[j2], List.getElem?_eq_getElem hjm⟩
     obtain ⟨⟨A1, n1, c1⟩, ⟨A4, n4, c4⟩, hq, okn, onr⟩ := own0.get hy
     obtain ⟨a', cap', e', r', _⟩ := own0.1.rd encQ_len
     have hql : qs.length = Q.length := own0.2.1
     obtain ⟨x3, o3, q', ea, hx3, hq', hc3⟩ := Rd.at r' (j := j2) (by omega)
     obtain rfl : (y.nums, (A1, n1, c1), (A4, n4, c4)) = q' := Option.some.inj (hq.symm.trans hq')
     obtain rfl : aQ = some ⟨x3, o3, none⟩ := by injection e' with h1 h2 h3; rw [h1, ea]
     have e0 : wk.cell? ⟨x3, o3 + j2 * 5, none⟩ = some (.int .i64 y.id) := hc3 0 _ rfl
     have e1 : wk.cell? ⟨x3, o3 + j2 * 5 + 1, none⟩ = some (.slice A1 n1 c1) := hc3 1 _ rfl
     have e2 : wk.cell? ⟨x3, o3 + j2 * 5 + 1 + 1, none⟩ = some (.int .i64 y.left) := hc3 2 _ rfl
     have e3 : wk.cell? ⟨x3, o3 + j2 * 5 + 1 + 1 + 1, none⟩ = some (.int .i64 y.right) := hc3 3 _ rfl
     have e4 : wk.cell? ⟨x3, o3 + j2 * 5 + 1 + 1 + 1 + 1, none⟩ = some (.slice A4 n4 c4) := hc3 4 _ rfl
     have S1 : Hid (Sl 1 encI wk A1 n1 y.known) := lH (by obtain ⟨_, _, e, r, _⟩ := okn.rd (fun _ => rfl); injection e with h1 h2 h3; subst h1 h2 h3; exact r.mono (fun _ hk => hk.2))
     have S4 : Hid (Sl 4 encNr wk A4 n4 y.near) := lH (by obtain ⟨_, _, e, r, _⟩ := onr.rd (fun _ => rfl); injection e with h1 h2 h3; subst h1 h2 h3; exact r.mono (fun _ hk => hk.2))
     have hyP := HQS.out y (List.mem_of_getElem? hy)
     have hl1 : n1 ≤ 2000000 := by have := S1.out.len; omega
     have hl4 : n4 ≤ 2000000 := by have := S4.out.len; omega
     have ONR := lH onr
     have FN : Hid (∀ (j : Nat) (r : PQ) (g : Nat), qz[j]? = some r → j < j2 → r.2.2.val.ownBlock = some g → ¬ (Value.slice A4 n4 c4).ownBlock = some g) := lH (fun i r g hr hi hg hv => by
      obtain ⟨q0, h0, h1⟩ := HN.out i r hr
      rw [h1] at hg
      have := own0.2.2.2.2 i j2 q0 _ g h0 hq hg hv
      omega)
     have HQJ := lH hq
     have hqz : qz.length = j2 := by rw [own.2.1, List.length_map, List.length_take]; omega
     have SN : Hid ((Q.take (j2 + 1)).map (rndP N M) = (Q.take j2).map (rndP N M) ++ [rndP N M y]) := lH (by rw [List.take_add_one, hy, List.map_append]; rfl)
     have HRP : Hid (rndP N M y = { y with left := (keepN N y).1, right := (keepN N y).2, known := ordN N ([(keepN N y).1, (keepN N y).2] ++ toldN M y.id) y.id }) := lH rfl
     have OWN := lH own
     have KI := lH ki
     have hwi : w.heap.size ≤ wk.heap.size := (K03.out.nx (K3.out.nx ki)).size
     clear own0 hq okn onr e' r' hql hx3 hq' hc3 hyP hy own ki
     have B13 := Blk.new wk [.int .i64 y.id, .slice A1 n1 c1, .int .i64 y.left, .int .i64 y.right, .slice A4 n4 c4] 41
     have kk := Ex.new wk (.cells #[.int .i64 y.id, .slice A1 n1 c1, .int .i64 y.left, .int .i64 y.right, .slice A4 n4 c4] 41)
     obtain ⟨w11, hw11⟩ : ∃ w11, w11 = wk.alloc (.cells #[.int .i64 y.id, .slice A1 n1 c1, .int .i64 y.left, .int .i64 y.right, .slice A4 n4 c4] 41) := ⟨_, rfl⟩
     obtain ⟨g13, hg13⟩ : ∃ g13, g13 = wk.heap.size := ⟨_, rfl⟩
     replace B13 : Blk w11 g13 [.int .i64 y.id, .slice A1 n1 c1, .int .i64 y.left, .int .i64 y.right, .slice A4 n4 c4] 41 := by rw [hw11, hg13]; exact B13
     rw [← hw11] at kk
     have Hw11 := lH hw11
     have Hg13 := lH hg13
     have K11 := lH kk
     have zg13 : wk.heap.size ≤ g13 := by omega
     clear kk hw11 hg13
     go_upto_region 12 with fail
     rw [← Hg13.out, ← Hw11.out]
     clear Hg13 Hw11
     have q0 := B13.cell 0 _ rfl
     have q1 := B13.cell 1 _ rfl
     have q2 := B13.cell 2 _ rfl
     have q3 := B13.cell 3 _ rfl
     have q4 := B13.cell 4 _ rfl
     clear e0 e1 e2 e3 e4
     go_wp2_with fail
     (with_reducible refine (keep_r _ _ _ N y _ _ _ _ _ _ _ (HS3.out.nx (K3.out.nx (KI.out.nx K11.out))) hn (S1.out.nx K11.out) (S4.out.nx K11.out) hl1 hl4).mono ?_)
     rintro e w12 ⟨rfl, kk⟩
     replace B13 := B13.nx kk
     replace K11 := lH (K11.out.nx kk)
     clear q0 q1 q2 q3 q4 kk
     generalize keepN N y = kl at HRP ⊢
     obtain ⟨kl, kr⟩ := kl
     simp only at HRP ⊢
     have hl12 := B13.lt
     have B14 := Blk.new w12 [.int .i64 kl, .int .i64 kr] 69
     have kk := Ex.new w12 (.cells #[.int .i64 kl, .int .i64 kr] 69)
     obtain ⟨w13, hw13⟩ : ∃ w13, w13 = w12.alloc (.cells #[.int .i64 kl, .int .i64 kr] 69) := ⟨_, rfl⟩
     obtain ⟨g14, hg14⟩ : ∃ g14, g14 = w12.heap.size := ⟨_, rfl⟩
     replace B14 : Blk w13 g14 [.int .i64 kl, .int .i64 kr] 69 := by rw [hw13, hg14]; exact B14
     rw [← hw13] at kk
     have Hw13 := lH hw13
     have Hg14 := lH hg14
     replace B13 := B13.nx kk
     replace K11 := lH (K11.out.nx kk)
     have N14 := lH (show g13 < g14 by have := B13.lt; have := hg14; have := hl12; omega)
     clear kk hw13 hg14
     go_upto_region 13 with fail
     rw [← Hg14.out, ← Hw13.out]
     clear Hg14 Hw13
     have r0 := B14.cell 0 _ rfl
     have r1 := B14.cell 1 _ rfl
     have B13h := lH B13
     have B14h := lH B14
     have hg13l := B13.lt
     clear B13 B14
     have BK := Blk.new w13 [.int .i64 kl, .int .i64 kr] 3
     have kk := Ex.new w13 (.cells #[.int .i64 kl, .int .i64 kr] 3)
     obtain ⟨w14, hw14⟩ : ∃ w14, w14 = w13.alloc (.cells #[.int .i64 kl, .int .i64 kr] 3) := ⟨_, rfl⟩
     obtain ⟨gk, hgk⟩ : ∃ gk, gk = w13.heap.size := ⟨_, rfl⟩
     replace BK : Blk w14 gk [.int .i64 kl, .int .i64 kr] 3 := by rw [hw14, hgk]; exact BK
     rw [← hw14] at kk
     have Hw14 := lH hw14
     have Hgk := lH hgk
     have KK := lH kk
     have OK0 := lH (own_lit2 (base := w13.heap.size) BK (by omega))
     clear kk hw14 hgk BK
     go_upto_region 14 with fail
     rw [← Hgk.out, ← Hw14.out]
     clear Hgk Hw14
     have z13 := K11.out.size
     have zw13 : w.heap.size ≤ w13.heap.size := Nat.le_trans hwi z13
     clear r0 r1
     go_wp2_with fail
     go_loopw [12, 13] (fun o i wr => RcRel M y.id kl kr w13 o i wr) (fun _ i _ => M.length - (intOf i).toNat)
     case atStart => exact ⟨0, by omega, rfl, OK0.out, KK.out⟩
     case round =>
      obtain ⟨k, hk, rfl, ok, kc⟩ := hrel
      obtain ⟨wc, rfl⟩ : ∃ wc : World, wc = wr := ⟨_, rfl⟩
      have K13 := lH (K11.out.nx kc)
      have kch := lH kc
      have zc := kc.size
      by_cases hkm : k < M.length
      ·obtain ⟨xm, om, m, hea, hxm, hm, hcm⟩ := (SM.out.nx (KI.out.nx K13.out)).at hkm
       subst hea
       have CM0 : Hid (∀ wq, Ex wc wq → wq.cell? ⟨xm, om + k * 2, none⟩ = some (.int .i64 m.1)) := lH (fun wq kq => Chg.cellv kq (by simpa using hcm 0 _ rfl) hxm)
       have CM1 : Hid (∀ wq, Ex wc wq → wq.cell? ⟨xm, om + k * 2 + 1, none⟩ = some (.int .i64 m.2)) := lH (fun wq kq => Chg.cellv kq (hcm 1 _ rfl) hxm)
       have QI : Hid (∀ wq, Ex wc wq → wq.cell? ⟨g13, 0, none⟩ = some (.int .i64 y.id)) := lH (fun wq kq => (B13h.out.nx (kch.out.nx kq)).cell 0 _ rfl)
       have TT := lH (told_take hm y.id)
       have htl : (toldN (M.take k) y.id).length ≤ 128000 := Nat.le_trans (told_le _ _) (by rw [List.length_take]; omega)
       have hol : ([kl, kr] ++ toldN (M.take k) y.id).length ≤ 128002 := by rw [List.length_append]; simp; omega
       have hkc : (k : Int) < (M.length : Int) := by omega
       have TA : Hid (∀ l, [kl, kr] ++ (toldN (M.take k) y.id ++ l) = ([kl, kr] ++ toldN (M.take k) y.id) ++ l) := lH (fun l => (List.append_assoc _ _ _).symm)
       generalize toldN (M.take k) y.id = T at ok TT TA hol htl
       have OKh := lH ok
       clear hm hcm hxm kc ok
       go_upto_region 17 with fail
       refine wp_region_held_drew (S := Ex wc) (by kernel_rfl) ((Ex.refl wc).drew) (fun hHeld => ?_)
       obtain ⟨wd, hwdx⟩ : ∃ wd : World, wd = World.drew wc := ⟨_, rfl⟩
       rw [← hwdx] at hHeld ⊢
       have hDrew : Ex wc wd := by rw [hwdx]; exact (Ex.refl wc).drew
       clear hwdx
       refine tkH 0 (v := ?_) rfl (by kernel_rfl) (fun _ _ _ h => h) (by rfl) ?y1x0q5 (by assumption) ?z1x0q5
       case y1x0q5 => intro wq hSw; (go_simp); (try with_reducible rfl)
       try simp only [Act.put, sA, sB, sC]
       refine tkH 1 (v := ?_) rfl (by kernel_rfl) (fun _ _ _ h => h) (by rfl) ?y1x1q8 (by assumption) ?z1x1q8
       case y1x1q8 => intro wq hSw; (go_simp); (try with_reducible rfl)
       try simp only [Act.put, sA, sB, sC]
       refine tkH 2 (v := ?_) rfl (by kernel_rfl) (fun _ _ _ h => h) (by rfl) ?y1x2q11 (by assumption) ?z1x2q11
       case y1x2q11 => intro wq hSw; (go_simp); (try with_reducible rfl)
       try simp only [Act.put, sA, sB, sC]
       refine tkH 3 (v := ?_) rfl (by kernel_rfl) (fun _ _ _ h => h) (by rfl) ?y1x3q14 (by assumption) ?z1x3q14
       case y1x3q14 => intro wq hSw; (go_simp); (try with_reducible rfl)
       try simp only [Act.put, sA, sB, sC]
       refine tkH 4 (v := ?_) rfl (by kernel_rfl) (fun _ _ _ h => h) (by rfl) ?y1x4q17 (by assumption) ?z1x4q17
       case y1x4q17 => intro wq hSw; (have cq := CM0.out wq hSw; go_simp); (try with_reducible rfl)
       try simp only [Act.put, sA, sB, sC]
       refine tkH 5 (v := ?_) rfl (by kernel_rfl) (fun _ _ _ h => h) (by rfl) ?y1x5q20 (by assumption) ?z1x5q20
       case y1x5q20 => intro wq hSw; (go_simp); (try with_reducible rfl)
       try simp only [Act.put, sA, sB, sC]
       refine tkH 6 (v := ?_) rfl (by kernel_rfl) (fun _ _ _ h => h) (by rfl) ?y1x6q23 (by assumption) ?z1x6q23
       case y1x6q23 => intro wq hSw; (have cq := QI.out wq hSw; go_simp); (try with_reducible rfl)
       try simp only [Act.put, sA, sB, sC]
       refine tkH 7 (v := ?_) rfl (by kernel_rfl) (fun _ _ _ h => h) (by rfl) ?y1x7q26 (by assumption) ?z1x7q26
       case y1x7q26 => intro wq hSw; (go_simp); (try with_reducible rfl)
       try simp only [Act.put, sA, sB, sC]
       refine wpAnyH_done (by kernel_rfl) ?_ _
       have OD := OKh.out.nx hHeld
       have KD : Ex w13 wd := kch.out.nx hHeld
       have zd := KD.size
       have cm1 := CM1.out wd hHeld
       clear hHeld hDrew OKh
       by_cases he : m.1 = y.id
       ·have de : (m.1 == y.id) = true := by simpa using he
        have T2 := lH (TT.out.trans (by rw [if_pos he] : T ++ (if m.1 = y.id then [m.2] else []) = T ++ [m.2]))
        clear he TT
        generalize [kl, kr] ++ T = W at OD hol TA
        go_wp2_with (at_builtin; go_loud (refine wpList_append_lit (enc := encI) wd rfl _ _ 22 rfl w13.heap.size 3 (.int .i64 0) 1 8 Tryz.underlying22 Tryz.infoI6 rfl (by omega) (by omega) _ _ OD rfl (m.2 : Int) _ rfl rfl (by simp [encI, Value.oneCell']) _ (by simp) rfl (by omega) zd _ ?_); intro v6 w6 own6 ch0 ch1 hz6)
        exact ⟨⟨k + 1, by omega, by go_num, by rw [T2.out, TA.out]; exact own6, Chg.trans KD ch1⟩, by simp [intOf]; omega⟩
       ·have de : (m.1 == y.id) = false := by simpa using he
        have T2 := lH (TT.out.trans (by rw [if_neg he, List.append_nil] : T ++ (if m.1 = y.id then [m.2] else []) = T))
        have ODh := lH OD
        have KDh := lH KD
        clear he TT OD KD cm1
        go_wp2_with fail
        exact ⟨⟨k + 1, by omega, by go_num, by rw [T2.out]; exact ODh.out, KDh.out⟩, by simp [intOf]; omega⟩
      ·obtain rfl : k = M.length := by omega
       rw [List.take_of_length_le (Nat.le_refl _)] at ok
       have hkc : ¬ ((M.length : Nat) : Int) < (M.length : Int) := by omega
       have htl : ([kl, kr] ++ toldN M y.id).length ≤ 2000002 := by have h1 := told_le M y.id; rw [List.length_append]; simp; omega
       generalize toldN M y.id = T at HRP ok htl
       obtain ⟨aK, cK, rfl, rK, _⟩ := ok.rd (fun _ => rfl)
       have SK : Hid (Sl 1 encI wc aK ([kl, kr] ++ T).length ([kl, kr] ++ T)) := lH (rK.mono (fun _ hk => hk.2))
       have B13c := lH (B13h.out.nx kc)
       have B14c := lH (B14h.out.nx kc)
       have FK := lH (fun (j : Nat) (r : PQ) (g : Nat) (hr : qz[j]? = some r) (hg : r.2.1.val.ownBlock = some g) => (show g < wk.heap.size from by obtain ⟨_, _, _, r2, _⟩ := OWN.out.getp hr; exact (r2.lt g hg).2))
       have zkc : wk.heap.size ≤ wc.heap.size := K13.out.size
       have zwc : w.heap.size ≤ wc.heap.size := Nat.le_trans hwi zkc
       have n1413 : ¬ g14 = g13 := by have := N14.out; omega
       have hg13c : g13 < wc.heap.size := Nat.lt_of_lt_of_le hg13l zc
       generalize [kl, kr] ++ T = W at SK HRP htl rK ok ⊢
       clear ok rK kc
       go_upto_region 19 with fail
       refine wp_region_held_drew (S := S19 g13 y.id wc) (by kernel_rfl) (⟨(Exb.refl g13 wc).drew, ((B13c.out.nx (Ex.refl wc).drew).cell 0 _ rfl)⟩) (fun hHeld => ?_)
       obtain ⟨wd, hwdx⟩ : ∃ wd : World, wd = World.drew wc := ⟨_, rfl⟩
       rw [← hwdx] at hHeld ⊢
       have hDrew : Ex wc wd := by rw [hwdx]; exact (Ex.refl wc).drew
       clear hwdx
       refine tkH 0 (v := ?_) rfl (by kernel_rfl) (fun _ _ _ h => h) (by rfl) ?y2x0q5 (by assumption) ?z2x0q5
       case y2x0q5 => intro wq hSw; (go_simp); (try with_reducible rfl)
       try simp only [Act.put, sA, sB, sC]
       refine tkH 1 (v := ?_) rfl (by kernel_rfl) (fun _ _ _ h => h) (by rfl) ?y2x1q8 (by assumption) ?z2x1q8
       case y2x1q8 => intro wq hSw; (have cq := (B14c.out.nxb n1413 hSw.1).cell 0 _ rfl; go_simp); (try with_reducible rfl)
       try simp only [Act.put, sA, sB, sC]
       refine tkH 2 (v := ?_) rfl (by kernel_rfl) (fun _ _ _ h => h) (by rfl) ?y2x2q11 (by assumption) ?z2x2q11
       case y2x2q11 => intro wq hSw; (go_simp); (try with_reducible rfl)
       try simp only [Act.put, sA, sB, sC]
       refine tkH 3 (v := ?_) rfl (by kernel_rfl) (fun _ _ _ h => h) (by rfl) ?y2x3q14 (by assumption) ?z2x3q14
       case y2x3q14 => intro wq hSw; (have cq := (B14c.out.nxb n1413 hSw.1).cell 1 _ rfl; go_simp); (try with_reducible rfl)
       try simp only [Act.put, sA, sB, sC]
       refine tkH 4 (v := ?_) rfl (by kernel_rfl) (fun _ _ _ h => h) (by rfl) ?y2x4q17 (by assumption) ?z2x4q17
       case y2x4q17 => intro wq hSw; (go_simp); (try with_reducible rfl)
       try simp only [Act.put, sA, sB, sC]
       refine tkH 5 (v := ?_) rfl (by kernel_rfl) (fun _ _ _ h => h) (by rfl) ?y2x5q20 (by assumption) ?z2x5q20
       case y2x5q20 => intro wq hSw; (go_simp); (try with_reducible rfl)
       try simp only [Act.put, sA, sB, sC]
       refine tkH 6 (v := ?_) rfl (by kernel_rfl) (fun _ _ _ h => h) (by rfl) ?y2x6q23 (by assumption) ?z2x6q23
       case y2x6q23 => intro wq hSw; (go_simp); (try with_reducible rfl)
       try simp only [Act.put, sA, sB, sC]
       refine tkH 7 (v := ?_) rfl (by kernel_rfl) (fun _ _ _ h => h) (by rfl) ?y2x7q26 (by assumption) ?z2x7q26
       case y2x7q26 => intro wq hSw; (have cq := hSw.2; go_simp); (try with_reducible rfl)
       try simp only [Act.put, sA, sB, sC]
       refine tkH 9 (v := ?_) rfl (by kernel_rfl) (fun _ _ _ h => h) (by rfl) ?y2x9q29 (by assumption) ?z2x9q29
       case y2x9q29 => intro wq hSw; (go_simp); (try with_reducible rfl)
       try simp only [Act.put, sA, sB, sC]
       refine wpAnyH_ready (rs := [8]) (by kernel_rfl) (by simp) ?_
       refine AllReadyH.cons (o := ⟨_, _, _, _, _, _⟩) rfl (fun K hK => ?_) AllReadyH.nil
       go_simp
       (with_reducible refine (ordered_r _ _ _ N _ _ _ W y.id _ (HS3.out.nx (K3.out.nx (KI.out.nx (K13.out.nx hDrew)))) hn (SK.out.nx hDrew) (by omega)).mono ?_)
       rintro e wz ⟨vK, rfl, oK, kk⟩
       obtain ⟨AK, CK, rfl, _, _, _, _⟩ := oK.slf (fun _ => rfl)
       have OKL := lH (fun g hg => Nat.le_trans hDrew.size (oK.lt g hg).1)
       replace oK := oK.base (Nat.le_trans zwc hDrew.size)
       have hE := hDrew.nx kk
       clear kk
       have BQ := B13c.out.nx hE
       have KZ := hE.b g13
       refine hK.out _ _ (⟨KZ, BQ.cell 0 _ rfl⟩) (fun hHeld => ?_)
       clear hK K
       try simp only [Act.put, sA, sB, sC]
       refine wpAnyH_ready (rs := [10]) (by kernel_rfl) (by simp) ?_
       refine AllReadyH.cons (o := ⟨_, _, _, _, _, _⟩) rfl (fun K hK => ?_) AllReadyH.nil
       have cq := BQ.cell 2 _ rfl
       have fq := BQ.free 2
       go_simp
       clear cq fq
       replace oK := oK.put BQ (by decide) ((Exb.refl g13 _).setB (p := ⟨g13, 2, none⟩) (.int .i64 kl) rfl)
       replace KZ := KZ.setB (p := ⟨g13, 2, none⟩) (.int .i64 kl) rfl
       replace BQ := BQ.set 2 (.int .i64 kl)
       refine hK.out _ _ (⟨KZ, BQ.cell 0 _ rfl⟩) (fun hHeld => ?_)
       clear hK K
       try simp only [Act.put, sA, sB, sC]
       refine tkH 11 (v := ?_) rfl (by kernel_rfl) (fun _ _ _ h => h) (by rfl) ?y2x11q59 (by assumption) ?z2x11q59
       case y2x11q59 => intro wq hSw; (go_simp); (try with_reducible rfl)
       try simp only [Act.put, sA, sB, sC]
       refine wpAnyH_ready (rs := [12]) (by kernel_rfl) (by simp) ?_
       refine AllReadyH.cons (o := ⟨_, _, _, _, _, _⟩) rfl (fun K hK => ?_) AllReadyH.nil
       have cq := BQ.cell 3 _ rfl
       have fq := BQ.free 3
       go_simp
       clear cq fq
       replace oK := oK.put BQ (by decide) ((Exb.refl g13 _).setB (p := ⟨g13, 3, none⟩) (.int .i64 kr) rfl)
       replace KZ := KZ.setB (p := ⟨g13, 3, none⟩) (.int .i64 kr) rfl
       replace BQ := BQ.set 3 (.int .i64 kr)
       refine hK.out _ _ (⟨KZ, BQ.cell 0 _ rfl⟩) (fun hHeld => ?_)
       clear hK K
       try simp only [Act.put, sA, sB, sC]
       refine tkH 13 (v := ?_) rfl (by kernel_rfl) (fun _ _ _ h => h) (by rfl) ?y2x13q74 (by assumption) ?z2x13q74
       case y2x13q74 => intro wq hSw; (go_simp); (try with_reducible rfl)
       try simp only [Act.put, sA, sB, sC]
       refine wpAnyH_ready (rs := [14]) (by kernel_rfl) (by simp) ?_
       refine AllReadyH.cons (o := ⟨_, _, _, _, _, _⟩) rfl (fun K hK => ?_) AllReadyH.nil
       have cq := BQ.cell 1 _ rfl
       have fq := BQ.free 1
       go_simp
       clear cq fq
       replace oK := oK.put BQ (by decide) ((Exb.refl g13 _).setB (p := ⟨g13, 1, none⟩) (.slice AK (ordN N W y.id).length CK) rfl)
       replace KZ := KZ.setB (p := ⟨g13, 1, none⟩) (.slice AK (ordN N W y.id).length CK) rfl
       replace BQ := BQ.set 1 (.slice AK (ordN N W y.id).length CK)
       refine hK.out _ _ (⟨KZ, BQ.cell 0 _ rfl⟩) (fun hHeld => ?_)
       clear hK K
       try simp only [Act.put, sA, sB, sC]
       refine wpAnyH_done (by kernel_rfl) ?_ _
       obtain ⟨wf, hwf⟩ : ∃ wf, wf = ((wz.setCell ⟨g13, 2, none⟩ (.int .i64 kl)).setCell ⟨g13, 3, none⟩ (.int .i64 kr)).setCell ⟨g13, 1, none⟩ (.slice AK (ordN N W y.id).length CK) := ⟨_, rfl⟩
       rw [← hwf] at BQ oK KZ ⊢
       clear hwf hHeld hDrew hE
       have KW := (Exl.nxb (b := g13) (w := wk) ⟨K13.out, zg13⟩ KZ).1
       have BF : Blk wf g13 [.int .i64 y.id, .slice AK (ordN N W y.id).length CK, .int .i64 kl, .int .i64 kr, .slice A4 n4 c4] 41 := BQ
       clear BQ KZ
       generalize ordN N W y.id = kn at HRP oK OKL BF ⊢
       have p0 := BF.cell 0 _ rfl
       have p1 := BF.cell 1 _ rfl
       have p2 := BF.cell 2 _ rfl
       have p3 := BF.cell 3 _ rfl
       have p4 := BF.cell 4 _ rfl
       have kl2 := Ex.new wf (.cells #[.int .i64 y.id, .slice AK kn.length CK, .int .i64 kl, .int .i64 kr, .slice A4 n4 c4] 41)
       have OP := OWN.out.nx (KW.nx kl2)
       have KN := lH (KW.nx kl2)
       have zn := Nat.le_trans hwi KN.out.size
       clear BF KW
       go_wp2_with (at_builtin; (refine wpList_append_W (enc := encQ) _ rfl _ _ 24 rfl w.heap.size 41 (.agg #[.int .i64 0, .slice none 0 0, .int .i64 0, .int .i64 0, .slice none 0 0]) 5 72 Tryz.underlying24 Tryz.infoPr rfl (by omega) (by omega) _ qz OP.row rfl _ 1 1 [((y.id, kl, kr), (AK, kn.length, CK), (A4, n4, c4))] (Sl.lit _ rfl rfl encQ_len rfl) encQ_len encQ_one rfl (by omega) (by omega) zn ?_); intro v9 w9 own9 ch0 ch1 hv)
       have RR := OP.push (p := ⟨y.id, kl, kr, kn, y.near⟩) (hk := (AK, kn.length, CK)) (hn := (A4, n4, c4)) (by decide) (by decide) own9 ch0 (oK.nx kl2) (ONR.out.nx KN.out) (fun j r g hr hg hv => by have h1 := FK.out j r g hr hg; have h2 := OKL.out g hv; omega) (fun j r g hr hg hv => FN.out j r g hr (by have := (List.getElem?_eq_some_iff.1 hr).1; omega) hg hv)
       have KF : Ex wi w9 := Chg.trans (KI.out.nx KN.out) (ch0.mono (fun k (hk : k < wi.heap.size) => ⟨Nat.lt_of_lt_of_le hk (KI.out.nx KN.out).size, fun hg => by have := HB.out k hg; omega⟩))
       refine ⟨⟨j2 + 1, _, by omega, by go_num, by rw [SN.out, HRP.out]; exact RR, fun g hg => ?_, fun i q hi => ?_, KF⟩, by simp [intOf]; omega⟩
       ·rcases hv with h1 | h1
        ·exact HB.out g (by rw [← h1]; exact hg)
        ·exact Nat.le_trans (KI.out.nx KN.out).size (h1 g hg)
       ·rcases Nat.lt_or_ge i qz.length with h1 | h1
        ·rw [List.getElem?_append_left h1] at hi
         exact HN.out i q hi
        ·have h2 := (List.getElem?_eq_some_iff.1 hi).1
         rw [List.length_append, List.length_singleton] at h2
         obtain rfl : i = j2 := by omega
         rw [List.getElem?_append_right (by omega), hqz, Nat.sub_self] at hi
         simp only [List.getElem?_cons_zero, Option.some.injEq] at hi
         subst hi
         exact ⟨_, HQJ.out, rfl⟩
    ·obtain rfl : j2 = Q.length := by omega
     rw [List.take_of_length_le (Nat.le_refl _)] at own
     have FO := lH own
     have FE := lH (K03.out.nx (K3.out.nx ki))
     clear own ki
     go_wp2_with fail
     go_ret
     exact ⟨_, qz, rfl, by rw [HR.out]; exact FO.out, FE.out⟩
theorem rr_ref {N : List Nd} {P : List Pr} {h : Int} (hl : (roundN N P).length = (bRoundN N P h).length) : rRoundN N P h = mixP (roundN N P) (bRoundN N P h) (roundN N P).length := by
 rw [mixP_all hl]
 unfold rRoundN
 split
 ·rfl
 ·rename_i hn
  have e : bRoundN N P h = [] := bround_no (by simpa using hn)
  rw [e, List.zip_nil_right]
  rfl
theorem rr_ne {N : List Nd} {P : List Pr} {h : Int} (hl : ¬ (roundN N P).length = (bRoundN N P h).length) : rRoundN N P h = [] := by
 unfold rRoundN
 split
 ·rename_i hn
  have h0 : 0 ≤ h ∧ h ≤ 16 := by unfold lvlN at hn; simp at hn; omega
  obtain ⟨k, rfl⟩ := Int.eq_ofNat_of_zero_le h0.1
  exact absurd (rround_eq (N := N) (P := P) (h := k) (by omega)).1 hl
 ·rfl
set_option maxRecDepth 100000 in
set_option maxHeartbeats 8000000 in
theorem rround_r (a : Option Addr) (n c : Nat) (N : List Nd) (a2 : Option Addr) (n2 c2 : Nat) (P : List Pr) (hh : Int) (w : World) (h : Sl 3 encN w a n N) (hn : n ≤ 1000) (hw : ∀ x ∈ N, x.word < 4294967296) (h2 : PL w a2 n2 P) (hn2 : n2 ≤ 1000) (hP : Sm2 P) :
  Calls Tryz.prog 55 #[.slice a n c, .slice a2 n2 c2, .int .i64 hh] w (PlPost (rRoundN N P hh) w) := by
 have HL := lH h.len
 have HW := lH hw
 have SM : Hid (SmallP P) := lH (fun p hp => by have := hP p hp; omega)
 clear hw
 have HR := lH (fun hl => rr_ref (N := N) (P := P) (h := hh) hl)
 have HNE := lH (fun hl => rr_ne (N := N) (P := P) (h := hh) hl)
 have hQl := lH (Nat.le_trans (round_lenR N P) (by have := HL.out; omega : N.length ≤ 1000))
 go_enter Tryz.func55, Tryz.ntmps55
 go_wp2_with fail
 (with_reducible refine (round_r _ _ _ N _ _ _ P _ h hn h2 (by omega) hP).mono ?_)
 rintro e w1 ⟨v1, qs1, rfl, own1, kk⟩
 replace h := h.nx kk
 replace h2 := h2.nx kk
 have K1 := lH kk
 clear kk
 go_wp2_with fail
 (with_reducible refine (bround_r _ _ _ N _ _ _ P hh _ h hn HW.out h2 (by omega) SM.out).mono ?_)
 rintro e w2 ⟨v2, qs2, rfl, own2, kk⟩
 have K2 := lH kk
 have OWN1 := lH own1
 have M0 := lH (MixQ.start (qs2 := qs2) own1 (Nat.le_refl _))
 have hz1 := K1.out.size
 clear h h2 hP kk
 generalize roundN N P = P1 at own1 OWN1 HR HNE hQl
 generalize bRoundN N P hh = P2 at own2 HR HNE
 have hq := hQl.out
 obtain ⟨a1, cap1, rfl, _, _, _, _, _⟩ := own1.pl
 obtain ⟨a3, cap2, rfl, _, _, _, _, _⟩ := own2.pl
 have OWN2 := lH own2
 clear own1 own2
 by_cases hl : P1.length = P2.length
 case neg =>
  have hne : ((P1.length : Int) != (P2.length : Int)) = true := by simp; omega
  have E0 := lH (HNE.out hl)
  have KF := lH (K1.out.nx K2.out)
  clear hl
  go_wp2_with fail
  go_ret
  exact ⟨_, [], rfl, by rw [E0.out]; exact OwnP.nil _ _ _ _ _, KF.out⟩
 have HRR := lH (HR.out hl)
 have hne : ((P2.length : Int) != (P2.length : Int)) = false := by simp
 rw [hl]
 clear HR HNE
 go_wp2_with fail
 go_loopw [9] (fun i wr => RrRel w.heap.size w1.heap.size w (.slice a1 P2.length cap1) (.slice a3 P2.length cap2) qs2 P1 P2 i wr) (fun i _ => P2.length - (intOf i).toNat)
 case atStart => exact ⟨0, qs1, by omega, rfl, by rw [mixP_zero, ← hl]; exact OWN1.out.nx K2.out, M0.out, OWN2.out, K1.out.nx K2.out⟩
 case round =>
  obtain ⟨j, qs, hj, rfl, own1, hmx, own2, kz⟩ := hrel
  obtain ⟨wi, rfl⟩ : ∃ wi : World, wi = wr := ⟨_, rfl⟩
  have KZ := lH kz
  have MX := lH hmx
  have hml := mixP_len hl j
  clear hmx kz
  by_cases hjm : j < P2.length
  ·obtain ⟨a', c', e', _, _, _, hg', _⟩ := own1.pl
   obtain ⟨g, hge, hgb⟩ := hg' (fun h => by rw [h] at hml; simp at hml; omega)
   injection e' with e1 e2 e3
   subst e1 e3
   subst hge
   obtain ⟨a'', c'', e'', _, _, _, hg'', _⟩ := own2.pl
   obtain ⟨g2, hge, hgb2⟩ := hg'' (fun h => by rw [h] at hjm; simp at hjm)
   injection e'' with e4 e5 e6
   subst e4 e6
   subst hge
   obtain ⟨p, hp⟩ : ∃ p, P1[j]? = some p := ⟨P1[j]'(by omega), by simp⟩
   obtain ⟨q, hq2⟩ : ∃ q, P2[j]? = some q := ⟨P2[j], by simp⟩
   obtain ⟨⟨B1, k1, f1⟩, ⟨B4, k4, f4⟩, hqs2, _, _⟩ := own2.get hq2
   have c4 := (OwnW.set1 encQ_len own2.1 hqs2 (c := 4) (by omega)).1
   simp only [Hdr.val, encQ, Pr.nums, List.getElem?_cons_zero, List.getElem?_cons_succ] at c4
   have hgne : g < w1.heap.size := by
    obtain ⟨_, _, hb⟩ := OWN1.out.1.blk rfl
    exact (Array.getElem?_eq_some_iff.1 hb).1
   have HQ := lH hqs2
   have HP := lH hp
   have HQ2 := lH hq2
   have OA := lH own1
   have OB := lH own2
   clear own1 own2 hqs2 hp hq2 e2 e5
   have hp' := mixP_at (Q := P2) hl HP.out
   have own1 := OA.out
   have own2 := OB.out
   obtain ⟨⟨A1, m1, d1⟩, ⟨A4, m4, d4⟩, hqs, _, _⟩ := own1.get hp'
   obtain ⟨_, _, hqs3, _, onr⟩ := own2.get HQ2.out
   rw [HQ.out] at hqs3
   cases hqs3
   obtain ⟨s1, s2, O9⟩ := own1.swapN (hn' := (B4, k4, f4)) (nr := q.near) (by decide) (by decide) (by decide) hqs hp' (onr.base (Nat.le_trans (by omega) hz1)) (MX.out.fn own2 HQ.out)
   have hset := mixP_set hl HP.out HQ2.out
   have FN := lH (show RrRel w.heap.size w1.heap.size w (.slice (some ⟨g, 0, none⟩) P2.length cap1) (.slice (some ⟨g2, 0, none⟩) P2.length cap2) qs2 P1 P2 (.int .i64 ((j : Int) + 1)) (wi.setCell ⟨g, j * 5 + 4, none⟩ (.slice B4 k4 f4)) from
    ⟨j + 1, qs.set j (p.nums, (A1, m1, d1), (B4, k4, f4)), by omega, by go_num, by rw [← hset]; exact O9, MX.out.step HQ.out rfl, own2.nxb hgne ((Exb.refl g _).setB (p := ⟨g, j * 5 + 4, none⟩) _ rfl), (KZ.out).setNew (p := ⟨g, j * 5 + 4, none⟩) _ hgb⟩)
   simp only [Hdr.val] at s1
   clear O9 own1 own2 onr hset hqs hp'
   go_wp2_with fail
   exact ⟨FN.out, by simp [intOf]; omega⟩
  ·obtain rfl : j = P2.length := by omega
   rw [show P2.length = P1.length from hl.symm, ← HRR.out] at own1
   have OWN := lH own1
   have KF := lH KZ.out
   clear own1 own2 hj hjm
   go_wp2_with fail
   go_ret
   exact ⟨_, qs, rfl, by rw [hl] at *; exact OWN.out, KF.out⟩
theorem rounds18_r (n h : Int) (w : World) : Calls Tryz.prog 20 #[.int .i64 n, .int .i64 h] w fun e w' => e = .returned (.int .i64 (rndsR n h)) ∧ w = w' := by
 by_cases h1 : n < 0
 ·have E : Hid (rndsR n h = 0) := lH (if_neg (by omega))
  go_enter Tryz.func20, Tryz.ntmps20
  go_wp2_with fail
  go_ret
  exact ⟨by rw [E.out]; rfl, rfl⟩
 by_cases h2 : n > 64
 ·have E : Hid (rndsR n h = 0) := lH (if_neg (by omega))
  go_enter Tryz.func20, Tryz.ntmps20
  go_wp2_with fail
  go_ret
  exact ⟨by rw [E.out]; rfl, rfl⟩
 go_enter Tryz.func20, Tryz.ntmps20
 go_wp2_with fail
 (with_reducible refine (level_r h _).mono ?_)
 rintro e w1 ⟨rfl, hw1⟩
 subst hw1
 cases hl : lvlN h with
 | false =>
  have E : Hid (rndsR n h = 0) := lH (if_neg (by unfold lvlN at hl; simp at hl; omega))
  clear hl
  go_wp2_with fail
  go_ret
  exact ⟨by rw [E.out]; rfl, rfl⟩
 | true =>
  have h3 : 0 ≤ h ∧ h ≤ 16 := by unfold lvlN at hl; simp at hl; omega
  have E : Hid (rndsR n h = n * (h + 1)) := lH (if_pos (by omega))
  have hw1 : IntKind.i64.wrap (h + 1) = h + 1 := IntWalk.i64_in _ (by omega)
  have hwr : IntKind.i64.wrap (n * (h + 1)) = n * (h + 1) := IntWalk.i64_in _ (by
   have a1 : 0 ≤ n * (h + 1) := Int.mul_nonneg (by omega) (by omega)
   have a2 : n * (h + 1) ≤ 64 * 17 := Int.le_trans (Int.mul_le_mul_of_nonneg_right (by omega) (by omega)) (Int.mul_le_mul_of_nonneg_left (by omega) (by omega))
   omega)
  clear hl h3
  go_wp2_with fail
  go_ret
  exact ⟨by rw [E.out]; rfl, rfl⟩
theorem rr_sm2 {N : List Nd} (hN : N.length ≤ 1000) (P : List Pr) (k : Int) : Sm2 (rRoundN N P k) := fun p hp => by have := rr_few N P k p hp; omega
theorem rrs_sm2 {N : List Nd} {P : List Pr} (hN : N.length ≤ 1000) (hP : Sm2 P) (k : Int) : ∀ t, Sm2 (rRunsN N P k t)
 | 0 => hP
 | _ + 1 => rr_sm2 hN _ k
theorem norm_sm2 {N : List Nd} {P : List Pr} (h : Sm2 P) : Sm2 (normalN N P) := by
 intro q hq
 unfold normalN at hq
 split at hq
 ·obtain ⟨x, _, rfl⟩ := List.mem_map.1 hq
  unfold peerN
  cases hf : P.find? fun p => p.id == x.id with
  | none => exact ⟨Nat.zero_le _, Nat.zero_le _⟩
  | some q => exact h q (List.mem_of_find?_eq_some hf)
 ·cases hq
def NeedRel2 (N : List Nd) (Q : List Pr) (h : Int) (R : Nat) (z : Int × Bool) (w : World) (o i : Value) (wr : World) : Prop :=
 ∃ (j : Nat) (qs : List PQ), j ≤ R + 1 ∧ i = .int .i64 j ∧ OwnPr w.heap.size wr o qs (rRunsN N Q h j) ∧ (j ≤ R → z = needF N Q h (R - j) j) ∧ (R < j → z = (0, false)) ∧ Ex w wr
set_option maxRecDepth 100000 in
set_option maxHeartbeats 8000000 in
theorem run18_r (a : Option Addr) (n c : Nat) (N : List Nd) (a2 : Option Addr) (n2 c2 : Nat) (P : List Pr) (hh r : Int) (w : World) (h : Sl 3 encN w a n N) (hn : n ≤ 1000) (hw : ∀ x ∈ N, x.word < 4294967296) (h2 : PL w a2 n2 P) (hn2 : n2 ≤ 1000) (hP : Sm2 P) :
  Calls Tryz.prog 56 #[.slice a n c, .slice a2 n2 c2, .int .i64 hh, .int .i64 r] w (PlPost (repN N P hh r) w) := by
 have HL := lH h.len
 have HW := lH hw
 have SM : Hid (SmallP P) := lH (fun p hp => by have := hP p hp; omega)
 clear hw
 go_enter Tryz.func56, Tryz.ntmps56
 go_wp2_with fail
 (with_reducible refine (level_r hh _).mono ?_)
 rintro e w0 ⟨rfl, hw0⟩
 subst hw0
 cases hl : lvlN hh with
 | false =>
  have FI := lH (show PlPost (repN N P hh r) w (.returned (.slice none 0 0)) w by
   rw [run_no hl]
   exact ⟨_, [], rfl, OwnP.nil _ _ _ _ _, Ex.refl _⟩)
  clear h h2 hP hl
  go_wp2_with fail
  go_ret
  exact FI.out
 | true =>
  have HE : Hid (repN N P hh r = rRunsN N (normalN N P) hh (max (min r 4096) 0).toNat) := lH (by unfold repN; rw [if_pos hl])
  have HS := lH h
  have HQ2 := lH (norm_sm2 (N := N) hP)
  clear hl
  go_wp2_with fail
  (with_reducible refine (normal_r _ _ _ N _ _ _ P _ h hn h2 (by omega) SM.out).mono ?_)
  rintro e w1 ⟨v1, qs, rfl, own, kk⟩
  have K1 := lH kk
  have HQ1 := lH (Nat.le_trans (normal_le N P).1 (by have := HL.out; omega : N.length ≤ 1000))
  have OWN := lH own
  have hN : N.length ≤ 1000 := by have := HL.out; omega
  generalize normalN N P = Q at own OWN HE HQ1 HQ2
  clear h h2 hP kk own
  obtain ⟨R, hR⟩ : ∃ R : Nat, max (min r 4096) 0 = (R : Int) := ⟨(max (min r 4096) 0).toNat, by omega⟩
  have HE2 : Hid (repN N P hh r = rRunsN N Q hh R) := lH (by rw [HE.out, hR, Int.toNat_natCast])
  have hR2 : R ≤ 4096 := by omega
  have HRR := lH hR
  clear HE hR
  go_wp2_with fail
  go_loopw [9, 10] (fun o i wr => RuRel N Q hh R w o i wr) (fun _ i _ => R - (intOf i).toNat)
  case atStart => exact ⟨0, qs, by omega, rfl, OWN.out, K1.out⟩
  case round =>
   obtain ⟨j, qz, hj, rfl, own, kz⟩ := hrel
   obtain ⟨wi, rfl⟩ : ∃ wi : World, wi = wr := ⟨_, rfl⟩
   have KZ := lH kz
   clear kz
   obtain ⟨a3, c3, rfl, PL3, _, _, _, _⟩ := own.pl
   by_cases hjm : j < R
   ·have hl3 : (rRunsN N Q hh j).length ≤ 1000 := rrs_len HQ1.out hN hh j
    have S2 := lH (rrs_sm2 (N := N) hN HQ2.out hh j)
    have ST : Hid (rRoundN N (rRunsN N Q hh j) hh = rRunsN N Q hh (j + 1)) := lH rfl
    generalize rRunsN N Q hh j = X at PL3 hl3 S2 ST own ⊢
    have PH := lH PL3
    have g1 : (j : Int) < r := by have := HRR.out; omega
    have g2 : (j : Int) < 4096 := by omega
    clear own PL3
    go_wp2_with fail
    (with_reducible refine (rround_r _ _ _ N _ _ _ X hh _ (HS.out.nx KZ.out) hn HW.out PH.out hl3 S2.out).mono ?_)
    rintro e w5 ⟨v5, q5, rfl, own5, kk⟩
    have FN := lH (show RuRel N Q hh R w v5 (.int .i64 ((j : Int) + 1)) w5 from ⟨j + 1, q5, by omega, by go_num, by rw [← ST.out]; exact own5.lower KZ.out.size, KZ.out.nx kk⟩)
    clear own5 kk
    go_wp2_with fail
    exact ⟨FN.out, by simp [intOf]; omega⟩
   ·obtain rfl : j = R := by omega
    clear PL3
    have FN := lH (show PlPost (repN N P hh r) w (.returned (.slice a3 (rRunsN N Q hh j).length c3)) wi from ⟨_, qz, rfl, by rw [HE2.out]; exact own, KZ.out⟩)
    clear own hj hjm
    by_cases g1 : (j : Int) < r
    ·have g2 : ¬ (j : Int) < 4096 := by have := HRR.out; omega
     go_wp2_with fail
     go_ret
     exact FN.out
    ·go_wp2_with fail
     go_ret
     exact FN.out
set_option maxRecDepth 100000 in
set_option maxHeartbeats 8000000 in
theorem needed_r (a : Option Addr) (n c : Nat) (N : List Nd) (a2 : Option Addr) (n2 c2 : Nat) (P : List Pr) (hh : Int) (w : World) (h : Sl 3 encN w a n N) (hn : n ≤ 1000) (hw : ∀ x ∈ N, x.word < 4294967296) (h2 : PL w a2 n2 P) (hn2 : n2 ≤ 1000) (hP : Sm2 P) :
  Calls Tryz.prog 54 #[.slice a n c, .slice a2 n2 c2, .int .i64 hh] w fun e w' => e = .returned (.tuple #[.int .i64 (neededN N P hh).1, .bool (neededN N P hh).2]) ∧ Ex w w' := by
 have HL := lH h.len
 have HW := lH hw
 have EX := Ex.refl w
 have HS := lH h
 have H2 := lH h2
 have HP2 := lH hP
 have SMP : Hid (SmallP P) := lH (fun p hp => by have := hP p hp; omega)
 clear hw h2 hP
 go_enter Tryz.func54, Tryz.ntmps54
 go_wp2_with fail
 (with_reducible refine (is_r _ _ _ _ _ h (by omega)).mono ?_)
 rintro e w1 ⟨rfl, kk⟩
 replace EX := EX.nx kk
 clear h
 have EX := lH EX
 clear kk
 by_cases hck : checkN N = 0
 case neg =>
  have d1 : (checkN N == 0) = false := by simpa using hck
  have E0 : Hid (neededN N P hh = (0, false)) := lH (needed_no (fun q => hck q.1))
  clear hck
  go_wp2_with fail
  go_ret2
  exact ⟨by rw [E0.out]; rfl, EX.out⟩
 have d1 : (checkN N == 0) = true := by simpa using hck
 go_wp2_with fail
 (with_reducible refine (level_r hh _).mono ?_)
 rintro e w0 ⟨rfl, hw0⟩
 subst hw0
 cases hl : lvlN hh with
 | false =>
  have E0 : Hid (neededN N P hh = (0, false)) := lH (needed_no (fun q => by rw [hl] at q; exact absurd q.2 (by simp)))
  clear hck hl
  go_wp2_with fail
  go_ret2
  exact ⟨by rw [E0.out]; rfl, EX.out⟩
 | true =>
  have h3 : 0 ≤ hh ∧ hh ≤ 16 := by unfold lvlN at hl; simp at hl; omega
  obtain ⟨ht, rfl⟩ := Int.eq_ofNat_of_zero_le h3.1
  have hht : ht ≤ 16 := by omega
  have ER := lH (rnds_nodes hck hht)
  have hR2 := rnds_le hck hht
  have HE : Hid (neededN N P ht = needF N (normalN N P) ht (N.length * (ht + 1)) 0) := lH (by unfold neededN; rw [if_pos ⟨hck, hl⟩, ER.out, Int.toNat_natCast])
  generalize N.length * (ht + 1) = R at ER hR2 HE
  have ER2 : Hid (rndsR (n : Int) ht = (R : Int)) := lH (by rw [← HL.out]; exact ER.out)
  clear hck hl h3
  go_wp2_with fail
  (with_reducible refine (normal_r _ _ _ N _ _ _ P _ (HS.out.nx EX.out) hn (H2.out.nx EX.out) (by omega) SMP.out).mono ?_)
  rintro e w3 ⟨v3, qs, rfl, own, kk⟩
  have K3 := lH (EX.out.nx kk)
  have HQ1 := lH (Nat.le_trans (normal_le N P).1 (by have := HL.out; omega : N.length ≤ 1000))
  have HQ2 := lH (norm_sm2 (N := N) HP2.out)
  have OWN := lH (own.lower EX.out.size)
  have hN : N.length ≤ 1000 := by have := HL.out; omega
  generalize normalN N P = Q at OWN HE HQ1 HQ2
  clear kk own
  obtain ⟨z, hz0⟩ : ∃ z, neededN N P ht = z := ⟨_, rfl⟩
  rw [hz0] at HE
  have HZ0 := lH hz0
  clear hz0
  go_wp2_with fail
  go_loopw [8, 9] (fun o i wr => NeedRel2 N Q ht R z w o i wr) (fun _ i _ => R + 1 - (intOf i).toNat)
  case atStart => exact ⟨0, qs, by omega, rfl, OWN.out, fun _ => HE.out, fun h => by omega, K3.out⟩
  case round =>
   obtain ⟨j, qz, hj, rfl, own, hz, hzz, kz⟩ := hrel
   obtain ⟨wi, rfl⟩ : ∃ wi : World, wi = wr := ⟨_, rfl⟩
   have KZ := lH kz
   have HZ := lH hz
   have HZZ := lH hzz
   clear kz hz hzz
   obtain ⟨a3, c3, rfl, PL3, _, _, _, _⟩ := own.pl
   go_wp2_with fail
   (with_reducible refine (rounds18_r (n : Int) (ht : Int) _).mono ?_)
   rintro e w6 ⟨rfl, hw6⟩
   subst hw6
   rw [ER2.out]
   by_cases hjR : j ≤ R
   ·have hji : (j : Int) ≤ (R : Int) := by omega
    have hl3 : (rRunsN N Q ht j).length ≤ 1000 := rrs_len HQ1.out hN ht j
    have S2 := lH (rrs_sm2 (N := N) hN HQ2.out ht j)
    have ST : Hid (rRoundN N (rRunsN N Q ht j) ht = rRunsN N Q ht (j + 1)) := lH rfl
    have YES := lH (fun he => needF_yes (N := N) (P := Q) (h := ht) (f := R - j) (k := j) he)
    have NOT := lH (fun he => needF_no (N := N) (P := Q) (h := ht) (k := j) he)
    have NXT := lH (fun f he => needF_next (N := N) (P := Q) (h := ht) (f := f) (k := j) he)
    generalize rRunsN N Q ht j = X at PL3 hl3 S2 ST YES NOT NXT
    have PH := lH PL3
    have SM : Hid (SmallP X) := lH (fun p hp => by have := S2.out p hp; omega)
    clear own PL3
    go_wp2_with fail
    (with_reducible refine (bexact_r _ _ _ N _ _ _ X ht _ (HS.out.nx KZ.out) hn HW.out PH.out (by omega) SM.out).mono ?_)
    rintro e w5 ⟨rfl, kk⟩
    replace KZ := lH (KZ.out.nx kk)
    replace PH := lH (PH.out.nx kk)
    clear kk
    cases hb : exactB N X ht with
    | true =>
     have EZ : Hid (z = ((j : Int), true)) := lH ((HZ.out hjR).trans (YES.out hb))
     clear hb
     go_wp2_with fail
     go_ret2
     exact ⟨by rw [HZ0.out, EZ.out]; rfl, KZ.out⟩
    | false =>
     have HB := lH hb
     clear hb
     go_wp2_with fail
     (with_reducible refine (rround_r _ _ _ N _ _ _ X ht _ (HS.out.nx KZ.out) hn HW.out PH.out hl3 S2.out).mono ?_)
     rintro e w7 ⟨v7, q7, rfl, own7, kk⟩
     have FN := lH (show NeedRel2 N Q ht R z w v7 (.int .i64 ((j : Int) + 1)) w7 from ⟨j + 1, q7, by omega, by go_num, by rw [← ST.out]; exact own7.lower KZ.out.size,
      fun h => (HZ.out hjR).trans (by rw [show R - j = (R - (j + 1)) + 1 by omega]; exact NXT.out _ HB.out), fun h => (HZ.out hjR).trans (by rw [show R - j = 0 by omega]; exact NOT.out HB.out), KZ.out.nx kk⟩)
     clear own7 kk
     go_wp2_with fail
     exact ⟨FN.out, by simp [intOf]; omega⟩
   ·have hji : ¬ (j : Int) ≤ (R : Int) := by omega
    have EZ := lH (HZZ.out (by omega))
    clear own PL3
    go_wp2_with fail
    go_ret2
    exact ⟨by rw [HZ0.out, EZ.out]; rfl, KZ.out⟩
theorem stale_nums (N : List Nd) (p : Pr) : staleP N p = ((numsP p).filter (stQ N p)).length := by
 rw [stale_eq]
 unfold rowP numsP
 simp only [List.filter_append, List.length_append]
 omega
theorem nums_lenP {p : Pr} (h : p.known.length ≤ 2000000 ∧ p.near.length ≤ 2000000) : (numsP p).length ≤ 10000002 := by
 unfold numsP
 rw [List.length_append, List.length_append, nums_len]
 simp only [List.length_cons, List.length_nil]
 omega
set_option maxRecDepth 100000 in
set_option maxHeartbeats 16000000 in
theorem stale_r (a : Option Addr) (n c : Nat) (N : List Nd) (a2 : Option Addr) (n2 c2 : Nat) (P : List Pr) (w : World) (h : Sl 3 encN w a n N) (hn : n ≤ 1000) (h2 : PL w a2 n2 P) (hn2 : n2 ≤ 1000) (hP : ∀ p ∈ P, p.known.length ≤ 2000000 ∧ p.near.length ≤ 2000000) :
  Calls Tryz.prog 57 #[.slice a n c, .slice a2 n2 c2] w fun e w' => e = .returned (.int .i64 (staleN N P)) ∧ Ex w w' := by
 have HL := lH h.len
 have HS := lH h
 have SM := lH (show SmallP P from fun p hp => by have := hP p hp; omega)
 have S2 := lH (normal_sm2 (N := N) hP)
 have HE : Hid (staleN N P = ((normalN N P).map (staleP N)).sum) := lH rfl
 clear hP
 go_enter Tryz.func57, Tryz.ntmps57
 go_wp2_with fail
 (with_reducible refine (normal_r _ _ _ N _ _ _ P _ h hn h2 (by omega) SM.out).mono ?_)
 rintro e w3 ⟨v3, qs, rfl, own, kk⟩
 have K3 := lH kk
 have HQ1 := lH (Nat.le_trans (normal_le N P).1 (by have := HL.out; omega : N.length ≤ 1000))
 generalize normalN N P = Q at own HE HQ1 S2
 have OWN := lH own
 obtain ⟨aQ, cQ, rfl, _, _, _, _, _⟩ := own.pl
 clear own kk h h2
 generalize hZ : staleN N P = Z at HE ⊢
 have HE0 := lH hZ
 clear hZ
 go_wp2_with fail
 go_loopw [5, 7] (fun o i wr => StRel N Q w3 o i wr) (fun _ i _ => Q.length - (intOf i).toNat)
 case atStart => exact ⟨0, by omega, rfl, rfl, Ex.refl _⟩
 case round =>
  obtain ⟨j, hj, rfl, rfl, kz⟩ := hrel
  obtain ⟨wi, rfl⟩ : ∃ wi : World, wi = wr := ⟨_, rfl⟩
  have hq1 := HQ1.out
  have hsum := stale_le N S2.out j (by omega)
  have KZ := lH kz
  by_cases hjm : j < Q.length
  ·have own := OWN.out.nx kz
   obtain ⟨a'', c'', e'', _, _, _, hg'', _⟩ := own.pl
   obtain ⟨g, hge, hgb⟩ := hg'' (fun h => by rw [h] at hjm; simp at hjm)
   injection e'' with e4 e5 e6
   subst e4 e6
   subst hge
   obtain ⟨y, hy⟩ : ∃ y, Q[j]? = some y := ⟨Q[j], by simp⟩
   obtain ⟨⟨B1, k1, f1⟩, ⟨B4, k4, f4⟩, hqs, okn, onr⟩ := own.get hy
   obtain ⟨A1, d1, e1, rk, z1⟩ := okn.rdz (fun _ => rfl)
   obtain ⟨A4, d4, e4, rn, _⟩ := onr.rdz (fun _ => rfl)
   simp only [Hdr.val, Value.slice.injEq] at e1 e4
   obtain ⟨rfl, rfl, rfl⟩ := e1
   obtain ⟨rfl, rfl, rfl⟩ := e4
   have hgw : g < wi.heap.size := OwnW.blk_lt own.1 rfl
   have c0 := (OwnW.set1 encQ_len own.1 hqs (c := 0) (by omega)).1
   have c1 := (OwnW.set1 encQ_len own.1 hqs (c := 1) (by omega)).1
   have c2 := (OwnW.set1 encQ_len own.1 hqs (c := 2) (by omega)).1
   have c3 := (OwnW.set1 encQ_len own.1 hqs (c := 3) (by omega)).1
   have c4 := (OwnW.set1 encQ_len own.1 hqs (c := 4) (by omega)).1
   simp only [Hdr.val, encQ, Pr.nums, List.getElem?_cons_zero, List.getElem?_cons_succ] at c0 c1 c2 c3 c4
   rw [Nat.add_zero] at c0
   have hyP := S2.out y (List.mem_of_getElem? hy)
   have HRL := lH (row_len hyP)
   have SNO := lH (stale_snoc N hy)
   have SK := lH (show Sl 1 encI wi B1 y.known.length y.known from rk.mono (fun _ hk => hk.2))
   have SR := lH (show Sl 4 encNr wi B4 y.near.length y.near from rn.mono (fun _ hk => hk.2))
   obtain ⟨hk2, hn2'⟩ := hyP
   clear own hqs hy okn onr rk rn kz e5
   generalize ((Q.take j).map (staleP N)).sum = C0 at hsum SNO ⊢
   have SEQ := lH (stale_nums N y)
   have hrl0 := nums_lenP (p := y) ⟨hk2, hn2'⟩
   have C0H : Hid (∀ wq, Ex wi wq → wq.cell? ⟨g, j * 5, none⟩ = some (.int .i64 y.id)) := lH (fun wq kq => Chg.cellv kq c0 hgw)
   go_wp2_with fail
   (with_reducible refine (numbers_r y _ _ _ _ _ _ _ SK.out SR.out (by omega) (by omega) z1).mono ?_)
   rintro e w5 ⟨vL, rfl, oL, kk⟩
   have K5 := lH (KZ.out.nx kk)
   have KY := lH kk
   generalize numsP y = L at oL SEQ hrl0
   have hrl := hrl0
   obtain ⟨aL, cL, rfl, rL, _⟩ := oL.rdz (fun _ => rfl)
   have SL := lH (show Sl 1 encI w5 aL L.length L from rL.mono (fun _ hk => hk.2))
   have HS5 := lH ((HS.out.nx K3.out).nx K5.out)
   have KK := lH K5.out
   have SQ : Hid (stQ N y = fun id => !(id == 0) && (!(findN N id).2 || id == y.id)) := lH rfl
   clear oL rL kk c0 c1 c2 c3 c4 hrl0
   go_wp2_with fail
   go_loopw [5, 9] (fun o i wr => SiRel N y L C0 w5 o i wr) (fun _ i _ => L.length - (intOf i).toNat)
   case atStart => exact ⟨0, by omega, rfl, by simp, Ex.refl _⟩
   case round =>
    obtain ⟨s, hs, rfl, rfl, ks⟩ := hrel
    obtain ⟨ws, rfl⟩ : ∃ ws : World, ws = wr := ⟨_, rfl⟩
    have hcl : ((L.take s).filter (stQ N y)).length ≤ 10000002 := Nat.le_trans (List.length_filter_le _ _) (Nat.le_trans (by rw [List.length_take]; omega) hrl)
    have KS := lH ks
    by_cases hsm : s < L.length
    ·obtain ⟨x3, o3, id, rfl, hx3, hid, hc3⟩ := (SL.out.nx ks).at hsm
     have e0 : ws.cell? ⟨x3, o3 + s * 1, none⟩ = some (.int .i64 id) := hc3 0 _ rfl
     rw [Nat.mul_one] at e0
     have E0 := lH e0
     have SN := lH (filtR_snoc (q := stQ N y) hid)
     have QV := lH (congrFun SQ.out id)
     generalize ((L.take s).filter (stQ N y)).length = C1 at SN hcl ⊢
     have hwr : IntKind.i64.wrap (((C0 + C1 : Nat) : Int) + 1) = ((C0 + C1 : Nat) : Int) + 1 := IntWalk.i64_in _ (by omega)
     clear hid hc3 ks
     go_wp2_with fail
     (with_reducible refine (find_r _ _ _ N id _ (HS5.out.nx KS.out) (by omega)).mono ?_)
     rintro e w6 ⟨rfl, kk⟩
     replace KS := lH (KS.out.nx kk)
     have KF := lH kk
     clear kk e0
     generalize findN N id = F at QV ⊢
     obtain ⟨⟨xi, xk, xw⟩, ok⟩ := F
     have B5 := Blk.new w6 [.int .i64 xi, .string xk, .int .u32 xw] 56
     have kk := Ex.new w6 (.cells #[.int .i64 xi, .string xk, .int .u32 xw] 56)
     obtain ⟨w8, hw8⟩ : ∃ w8, w8 = w6.alloc (.cells #[.int .i64 xi, .string xk, .int .u32 xw] 56) := ⟨_, rfl⟩
     obtain ⟨g5, hg5⟩ : ∃ g5, g5 = w6.heap.size := ⟨_, rfl⟩
     replace B5 : Blk w8 g5 [.int .i64 xi, .string xk, .int .u32 xw] 56 := by rw [hw8, hg5]; exact B5
     rw [← hw8] at kk
     have Hw8 := lH hw8
     have Hg5 := lH hg5
     have K8 := lH kk
     replace KS := lH (KS.out.nx kk)
     clear kk hw8 hg5
     simp only [Nd.val]
     go_upto_region 11 with fail
     rw [← Hg5.out, ← Hw8.out]
     clear Hg5 Hw8
     clear B5
     have EI : Hid (∀ wq, Ex w8 wq → wq.cell? ⟨x3, o3 + s, none⟩ = some (.int .i64 id)) := lH (fun wq kq => Chg.cellv ((KF.out.nx K8.out).nx kq) E0.out hx3)
     have EY : Hid (∀ wq, Ex w8 wq → wq.cell? ⟨g, j * 5, none⟩ = some (.int .i64 y.id)) := lH (fun wq kq => C0H.out wq ((KY.out.nx KS.out).nx kq))
     have NO : Hid (stQ N y id = false → ∀ x : Value, x = .int .i64 ((C0 + C1 : Nat)) → SiRel N y L C0 w5 x (.int .i64 ((s : Int) + 1)) w8.drew) := lH (fun hq x hx => ⟨s + 1, by omega, by go_num, by rw [hx, SN.out, hq]; simp, KS.out.drew⟩)
     have YES : Hid (stQ N y id = true → SiRel N y L C0 w5 (.int .i64 (((C0 + C1 : Nat) : Int) + 1)) (.int .i64 ((s : Int) + 1)) w8.drew) := lH (fun hq => ⟨s + 1, by omega, by go_num, by rw [SN.out, hq, if_pos rfl]; push_cast; rw [Int.add_assoc], KS.out.drew⟩)
     by_cases hz0 : id = 0
     ·have FN := lH (NO.out (by rw [QV.out]; simp [hz0]) _ rfl)
      have dz : (id != 0) = false := by simp [hz0]
      clear hz0
      refine wp_region_held_drew (S := Ex w8) (by kernel_rfl) ((Ex.refl w8).drew) (fun hHeld => ?_)
      refine tkH 0 (v := ?_) rfl (by kernel_rfl) (fun _ _ _ h => h) (by rfl) ?y1x0q1 (by assumption) ?z1x0q1
      case y1x0q1 => intro wq hSw; (go_simp); (try with_reducible rfl)
      try simp only [Act.put, sA, sB, sC]
      refine tkH 1 (v := ?_) rfl (by kernel_rfl) (fun _ _ _ h => h) (by rfl) ?y1x1q4 (by assumption) ?z1x1q4
      case y1x1q4 => intro wq hSw; (go_simp); (try with_reducible rfl)
      try simp only [Act.put, sA, sB, sC]
      refine tkH 2 (v := ?_) rfl (by kernel_rfl) (fun _ _ _ h => h) (by rfl) ?y1x2q7 (by assumption) ?z1x2q7
      case y1x2q7 => intro wq hSw; (go_simp); (try with_reducible rfl)
      try simp only [Act.put, sA, sB, sC]
      refine tkH 3 (v := ?_) rfl (by kernel_rfl) (fun _ _ _ h => h) (by rfl) ?y1x3q10 (by assumption) ?z1x3q10
      case y1x3q10 => intro wq hSw; (have cq := EI.out wq hSw; go_simp); (try with_reducible rfl)
      try simp only [Act.put, sA, sB, sC]
      refine tkH 4 (v := ?_) rfl (by kernel_rfl) (fun _ _ _ h => h) (by rfl) ?y1x4q13 (by assumption) ?z1x4q13
      case y1x4q13 => intro wq hSw; (go_simp); (try with_reducible rfl)
      try simp only [Act.put, sA, sB, sC]
      refine tkH 5 (v := ?_) rfl (by kernel_rfl) (fun _ _ _ h => h) (by rfl) ?y1x5q16 (by assumption) ?z1x5q16
      case y1x5q16 => intro wq hSw; (go_simp); (try with_reducible rfl)
      try simp only [Act.put, sA, sB, sC]
      refine wpAnyH_take (i := 6) (oi := ⟨_, _, _, _, _, _⟩) (v := undef) rfl (by kernel_rfl) (by kernel_rfl) (by kernel_rfl) (fun _ _ _ h => h) (Or.inr ⟨by rfl, rfl⟩) (by assumption) ?_
      try simp only [Act.put, sA, sB, sC]
      refine wpAnyH_take (i := 7) (oi := ⟨_, _, _, _, _, _⟩) (v := undef) rfl (by kernel_rfl) (by kernel_rfl) (by kernel_rfl) (fun _ _ _ h => h) (Or.inr ⟨by rfl, rfl⟩) (by assumption) ?_
      try simp only [Act.put, sA, sB, sC]
      refine wpAnyH_take (i := 8) (oi := ⟨_, _, _, _, _, _⟩) (v := undef) rfl (by kernel_rfl) (by kernel_rfl) (by kernel_rfl) (fun _ _ _ h => h) (Or.inr ⟨by rfl, rfl⟩) (by assumption) ?_
      try simp only [Act.put, sA, sB, sC]
      refine wpAnyH_take (i := 9) (oi := ⟨_, _, _, _, _, _⟩) (v := undef) rfl (by kernel_rfl) (by kernel_rfl) (by kernel_rfl) (fun _ _ _ h => h) (Or.inr ⟨by rfl, rfl⟩) (by assumption) ?_
      try simp only [Act.put, sA, sB, sC]
      refine wpAnyH_take (i := 10) (oi := ⟨_, _, _, _, _, _⟩) (v := undef) rfl (by kernel_rfl) (by kernel_rfl) (by kernel_rfl) (fun _ _ _ h => h) (Or.inr ⟨by rfl, rfl⟩) (by assumption) ?_
      try simp only [Act.put, sA, sB, sC]
      refine wpAnyH_take (i := 11) (oi := ⟨_, _, _, _, _, _⟩) (v := undef) rfl (by kernel_rfl) (by kernel_rfl) (by kernel_rfl) (fun _ _ _ h => h) (Or.inr ⟨by rfl, rfl⟩) (by assumption) ?_
      try simp only [Act.put, sA, sB, sC]
      refine wpAnyH_take (i := 12) (oi := ⟨_, _, _, _, _, _⟩) (v := undef) rfl (by kernel_rfl) (by kernel_rfl) (by kernel_rfl) (fun _ _ _ h => h) (Or.inr ⟨by rfl, rfl⟩) (by assumption) ?_
      try simp only [Act.put, sA, sB, sC]
      refine wpAnyH_take (i := 13) (oi := ⟨_, _, _, _, _, _⟩) (v := undef) rfl (by kernel_rfl) (by kernel_rfl) (by kernel_rfl) (fun _ _ _ h => h) (Or.inr ⟨by rfl, rfl⟩) (by assumption) ?_
      try simp only [Act.put, sA, sB, sC]
      refine wpAnyH_take (i := 14) (oi := ⟨_, _, _, _, _, _⟩) (v := undef) rfl (by kernel_rfl) (by kernel_rfl) (by kernel_rfl) (fun _ _ _ h => h) (Or.inr ⟨by rfl, rfl⟩) (by assumption) ?_
      try simp only [Act.put, sA, sB, sC]
      refine wpAnyH_take (i := 15) (oi := ⟨_, _, _, _, _, _⟩) (v := undef) rfl (by kernel_rfl) (by kernel_rfl) (by kernel_rfl) (fun _ _ _ h => h) (Or.inr ⟨by rfl, rfl⟩) (by assumption) ?_
      try simp only [Act.put, sA, sB, sC]
      refine wpAnyH_take (i := 16) (oi := ⟨_, _, _, _, _, _⟩) (v := undef) rfl (by kernel_rfl) (by kernel_rfl) (by kernel_rfl) (fun _ _ _ h => h) (Or.inr ⟨by rfl, rfl⟩) (by assumption) ?_
      try simp only [Act.put, sA, sB, sC]
      refine wpAnyH_take (i := 17) (oi := ⟨_, _, _, _, _, _⟩) (v := undef) rfl (by kernel_rfl) (by kernel_rfl) (by kernel_rfl) (fun _ _ _ h => h) (Or.inr ⟨by rfl, rfl⟩) (by assumption) ?_
      try simp only [Act.put, sA, sB, sC]
      refine wpAnyH_take (i := 18) (oi := ⟨_, _, _, _, _, _⟩) (v := undef) rfl (by kernel_rfl) (by kernel_rfl) (by kernel_rfl) (fun _ _ _ h => h) (Or.inr ⟨by rfl, rfl⟩) (by assumption) ?_
      try simp only [Act.put, sA, sB, sC]
      refine wpAnyH_take (i := 19) (oi := ⟨_, _, _, _, _, _⟩) (v := undef) rfl (by kernel_rfl) (by kernel_rfl) (by kernel_rfl) (fun _ _ _ h => h) (Or.inr ⟨by rfl, rfl⟩) (by assumption) ?_
      try simp only [Act.put, sA, sB, sC]
      refine tkH 20 (v := ?_) rfl (by kernel_rfl) (fun _ _ _ h => h) (by rfl) ?y1x20q47 (by assumption) ?z1x20q47
      case y1x20q47 => intro wq hSw; (go_simp); (try with_reducible rfl)
      try simp only [Act.put, sA, sB, sC]
      refine wpAnyH_done (by kernel_rfl) ?_ _
      skip
      go_wp2_with fail
      exact ⟨FN.out, by simp [intOf]; omega⟩
     have dz : (id != 0) = true := by simpa using hz0
     cases ok with
     | false =>
      have FN := lH (YES.out (by rw [QV.out]; simp [hz0]))
      clear hz0
      refine wp_region_held_drew (S := Ex w8) (by kernel_rfl) ((Ex.refl w8).drew) (fun hHeld => ?_)
      refine tkH 0 (v := ?_) rfl (by kernel_rfl) (fun _ _ _ h => h) (by rfl) ?y2x0q1 (by assumption) ?z2x0q1
      case y2x0q1 => intro wq hSw; (go_simp); (try with_reducible rfl)
      try simp only [Act.put, sA, sB, sC]
      refine tkH 1 (v := ?_) rfl (by kernel_rfl) (fun _ _ _ h => h) (by rfl) ?y2x1q4 (by assumption) ?z2x1q4
      case y2x1q4 => intro wq hSw; (go_simp); (try with_reducible rfl)
      try simp only [Act.put, sA, sB, sC]
      refine tkH 2 (v := ?_) rfl (by kernel_rfl) (fun _ _ _ h => h) (by rfl) ?y2x2q7 (by assumption) ?z2x2q7
      case y2x2q7 => intro wq hSw; (go_simp); (try with_reducible rfl)
      try simp only [Act.put, sA, sB, sC]
      refine tkH 3 (v := ?_) rfl (by kernel_rfl) (fun _ _ _ h => h) (by rfl) ?y2x3q10 (by assumption) ?z2x3q10
      case y2x3q10 => intro wq hSw; (have cq := EI.out wq hSw; go_simp); (try with_reducible rfl)
      try simp only [Act.put, sA, sB, sC]
      refine tkH 4 (v := ?_) rfl (by kernel_rfl) (fun _ _ _ h => h) (by rfl) ?y2x4q13 (by assumption) ?z2x4q13
      case y2x4q13 => intro wq hSw; (go_simp); (try with_reducible rfl)
      try simp only [Act.put, sA, sB, sC]
      refine tkH 5 (v := ?_) rfl (by kernel_rfl) (fun _ _ _ h => h) (by rfl) ?y2x5q16 (by assumption) ?z2x5q16
      case y2x5q16 => intro wq hSw; (go_simp); (try with_reducible rfl)
      try simp only [Act.put, sA, sB, sC]
      refine tkH 6 (v := ?_) rfl (by kernel_rfl) (fun _ _ _ h => h) (by rfl) ?y2x6q19 (by assumption) ?z2x6q19
      case y2x6q19 => intro wq hSw; (go_simp); (try with_reducible rfl)
      try simp only [Act.put, sA, sB, sC]
      refine tkH 7 (v := ?_) rfl (by kernel_rfl) (fun _ _ _ h => h) (by rfl) ?y2x7q22 (by assumption) ?z2x7q22
      case y2x7q22 => intro wq hSw; (go_simp); (try with_reducible rfl)
      try simp only [Act.put, sA, sB, sC]
      refine tkH 8 (v := ?_) rfl (by kernel_rfl) (fun _ _ _ h => h) (by rfl) ?y2x8q25 (by assumption) ?z2x8q25
      case y2x8q25 => intro wq hSw; (go_simp); (try with_reducible rfl)
      try simp only [Act.put, sA, sB, sC]
      refine wpAnyH_take (i := 9) (oi := ⟨_, _, _, _, _, _⟩) (v := undef) rfl (by kernel_rfl) (by kernel_rfl) (by kernel_rfl) (fun _ _ _ h => h) (Or.inr ⟨by rfl, rfl⟩) (by assumption) ?_
      try simp only [Act.put, sA, sB, sC]
      refine wpAnyH_take (i := 10) (oi := ⟨_, _, _, _, _, _⟩) (v := undef) rfl (by kernel_rfl) (by kernel_rfl) (by kernel_rfl) (fun _ _ _ h => h) (Or.inr ⟨by rfl, rfl⟩) (by assumption) ?_
      try simp only [Act.put, sA, sB, sC]
      refine wpAnyH_take (i := 11) (oi := ⟨_, _, _, _, _, _⟩) (v := undef) rfl (by kernel_rfl) (by kernel_rfl) (by kernel_rfl) (fun _ _ _ h => h) (Or.inr ⟨by rfl, rfl⟩) (by assumption) ?_
      try simp only [Act.put, sA, sB, sC]
      refine wpAnyH_take (i := 12) (oi := ⟨_, _, _, _, _, _⟩) (v := undef) rfl (by kernel_rfl) (by kernel_rfl) (by kernel_rfl) (fun _ _ _ h => h) (Or.inr ⟨by rfl, rfl⟩) (by assumption) ?_
      try simp only [Act.put, sA, sB, sC]
      refine wpAnyH_take (i := 13) (oi := ⟨_, _, _, _, _, _⟩) (v := undef) rfl (by kernel_rfl) (by kernel_rfl) (by kernel_rfl) (fun _ _ _ h => h) (Or.inr ⟨by rfl, rfl⟩) (by assumption) ?_
      try simp only [Act.put, sA, sB, sC]
      refine wpAnyH_take (i := 14) (oi := ⟨_, _, _, _, _, _⟩) (v := undef) rfl (by kernel_rfl) (by kernel_rfl) (by kernel_rfl) (fun _ _ _ h => h) (Or.inr ⟨by rfl, rfl⟩) (by assumption) ?_
      try simp only [Act.put, sA, sB, sC]
      refine wpAnyH_take (i := 15) (oi := ⟨_, _, _, _, _, _⟩) (v := undef) rfl (by kernel_rfl) (by kernel_rfl) (by kernel_rfl) (fun _ _ _ h => h) (Or.inr ⟨by rfl, rfl⟩) (by assumption) ?_
      try simp only [Act.put, sA, sB, sC]
      refine wpAnyH_take (i := 16) (oi := ⟨_, _, _, _, _, _⟩) (v := undef) rfl (by kernel_rfl) (by kernel_rfl) (by kernel_rfl) (fun _ _ _ h => h) (Or.inr ⟨by rfl, rfl⟩) (by assumption) ?_
      try simp only [Act.put, sA, sB, sC]
      refine wpAnyH_take (i := 17) (oi := ⟨_, _, _, _, _, _⟩) (v := undef) rfl (by kernel_rfl) (by kernel_rfl) (by kernel_rfl) (fun _ _ _ h => h) (Or.inr ⟨by rfl, rfl⟩) (by assumption) ?_
      try simp only [Act.put, sA, sB, sC]
      refine wpAnyH_take (i := 18) (oi := ⟨_, _, _, _, _, _⟩) (v := undef) rfl (by kernel_rfl) (by kernel_rfl) (by kernel_rfl) (fun _ _ _ h => h) (Or.inr ⟨by rfl, rfl⟩) (by assumption) ?_
      try simp only [Act.put, sA, sB, sC]
      refine tkH 19 (v := ?_) rfl (by kernel_rfl) (fun _ _ _ h => h) (by rfl) ?y2x19q48 (by assumption) ?z2x19q48
      case y2x19q48 => intro wq hSw; (go_simp); (try with_reducible rfl)
      try simp only [Act.put, sA, sB, sC]
      refine tkH 20 (v := ?_) rfl (by kernel_rfl) (fun _ _ _ h => h) (by rfl) ?y2x20q51 (by assumption) ?z2x20q51
      case y2x20q51 => intro wq hSw; (go_simp); (try with_reducible rfl)
      try simp only [Act.put, sA, sB, sC]
      refine wpAnyH_done (by kernel_rfl) ?_ _
      skip
      go_wp2_with fail
      exact ⟨FN.out, by simp [intOf]; omega⟩
     | true =>
      by_cases he : id = y.id
      ·have FN := lH (YES.out (by rw [QV.out]; simp [he, show ¬ y.id = 0 from he ▸ hz0]))
       have de : (id == y.id) = true := by simp [he]
       clear hz0 he
       refine wp_region_held_drew (S := Ex w8) (by kernel_rfl) ((Ex.refl w8).drew) (fun hHeld => ?_)
       refine tkH 0 (v := ?_) rfl (by kernel_rfl) (fun _ _ _ h => h) (by rfl) ?y3x0q1 (by assumption) ?z3x0q1
       case y3x0q1 => intro wq hSw; (go_simp); (try with_reducible rfl)
       try simp only [Act.put, sA, sB, sC]
       refine tkH 1 (v := ?_) rfl (by kernel_rfl) (fun _ _ _ h => h) (by rfl) ?y3x1q4 (by assumption) ?z3x1q4
       case y3x1q4 => intro wq hSw; (go_simp); (try with_reducible rfl)
       try simp only [Act.put, sA, sB, sC]
       refine tkH 2 (v := ?_) rfl (by kernel_rfl) (fun _ _ _ h => h) (by rfl) ?y3x2q7 (by assumption) ?z3x2q7
       case y3x2q7 => intro wq hSw; (go_simp); (try with_reducible rfl)
       try simp only [Act.put, sA, sB, sC]
       refine tkH 3 (v := ?_) rfl (by kernel_rfl) (fun _ _ _ h => h) (by rfl) ?y3x3q10 (by assumption) ?z3x3q10
       case y3x3q10 => intro wq hSw; (have cq := EI.out wq hSw; go_simp); (try with_reducible rfl)
       try simp only [Act.put, sA, sB, sC]
       refine tkH 4 (v := ?_) rfl (by kernel_rfl) (fun _ _ _ h => h) (by rfl) ?y3x4q13 (by assumption) ?z3x4q13
       case y3x4q13 => intro wq hSw; (go_simp); (try with_reducible rfl)
       try simp only [Act.put, sA, sB, sC]
       refine tkH 5 (v := ?_) rfl (by kernel_rfl) (fun _ _ _ h => h) (by rfl) ?y3x5q16 (by assumption) ?z3x5q16
       case y3x5q16 => intro wq hSw; (go_simp); (try with_reducible rfl)
       try simp only [Act.put, sA, sB, sC]
       refine tkH 6 (v := ?_) rfl (by kernel_rfl) (fun _ _ _ h => h) (by rfl) ?y3x6q19 (by assumption) ?z3x6q19
       case y3x6q19 => intro wq hSw; (go_simp); (try with_reducible rfl)
       try simp only [Act.put, sA, sB, sC]
       refine tkH 7 (v := ?_) rfl (by kernel_rfl) (fun _ _ _ h => h) (by rfl) ?y3x7q22 (by assumption) ?z3x7q22
       case y3x7q22 => intro wq hSw; (go_simp); (try with_reducible rfl)
       try simp only [Act.put, sA, sB, sC]
       refine tkH 8 (v := ?_) rfl (by kernel_rfl) (fun _ _ _ h => h) (by rfl) ?y3x8q25 (by assumption) ?z3x8q25
       case y3x8q25 => intro wq hSw; (go_simp); (try with_reducible rfl)
       try simp only [Act.put, sA, sB, sC]
       refine tkH 9 (v := ?_) rfl (by kernel_rfl) (fun _ _ _ h => h) (by rfl) ?y3x9q28 (by assumption) ?z3x9q28
       case y3x9q28 => intro wq hSw; (go_simp); (try with_reducible rfl)
       try simp only [Act.put, sA, sB, sC]
       refine tkH 10 (v := ?_) rfl (by kernel_rfl) (fun _ _ _ h => h) (by rfl) ?y3x10q31 (by assumption) ?z3x10q31
       case y3x10q31 => intro wq hSw; (go_simp); (try with_reducible rfl)
       try simp only [Act.put, sA, sB, sC]
       refine tkH 11 (v := ?_) rfl (by kernel_rfl) (fun _ _ _ h => h) (by rfl) ?y3x11q34 (by assumption) ?z3x11q34
       case y3x11q34 => intro wq hSw; (go_simp); (try with_reducible rfl)
       try simp only [Act.put, sA, sB, sC]
       refine tkH 12 (v := ?_) rfl (by kernel_rfl) (fun _ _ _ h => h) (by rfl) ?y3x12q37 (by assumption) ?z3x12q37
       case y3x12q37 => intro wq hSw; (have cq := EI.out wq hSw; go_simp); (try with_reducible rfl)
       try simp only [Act.put, sA, sB, sC]
       refine tkH 13 (v := ?_) rfl (by kernel_rfl) (fun _ _ _ h => h) (by rfl) ?y3x13q40 (by assumption) ?z3x13q40
       case y3x13q40 => intro wq hSw; (go_simp); (try with_reducible rfl)
       try simp only [Act.put, sA, sB, sC]
       refine tkH 14 (v := ?_) rfl (by kernel_rfl) (fun _ _ _ h => h) (by rfl) ?y3x14q43 (by assumption) ?z3x14q43
       case y3x14q43 => intro wq hSw; (go_simp); (try with_reducible rfl)
       try simp only [Act.put, sA, sB, sC]
       refine tkH 15 (v := ?_) rfl (by kernel_rfl) (fun _ _ _ h => h) (by rfl) ?y3x15q46 (by assumption) ?z3x15q46
       case y3x15q46 => intro wq hSw; (go_simp); (try with_reducible rfl)
       try simp only [Act.put, sA, sB, sC]
       refine tkH 16 (v := ?_) rfl (by kernel_rfl) (fun _ _ _ h => h) (by rfl) ?y3x16q49 (by assumption) ?z3x16q49
       case y3x16q49 => intro wq hSw; (go_simp); (try with_reducible rfl)
       try simp only [Act.put, sA, sB, sC]
       refine tkH 17 (v := ?_) rfl (by kernel_rfl) (fun _ _ _ h => h) (by rfl) ?y3x17q52 (by assumption) ?z3x17q52
       case y3x17q52 => intro wq hSw; (have cq := EY.out wq hSw; go_simp); (try with_reducible rfl)
       try simp only [Act.put, sA, sB, sC]
       refine tkH 18 (v := ?_) rfl (by kernel_rfl) (fun _ _ _ h => h) (by rfl) ?y3x18q55 (by assumption) ?z3x18q55
       case y3x18q55 => intro wq hSw; (go_simp); (try with_reducible rfl)
       try simp only [Act.put, sA, sB, sC]
       refine tkH 19 (v := ?_) rfl (by kernel_rfl) (fun _ _ _ h => h) (by rfl) ?y3x19q58 (by assumption) ?z3x19q58
       case y3x19q58 => intro wq hSw; (go_simp); (try with_reducible rfl)
       try simp only [Act.put, sA, sB, sC]
       refine tkH 20 (v := ?_) rfl (by kernel_rfl) (fun _ _ _ h => h) (by rfl) ?y3x20q61 (by assumption) ?z3x20q61
       case y3x20q61 => intro wq hSw; (go_simp); (try with_reducible rfl)
       try simp only [Act.put, sA, sB, sC]
       refine wpAnyH_done (by kernel_rfl) ?_ _
       skip
       go_wp2_with fail
       exact ⟨FN.out, by simp [intOf]; omega⟩
      ·have FN := lH (NO.out (by rw [QV.out]; simp [he]) _ rfl)
       have de : (id == y.id) = false := by simp [he]
       clear hz0 he
       refine wp_region_held_drew (S := Ex w8) (by kernel_rfl) ((Ex.refl w8).drew) (fun hHeld => ?_)
       refine tkH 0 (v := ?_) rfl (by kernel_rfl) (fun _ _ _ h => h) (by rfl) ?y4x0q1 (by assumption) ?z4x0q1
       case y4x0q1 => intro wq hSw; (go_simp); (try with_reducible rfl)
       try simp only [Act.put, sA, sB, sC]
       refine tkH 1 (v := ?_) rfl (by kernel_rfl) (fun _ _ _ h => h) (by rfl) ?y4x1q4 (by assumption) ?z4x1q4
       case y4x1q4 => intro wq hSw; (go_simp); (try with_reducible rfl)
       try simp only [Act.put, sA, sB, sC]
       refine tkH 2 (v := ?_) rfl (by kernel_rfl) (fun _ _ _ h => h) (by rfl) ?y4x2q7 (by assumption) ?z4x2q7
       case y4x2q7 => intro wq hSw; (go_simp); (try with_reducible rfl)
       try simp only [Act.put, sA, sB, sC]
       refine tkH 3 (v := ?_) rfl (by kernel_rfl) (fun _ _ _ h => h) (by rfl) ?y4x3q10 (by assumption) ?z4x3q10
       case y4x3q10 => intro wq hSw; (have cq := EI.out wq hSw; go_simp); (try with_reducible rfl)
       try simp only [Act.put, sA, sB, sC]
       refine tkH 4 (v := ?_) rfl (by kernel_rfl) (fun _ _ _ h => h) (by rfl) ?y4x4q13 (by assumption) ?z4x4q13
       case y4x4q13 => intro wq hSw; (go_simp); (try with_reducible rfl)
       try simp only [Act.put, sA, sB, sC]
       refine tkH 5 (v := ?_) rfl (by kernel_rfl) (fun _ _ _ h => h) (by rfl) ?y4x5q16 (by assumption) ?z4x5q16
       case y4x5q16 => intro wq hSw; (go_simp); (try with_reducible rfl)
       try simp only [Act.put, sA, sB, sC]
       refine tkH 6 (v := ?_) rfl (by kernel_rfl) (fun _ _ _ h => h) (by rfl) ?y4x6q19 (by assumption) ?z4x6q19
       case y4x6q19 => intro wq hSw; (go_simp); (try with_reducible rfl)
       try simp only [Act.put, sA, sB, sC]
       refine tkH 7 (v := ?_) rfl (by kernel_rfl) (fun _ _ _ h => h) (by rfl) ?y4x7q22 (by assumption) ?z4x7q22
       case y4x7q22 => intro wq hSw; (go_simp); (try with_reducible rfl)
       try simp only [Act.put, sA, sB, sC]
       refine tkH 8 (v := ?_) rfl (by kernel_rfl) (fun _ _ _ h => h) (by rfl) ?y4x8q25 (by assumption) ?z4x8q25
       case y4x8q25 => intro wq hSw; (go_simp); (try with_reducible rfl)
       try simp only [Act.put, sA, sB, sC]
       refine tkH 9 (v := ?_) rfl (by kernel_rfl) (fun _ _ _ h => h) (by rfl) ?y4x9q28 (by assumption) ?z4x9q28
       case y4x9q28 => intro wq hSw; (go_simp); (try with_reducible rfl)
       try simp only [Act.put, sA, sB, sC]
       refine tkH 10 (v := ?_) rfl (by kernel_rfl) (fun _ _ _ h => h) (by rfl) ?y4x10q31 (by assumption) ?z4x10q31
       case y4x10q31 => intro wq hSw; (go_simp); (try with_reducible rfl)
       try simp only [Act.put, sA, sB, sC]
       refine tkH 11 (v := ?_) rfl (by kernel_rfl) (fun _ _ _ h => h) (by rfl) ?y4x11q34 (by assumption) ?z4x11q34
       case y4x11q34 => intro wq hSw; (go_simp); (try with_reducible rfl)
       try simp only [Act.put, sA, sB, sC]
       refine tkH 12 (v := ?_) rfl (by kernel_rfl) (fun _ _ _ h => h) (by rfl) ?y4x12q37 (by assumption) ?z4x12q37
       case y4x12q37 => intro wq hSw; (have cq := EI.out wq hSw; go_simp); (try with_reducible rfl)
       try simp only [Act.put, sA, sB, sC]
       refine tkH 13 (v := ?_) rfl (by kernel_rfl) (fun _ _ _ h => h) (by rfl) ?y4x13q40 (by assumption) ?z4x13q40
       case y4x13q40 => intro wq hSw; (go_simp); (try with_reducible rfl)
       try simp only [Act.put, sA, sB, sC]
       refine tkH 14 (v := ?_) rfl (by kernel_rfl) (fun _ _ _ h => h) (by rfl) ?y4x14q43 (by assumption) ?z4x14q43
       case y4x14q43 => intro wq hSw; (go_simp); (try with_reducible rfl)
       try simp only [Act.put, sA, sB, sC]
       refine tkH 15 (v := ?_) rfl (by kernel_rfl) (fun _ _ _ h => h) (by rfl) ?y4x15q46 (by assumption) ?z4x15q46
       case y4x15q46 => intro wq hSw; (go_simp); (try with_reducible rfl)
       try simp only [Act.put, sA, sB, sC]
       refine tkH 16 (v := ?_) rfl (by kernel_rfl) (fun _ _ _ h => h) (by rfl) ?y4x16q49 (by assumption) ?z4x16q49
       case y4x16q49 => intro wq hSw; (go_simp); (try with_reducible rfl)
       try simp only [Act.put, sA, sB, sC]
       refine tkH 17 (v := ?_) rfl (by kernel_rfl) (fun _ _ _ h => h) (by rfl) ?y4x17q52 (by assumption) ?z4x17q52
       case y4x17q52 => intro wq hSw; (have cq := EY.out wq hSw; go_simp); (try with_reducible rfl)
       try simp only [Act.put, sA, sB, sC]
       refine tkH 18 (v := ?_) rfl (by kernel_rfl) (fun _ _ _ h => h) (by rfl) ?y4x18q55 (by assumption) ?z4x18q55
       case y4x18q55 => intro wq hSw; (go_simp); (try with_reducible rfl)
       try simp only [Act.put, sA, sB, sC]
       refine tkH 19 (v := ?_) rfl (by kernel_rfl) (fun _ _ _ h => h) (by rfl) ?y4x19q58 (by assumption) ?z4x19q58
       case y4x19q58 => intro wq hSw; (go_simp); (try with_reducible rfl)
       try simp only [Act.put, sA, sB, sC]
       refine tkH 20 (v := ?_) rfl (by kernel_rfl) (fun _ _ _ h => h) (by rfl) ?y4x20q61 (by assumption) ?z4x20q61
       case y4x20q61 => intro wq hSw; (go_simp); (try with_reducible rfl)
       try simp only [Act.put, sA, sB, sC]
       refine wpAnyH_done (by kernel_rfl) ?_ _
       skip
       go_wp2_with fail
       exact ⟨FN.out, by simp [intOf]; omega⟩
    ·obtain rfl : s = L.length := by omega
     have FN := lH (show StRel N Q w3 (.int .i64 ((C0 + ((L.take L.length).filter (stQ N y)).length : Nat))) (.int .i64 ((j : Int) + 1)) ws from ⟨j + 1, by omega, by go_num, by rw [SNO.out, SEQ.out, List.take_length], KK.out.nx KS.out⟩)
     clear hs hsm ks hcl
     go_wp2_with fail
     exact ⟨FN.out, by simp [intOf]; omega⟩
  ·obtain rfl : j = Q.length := by omega
   rw [List.take_length, ← HE.out]
   have KF := lH (K3.out.nx KZ.out)
   clear hj hjm kz
   go_wp2_with fail
   go_ret
   exact ⟨by rw [HE0.out]; rfl, KF.out⟩
theorem rep_sm2 {N : List Nd} {P : List Pr} (hN : N.length ≤ 1000) (hP : Sm2 P) (h r : Int) : Sm2 (repN N P h r) := by
 unfold repN
 split
 ·exact rrs_sm2 hN (norm_sm2 hP) _ _
 ·intro p hp; cases hp
theorem rep_lenA {N : List Nd} (P : List Pr) (hN : N.length ≤ 1000) (h r : Int) : (repN N P h r).length ≤ 1000 := by
 unfold repN
 split
 ·exact rrs_len (Nat.le_trans (normal_le N P).1 hN) hN _ _
 ·exact Nat.zero_le _
theorem sm2_same {P : List Pr} (h : Sm2 P) : ∀ p ∈ P, p.known.length ≤ 4000000000000000000 ∧ p.near.length ≤ 4000000000000000000 := fun p hp => by have := h p hp; omega
set_option maxRecDepth 100000 in
set_option maxHeartbeats 16000000 in
theorem agrees18_x (a : Option Addr) (n c : Nat) (N : List Nd) (a2 : Option Addr) (n2 c2 : Nat) (P : List Pr) (hh m : Int) (w : World) (h : Sl 3 encN w a n N) (hn : n ≤ 1000) (hc : n ≤ c) (hm : c ≤ maxLen) (hw : ∀ x ∈ N, x.word < 4294967296) (hT : TabG w) (h2 : PL w a2 n2 P) (hn2 : n2 ≤ 1000) (hP : Sm2 P) :
  Calls Tryz.prog 18 #[.slice a n c, .slice a2 n2 c2, .int .i64 hh, .int .i64 m] w fun e w' => e = .returned (.bool true) ∧ Ex w w' := by
 have HL := lH h.len
 have HS := lH h
 have HW := lH hw
 have HT := lH hT
 have H2 := lH h2
 have S2 := lH hP
 have SM : Hid (SmallP P) := lH (fun p hp => by have := hP p hp; omega)
 have SX : Hid (∀ p ∈ P, p.known.length ≤ 2000000 ∧ p.near.length ≤ 2000000) := lH hP
 have hN : N.length ≤ 1000 := by have := HL.out; omega
 have LR := lH (Nat.le_trans (rr_len N P hh) hN)
 have BR := lH (sm2_same (rr_sm2 hN P hh))
 have LU := lH (rep_lenA P hN hh m)
 have BU := lH (sm2_same (rep_sm2 hN hP hh m))
 have KI := lH (Ex.refl w)
 clear h hw hT h2 hP
 go_enter Tryz.func18, Tryz.ntmps18
 go_wp2_with fail
 (with_reducible refine (needed_p _ _ _ N _ _ _ P hh _ (HS.out.nx KI.out) hn hc hm HW.out (HT.out.nx KI.out) (H2.out.nx KI.out) (by omega) SM.out).mono ?_)
 rintro e w1 ⟨rfl, kk⟩
 replace KI := lH (KI.out.nx kk)
 clear kk
 go_wp2_with fail
 (with_reducible refine (needed_r _ _ _ N _ _ _ P hh _ (HS.out.nx KI.out) hn HW.out (H2.out.nx KI.out) hn2 S2.out).mono ?_)
 rintro e w2 ⟨rfl, kk⟩
 replace KI := lH (KI.out.nx kk)
 generalize neededN N P hh = z
 obtain ⟨z1, z2⟩ := z
 simp only
 have d1 : (z1 == z1) = true := by simp
 have d2 : (z2 == z2) = true := by simp
 clear kk
 go_wp2_with fail
 (with_reducible refine (rround_p _ _ _ N _ _ _ P hh _ (HS.out.nx KI.out) hn hc hm HW.out (H2.out.nx KI.out) (by omega) SM.out).mono ?_)
 rintro e w3 ⟨v, q3, rfl, own, kk⟩
 replace KI := lH (KI.out.nx kk)
 obtain ⟨aA, cA, rfl, PA, _, _, _, _⟩ := own.pl
 clear own
 replace PA := lH PA
 clear kk
 go_wp2_with fail
 (with_reducible refine (rround_r _ _ _ N _ _ _ P hh _ (HS.out.nx KI.out) hn HW.out (H2.out.nx KI.out) hn2 S2.out).mono ?_)
 rintro e w4 ⟨v, q4, rfl, own, kk⟩
 replace KI := lH (KI.out.nx kk)
 replace PA := lH (PA.out.nx kk)
 obtain ⟨aB, cB, rfl, PB, _, _, _, _⟩ := own.pl
 clear own
 replace PB := lH PB
 clear kk
 go_wp2_with fail
 (with_reducible refine (same14_r _ _ _ (rRoundN N P hh) _ _ _ PA.out PB.out LR.out BR.out).mono ?_)
 rintro e w5 ⟨rfl, kk⟩
 replace KI := lH (KI.out.nx kk)
 clear kk
 clear PA PB
 go_wp2_with fail
 (with_reducible refine (run_p _ _ _ N _ _ _ P hh m _ (HS.out.nx KI.out) hn hc hm HW.out (H2.out.nx KI.out) (by omega) SM.out).mono ?_)
 rintro e w6 ⟨v, q6, rfl, own, kk⟩
 replace KI := lH (KI.out.nx kk)
 obtain ⟨aA, cA, rfl, PA, _, _, _, _⟩ := own.pl
 clear own
 replace PA := lH PA
 clear kk
 go_wp2_with fail
 (with_reducible refine (run18_r _ _ _ N _ _ _ P hh m _ (HS.out.nx KI.out) hn HW.out (H2.out.nx KI.out) hn2 S2.out).mono ?_)
 rintro e w7 ⟨v, q7, rfl, own, kk⟩
 replace KI := lH (KI.out.nx kk)
 replace PA := lH (PA.out.nx kk)
 obtain ⟨aB, cB, rfl, PB, _, _, _, _⟩ := own.pl
 clear own
 replace PB := lH PB
 clear kk
 go_wp2_with fail
 (with_reducible refine (same14_r _ _ _ (repN N P hh m) _ _ _ PA.out PB.out LU.out BU.out).mono ?_)
 rintro e w8 ⟨rfl, kk⟩
 replace KI := lH (KI.out.nx kk)
 clear kk
 clear PA PB
 go_wp2_with fail
 (with_reducible refine (rounds18_p (n : Int) hh _).mono ?_)
 rintro e w9 ⟨rfl, hw9⟩
 subst hw9
 go_wp2_with fail
 (with_reducible refine (rounds18_r (n : Int) hh _).mono ?_)
 rintro e w9 ⟨rfl, hw9⟩
 subst hw9
 generalize rndsR (n : Int) hh = rr
 go_wp2_with fail
 (with_reducible refine (stale_p _ _ _ N _ _ _ P _ (HS.out.nx KI.out) hn hc hm (H2.out.nx KI.out) (by omega) SX.out).mono ?_)
 rintro e w10 ⟨rfl, kk⟩
 replace KI := lH (KI.out.nx kk)
 clear kk
 go_wp2_with fail
 (with_reducible refine (stale_r _ _ _ N _ _ _ P _ (HS.out.nx KI.out) hn (H2.out.nx KI.out) hn2 SX.out).mono ?_)
 rintro e w11 ⟨rfl, kk⟩
 replace KI := lH (KI.out.nx kk)
 clear kk
 generalize (staleN N P : Int) = st
 go_wp2_with fail
 go_ret
 exact ⟨rfl, KI.out⟩
def BrX8 (b : Nat) (w1 : World) (s9 : Value) (wx : World) : Prop :=
 ∃ (a : Option Addr) (n c : Nat) (LZ : List Nd), s9 = .slice a n c ∧ Slb 3 encN b wx a n LZ ∧ n ≤ 100 ∧ n ≤ c ∧ c ≤ maxLen ∧ (∀ x ∈ LZ, x.word < 4294967296) ∧ TK wx b ∧ Exb b w1 wx
def BrB8 (b : Nat) (w1 : World) (v : Value) (wx : World) : Prop := ∃ β : Bool, v = .bool β ∧ TK wx b ∧ Exb b w1 wx
theorem fewP_sm2R {m : Nat} {P : List Pr} (h : FewP m P) (hm : m ≤ 1000) : Sm2 P := fun p hp => by have := h p hp; omega
set_option maxRecDepth 100000 in
set_option maxHeartbeats 16000000 in
theorem repairrounds_walk (a1 : Option Addr) (n1 c1 : Nat) (l1 : List Int) (a2 : Option Addr) (n2 c2 : Nat) (l2 : List Nd) (a3 : Option Addr) (n3 c3 : Nat) (P3 : List Pr) (m m2 : Int) (w : World) (h1 : Sl 1 encI w a1 n1 l1) (hc1 : n1 ≤ c1) (hm1 : c1 ≤ maxLen)
  (h2 : Sl 3 encN w a2 n2 l2) (hc2 : n2 ≤ c2) (hm2 : c2 ≤ maxLen) (hw2 : ∀ x ∈ l2, x.word < 4294967296) (h3 : PL w a3 n3 P3) (hP3 : Sm2 P3) (hT : TabG w) (hL : LetG w) :
  Calls Tryz.prog 4 #[.slice a1 n1 c1, .slice a2 n2 c2, .slice a3 n3 c3, .int .i64 m, .int .i64 m2] w fun e w' => e = .returned (.bool true) ∧ Ex w w' := by
 go_enter Tryz.func4, Tryz.ntmps4
 go_wp2_with fail
 refine (new_t _ _ _ l1 _ h1 hc1 hm1).mono ?_
 rintro e w1 ⟨rfl, T, kk, z1⟩
 obtain ⟨b, hb⟩ : ∃ b, b = w.heap.size := ⟨_, rfl⟩
 rw [← hb] at T ⊢
 have hgt : ¬ 1 = b := by have := hT.lt; omega
 have hgl : ¬ 0 = b := by have := hL.lt; omega
 have T1 : Hid (TabG w1) := lH (hT.nx kk)
 have L1 : Hid (LetG w1) := lH (hL.nx kk)
 have QL : Hid (Exl b w w1) := lH ⟨kk, by omega⟩
 have S1 : Hid (Slb 3 encN b w1 a2 n2 l2) := lH ((h2.slb (by omega)).nxb (kk.b b))
 have P1 : Hid (PLb b w1 a3 n3 P3) := lH ((h3.plb (by omega)).nxb (kk.b b))
 have HW2 := lH hw2
 have HP3 := lH hP3
 clear h1 h2 h3 hT hL kk hb z1 hw2 hP3
 go_wp2_with fail
 go_loopw [12] (fun i wr => CtRel b 2 w1 i wr) (fun i _ => 2 - (intOf i).toNat)
 case atStart => exact ⟨0, by omega, rfl, Exb.refl _ _, T⟩
 case round =>
  clear T
  obtain ⟨k, hk, rfl, kw, T⟩ := hrel
  obtain ⟨wo, rfl⟩ : ∃ wo : World, wo = wr := ⟨_, rfl⟩
  by_cases hlt : k < 2
  case neg =>
   obtain rfl : k = 2 := by omega
   have TG := lH (T1.out.nxb hgt kw)
   have QX := lH (QL.out.nxb kw).1
   have SA := lH (S1.out.nxb kw).sl
   have PA := lH (P1.out.nxb kw).pl
   clear hk hlt kw T
   have SANE : Hid (∀ wq, Ex wo wq → Calls Tryz.prog 21 #[] wq fun e w' => e = .returned (.bool true) ∧ Ex wq w') := lH (fun wq kq => sane18_x wq (TG.out.nx kq))
   by_cases gn2 : n2 > 4
   ·have dn2 : (n2 : Int) > 4 := by omega
    have en2 : (4 : Int) < (n2 : Int) := by omega
    clear gn2
    go_wp2_with fail
    (with_reducible refine (rounds18_p m2 m _).mono ?_)
    rintro e wy ⟨rfl, hwy⟩
    subst hwy
    go_wp2_with fail
    (with_reducible refine (rounds18_r m2 m _).mono ?_)
    rintro e wy ⟨rfl, hwy⟩
    subst hwy
    generalize rndsR m2 m = rr
    go_wp2_with fail
    (with_reducible refine (SANE.out _ (Ex.refl _)).mono ?_)
    rintro e wz ⟨rfl, kk⟩
    replace QX := lH (QX.out.nx kk)
    clear kk
    go_wp2_with fail
    go_ret
    exact ⟨rfl, QX.out⟩
   have dn2 : ¬ (n2 : Int) > 4 := by omega
   have en2 : ¬ (4 : Int) < (n2 : Int) := by omega
   by_cases gn3 : n3 > 8
   ·have dn3 : (n3 : Int) > 8 := by omega
    have en3 : (8 : Int) < (n3 : Int) := by omega
    clear gn3
    go_wp2_with fail
    (with_reducible refine (rounds18_p m2 m _).mono ?_)
    rintro e wy ⟨rfl, hwy⟩
    subst hwy
    go_wp2_with fail
    (with_reducible refine (rounds18_r m2 m _).mono ?_)
    rintro e wy ⟨rfl, hwy⟩
    subst hwy
    generalize rndsR m2 m = rr
    go_wp2_with fail
    (with_reducible refine (SANE.out _ (Ex.refl _)).mono ?_)
    rintro e wz ⟨rfl, kk⟩
    replace QX := lH (QX.out.nx kk)
    clear kk
    go_wp2_with fail
    go_ret
    exact ⟨rfl, QX.out⟩
   have dn3 : ¬ (n3 : Int) > 8 := by omega
   have en3 : ¬ (8 : Int) < (n3 : Int) := by omega
   by_cases gm : m > 3
   ·have em : (3 : Int) < m := gm
    go_wp2_with fail
    (with_reducible refine (rounds18_p m2 m _).mono ?_)
    rintro e wy ⟨rfl, hwy⟩
    subst hwy
    go_wp2_with fail
    (with_reducible refine (rounds18_r m2 m _).mono ?_)
    rintro e wy ⟨rfl, hwy⟩
    subst hwy
    generalize rndsR m2 m = rr
    go_wp2_with fail
    (with_reducible refine (SANE.out _ (Ex.refl _)).mono ?_)
    rintro e wz ⟨rfl, kk⟩
    replace QX := lH (QX.out.nx kk)
    clear kk
    go_wp2_with fail
    go_ret
    exact ⟨rfl, QX.out⟩
   have em : ¬ (3 : Int) < m := gm
   by_cases gm2 : m2 > 20
   ·have em2 : (20 : Int) < m2 := gm2
    go_wp2_with fail
    (with_reducible refine (rounds18_p m2 m _).mono ?_)
    rintro e wy ⟨rfl, hwy⟩
    subst hwy
    go_wp2_with fail
    (with_reducible refine (rounds18_r m2 m _).mono ?_)
    rintro e wy ⟨rfl, hwy⟩
    subst hwy
    generalize rndsR m2 m = rr
    go_wp2_with fail
    (with_reducible refine (SANE.out _ (Ex.refl _)).mono ?_)
    rintro e wz ⟨rfl, kk⟩
    replace QX := lH (QX.out.nx kk)
    clear kk
    go_wp2_with fail
    go_ret
    exact ⟨rfl, QX.out⟩
   have em2 : ¬ (20 : Int) < m2 := gm2
   go_wp2_with fail
   (with_reducible refine (agrees18_x _ _ _ l2 _ _ _ P3 m m2 _ SA.out (by omega) hc2 hm2 HW2.out TG.out PA.out (by omega) HP3.out).mono ?_)
   rintro e w6 ⟨rfl, kk⟩
   replace QX := lH (QX.out.nx kk)
   have K5 := lH kk
   clear kk
   go_wp2_with fail
   (with_reducible refine (rounds18_p m2 m _).mono ?_)
   rintro e wy ⟨rfl, hwy⟩
   subst hwy
   go_wp2_with fail
   (with_reducible refine (rounds18_r m2 m _).mono ?_)
   rintro e wy ⟨rfl, hwy⟩
   subst hwy
   generalize rndsR m2 m = rr
   go_wp2_with fail
   (with_reducible refine (SANE.out _ K5.out).mono ?_)
   rintro e wz ⟨rfl, kk⟩
   replace QX := lH (QX.out.nx kk)
   clear kk
   go_wp2_with fail
   go_ret
   exact ⟨rfl, QX.out⟩
  have hbo := T.lt
  go_wp2_with fail
  refine (roster_t 6 _ T (L1.out.nxb hgl kw) hgl (by omega) (by omega)).mono ?_
  clear T
  rintro e x1 ⟨v1, LX, rfl, R⟩
  replace kw := kw.nxb R.k
  have T := R.tape
  obtain ⟨aX, cX, rfl, SX, hcX, hmX, hnX⟩ := R.own.slf (fun _ => rfl)
  have SX := SX.slb hbo
  have RL := R.len
  have RN := lH (roster_ok R.ok)
  have XW := lH (fun x hx => (RN.out x hx).1.2.1)
  have XI := lH (fun x hx => (RN.out x hx).1.1)
  have XO := lH (fun x hx => (RN.out x hx).1)
  clear R
  go_wp2_with fail
  refine (next_t 3 _ T (by omega) (by omega)).mono ?_
  clear T
  rintro e x2 ⟨hh, rfl, hh0, hh1, T, kk⟩
  replace kw := kw.nxb kk
  replace SX := SX.nxb kk
  clear kk
  obtain ⟨ht, rfl⟩ : ∃ t : Nat, hh = t := ⟨hh.toNat, by omega⟩
  have hb2 := T.lt
  go_wp2_with fail
  refine (peers_t ht _ _ _ _ _ T SX (by omega) XI.out (by omega)).mono ?_
  clear T
  rintro e x3 ⟨v3, qs, PX, rfl, RP⟩
  replace kw := kw.nxb RP.k
  replace SX := SX.nxb RP.k
  have T := RP.tape
  have hPl := RP.len
  have hPf := lH (fewP_sm2R RP.few (by omega))
  obtain ⟨aP, cP, rfl, PP, _, _, hPg, _⟩ := RP.own.pl
  have OWP := lH RP.own
  clear RP
  have KW := lH kw
  have SXH := lH SX
  clear kw SX
  go_upto_region 7 with fail
  go_cut [35] from 30 to 55 (fun v wx => BrB8 b x3 v wx)
  case first =>
   by_cases hk2 : k = 1
   ·subst hk2
    go_wp2_with fail
    refine (bool_t 2 _ T (by omega) (by omega)).mono ?_
    clear T
    rintro e x4 ⟨rb, rfl, T, kk⟩
    have CUT := lH (show BrB8 b x3 (.bool rb) x4 from ⟨rb, rfl, T, kk⟩)
    clear T kk
    go_wp2_with fail
    go_meet
    exact CUT.out
   ·have d1 : ((k : Int) == 1) = false := by simp; omega
    have CUT := lH (show BrB8 b x3 (.bool false) x3 from ⟨false, rfl, T, Exb.refl _ _⟩)
    clear T hk2
    go_wp2_with fail
    go_meet
    exact CUT.out
  case rest =>
   rename World => x4
   obtain ⟨β, rfl, T4, k4⟩ := hcut
   clear T
   have T4H := lH T4
   have K4 := lH k4
   have SX4 := SXH.out.nxb k4
   have L4 := lH (L1.out.nxb hgl (KW.out.nxb k4))
   have hb4 := T4.lt
   clear T4 k4
   go_upto_if 35 with fail
   go_cut [13] from 36 to 55 (fun s9 wx => BrX8 b x3 s9 wx)
   case first =>
    cases β with
    | true =>
     go_wp2_with fail
     refine (oddroster_t _ _ _ _ _ T4H.out SX4 hnX (by omega) XO.out L4.out hgl).mono ?_
     rintro e x8 ⟨v8, LO, rfl, O⟩
     obtain ⟨aO, cO, rfl, SO, hcO, hmO, _⟩ := O.own.slf (fun _ => rfl)
     have OL := O.len
     have CUT := lH (show BrX8 b x3 (.slice aO LO.length cO) x8 from ⟨aO, _, cO, LO, rfl, SO.slb hb4, by omega, hcO, hmO, fun x hx => (O.ok x hx).2.1, O.tape, K4.out.nxb O.k⟩)
     clear O SO SX4
     go_wp2_with fail
     go_meet
     exact CUT.out
    | false =>
     have CUT := lH (show BrX8 b x3 (.slice aX LX.length cX) x4 from ⟨aX, _, cX, LX, rfl, SX4, by omega, hcX, hmX, XW.out, T4H.out, K4.out⟩)
     clear SX4
     go_wp2_with fail
     go_meet
     exact CUT.out
   case rest =>
    clear SX4 T4H K4 L4
    rename World => x5
    obtain ⟨aZ, nZ, cZ, LZ, rfl, SZ, hnZ, hcZ, hmZ, ZW, T5, k5⟩ := hcut
    have SZ := lH SZ
    have K5 := lH k5
    have ZW := lH ZW
    clear k5
    go_wp2_with fail
    refine (next_t 9 _ T5 (by omega) (by omega)).mono ?_
    clear T5
    rintro e x6 ⟨dd, rfl, dd0, dd1, T, kk⟩
    replace K5 := lH (K5.out.nxb kk)
    replace SZ := lH (SZ.out.nxb kk)
    have T := lH T
    have PZ : Hid (∀ wq, Exb b x3 wq → PL wq aP PX.length PX) := lH (fun wq kq => by
     obtain ⟨aQ, cQ, e, PQ, _⟩ := (OWP.out.nxb hb2 kq).pl
     cases e
     exact PQ)
    have hwd : IntKind.i64.wrap (dd - 1) = dd - 1 := IntWalk.i64_in _ (by omega)
    have TG := lH (fun wq (kq : Exb b x3 wq) => T1.out.nxb hgt (KW.out.nxb kq))
    clear kk
    go_wp2_with fail
    (with_reducible refine (agrees18_x _ _ _ LZ _ _ _ PX ht (dd - 1) _ SZ.out.sl (by omega) hcZ hmZ ZW.out (TG.out _ K5.out) (PZ.out _ K5.out) (by omega) hPf.out).mono ?_)
    rintro e x7 ⟨rfl, kk⟩
    replace K5 := lH (K5.out.nxb (kk.b b))
    replace SZ := lH (SZ.out.nxb (kk.b b))
    have T := T.out.nx kk
    clear kk
    go_wp2_with fail
    refine (pick_t (n := 2) (-1) 17 [-1, 17] T rfl rfl rfl (by omega) (by omega) (by intro x hx; simp at hx; omega)).mono ?_
    rintro e x8 ⟨r8, rfl, r80, r81, T, kk⟩
    replace K5 := lH (K5.out.nxb kk)
    replace SZ := lH (SZ.out.nxb kk)
    have T := lH T
    clear kk
    go_wp2_with fail
    (with_reducible refine (agrees18_x _ _ _ LZ _ _ _ PX r8 2 _ SZ.out.sl (by omega) hcZ hmZ ZW.out (TG.out _ K5.out) (PZ.out _ K5.out) (by omega) hPf.out).mono ?_)
    rintro e x9 ⟨rfl, kk⟩
    have KF := lH ((KW.out.nxb K5.out).nxb (kk.b b))
    have TF := lH (T.out.nx kk)
    clear kk
    go_wp2_with fail
    exact ⟨⟨k + 1, by omega, by go_num, KF.out, TF.out⟩, by simp [intOf]; omega⟩
end Go.Proofs.YtlgdjigocopglaaGreatDoor
namespace Go.Proofs.YtlgdjigocopglaaGreatDoor
open Go.ChangeShapes Go.WideShapes Go.ChangeAt Go.RowKit Go.Deep Go.Joins
section
variable {H : Type} {enc : TypeId × Value → H} {P : Program} {w : World} {base : Nat} {spare : Nat → Bool} {held : Bool}
theorem bulk_pos (d : DataW H) : 1 ≤ Rows.uptoBulk d := by
 cases d with
 | lit l => cases l <;> simp [Rows.uptoBulk]
 | _ => simp [Rows.uptoBulk]
theorem bulk_len : ∀ ds : List (DataW H), ds.length ≤ Rows.uptoBulkAll ds
 | [] => Nat.zero_le _
 | d :: r => by
  have h1 := bulk_pos d
  have h2 := bulk_len r
  simp only [Rows.uptoBulkAll, List.length_cons]
  omega
theorem bulk_mem : ∀ {ds : List (DataW H)} {d : DataW H}, d ∈ ds → Rows.uptoBulk d ≤ Rows.uptoBulkAll ds
 | d :: r, x, h => by
  simp only [Rows.uptoBulkAll]
  rcases List.mem_cons.1 h with rfl | h
  ·omega
  ·have := bulk_mem h; omega
theorem open_slice_fields_b {t e : TypeId} {fs : Array Field} {fuel : Nat} {cs : List Value} {x : DataW H × List MemPlace} (ht : P.underlying t = some (.slice e)) (he : P.underlying e = some (.struct fs))
  (hone : oneCellFields P fs = true) (hC : P.cellsOf e = fs.size) (h : DataW.trod enc P w base spare held fuel t cs = some x) :
  (cs = [.slice none 0 0] ∧ x = (.nil, [])) ∨
  ∃ (a : Addr) (len cap m : Nat), cs = [.slice (some a) len cap] ∧ len ≤ cap ∧ cap ≤ maxLen ∧ m = (if spare a.block then cap else len) ∧ len ≤ Rows.uptoBulk x.1 ∧
   ∀ i, i < m → ∃ (n : Nat), ∀ (j : Nat) (f : Field), fs[j]? = some f → ∃ (v : Value) (y : DataW H × List MemPlace), w.cell? (a.add (i * fs.size + j)) = some v ∧ DataW.trod enc P w base spare held n f.type [v] = some y ∧ Rows.uptoBulk y.1 ≤ Rows.uptoBulk x.1 := by
 rcases open_slice ht h with h0 | ⟨a, len, cap, m, n, D, Pl, hcs, hb, hl, hm, hmm, hx, hi⟩
 ·exact .inl h0
 ·have hsl : len ≤ Rows.uptoBulk x.1 := by
   rw [hx]
   simp only [Rows.uptoBulk]
   have := bulk_len ((List.range len).map D)
   rw [List.length_map, List.length_range] at this
   omega
  have hlm : len ≤ m := by rw [hmm]; split <;> omega
  have hD : ∀ i, i < m → Rows.uptoBulk (D i) ≤ Rows.uptoBulk x.1 := fun i him => by
   rw [hx]
   simp only [Rows.uptoBulk]
   by_cases hil : i < len
   ·have := bulk_mem (ds := (List.range len).map D) (d := D i) (List.mem_map.2 ⟨i, List.mem_range.2 hil, rfl⟩)
    omega
   ·have := bulk_mem (ds := (List.range (m - len)).map fun j => D (len + j)) (d := D i) (List.mem_map.2 ⟨i - len, List.mem_range.2 (by omega), by rw [show len + (i - len) = i by omega]⟩)
    omega
  refine .inr ⟨a, len, cap, m, hcs, hl, hm, hmm, hsl, fun i him => ?_⟩
  obtain ⟨cs', hc, ht'⟩ := hi i him
  rw [hC] at hc
  obtain ⟨ys, n', hn', hy, hlen, hyl, hf⟩ := DataW.trod_struct he ht'
  obtain ⟨_, hcl, hat⟩ := World.cells?_some hc
  refine ⟨n', fun j f hj => ?_⟩
  obtain ⟨ho, hk⟩ := hone_of hone j f hj
  have hjl : j < fs.size := (Array.getElem?_eq_some_iff.1 hj).1
  have hcell := hat j hjl
  have hv : cs'[j]? = some (cs'[j]'(by omega)) := List.getElem?_eq_getElem (by omega)
  have h1 := hf j f hj
  rw [ho, hk] at h1
  have hone' : (cs'.drop j).take 1 = [cs'[j]'(by omega)] := by
   rw [List.drop_eq_getElem_cons (by omega)]
   rfl
  rw [hone'] at h1
  have hys : ys[j]? = some (ys[j]'(by omega)) := List.getElem?_eq_getElem (by omega)
  refine ⟨_, _, ?_, h1.trans hys, ?_⟩
  ·rw [← Go.Deep.add_add, hcell, hv]
  ·refine Nat.le_trans ?_ (hD i him)
   have e1 : D i = .agg (ys.map (·.1)) := congrArg Prod.fst hy
   rw [e1]
   simp only [Rows.uptoBulk]
   have := bulk_mem (ds := ys.map (·.1)) (d := (ys[j]'(by omega)).1) (List.mem_map.2 ⟨_, List.getElem_mem _, rfl⟩)
   omega
theorem rd_from {α : Type} {encS : α → List Value} {fs : Array Field} {x : Addr} {len m : Nat} (hk0 : 0 < fs.size) (hlm : len ≤ m) {Q : Value → TypeId → Nat → Prop}
  (hi : ∀ i, i < m → ∃ (n : Nat), ∀ (j : Nat) (f : Field), fs[j]? = some f → ∃ (v : Value), w.cell? (x.add (i * fs.size + j)) = some v ∧ Q v f.type n)
  (hel : ∀ (n : Nat) (cell : Nat → Option Value), (∀ (j : Nat) (f : Field), fs[j]? = some f → ∃ (v : Value), cell j = some v ∧ Q v f.type n) → ∃ y : α, ∀ c u, (encS y)[c]? = some u → cell c = some u) :
  ∃ l, Rd fs.size encS (· < w.heap.size) w (some x) len l := by
 obtain ⟨l, hll, hlp⟩ := list_of (p := fun i (y : α) => ∀ c u, (encS y)[c]? = some u → w.cell? (x.add (i * fs.size + c)) = some u) len (fun i hi' => by
  obtain ⟨n, hn⟩ := hi i (by omega)
  exact hel n (fun j => w.cell? (x.add (i * fs.size + j))) hn)
 refine ⟨l, hll, ?_⟩
 rcases Nat.eq_zero_or_pos len with h0 | h0
 ·exact .inl h0
 ·obtain ⟨n, hn⟩ := hi 0 (by omega)
  obtain ⟨v0, hv0, _⟩ := hn 0 (fs[0]) (by simp)
  have hv0 : w.cell? (x.add 0) = some v0 := by simpa using hv0
  have hx := addr_lit hv0
  refine .inr ⟨x.block, x.off, by rw [← hx], ?_, fun j y hj c u hu => ?_⟩
  ·have := World.block_lt_of_cell? w _ hv0
   rw [hx] at this
   simpa [Addr.add] using this
  ·have := hlp j y hj c u hu
   rw [hx, Addr.add_lit] at this
   simpa [Nat.add_assoc] using this
theorem rd_structs_b {α : Type} {k n0 M : Nat} {encS : α → List Value} {t e : TypeId} {fs : Array Field} {v : Value} {y0 : DataW H × List MemPlace} (ht : P.underlying t = some (.slice e)) (he : P.underlying e = some (.struct fs))
  (hone : oneCellFields P fs = true) (hC : P.cellsOf e = fs.size) (hk : fs.size = k) (hk0 : 0 < k) (hf : DataW.trod enc P w base spare held n0 t [v] = some y0) (hM : Rows.uptoBulk y0.1 ≤ M)
  (hel : ∀ (n : Nat) (cell : Nat → Option Value), (∀ (j : Nat) (f : Field), fs[j]? = some f → ∃ (v : Value), cell j = some v ∧ ∃ y : DataW H × List MemPlace, DataW.trod enc P w base spare held n f.type [v] = some y ∧ Rows.uptoBulk y.1 ≤ M) → ∃ y : α, ∀ c u, (encS y)[c]? = some u → cell c = some u) :
  ∃ a n c l, v = .slice a n c ∧ Rd k encS (· < w.heap.size) w a n l ∧ n ≤ c ∧ c ≤ maxLen ∧ n ≤ M := by
 subst hk
 rcases open_slice_fields_b ht he hone hC hf with ⟨hcs, _⟩ | ⟨x, len, cap, m, hcs, hl, hm, hmm, hsl, hi⟩
 ·simp at hcs
  subst hcs
  exact ⟨none, 0, 0, [], rfl, Rd.nil _ _ _ _ _, by omega, by unfold maxLen; omega, Nat.zero_le _⟩
 ·simp at hcs
  subst hcs
  have hlm : len ≤ m := by rw [hmm]; split <;> omega
  obtain ⟨l, hr⟩ := rd_from (w := w) (encS := encS) (fs := fs) (x := x) (len := len) (m := m) hk0 hlm (Q := fun v t n => ∃ y : DataW H × List MemPlace, DataW.trod enc P w base spare held n t [v] = some y ∧ Rows.uptoBulk y.1 ≤ M)
   (fun i him => by
    obtain ⟨n, hn⟩ := hi i him
    exact ⟨n, fun j f hj => by
     obtain ⟨v, y, h1, h2, h3⟩ := hn j f hj
     exact ⟨v, h1, y, h2, Nat.le_trans h3 hM⟩⟩) hel
  exact ⟨_, len, cap, l, rfl, hr, hl, hm, Nat.le_trans hsl hM⟩
theorem rd_ints_b {n0 M : Nat} {t e : TypeId} {k : IntKind} {v : Value} {y0 : DataW H × List MemPlace} (ht : P.underlying t = some (.slice e)) (he : P.underlying e = some (.int k)) (hC : P.cellsOf e = 1)
  (hf : DataW.trod enc P w base spare held n0 t [v] = some y0) (hM : Rows.uptoBulk y0.1 ≤ M) :
  ∃ a n c l, v = .slice a n c ∧ Rd 1 (fun x : Int => [Value.int k x]) (· < w.heap.size) w a n l ∧ n ≤ c ∧ c ≤ maxLen ∧ n ≤ M ∧ ∀ x ∈ l, (Lit.int k x).wf = true := by
 have hb : ∀ a len cap, v = .slice (some a) len cap → len ≤ M := by
  rcases open_slice ht hf with ⟨hcs, _⟩ | ⟨a, len, cap, m, n, D, Pl, hcs, _, hl, hm, hmm, hx, _⟩
  ·intro a len cap hv
   subst hv
   simp at hcs
  ·intro a' len' cap' hv
   subst hv
   simp at hcs
   obtain ⟨rfl, rfl, rfl⟩ := hcs
   refine Nat.le_trans ?_ hM
   rw [hx]
   simp only [Rows.uptoBulk]
   have := bulk_len ((List.range len').map D)
   rw [List.length_map, List.length_range] at this
   omega
 rcases open_ints ht he hC hf with ⟨hcs, _⟩ | ⟨x, l, c, zs, hcs, _, hl, hm, hz, _, hcell, hwz⟩
 ·simp at hcs
  subst hcs
  exact ⟨none, 0, 0, [], rfl, Rd.nil _ _ _ _ _, by omega, by unfold maxLen; omega, Nat.zero_le _, by simp⟩
 ·simp at hcs
  subst hcs
  have hz' : l ≤ zs.length := by rw [hz]; split <;> omega
  refine ⟨_, l, c, zs.take l, rfl, ⟨by simp; omega, ?_⟩, hl, hm, hb _ _ _ rfl, fun y hy => hwz y (List.mem_of_mem_take hy)⟩
  rcases Nat.eq_zero_or_pos l with h0 | h0
  ·exact .inl h0
  ·have hx := addr_lit (hcell 0 (by omega))
   refine .inr ⟨x.block, x.off, by rw [← hx], ?_, fun j y hj d u hu => ?_⟩
   ·have := World.block_lt_of_cell? w _ (hcell 0 (by omega))
    rw [hx] at this
    simpa [Addr.add] using this
   ·have hj' : j < l := by
     have := (List.getElem?_eq_some_iff.1 hj).1
     simp at this; omega
    have hy : zs.getD j 0 = y := by
     rw [List.getElem?_take, if_pos hj'] at hj
     simp [List.getD, hj]
    have hc := hcell j (by omega)
    rw [hx, Addr.add_lit, hy] at hc
    rcases d with _ | d
    ·simp at hu; subst hu; simpa using hc
    ·simp at hu
end
end Go.Proofs.YtlgdjigocopglaaGreatDoor
