/- Shared texts. -/
import Derived.Laws.BytesString
import Derived.Lib.AppendStr
import Derived.Test.YtlgdjigocopglaaGreatDoorRqAll22
import Derived.Test.YtlgdjigocopglaaGreatDoorRqAB2
set_option linter.unusedSimpArgs false
set_option linter.unusedVariables false

namespace Go.Proofs.YtlgdjigocopglaaGreatDoor
open Go.RowKit
set_option maxRecDepth 100000 in
set_option maxHeartbeats 8000000 in
theorem links_r (a : Option Addr) (n c : Nat) (N : List Nd) (a2 : Option Addr) (n2 c2 : Nat) (P : List Pr) (hh : Int) (w : World) (h : Sl 3 encN w a n N) (hn : n ≤ 1000) (hw : ∀ x ∈ N, x.word < 4294967296) (h2 : PL w a2 n2 P) (hn2 : n2 ≤ 1000000) (hP : SmallP P) :
  Calls Tryz.prog 48 #[.slice a n c, .slice a2 n2 c2, .int .i64 hh] w (LsPost (linksB N P hh) w) := by
 have HL := lH h.len
 have HW := lH hw
 clear hw
 have NO : Hid (lvlN hh = false → LsPost (linksB N P hh) w (.returned (.slice none 0 0)) w) := lH (fun h => by
  rw [links_no h]
  exact ⟨_, [], rfl, OwnN.nil _ _ _ _ _ _ _ _, Ex.refl _⟩)
 go_enter Tryz.func48, Tryz.ntmps48
 go_wp2_with fail
 refine (level_r hh _).mono ?_
 rintro e wL ⟨rfl, hwL⟩
 subst hwL
 cases hlv : lvlN hh with
 | false =>
  have FI := lH (NO.out hlv)
  clear h h2 hP NO hlv
  go_wp2_with fail
  go_ret
  exact FI.out
 | true =>
 have hb : 0 ≤ hh ∧ hh ≤ 16 := by unfold lvlN at hlv; simpa using hlv
 obtain ⟨k, rfl⟩ := Int.eq_ofNat_of_zero_le hb.1
 have hk16 : k ≤ 16 := by omega
 have HR := lH (links_eq (N := N) (P := P) hk16)
 clear NO hlv hb
 go_wp2_with fail
 (with_reducible refine (normal_r _ _ _ N _ _ _ P _ h hn h2 hn2 hP).mono ?_)
 rintro e w3 ⟨v3, qs, rfl, OQ, kk⟩
 replace h := h.nx kk
 clear h2
 have K03 := lH kk
 obtain ⟨hQ1, hQ2⟩ := normal_le N P
 have HQS := lH (normal_small N hP)
 generalize normalN N P = Q at OQ hQ1 hQ2 HR HQS
 obtain ⟨aQ, cQ, rfl, PQ0, _, _, _, _⟩ := OQ.pl
 have HPQ := lH PQ0
 have hQn : Q.length ≤ n := by have := HL.out; omega
 have hz3 := kk.size
 have HS := lH h
 clear OQ PQ0 kk hQ1 hQ2 hP h
 go_wp2_with fail
 go_loopw [7, 9] (fun o i wr => LoRel N Q k w3 o i wr) (fun _ i _ => Q.length - (intOf i).toNat)
 case atStart => exact ⟨0, [], by omega, rfl, OwnN.nil _ _ _ _ _ _ _ _, Ex.refl _⟩
 case round =>
  obtain ⟨j, qz, hj, rfl, own, ki⟩ := hrel
  obtain ⟨wi, rfl⟩ : ∃ wi : World, wi = wr := ⟨_, rfl⟩
  by_cases hjm : j < Q.length
  ·obtain ⟨x5, o5, b1, m1, d1, b4, m4, d4, y, rfl, hx5, hy, e0, e1, e2, e3, e4, s1, s4⟩ := (HPQ.out.nx ki).rd hjm
   have ET : Hid ((Q.take (j + 1)).map (lrow N k) = (Q.take j).map (lrow N k) ++ [(y.id, (List.range (k + 1)).map fun (lev : Nat) => linkB N y lev)]) := lH (by rw [List.take_add_one, hy, List.map_append]; rfl)
   have hyP := HQS.out y (List.mem_of_getElem? hy)
   have hql : qz.length = j := by rw [own.2.1, List.length_map, List.length_take]; omega
   have hl4 : m4 ≤ 4000000000000000000 := by have := s4.len; omega
   have hwi := ki.size
   have S4y := lH s4
   have KI := lH ki
   have OWN := lH own
   have E0 := lH (fun wq (kq : Ex wi wq) => Chg.cellv kq e0 hx5)
   have E1 := lH (fun wq (kq : Ex wi wq) => Chg.cellv kq e1 hx5)
   have E2 := lH (fun wq (kq : Ex wi wq) => Chg.cellv kq e2 hx5)
   have E3 := lH (fun wq (kq : Ex wi wq) => Chg.cellv kq e3 hx5)
   have E4 := lH (fun wq (kq : Ex wi wq) => Chg.cellv kq e4 hx5)
   have hjc : (j : Int) < (Q.length : Int) := by omega
   clear hy own ki hyP s1 s4 hx5 e1 e2 e3 e4
   have B10 := Blk.new wi [.int .i64 y.id, .slice none 0 0] 106
   have kk := Ex.new wi (.cells #[.int .i64 y.id, .slice none 0 0] 106)
   obtain ⟨w8, hw8⟩ : ∃ w8, w8 = wi.alloc (.cells #[.int .i64 y.id, .slice none 0 0] 106) := ⟨_, rfl⟩
   obtain ⟨g10, hg10⟩ : ∃ g10, g10 = wi.heap.size := ⟨_, rfl⟩
   replace B10 : Blk w8 g10 [.int .i64 y.id, .slice none 0 0] 106 := by rw [hw8, hg10]; exact B10
   rw [← hw8] at kk
   have Hw8 := lH hw8
   have Hg10 := lH hg10
   have zgi : wi.heap.size ≤ g10 := by omega
   have K8 := lH kk
   clear kk hw8 hg10
   go_upto_region 9 with fail
   rw [← Hg10.out, ← Hw8.out]
   clear Hg10 Hw8
   clear e0
   have hgk := B10.lt
   go_wp2_with fail
   go_loopw [11] (fun i wr => LiRel N y k g10 w8 i wr) (fun i _ => k + 1 - (intOf i).toNat)
   case atStart => exact ⟨0, none, 0, 0, by omega, rfl, B10, OwnL.nil _ _ _ _ _, Exb.refl _ _⟩
   case round =>
    clear B10
    obtain ⟨lev, A, m, cc, hlev, rfl, BR, lrw, kv⟩ := hrel
    obtain ⟨wp, rfl⟩ : ∃ wp : World, wp = wr := ⟨_, rfl⟩
    have KV := lH (Exl.nxb (b := g10) (w := wi) ⟨K8.out, zgi⟩ kv).1
    by_cases hl2 : lev ≤ k
    ·have SP := lH (HS.out.nx (KI.out.nx KV.out))
     have SN4 := lH (S4y.out.nx KV.out)
     have KVV := lH kv
     have NSN : Hid (((List.range (lev + 1)).map fun (lev : Nat) => linkB N y lev) = ((List.range lev).map fun (lev : Nat) => linkB N y lev) ++ [linkB N y lev]) := lH (by rw [List.range_succ, List.map_append]; rfl)
     have hrl : ((List.range lev).map fun (lev : Nat) => linkB N y lev).length = lev := by simp
     generalize hyy : linkB N y lev = yy at NSN
     have HYY := lH hyy
     generalize ((List.range lev).map fun (lev : Nat) => linkB N y lev) = row at lrw NSN hrl
     have BPP := lH BR
     have NROW := lH lrw
     have zk := kv.size
     clear hyy lrw kv BR
     have hlk : (lev : Int) ≤ (k : Int) := by omega
     go_upto_region 12 with fail
     refine wp_region_late_drew (S := Ex wp) [10, 11, 12] (by kernel_rfl) ((Ex.refl wp).drew) (fun hHeld => ?_)
     obtain ⟨wd, hwdx⟩ : ∃ wd : World, wd = World.drew wp := ⟨_, rfl⟩
     rw [← hwdx] at hHeld ⊢
     have hDrew : Ex wp wd := by rw [hwdx]; exact (Ex.refl wp).drew
     clear hwdx
     refine tkL 0 (v := ?_) rfl (by kernel_rfl) (fun _ _ _ h => h) (by rfl) ?y1x0q5 (by assumption) ?z1x0q5
     case y1x0q5 => intro wq hSw; (go_simp); (try with_reducible rfl)
     refine tkL 1 (v := ?_) rfl (by kernel_rfl) (fun _ _ _ h => h) (by rfl) ?y1x1q8 (by assumption) ?z1x1q8
     case y1x1q8 => intro wq hSw; (have cq := (BPP.out.nx hSw).cell 1 _ rfl; go_simp); (try with_reducible rfl)
     refine tkL 2 (v := ?_) rfl (by kernel_rfl) (fun _ _ _ h => h) (by rfl) ?y1x2q11 (by assumption) ?z1x2q11
     case y1x2q11 => intro wq hSw; (go_simp); (try with_reducible rfl)
     refine tkL 3 (v := ?_) rfl (by kernel_rfl) (fun _ _ _ h => h) (by rfl) ?y1x3q14 (by assumption) ?z1x3q14
     case y1x3q14 => intro wq hSw; (go_simp); (try with_reducible rfl)
     refine tkL 4 (v := ?_) rfl (by kernel_rfl) (fun _ _ _ h => h) (by rfl) ?y1x4q17 (by assumption) ?z1x4q17
     case y1x4q17 => intro wq hSw; (go_simp); (try with_reducible rfl)
     refine tkL 5 (v := ?_) rfl (by kernel_rfl) (fun _ _ _ h => h) (by rfl) ?y1x5q20 (by assumption) ?z1x5q20
     case y1x5q20 => intro wq hSw; (go_simp); (try with_reducible rfl)
     refine tkL 6 (v := ?_) rfl (by kernel_rfl) (fun _ _ _ h => h) (by rfl) ?y1x6q23 (by assumption) ?z1x6q23
     case y1x6q23 => intro wq hSw; (have c0 := E0.out _ (KV.out.nx hSw); have c1 := E1.out _ (KV.out.nx hSw); have c2 := E2.out _ (KV.out.nx hSw); have c3 := E3.out _ (KV.out.nx hSw); have c4 := E4.out _ (KV.out.nx hSw); go_simp); (try with_reducible rfl)
     refine tkL 7 (v := ?_) rfl (by kernel_rfl) (fun _ _ _ h => h) (by rfl) ?y1x7q26 (by assumption) ?z1x7q26
     case y1x7q26 => intro wq hSw; (go_simp); (try with_reducible rfl)
     refine wpAnyL_ready (rs := [8]) (by kernel_rfl) (by simp) ?_
     refine AllReadyL.cons (o := ⟨_, _, _, _, _, _⟩) rfl (fun K hK => ?_) AllReadyL.nil
     go_simp
     (with_reducible refine (link_r _ _ _ N y _ _ _ _ _ _ (lev : Int) _ (SP.out.nx hHeld) hn HW.out (SN4.out.nx hHeld) hl4).mono ?_)
     rintro e wq ⟨rfl, kk⟩
     rw [HYY.out]
     replace hHeld := hHeld.nx kk
     clear kk
     refine hK.out _ _ (hHeld) (fun hHeld => ?_)
     clear hK K
     refine wpAnyL_ready (rs := [9]) (by kernel_rfl) (by simp) ?_
     refine AllReadyL.cons (o := ⟨_, _, _, _, _, _⟩) rfl (fun K hK => ?_) AllReadyL.nil
     go_simp
     obtain ⟨g8, wq2, hg8, hwq2, SX, kk⟩ := litLk hHeld yy
     rw [← hg8, ← hwq2]
     replace hHeld := hHeld.nx kk
     clear hg8 hwq2 kk
     refine hK.out _ _ (hHeld) (fun hHeld => ?_)
     clear hK K
     refine wpAnyL_ready (rs := [10]) (by kernel_rfl) (by simp) ?_
     refine AllReadyL.consL (o := ⟨_, _, _, _, _, _⟩) rfl (by rfl) (fun K hK => ?_) AllReadyL.nil
     rw [if_pos (by rfl)]
     have own4 := NROW.out.nx hHeld
     refine wp_append_rd (enc := encS) _ (.tmp 36) (.tmp 44) 104 rfl w8.heap.size 69 (.agg #[.int .i64 0, .int .i64 0]) 2 16 Tryz.underlying104 Tryz.infoLk rfl (by omega) (by omega) _ row own4 rfl _ _ 1 1 [yy] SX (fun h => by cases h) (fun _ => rfl) (by simp [encS, Value.oneCell']) rfl (by omega) (by omega) (Nat.le_trans zk hHeld.size) ?_
     intro v9 wz own9 ch0 ch1
     obtain ⟨A9, C9, e9, _⟩ := own9.rd (fun _ => rfl)
     rw [show (row ++ [yy]).length = lev + 1 by rw [List.length_append, hrl]; rfl] at e9
     subst e9
     have BZ := (BPP.out.nx hHeld).low hgk ch1
     have KQ : Exb g10 w8 wz := KVV.out.nxb' (hHeld.b g10) ch1
     refine hK.out _ _ ?_
     clear hK K
     refine wpAnyL_ready (rs := [11]) (by kernel_rfl) (by simp) ?_
     refine AllReadyL.consL (o := ⟨_, _, _, _, _, _⟩) rfl (by rfl) (fun K hK => ?_) AllReadyL.nil
     go_simp
     refine hK.out _ _ ?_
     clear hK K
     refine wpAnyL_ready (rs := [12]) (by kernel_rfl) (by simp) ?_
     refine AllReadyL.consL (o := ⟨_, _, _, _, _, _⟩) rfl (by rfl) (fun K hK => ?_) AllReadyL.nil
     have c4 := BZ.cell 1 _ rfl
     have f4 := BZ.free 1
     go_simp
     clear c4 f4
     refine hK.out _ _ ?_
     clear hK K
     refine wpAnyL_done (by kernel_rfl) ?_ _
     have BY := BZ.set 1 (.slice A9 (lev + 1) C9)
     have K9 : Exb g10 w8 (wz.setCell ⟨g10, 1, none⟩ (.slice A9 (lev + 1) C9)) := KQ.setB (p := ⟨g10, 1, none⟩) _ rfl
     have own8 := lH (own9.put BZ (by decide) ((Exb.refl g10 wz).setB (p := ⟨g10, 1, none⟩) (.slice A9 (lev + 1) C9) rfl))
     have RR := lH (show LiRel N y k g10 w8 (.int .i64 ((lev : Int) + 1)) (wz.setCell ⟨g10, 1, none⟩ (.slice A9 (lev + 1) C9)) from ⟨lev + 1, A9, _, C9, by omega, by go_num, BY, by rw [NSN.out]; exact own8.out, K9⟩)
     clear BY K9 own8 own9 BZ KQ ch0 ch1 hHeld own4 SX
     go_wp2_with fail
     exact ⟨RR.out, by simp [intOf]; omega⟩
    ·obtain rfl : lev = k + 1 := by omega
     have p0 := BR.cell 0 _ rfl
     have p1 := BR.cell 1 _ rfl
     obtain ⟨A, cc, e9, _⟩ := lrw.rd (fun _ => rfl)
     cases e9
     have OQ1 := OWN.out.nx KV.out
     have KW : Ex wi wp := KV.out
     have hzi : w3.heap.size ≤ w8.heap.size := by have := K8.out.size; omega
     have hzp : w3.heap.size ≤ wp.heap.size := Nat.le_trans hzi kv.size
     have hlk : ¬ (((k + 1 : Nat) : Int) ≤ (k : Int)) := by omega
     have FR : ∀ (j : Nat) (r : Int × Hdr) (g : Nat), qz[j]? = some r → r.2.val.ownBlock = some g → ¬ (Value.slice A ((List.range (k + 1)).map fun (lev : Nat) => linkB N y lev).length cc).ownBlock = some g := by
      intro j r g hr hg hv
      have h1 := OWN.out.lt hr hg
      have h2 := (lrw.lt g hv).1
      have h3 := K8.out.size
      omega
     generalize ((List.range (k + 1)).map fun (lev : Nat) => linkB N y lev) = row at lrw p1 FR ET
     have k8 := Ex.new wp (.cells #[.int .i64 y.id, .slice A row.length cc] 106)
     have SX : Sl 2 (encP encI) (wp.alloc (.cells #[.int .i64 y.id, .slice A row.length cc] 106)) (some ⟨wp.heap.size, 0, none⟩) 1 [((y.id, (A, row.length, cc)) : Int × Hdr)] := Sl.lit _ rfl rfl (fun _ => rfl) rfl
     have OQ2 := OQ1.nx k8
     have own2 := lrw.nx k8
     have ki8 := (KI.out.nx KW).nx k8
     clear BR kv hlev hl2 lrw
     go_wp2_with (at_builtin; (refine wpList_append_W (enc := encP encI) _ rfl _ _ 72 rfl w3.heap.size 106 (.agg #[.int .i64 0, .slice none 0 0]) 2 32 Tryz.underlying72 Tryz.infoLd rfl (by omega) (by omega) _ _ OQ2.1 rfl _ 1 1 [_] SX (fun _ => rfl) (by simp [encP, encI, Hdr.val, Value.oneCell']) rfl (by omega) (by omega) (by simp; omega) ?_); intro v7 w9 own7 ch0 ch1 _)
     have OQ7 := OQ2.push (by decide) own7 ch0 (own2.base (by omega)) FR
     exact ⟨⟨j + 1, qz ++ [((y.id, (A, row.length, cc)) : Int × Hdr)], by omega, by go_num, by rw [ET.out]; exact OQ7, Chg.trans ki8 ch1⟩, by simp [intOf]; omega⟩
  ·obtain rfl : j = Q.length := by omega
   rw [List.take_length] at own
   have OWN := lH (OwnN.base own hz3)
   have KI := lH (K03.out.nx ki)
   clear own ki hj hjm
   go_wp2_with fail
   go_ret
   exact ⟨_, qz, rfl, by rw [HR.out]; exact OWN.out, KI.out⟩
set_option maxHeartbeats 2000000 in
theorem bexact_r (a : Option Addr) (n c : Nat) (N : List Nd) (a2 : Option Addr) (n2 c2 : Nat) (P : List Pr) (hh : Int) (w : World) (h : Sl 3 encN w a n N) (hn : n ≤ 1000) (hw : ∀ x ∈ N, x.word < 4294967296) (h2 : PL w a2 n2 P) (hn2 : n2 ≤ 1000000) (hP : SmallP P) :
  Calls Tryz.prog 49 #[.slice a n c, .slice a2 n2 c2, .int .i64 hh] w fun e w' => e = .returned (.bool (exactB N P hh)) ∧ Ex w w' := by
 have HL := lH h.len
 have HW := lH hw
 have EX := Ex.refl w
 clear hw
 have HP := lH hP
 clear hP
 go_enter Tryz.func49, Tryz.ntmps49
 go_wp2_with fail
 (with_reducible refine (build_r _ _ _ N hh _ h hn HW.out).mono ?_)
 rintro e w1 ⟨v, qs, rfl, own, kk⟩
 replace h := h.nx kk
 replace h2 := h2.nx kk
 replace EX := EX.nx kk
 clear kk
 obtain ⟨aB, cB, rfl, LB⟩ := OwnLk.nl' own
 clear own
 have LB := lH LB
 by_cases he : (buildN N hh).2 = 0
 ·have E0 := lH (exactB_eq (P := P) he)
  have d1 : ((buildN N hh).2 == 0) = true := by rw [he]; rfl
  clear he
  have hll := links_len N P hh
  have hlr := lH (links_rows N P hh)
  go_wp2_with fail
  (with_reducible refine (links_r _ _ _ N _ _ _ P hh _ h hn HW.out h2 hn2 HP.out).mono ?_)
  rintro e w2 ⟨v, qs, rfl, own, kk⟩
  replace EX := EX.nx kk
  obtain ⟨aL, cL, rfl, LL⟩ := OwnLk.nl' own
  replace LB := lH (LB.out.nx kk)
  clear h h2 kk own
  have hl : (linksB N P hh).length ≤ 1000000 := by have := HL.out; omega
  go_wp2_with fail
  (with_reducible refine (samelk_r _ _ _ _ _ _ _ _ _ LL LB.out hl (fun c hc => Nat.le_trans (hlr.out c hc) (by omega))).mono ?_)
  rintro e w3 ⟨rfl, kk⟩
  rw [← E0.out]
  replace EX := lH (EX.nx kk)
  clear LL kk
  go_wp2_with fail
  go_ret
  exact ⟨rfl, EX.out⟩
 ·have E0 := lH (exactB_no (P := P) he)
  have d1 : ((buildN N hh).2 == 0) = false := by simpa using he
  have EX := lH EX
  clear he h h2
  go_wp2_with fail
  go_ret
  exact ⟨by rw [E0.out]; rfl, EX.out⟩
end Go.Proofs.YtlgdjigocopglaaGreatDoor
namespace Go.Proofs.YtlgdjigocopglaaGreatDoor
open Go.ChangeShapes Go.WideShapes Go.ChangeAt Go.RowKit Go.Deep Go.Joins
section
variable {H : Type} {enc : TypeId × Value → H} {P : Program} {w : World} {base : Nat} {spare : Nat → Bool} {held : Bool}
theorem open_slice_fields {t e : TypeId} {fs : Array Field} {fuel : Nat} {cs : List Value} {x : DataW H × List MemPlace} (ht : P.underlying t = some (.slice e)) (he : P.underlying e = some (.struct fs))
  (hone : oneCellFields P fs = true) (hC : P.cellsOf e = fs.size) (h : DataW.trod enc P w base spare held fuel t cs = some x) :
  (cs = [.slice none 0 0] ∧ x = (.nil, [])) ∨
  ∃ (a : Addr) (len cap m : Nat), cs = [.slice (some a) len cap] ∧ len ≤ cap ∧ cap ≤ maxLen ∧ m = (if spare a.block then cap else len) ∧
   ∀ i, i < m → ∃ (n : Nat), ∀ (j : Nat) (f : Field), fs[j]? = some f → ∃ (v : Value) (y : DataW H × List MemPlace), w.cell? (a.add (i * fs.size + j)) = some v ∧ DataW.trod enc P w base spare held n f.type [v] = some y := by
 rcases open_slice ht h with h0 | ⟨a, len, cap, m, n, D, Pl, hcs, hb, hl, hm, hmm, hx, hi⟩
 ·exact .inl h0
 ·refine .inr ⟨a, len, cap, m, hcs, hl, hm, hmm, fun i him => ?_⟩
  obtain ⟨cs', hc, ht'⟩ := hi i him
  rw [hC] at hc
  obtain ⟨ys, n', hn', hy, hlen, hyl, hf⟩ := DataW.trod_struct he ht'
  obtain ⟨_, hcl, hat⟩ := World.cells?_some hc
  refine ⟨n', fun j f hj => ?_⟩
  obtain ⟨ho, hk⟩ := hone_of hone j f hj
  have hjl : j < fs.size := (Array.getElem?_eq_some_iff.1 hj).1
  have hcell := hat j hjl
  have hv : cs'[j]? = some (cs'[j]'(by omega)) := List.getElem?_eq_getElem (by omega)
  have h1 := hf j f hj
  rw [ho, hk] at h1
  have hone' : (cs'.drop j).take 1 = [cs'[j]'(by omega)] := by
   rw [List.drop_eq_getElem_cons (by omega)]
   rfl
  rw [hone'] at h1
  have hys : ys[j]? = some (ys[j]'(by omega)) := List.getElem?_eq_getElem (by omega)
  refine ⟨_, _, ?_, h1.trans hys⟩
  rw [← Go.Deep.add_add, hcell, hv]
theorem list_of {α : Type} {p : Nat → α → Prop} : ∀ n, (∀ i, i < n → ∃ y, p i y) → ∃ l : List α, l.length = n ∧ ∀ (i : Nat) y, l[i]? = some y → p i y
 | 0, _ => ⟨[], rfl, by simp⟩
 | n + 1, h => by
  obtain ⟨l, hl, hp⟩ := list_of n (fun i hi => h i (by omega))
  obtain ⟨y, hy⟩ := h n (by omega)
  refine ⟨l ++ [y], by simp [hl], fun i z hz => ?_⟩
  rcases Nat.lt_or_ge i n with hi | hi
  ·exact hp i z (by rwa [List.getElem?_append_left (by omega)] at hz)
  ·rw [List.getElem?_append_right (by omega)] at hz
   have : i = n := by
    rcases Nat.eq_zero_or_pos (i - l.length) with h0 | h0
    ·omega
    ·rw [List.getElem?_eq_none (by simp; omega)] at hz; cases hz
   subst this
   simp [hl] at hz
   subst hz; exact hy
theorem rd_structs {α : Type} {k : Nat} {encS : α → List Value} {t e : TypeId} {fs : Array Field} {v : Value} {d : DataW H} {p : List MemPlace} {r : Reach} {b0 : Nat} (ht : P.underlying t = some (.slice e)) (he : P.underlying e = some (.struct fs))
  (hone : oneCellFields P fs = true) (hC : P.cellsOf e = fs.size) (hk : fs.size = k) (hk0 : 0 < k)
  (hv : Value.okWide P w r b0 t v) (h : DataW.Trod enc P w base spare held t v d p)
  (hel : ∀ (n : Nat) (cell : Nat → Option Value), (∀ (j : Nat) (f : Field), fs[j]? = some f → ∃ (v : Value) (y : DataW H × List MemPlace), cell j = some v ∧ DataW.trod enc P w base spare held n f.type [v] = some y) → ∃ y : α, ∀ c u, (encS y)[c]? = some u → cell c = some u) :
  ∃ a n c l, v = .slice a n c ∧ Rd k encS (· < w.heap.size) w a n l ∧ n ≤ c ∧ c ≤ maxLen ∧ (a = none → c = 0) := by
 subst hk
 obtain ⟨a0, len0, cap0, rfl⟩ := okWide_slice ht hv
 obtain ⟨fuel, hf⟩ := h
 rcases open_slice_fields ht he hone hC hf with ⟨hcs, _⟩ | ⟨x, len, cap, m, hcs, hl, hm, hmm, hi⟩
 ·simp [Value.cells] at hcs
  obtain ⟨rfl, rfl, rfl⟩ := hcs
  exact ⟨none, 0, 0, [], rfl, Rd.nil _ _ _ _ _, by omega, by unfold maxLen; omega, fun _ => rfl⟩
 ·simp [Value.cells] at hcs
  obtain ⟨rfl, rfl, rfl⟩ := hcs
  have hlm : len0 ≤ m := by rw [hmm]; split <;> omega
  obtain ⟨l, hll, hlp⟩ := list_of (p := fun i (y : α) => ∀ c u, (encS y)[c]? = some u → w.cell? (x.add (i * fs.size + c)) = some u) len0 (fun i hi' => by
   obtain ⟨n, hn⟩ := hi i (by omega)
   exact hel n (fun j => w.cell? (x.add (i * fs.size + j))) hn)
  refine ⟨_, len0, cap0, l, rfl, ⟨hll, ?_⟩, hl, hm, fun h => by cases h⟩
  rcases Nat.eq_zero_or_pos len0 with h0 | h0
  ·exact .inl h0
  ·obtain ⟨n, hn⟩ := hi 0 (by omega)
   obtain ⟨v0, _, hv0, _⟩ := hn 0 (fs[0]) (by simp)
   have hv0 : w.cell? (x.add 0) = some v0 := by simpa using hv0
   have hx := addr_lit hv0
   refine .inr ⟨x.block, x.off, by rw [← hx], ?_, fun j y hj c u hu => ?_⟩
   ·have := World.block_lt_of_cell? w _ hv0
    rw [hx] at this
    simpa [Addr.add] using this
   ·have := hlp j y hj c u hu
    rw [hx, Addr.add_lit] at this
    simpa [Nat.add_assoc] using this
end
abbrev Nd32 := { y : Nd // y.word < 4294967296 }
def encN32 (y : Nd32) : List Value := encN y.1
theorem nodes_of {S : Nat → Prop} {w : World} {a : Option Addr} {n : Nat} {l : List Nd32} (h : Rd 3 encN32 S w a n l) : ∃ lb : List Nd, Rd 3 encN S w a n lb ∧ ∀ x ∈ lb, x.word < 4294967296 := by
 refine ⟨l.map Subtype.val, ⟨by rw [List.length_map]; exact h.1, ?_⟩, ?_⟩
 ·rcases h.2 with h2 | ⟨x, o, e1, e2, e3⟩
  ·exact .inl h2
  ·refine .inr ⟨x, o, e1, e2, fun j y hj c u hu => ?_⟩
   rw [List.getElem?_map] at hj
   cases hl : l[j]? with
   | none => rw [hl] at hj; cases hj
   | some z =>
    rw [hl] at hj
    simp only [Option.map_some, Option.some.injEq] at hj
    subst hj
    exact e3 j z hl c u hu
 ·intro x hx
  obtain ⟨y, _, rfl⟩ := List.mem_map.1 hx
  exact y.2
def encB (x : UInt8) : List Value := [.int .u8 x.toNat]
end Go.Proofs.YtlgdjigocopglaaGreatDoor
namespace Go.Proofs.YtlgdjigocopglaaGreatDoor
open Go.ChangeShapes Go.WideShapes Go.ChangeAt Go.RowKit Go.Deep Go.Joins
def PrIn (w : World) (p : Pr → Prop) := { q : PQ × Pr // PrV w q.1 q.2 ∧ p q.2 }
def encPrIn (w : World) (p : Pr → Prop) (q : PrIn w p) : List Value := encQ q.1.1
theorem peers_of {w : World} {p : Pr → Prop} {a : Option Addr} {n : Nat} {l : List (PrIn w p)} (h : Rd 5 (encPrIn w p) (· < w.heap.size) w a n l) : ∃ P : List Pr, PL w a n P ∧ ∀ x ∈ P, p x := by
 refine ⟨l.map (fun q => q.1.2), ⟨l.map (fun q => q.1.1), ⟨by rw [List.length_map]; exact h.1, ?_⟩, by rw [List.length_map]; exact h.1, fun j q x hq hx => ?_⟩, fun c hc => ?_⟩
 ·rcases h.2 with h2 | ⟨x, o, e1, e2, e3⟩
  ·exact .inl h2
  ·refine .inr ⟨x, o, e1, e2, fun j y hj c u hu => ?_⟩
   rw [List.getElem?_map] at hj
   cases hl : l[j]? with
   | none => rw [hl] at hj; cases hj
   | some z =>
    rw [hl] at hj
    simp only [Option.map_some, Option.some.injEq] at hj
    subst hj
    exact e3 j z hl c u hu
 ·rw [List.getElem?_map] at hq hx
  cases hl : l[j]? with
  | none => rw [hl] at hq; cases hq
  | some z =>
   rw [hl] at hq hx
   simp only [Option.map_some, Option.some.injEq] at hq hx
   subst hq hx
   exact z.2.1
 ·obtain ⟨z, _, rfl⟩ := List.mem_map.1 hc
  exact z.2.2
end Go.Proofs.YtlgdjigocopglaaGreatDoor
