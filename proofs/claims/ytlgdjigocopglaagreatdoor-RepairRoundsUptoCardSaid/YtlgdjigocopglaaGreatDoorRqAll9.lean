/- Shared texts. -/
import Derived.Test.YtlgdjigocopglaaGreatDoorRqAll3
import Derived.Test.YtlgdjigocopglaaGreatDoorRqAll7
set_option linter.unusedSimpArgs false
set_option linter.unusedVariables false

namespace Go.Proofs.YtlgdjigocopglaaGreatDoor
open Go.RowKit
theorem same_pE (a b : Nat) (h : Int) (w : World) (ha : a < 4294967296) (hb : b < 4294967296) (hT : TabG w) :
  Calls Tryz.prog 133 #[.int .u32 a, .int .u32 b, .int .i64 h] w fun e w' => e = .returned (.bool (sameN a b h)) ∧ Ex w w' :=
 (same_p a b h w ha hb hT).mono fun _ _ h => ⟨h.1, by rw [← h.2]; exact Ex.refl _⟩
theorem TabG.nx {w w' : World} (h : TabG w) (k : Ex w w') : TabG w' := h.chg k h.lt
set_option maxHeartbeats 1000000 in
theorem cls1_p (a : Option Addr) (n cp gx gh : Nat) (c : List Nd) (id : Int) (key : ByteArray) (v : Nat) (h : Int) (w : World) (hr : Sl 3 encN w a n c) (hc : 0 < n) (hn : n ≤ 1000000) (hcw : ∀ y ∈ c, y.word < 4294967296) (hv : v < 4294967296)
  (hx : Blk w gx [.int .i64 id, .string key, .int .u32 v] 56) (hh : Blk w gh [.int .i64 h] 3) (hT : TabG w) :
  Calls Tryz.prog 155 #[.slice a n cp, .pointer (some ⟨gx, 0, none⟩), .pointer (some ⟨gh, 0, none⟩)] w fun e w' => e = .returned (.bool (sameN (headW c) v h)) ∧ Ex w w' := by
 obtain ⟨x1, o1, y, rfl, hx1, hy, hc1⟩ := hr.at hc
 have e2 : w.cell? ⟨x1, o1 + 2, none⟩ = some (.int .u32 y.word) := by simpa using hc1 2 _ rfl
 have f2 := hx.cell 2 _ rfl
 have f0 := hh.cell 0 _ rfl
 have lx := hx.lt
 have lh := hh.lt
 have hyw := hcw y (List.mem_of_getElem? hy)
 have hW : headW c = y.word := by
  cases c with
  | nil => simp at hy
  | cons z r => simp at hy; subst hy; rfl
 have HT := lH hT
 rw [hW]
 clear hW hc1 hy hr hcw hx hh hT
 go_enter Tryz.func155, Tryz.ntmps155
 go_wp2_with fail
 refine wp_region_held_drew (S := Ex w.drew) (by kernel_rfl) (Ex.refl _) (fun hHeld => ?_)
 refine tkH 0 (v := ?_) rfl (by kernel_rfl) (fun _ _ _ h => h) (by rfl) ?hyr1x0 (by assumption) ?restr1x0
 case hyr1x0 => intro wq hSw; (go_simp); (try with_reducible rfl)
 refine tkH 1 (v := ?_) rfl (by kernel_rfl) (fun _ _ _ h => h) (by rfl) ?hyr1x1 (by assumption) ?restr1x1
 case hyr1x1 => intro wq hSw; (go_simp); (try with_reducible rfl)
 refine tkH 2 (v := ?_) rfl (by kernel_rfl) (fun _ _ _ h => h) (by rfl) ?hyr1x2 (by assumption) ?restr1x2
 case hyr1x2 => intro wq hSw; (go_simp); (try with_reducible rfl)
 refine tkH 3 (v := ?_) rfl (by kernel_rfl) (fun _ _ _ h => h) (by rfl) ?hyr1x3 (by assumption) ?restr1x3
 case hyr1x3 => intro wq hSw; (have cq := Chg.cellv hSw e2 hx1; go_simp); (try with_reducible rfl)
 refine tkH 4 (v := ?_) rfl (by kernel_rfl) (fun _ _ _ h => h) (by rfl) ?hyr1x4 (by assumption) ?restr1x4
 case hyr1x4 => intro wq hSw; (go_simp); (try with_reducible rfl)
 refine tkH 5 (v := ?_) rfl (by kernel_rfl) (fun _ _ _ h => h) (by rfl) ?hyr1x5 (by assumption) ?restr1x5
 case hyr1x5 => intro wq hSw; (have cq := Chg.cellv hSw f2 lx; go_simp); (try with_reducible rfl)
 refine tkH 6 (v := ?_) rfl (by kernel_rfl) (fun _ _ _ h => h) (by rfl) ?hyr1x6 (by assumption) ?restr1x6
 case hyr1x6 => intro wq hSw; (have cq := Chg.cellv hSw f0 lh; go_simp); (try with_reducible rfl)
 refine wpAnyH_ready (rs := [7]) (by kernel_rfl) (by simp) ?_
 refine AllReadyH.cons (o := ⟨_, _, _, _, _, _⟩) rfl (fun K hK => ?_) AllReadyH.nil
 go_simp
 (with_reducible refine (same_pE _ _ _ _ hyw hv (HT.out.nx (Ex.refl w).drew)).mono ?_)
 rintro e v1 ⟨rfl, kk⟩
 refine hK.out _ _ kk (fun _ => ?_)
 clear hK K
 refine wpAnyH_switch (S' := Ex v1) (fun _ hSw => Ex.nx kk hSw) ?_
 clear hHeld
 have hHeld := Ex.refl v1
 refine tkH 8 (v := ?_) rfl (by kernel_rfl) (fun _ _ _ h => h) (by rfl) ?hyr1x8 (by assumption) ?restr1x8
 case hyr1x8 => intro wq hSw; (go_simp); (try with_reducible rfl)
 refine wpAnyH_done (by kernel_rfl) ?_ _
 go_wp2_with fail
 go_ret
 exact ⟨rfl, (Ex.refl w).drew.nx kk⟩
set_option maxHeartbeats 1000000 in
theorem idx_p (a : Option Addr) (n cp gx gh : Nat) (C : List (List Nd)) (id : Int) (key : ByteArray) (v : Nat) (h : Int) (w : World) (hr : LL w a n C) (hn : n ≤ 1000000) (hC : GoodC C) (hv : v < 4294967296)
  (hx : Blk w gx [.int .i64 id, .string key, .int .u32 v] 56) (hh : Blk w gh [.int .i64 h] 3) (hT : TabG w) :
  Calls Tryz.prog 154 #[.slice a n cp, .func (.func 155) #[] #[.pointer (some ⟨gx, 0, none⟩), .pointer (some ⟨gh, 0, none⟩)]] w
   fun e w' => e = .returned (.int .i64 (idxV C v h)) ∧ Ex w w' := by
 have HL := lH hr.len
 have HC := lH hC
 have HT := lH hT
 have HX := lH hx
 have HH := lH hh
 clear hC hT hx hh
 go_enter Tryz.func154, Tryz.ntmps154
 go_wp2_with fail
 go_loopw [8] (fun i wr => IdxRel n C v h w i wr) (fun i _ => n - (intOf i).toNat)
 case atStart => exact ⟨0, by omega, rfl, Ex.refl _, by intro _ _ h; omega⟩
 case round =>
  obtain ⟨k, hk, rfl, kw, hno⟩ := hrel
  have HNO := lH hno
  clear hno
  obtain ⟨wo, rfl⟩ : ∃ wo : World, wo = wr := ⟨_, rfl⟩
  by_cases hlt : k < n
  ·obtain ⟨x1, o1, b1, m1, d1, c, rfl, hx1, hy, hc1, r1⟩ := (hr.nx kw).at hlt
   obtain ⟨p1, p2, p3⟩ := HC.out c (List.mem_of_getElem? hy)
   rw [r1.len] at p1 p2
   have HY := lH hy
   have P3 := lH p3
   clear hy hr hx1 p3
   go_wp2_with fail
   (with_reducible refine (cls1_p _ _ _ _ _ _ _ _ _ _ _ r1 p1 p2 P3.out hv (HX.out.nx kw) (HH.out.nx kw) (HT.out.nx kw)).mono ?_)
   rintro e w2 ⟨rfl, kk⟩
   replace kw := kw.nx kk
   clear kk hc1 r1
   cases hs : sameN (headW c) v h with
   | true =>
    have HI : Hid (idxV C v h = k) := lH (by unfold idxV; rw [idxC_of HY.out hs HNO.out, if_pos (by rw [HL.out]; exact hlt)])
    clear hs
    go_wp2_with fail
    go_ret
    exact ⟨by rw [HI.out]; rfl, kw⟩
   | false =>
    have HS := lH hs
    clear hs
    go_wp2_with fail
    refine ⟨⟨k + 1, by omega, by go_num, kw, fun j c' hj hc' => ?_⟩, by simp [intOf]; omega⟩
    rcases Nat.lt_or_ge j k with h | h
    ·exact HNO.out j c' h hc'
    ·obtain rfl : j = k := by omega
     rw [Option.some.inj (hc'.symm.trans HY.out)]
     exact HS.out
  ·obtain rfl : k = n := by omega
   have HI : Hid (idxV C v h = -1) := lH (by unfold idxV; rw [idxC_none (fun j c hj hc => HNO.out j c (by rw [← HL.out]; exact hj) hc), if_neg (by omega)])
   clear hr hk hlt
   go_wp2_with fail
   go_ret
   exact ⟨by rw [HI.out]; rfl, kw⟩
set_option maxRecDepth 100000 in
set_option maxHeartbeats 4000000 in
theorem classes_p (a : Option Addr) (n cp : Nat) (l : List Nd) (h : Int) (w : World) (hs : Sl 3 encN w a n l) (hn : n ≤ 1000) (hw : ∀ x ∈ l, x.word < 4294967296) (hT : TabG w) :
  Calls Tryz.prog 134 #[.slice a n cp, .int .i64 h] w (ClPost (classesN l h) w) := by
 have HL := lH hs.len
 have hs := lH hs
 have HW := lH hw
 have HT := lH hT
 have k1 := Ex.new w (.cells #[.int .i64 h] 3)
 have BH := Blk.new w [.int .i64 h] 3
 obtain ⟨w1, hw1⟩ : ∃ w1, w1 = w.alloc (.cells #[.int .i64 h] 3) := ⟨_, rfl⟩
 obtain ⟨gh, hgh⟩ : ∃ gh, gh = w.heap.size := ⟨_, rfl⟩
 have BH : Blk w1 gh [.int .i64 h] 3 := by rw [hw1, hgh]; exact BH
 rw [← hw1] at k1
 have HW1 := lH hw1
 have HGH := lH hgh
 have HK1 := lH k1
 have c0 := BH.cell 0 _ rfl
 clear hw hT hw1 hgh k1
 go_enter Tryz.func134, Tryz.ntmps134
 go_upto_region 1 with fail
 rw [← HGH.out, ← HW1.out]
 by_cases h16 : 16 < h
 ·have HC : Hid (classesN l h = []) := lH (classesN_big h16)
  clear BH
  go_wp2_with fail
  go_ret
  exact ⟨none, 0, by rw [HC.out]; rfl, by rw [HC.out]; exact LL.nil _ _, HK1.out⟩
 have HF := lH (classesN_fold (l := l) h16)
 have BH := lH BH
 go_wp2_with fail
 go_loopw [5, 13] (fun o i wr => ClRel l h n w1 o i wr) (fun _ i _ => n - (intOf i).toNat)
 case atStart => exact ⟨0, [], by omega, rfl, OwnQ.nil _ _, Ex.refl _⟩
 case round =>
  obtain ⟨k, qs, hk, rfl, OQ, kx⟩ := hrel
  obtain ⟨wo, rfl⟩ : ∃ wo : World, wo = wr := ⟨_, rfl⟩
  by_cases hlt : k < n
  ·obtain ⟨x1, o1, y, rfl, hx1, hy, hc1⟩ := (hs.out.nx (HK1.out.nx kx)).at hlt
   have e0 : wo.cell? ⟨x1, o1 + k * 3, none⟩ = some (.int .i64 y.id) := hc1 0 _ rfl
   have e1 : wo.cell? ⟨x1, o1 + k * 3 + 1, none⟩ = some (.string y.key) := hc1 1 _ rfl
   have e2 : wo.cell? ⟨x1, o1 + k * 3 + 1 + 1, none⟩ = some (.int .u32 y.word) := by simpa [Nat.add_assoc] using hc1 2 _ rfl
   have e2' : wo.cell? ⟨x1, o1 + k * 3 + 2, none⟩ = some (.int .u32 y.word) := hc1 2 _ rfl
   have hyw := HW.out y (List.mem_of_getElem? hy)
   have FSn := lH (foldC_snoc h l k y hy)
   have hFL : (foldC h (l.take k)).length ≤ k := Nat.le_trans (foldC_length h (l.take k)) (by rw [List.length_take]; omega)
   have FF : Hid (Fine 100000 (fun y => y.word < 4294967296) (foldC h (l.take k))) := lH (fun c hc => by
    have := foldC_fine (h := h) (l.take k) (P := fun y => y.word < 4294967296) (fun y hy => HW.out y (List.mem_of_mem_take hy)) c hc
    exact ⟨this.1, Nat.le_trans this.2.1 (by rw [List.length_take]; omega), this.2.2⟩)
   generalize foldC h (l.take k) = C at OQ FSn hFL FF
   clear hc1 hy
   have B7 := Blk.new wo [.int .i64 y.id, .string y.key, .int .u32 y.word] 56
   have k2 := Ex.new wo (.cells #[.int .i64 y.id, .string y.key, .int .u32 y.word] 56)
   obtain ⟨w2, hw2⟩ : ∃ w2, w2 = wo.alloc (.cells #[.int .i64 y.id, .string y.key, .int .u32 y.word] 56) := ⟨_, rfl⟩
   obtain ⟨g7, hg7⟩ : ∃ g7, g7 = wo.heap.size := ⟨_, rfl⟩
   have B7 : Blk w2 g7 [.int .i64 y.id, .string y.key, .int .u32 y.word] 56 := by rw [hw2, hg7]; exact B7
   rw [← hw2] at k2
   have HW2 := lH hw2
   have HG7 := lH hg7
   replace OQ := OQ.nx k2
   replace kx := kx.nx k2
   obtain ⟨a3, cap3, rfl, ll3, hc3, _, _⟩ := OQ.ll
   clear hw2 hg7 k2 c0
   go_upto_region 7 with fail
   rw [← HG7.out, ← HW2.out]
   clear e0 e1 e2 e2'
   go_wp2_with fail
   have hGood : GoodC C := fun c hc => ⟨(FF.out c hc).1, Nat.le_trans (FF.out c hc).2.1 (by omega), (FF.out c hc).2.2⟩
   (with_reducible refine (idx_p _ _ _ _ _ _ _ _ _ _ _ ll3 (by omega) hGood hyw B7 (BH.out.nx kx) (HT.out.nx (HK1.out.nx kx))).mono ?_)
   rintro e w3 ⟨rfl, kk⟩
   replace OQ := OQ.nx kk
   replace kx := kx.nx kk
   replace B7 := lH (B7.nx kk)
   obtain ⟨KX, hKX⟩ : ∃ KX, KX = idxC C y.word h := ⟨_, rfl⟩
   have KI := lH hKX.symm
   have hKle : KX ≤ C.length := by rw [hKX]; exact idxC_le _ _ _
   clear kk ll3 hGood
   by_cases hKn : KX = C.length
   ·have IV : idxV C y.word h = -1 := by unfold idxV; rw [← hKX, if_neg (by omega)]
    rw [IV]
    have lq : qs.length ≤ 1000000 := by rw [OQ.2.1]; omega
    have zq := kx.size
    clear hKX IV
    go_upto_region 11 with (at_builtin; (refine wpList_append_lit (enc := encH) w3 rfl _ _ 156 rfl w1.heap.size 23 (.slice none 0 0) 1 24 Tryz.underlying156 Tryz.infoH rfl (by omega) (by omega) _ _ OQ.1 rfl ((none, 0, 0) : Hdr) _ rfl rfl (by simp [encH, Hdr.val, Value.oneCell']) _ (by simp) rfl lq (by omega) _ ?_); intro vp wp ownp ch0 ch1 _)
    have B7 := lH (B7.out.chg ch0 ⟨B7.out.lt, OQ.ne_blk B7.out⟩)
    have OQ := OQ.pad ownp ch0
    replace kx : Ex w1 wp := Chg.trans kx ch1
    obtain ⟨C', hC'⟩ : ∃ C' : List (List Nd), C' = C ++ [[]] := ⟨_, rfl⟩
    rw [← hC'] at OQ
    have CL : C'.length = C.length + 1 := by rw [hC']; simp
    have EC : Hid (C' = padC C KX) := lH (by unfold padC; rw [if_pos (by omega), hC'])
    have CLEN : Hid (∀ c ∈ C', c.length ≤ 1000000) := lH (fun c hc => by
     rw [hC'] at hc
     rcases List.mem_append.1 hc with h1 | h1
     ·exact Nat.le_trans (FF.out c h1).2.1 (by omega)
     ·rw [List.mem_singleton.1 h1]; simp)
    generalize (qs ++ [((none, 0, 0) : Hdr)]) = qs at OQ
    obtain ⟨wa, rfl⟩ : ∃ wa : World, wa = wp := ⟨_, rfl⟩
    have hKC : KX < C'.length := by omega
    have NL : Hid (C'.length ≤ 1000001) := lH (by omega)
    clear hC' CL ownp ch0 ch1
    rw [← hKn]
    clear hKn
    obtain ⟨a4, cap4, he4, ll4, _, _, some4⟩ := OQ.ll
    cases he4
    obtain ⟨g4, e4, hg4⟩ := some4 (by intro h0; rw [h0] at hKC; simp at hKC)
    first | subst e4 | (obtain rfl : g4 = g3 := by cases e4; rfl)
    obtain ⟨c, hc⟩ : ∃ c, C'[KX]? = some c := ⟨C'[KX]'hKC, by simp⟩
    obtain ⟨⟨qa, qn, qc⟩, hq⟩ : ∃ q : Hdr, qs[KX]? = some q := ⟨qs[KX]'(by rw [OQ.2.1]; exact hKC), by simp⟩
    have hcl : c.length ≤ 1000000 := CLEN.out c (List.mem_of_getElem? hc)
    obtain ⟨cy, hcy⟩ : ∃ cy : List Nd, cy = c ++ [y] := ⟨_, rfl⟩
    have FIN : Hid (stepC h C y = C'.set KX cy) := lH (by unfold stepC; rw [KI.out, ← EC.out, hc, hcy]; rfl)
    have HCY := lH hcy
    clear hcy
    have HQ := lH hq
    have HCC := lH hc
    have hn4 : (KX : Int) < (C'.length : Int) := by omega
    have hn5 : C'.length ≤ 1000001 := NL.out
    clear hc hq ll4 some4
    go_wp2_with fail
    have OQ := lH (OQ.nx (Ex.refl wa).drew)
    have kx := kx.nx (Ex.refl wa).drew
    have SXF : ∀ cur : World, Sl 3 encN (cur.alloc (.cells #[.int .i64 y.id, .string y.key, .int .u32 y.word] 56)) (some ⟨cur.heap.size, 0, none⟩) 1 [y] := fun cur => Sl.lit _ rfl rfl (fun _ => rfl) rfl
    refine wp_region_held_drew (S := fun _ => True) (by kernel_rfl) (trivial) (fun hHeld => ?_)
    refine tkH 0 (v := ?_) rfl (by kernel_rfl) (fun _ _ _ h => h) (by rfl) ?y1x0q1 (by assumption) ?z1x0q1
    case y1x0q1 => intro wq hSw; (go_simp); (try with_reducible rfl)
    refine tkH 1 (v := ?_) rfl (by kernel_rfl) (fun _ _ _ h => h) (by rfl) ?y1x1q4 (by assumption) ?z1x1q4
    case y1x1q4 => intro wq hSw; (go_simp); (try with_reducible rfl)
    refine tkH 2 (v := ?_) rfl (by kernel_rfl) (fun _ _ _ h => h) (by rfl) ?y1x2q7 (by assumption) ?z1x2q7
    case y1x2q7 => intro wq hSw; (go_simp); (try with_reducible rfl)
    refine tkH 3 (v := ?_) rfl (by kernel_rfl) (fun _ _ _ h => h) (by rfl) ?y1x3q10 (by assumption) ?z1x3q10
    case y1x3q10 => intro wq hSw; (go_simp); (try with_reducible rfl)
    refine tkH 4 (v := ?_) rfl (by kernel_rfl) (fun _ _ _ h => h) (by rfl) ?y1x4q13 (by assumption) ?z1x4q13
    case y1x4q13 => intro wq hSw; (go_simp); (try with_reducible rfl)
    refine wpAnyH_ready (rs := [5, 6]) (by kernel_rfl) (by simp) ?_
    refine AllReadyH.cons (o := ⟨_, _, _, _, _, _⟩) rfl (fun K hK => ?_) ?_
    ·have cc := (own_cellH OQ.out.1 HQ.out).1
     simp only [Hdr.val] at cc
     (try have cc2 : (wa.alloc (.cells #[.int .i64 y.id, .string y.key, .int .u32 y.word] 56)).cell? ⟨g4, KX, none⟩ = some (.slice qa qn qc) := cc)
     go_simp
     clear cc
     (try clear cc2)
     refine hK.out _ _ (trivial) (fun hHeld => ?_)
     clear hK K
     refine wpAnyH_ready (rs := [6]) (by kernel_rfl) (by simp) ?_
     refine AllReadyH.cons (o := ⟨_, _, _, _, _, _⟩) rfl (fun K hK => ?_) AllReadyH.nil
     have b0 := B7.out.cell 0 _ rfl
     have b1 := B7.out.cell 1 _ rfl
     have b2 := B7.out.cell 2 _ rfl
     go_simp
     clear b0 b1 b2
     refine hK.out _ _ (trivial) (fun hHeld => ?_)
     clear hK K
     refine wpAnyH_ready (rs := [7]) (by kernel_rfl) (by simp) ?_
     refine AllReadyH.cons (o := ⟨_, _, _, _, _, _⟩) rfl (fun K hK => ?_) AllReadyH.nil
     go_simp
     have SX := SXF wa.drew
     have e7 := Ex.new wa.drew (.cells #[.int .i64 y.id, .string y.key, .int .u32 y.word] 56)
     replace OQ := lH (OQ.out.nx e7)
     replace kx := kx.nx e7
     clear e7
     refine hK.out _ _ (trivial) (fun hHeld => ?_)
     clear hK K
     refine wpAnyH_ready (rs := [8]) (by kernel_rfl) (by simp) ?_
     refine AllReadyH.cons (o := ⟨_, _, _, _, _, _⟩) rfl (fun K hK => ?_) AllReadyH.nil
     rw [if_pos (by rfl)]
     have z0 := Ex.size kx
     have oi := OQ.out.2.2.1 KX _ _ HQ.out HCC.out
     refine wp_append_rda (enc := encN) _ (.tmp 32) (.tmp 34) 23 rfl w1.heap.size 56 (.agg #[.int .i64 0, .string ByteArray.empty, .int .u32 0]) 3 32 Tryz.underlying23 Tryz.infoN rfl (by omega) (by omega) _ c oi rfl _ _ 1 1 [y] SX (fun h => by cases h) (fun _ => rfl) (by simp [encN, Value.oneCell']) rfl (by omega) (by omega) z0 ?_
     intro v8 w8 own8 ch0 ch1 hat
     rw [← HCY.out] at own8
     obtain ⟨a8, cap8, rfl, _, _, _, _⟩ := own8.rd (fun _ => rfl)
     obtain ⟨pc, pf, OQ2⟩ := OwnQ.put (q' := (a8, cy.length, cap8)) OQ.out HQ.out own8 ch0 hat
     replace kx : Ex w1 w8 := Chg.trans kx ch1
     replace OQ := lH OQ2
     clear OQ2 own8 ch0 ch1 hat oi z0 SX
     refine hK.out _ _ (trivial) (fun hHeld => ?_)
     clear hK K
     refine tkH 9 (v := ?_) rfl (by kernel_rfl) (fun _ _ _ h => h) (by rfl) ?y1x9q64 (by assumption) ?z1x9q64
     case y1x9q64 => intro wq hSw; (go_simp); (try with_reducible rfl)
     refine wpAnyH_ready (rs := [10]) (by kernel_rfl) (by simp) ?_
     refine AllReadyH.cons (o := ⟨_, _, _, _, _, _⟩) rfl (fun K hK => ?_) AllReadyH.nil
     go_simp
     clear pc pf
     refine hK.out _ _ (trivial) (fun hHeld => ?_)
     clear hK K
     refine wpAnyH_done (by kernel_rfl) ?_ _
     replace kx := kx.setNew (p := ⟨g4, KX, none⟩) (Hdr.val (a8, cy.length, cap8)) hg4
     obtain ⟨wz, hwz⟩ : ∃ wz, wz = w8.setCell ⟨g4, KX, none⟩ (.slice a8 cy.length cap8) := ⟨_, rfl⟩
     have OQ := lH (OwnQ.cast OQ.out (w' := wz) hwz)
     have kx : Ex w1 wz := by rw [hwz]; exact kx
     rw [← hwz]
     clear hwz SXF hHeld hn5 hcl
     go_wp2_with fail
     exact ⟨⟨k + 1, _, by omega, by go_num, by rw [FSn.out, FIN.out]; exact OQ.out, kx⟩, by simp [intOf]; omega⟩
    refine AllReadyH.cons (o := ⟨_, _, _, _, _, _⟩) rfl (fun K hK => ?_) AllReadyH.nil
    ·have b0 := B7.out.cell 0 _ rfl
     have b1 := B7.out.cell 1 _ rfl
     have b2 := B7.out.cell 2 _ rfl
     go_simp
     clear b0 b1 b2
     refine hK.out _ _ (trivial) (fun hHeld => ?_)
     clear hK K
     refine wpAnyH_ready (rs := [5, 7]) (by kernel_rfl) (by simp) ?_
     refine AllReadyH.cons (o := ⟨_, _, _, _, _, _⟩) rfl (fun K hK => ?_) ?_
     ·have cc := (own_cellH OQ.out.1 HQ.out).1
      simp only [Hdr.val] at cc
      (try have cc2 : (wa.alloc (.cells #[.int .i64 y.id, .string y.key, .int .u32 y.word] 56)).cell? ⟨g4, KX, none⟩ = some (.slice qa qn qc) := cc)
      go_simp
      clear cc
      (try clear cc2)
      refine hK.out _ _ (trivial) (fun hHeld => ?_)
      clear hK K
      refine wpAnyH_ready (rs := [7]) (by kernel_rfl) (by simp) ?_
      refine AllReadyH.cons (o := ⟨_, _, _, _, _, _⟩) rfl (fun K hK => ?_) AllReadyH.nil
      go_simp
      have SX := SXF wa.drew
      have e7 := Ex.new wa.drew (.cells #[.int .i64 y.id, .string y.key, .int .u32 y.word] 56)
      replace OQ := lH (OQ.out.nx e7)
      replace kx := kx.nx e7
      clear e7
      refine hK.out _ _ (trivial) (fun hHeld => ?_)
      clear hK K
      refine wpAnyH_ready (rs := [8]) (by kernel_rfl) (by simp) ?_
      refine AllReadyH.cons (o := ⟨_, _, _, _, _, _⟩) rfl (fun K hK => ?_) AllReadyH.nil
      rw [if_pos (by rfl)]
      have z0 := Ex.size kx
      have oi := OQ.out.2.2.1 KX _ _ HQ.out HCC.out
      refine wp_append_rda (enc := encN) _ (.tmp 32) (.tmp 34) 23 rfl w1.heap.size 56 (.agg #[.int .i64 0, .string ByteArray.empty, .int .u32 0]) 3 32 Tryz.underlying23 Tryz.infoN rfl (by omega) (by omega) _ c oi rfl _ _ 1 1 [y] SX (fun h => by cases h) (fun _ => rfl) (by simp [encN, Value.oneCell']) rfl (by omega) (by omega) z0 ?_
      intro v8 w8 own8 ch0 ch1 hat
      rw [← HCY.out] at own8
      obtain ⟨a8, cap8, rfl, _, _, _, _⟩ := own8.rd (fun _ => rfl)
      obtain ⟨pc, pf, OQ2⟩ := OwnQ.put (q' := (a8, cy.length, cap8)) OQ.out HQ.out own8 ch0 hat
      replace kx : Ex w1 w8 := Chg.trans kx ch1
      replace OQ := lH OQ2
      clear OQ2 own8 ch0 ch1 hat oi z0 SX
      refine hK.out _ _ (trivial) (fun hHeld => ?_)
      clear hK K
      refine tkH 9 (v := ?_) rfl (by kernel_rfl) (fun _ _ _ h => h) (by rfl) ?y1x9q123 (by assumption) ?z1x9q123
      case y1x9q123 => intro wq hSw; (go_simp); (try with_reducible rfl)
      refine wpAnyH_ready (rs := [10]) (by kernel_rfl) (by simp) ?_
      refine AllReadyH.cons (o := ⟨_, _, _, _, _, _⟩) rfl (fun K hK => ?_) AllReadyH.nil
      go_simp
      clear pc pf
      refine hK.out _ _ (trivial) (fun hHeld => ?_)
      clear hK K
      refine wpAnyH_done (by kernel_rfl) ?_ _
      replace kx := kx.setNew (p := ⟨g4, KX, none⟩) (Hdr.val (a8, cy.length, cap8)) hg4
      obtain ⟨wz, hwz⟩ : ∃ wz, wz = w8.setCell ⟨g4, KX, none⟩ (.slice a8 cy.length cap8) := ⟨_, rfl⟩
      have OQ := lH (OwnQ.cast OQ.out (w' := wz) hwz)
      have kx : Ex w1 wz := by rw [hwz]; exact kx
      rw [← hwz]
      clear hwz SXF hHeld hn5 hcl
      go_wp2_with fail
      exact ⟨⟨k + 1, _, by omega, by go_num, by rw [FSn.out, FIN.out]; exact OQ.out, kx⟩, by simp [intOf]; omega⟩
     refine AllReadyH.cons (o := ⟨_, _, _, _, _, _⟩) rfl (fun K hK => ?_) AllReadyH.nil
     ·go_simp
      have SX := SXF wa.drew
      have e7 := Ex.new wa.drew (.cells #[.int .i64 y.id, .string y.key, .int .u32 y.word] 56)
      replace OQ := lH (OQ.out.nx e7)
      replace kx := kx.nx e7
      clear e7
      refine hK.out _ _ (trivial) (fun hHeld => ?_)
      clear hK K
      refine wpAnyH_ready (rs := [5]) (by kernel_rfl) (by simp) ?_
      refine AllReadyH.cons (o := ⟨_, _, _, _, _, _⟩) rfl (fun K hK => ?_) AllReadyH.nil
      have cc := (own_cellH OQ.out.1 HQ.out).1
      simp only [Hdr.val] at cc
      (try have cc2 : (wa.alloc (.cells #[.int .i64 y.id, .string y.key, .int .u32 y.word] 56)).cell? ⟨g4, KX, none⟩ = some (.slice qa qn qc) := cc)
      go_simp
      clear cc
      (try clear cc2)
      refine hK.out _ _ (trivial) (fun hHeld => ?_)
      clear hK K
      refine wpAnyH_ready (rs := [8]) (by kernel_rfl) (by simp) ?_
      refine AllReadyH.cons (o := ⟨_, _, _, _, _, _⟩) rfl (fun K hK => ?_) AllReadyH.nil
      rw [if_pos (by rfl)]
      have z0 := Ex.size kx
      have oi := OQ.out.2.2.1 KX _ _ HQ.out HCC.out
      refine wp_append_rda (enc := encN) _ (.tmp 32) (.tmp 34) 23 rfl w1.heap.size 56 (.agg #[.int .i64 0, .string ByteArray.empty, .int .u32 0]) 3 32 Tryz.underlying23 Tryz.infoN rfl (by omega) (by omega) _ c oi rfl _ _ 1 1 [y] SX (fun h => by cases h) (fun _ => rfl) (by simp [encN, Value.oneCell']) rfl (by omega) (by omega) z0 ?_
      intro v8 w8 own8 ch0 ch1 hat
      rw [← HCY.out] at own8
      obtain ⟨a8, cap8, rfl, _, _, _, _⟩ := own8.rd (fun _ => rfl)
      obtain ⟨pc, pf, OQ2⟩ := OwnQ.put (q' := (a8, cy.length, cap8)) OQ.out HQ.out own8 ch0 hat
      replace kx : Ex w1 w8 := Chg.trans kx ch1
      replace OQ := lH OQ2
      clear OQ2 own8 ch0 ch1 hat oi z0 SX
      refine hK.out _ _ (trivial) (fun hHeld => ?_)
      clear hK K
      refine tkH 9 (v := ?_) rfl (by kernel_rfl) (fun _ _ _ h => h) (by rfl) ?y1x9q172 (by assumption) ?z1x9q172
      case y1x9q172 => intro wq hSw; (go_simp); (try with_reducible rfl)
      refine wpAnyH_ready (rs := [10]) (by kernel_rfl) (by simp) ?_
      refine AllReadyH.cons (o := ⟨_, _, _, _, _, _⟩) rfl (fun K hK => ?_) AllReadyH.nil
      go_simp
      clear pc pf
      refine hK.out _ _ (trivial) (fun hHeld => ?_)
      clear hK K
      refine wpAnyH_done (by kernel_rfl) ?_ _
      replace kx := kx.setNew (p := ⟨g4, KX, none⟩) (Hdr.val (a8, cy.length, cap8)) hg4
      obtain ⟨wz, hwz⟩ : ∃ wz, wz = w8.setCell ⟨g4, KX, none⟩ (.slice a8 cy.length cap8) := ⟨_, rfl⟩
      have OQ := lH (OwnQ.cast OQ.out (w' := wz) hwz)
      have kx : Ex w1 wz := by rw [hwz]; exact kx
      rw [← hwz]
      clear hwz SXF hHeld hn5 hcl
      go_wp2_with fail
      exact ⟨⟨k + 1, _, by omega, by go_num, by rw [FSn.out, FIN.out]; exact OQ.out, kx⟩, by simp [intOf]; omega⟩
   ·have IV : idxV C y.word h = (KX : Int) := by unfold idxV; rw [← hKX, if_pos (by omega)]
    rw [IV]
    obtain ⟨wa, rfl⟩ : ∃ wa : World, wa = w3 := ⟨_, rfl⟩
    have k0 : (0 : Int) ≤ (KX : Int) := by omega
    clear hKX IV
    have EC : Hid (C = padC C KX) := lH (by unfold padC; rw [if_neg (by omega)])
    have CLEN : Hid (∀ c ∈ C, c.length ≤ 1000000) := lH (fun c hc => Nat.le_trans (FF.out c hc).2.1 (by omega))
    have hKC : KX < C.length := by omega
    have NL : Hid (C.length ≤ 1000001) := lH (by omega)
    obtain ⟨a4, cap4, he4, ll4, _, _, some4⟩ := OQ.ll
    cases he4
    obtain ⟨g4, e4, hg4⟩ := some4 (by intro h0; rw [h0] at hKC; simp at hKC)
    first | subst e4 | (obtain rfl : g4 = g3 := by cases e4; rfl)
    obtain ⟨c, hc⟩ : ∃ c, C[KX]? = some c := ⟨C[KX]'hKC, by simp⟩
    obtain ⟨⟨qa, qn, qc⟩, hq⟩ : ∃ q : Hdr, qs[KX]? = some q := ⟨qs[KX]'(by rw [OQ.2.1]; exact hKC), by simp⟩
    have hcl : c.length ≤ 1000000 := CLEN.out c (List.mem_of_getElem? hc)
    obtain ⟨cy, hcy⟩ : ∃ cy : List Nd, cy = c ++ [y] := ⟨_, rfl⟩
    have FIN : Hid (stepC h C y = C.set KX cy) := lH (by unfold stepC; rw [KI.out, ← EC.out, hc, hcy]; rfl)
    have HCY := lH hcy
    clear hcy
    have HQ := lH hq
    have HCC := lH hc
    have hn4 : (KX : Int) < (C.length : Int) := by omega
    have hn5 : C.length ≤ 1000001 := NL.out
    clear hc hq ll4 some4
    go_wp2_with fail
    have OQ := lH (OQ.nx (Ex.refl wa).drew)
    have kx := kx.nx (Ex.refl wa).drew
    have SXF : ∀ cur : World, Sl 3 encN (cur.alloc (.cells #[.int .i64 y.id, .string y.key, .int .u32 y.word] 56)) (some ⟨cur.heap.size, 0, none⟩) 1 [y] := fun cur => Sl.lit _ rfl rfl (fun _ => rfl) rfl
    refine wp_region_held_drew (S := fun _ => True) (by kernel_rfl) (trivial) (fun hHeld => ?_)
    refine tkH 0 (v := ?_) rfl (by kernel_rfl) (fun _ _ _ h => h) (by rfl) ?y2x0q1 (by assumption) ?z2x0q1
    case y2x0q1 => intro wq hSw; (go_simp); (try with_reducible rfl)
    refine tkH 1 (v := ?_) rfl (by kernel_rfl) (fun _ _ _ h => h) (by rfl) ?y2x1q4 (by assumption) ?z2x1q4
    case y2x1q4 => intro wq hSw; (go_simp); (try with_reducible rfl)
    refine tkH 2 (v := ?_) rfl (by kernel_rfl) (fun _ _ _ h => h) (by rfl) ?y2x2q7 (by assumption) ?z2x2q7
    case y2x2q7 => intro wq hSw; (go_simp); (try with_reducible rfl)
    refine tkH 3 (v := ?_) rfl (by kernel_rfl) (fun _ _ _ h => h) (by rfl) ?y2x3q10 (by assumption) ?z2x3q10
    case y2x3q10 => intro wq hSw; (go_simp); (try with_reducible rfl)
    refine tkH 4 (v := ?_) rfl (by kernel_rfl) (fun _ _ _ h => h) (by rfl) ?y2x4q13 (by assumption) ?z2x4q13
    case y2x4q13 => intro wq hSw; (go_simp); (try with_reducible rfl)
    refine wpAnyH_ready (rs := [5, 6]) (by kernel_rfl) (by simp) ?_
    refine AllReadyH.cons (o := ⟨_, _, _, _, _, _⟩) rfl (fun K hK => ?_) ?_
    ·have cc := (own_cellH OQ.out.1 HQ.out).1
     simp only [Hdr.val] at cc
     (try have cc2 : (wa.alloc (.cells #[.int .i64 y.id, .string y.key, .int .u32 y.word] 56)).cell? ⟨g4, KX, none⟩ = some (.slice qa qn qc) := cc)
     go_simp
     clear cc
     (try clear cc2)
     refine hK.out _ _ (trivial) (fun hHeld => ?_)
     clear hK K
     refine wpAnyH_ready (rs := [6]) (by kernel_rfl) (by simp) ?_
     refine AllReadyH.cons (o := ⟨_, _, _, _, _, _⟩) rfl (fun K hK => ?_) AllReadyH.nil
     have b0 := B7.out.cell 0 _ rfl
     have b1 := B7.out.cell 1 _ rfl
     have b2 := B7.out.cell 2 _ rfl
     go_simp
     clear b0 b1 b2
     refine hK.out _ _ (trivial) (fun hHeld => ?_)
     clear hK K
     refine wpAnyH_ready (rs := [7]) (by kernel_rfl) (by simp) ?_
     refine AllReadyH.cons (o := ⟨_, _, _, _, _, _⟩) rfl (fun K hK => ?_) AllReadyH.nil
     go_simp
     have SX := SXF wa.drew
     have e7 := Ex.new wa.drew (.cells #[.int .i64 y.id, .string y.key, .int .u32 y.word] 56)
     replace OQ := lH (OQ.out.nx e7)
     replace kx := kx.nx e7
     clear e7
     refine hK.out _ _ (trivial) (fun hHeld => ?_)
     clear hK K
     refine wpAnyH_ready (rs := [8]) (by kernel_rfl) (by simp) ?_
     refine AllReadyH.cons (o := ⟨_, _, _, _, _, _⟩) rfl (fun K hK => ?_) AllReadyH.nil
     rw [if_pos (by rfl)]
     have z0 := Ex.size kx
     have oi := OQ.out.2.2.1 KX _ _ HQ.out HCC.out
     refine wp_append_rda (enc := encN) _ (.tmp 32) (.tmp 34) 23 rfl w1.heap.size 56 (.agg #[.int .i64 0, .string ByteArray.empty, .int .u32 0]) 3 32 Tryz.underlying23 Tryz.infoN rfl (by omega) (by omega) _ c oi rfl _ _ 1 1 [y] SX (fun h => by cases h) (fun _ => rfl) (by simp [encN, Value.oneCell']) rfl (by omega) (by omega) z0 ?_
     intro v8 w8 own8 ch0 ch1 hat
     rw [← HCY.out] at own8
     obtain ⟨a8, cap8, rfl, _, _, _, _⟩ := own8.rd (fun _ => rfl)
     obtain ⟨pc, pf, OQ2⟩ := OwnQ.put (q' := (a8, cy.length, cap8)) OQ.out HQ.out own8 ch0 hat
     replace kx : Ex w1 w8 := Chg.trans kx ch1
     replace OQ := lH OQ2
     clear OQ2 own8 ch0 ch1 hat oi z0 SX
     refine hK.out _ _ (trivial) (fun hHeld => ?_)
     clear hK K
     refine tkH 9 (v := ?_) rfl (by kernel_rfl) (fun _ _ _ h => h) (by rfl) ?y2x9q64 (by assumption) ?z2x9q64
     case y2x9q64 => intro wq hSw; (go_simp); (try with_reducible rfl)
     refine wpAnyH_ready (rs := [10]) (by kernel_rfl) (by simp) ?_
     refine AllReadyH.cons (o := ⟨_, _, _, _, _, _⟩) rfl (fun K hK => ?_) AllReadyH.nil
     go_simp
     clear pc pf
     refine hK.out _ _ (trivial) (fun hHeld => ?_)
     clear hK K
     refine wpAnyH_done (by kernel_rfl) ?_ _
     replace kx := kx.setNew (p := ⟨g4, KX, none⟩) (Hdr.val (a8, cy.length, cap8)) hg4
     obtain ⟨wz, hwz⟩ : ∃ wz, wz = w8.setCell ⟨g4, KX, none⟩ (.slice a8 cy.length cap8) := ⟨_, rfl⟩
     have OQ := lH (OwnQ.cast OQ.out (w' := wz) hwz)
     have kx : Ex w1 wz := by rw [hwz]; exact kx
     rw [← hwz]
     clear hwz SXF hHeld hn5 hcl
     go_wp2_with fail
     exact ⟨⟨k + 1, _, by omega, by go_num, by rw [FSn.out, FIN.out]; exact OQ.out, kx⟩, by simp [intOf]; omega⟩
    refine AllReadyH.cons (o := ⟨_, _, _, _, _, _⟩) rfl (fun K hK => ?_) AllReadyH.nil
    ·have b0 := B7.out.cell 0 _ rfl
     have b1 := B7.out.cell 1 _ rfl
     have b2 := B7.out.cell 2 _ rfl
     go_simp
     clear b0 b1 b2
     refine hK.out _ _ (trivial) (fun hHeld => ?_)
     clear hK K
     refine wpAnyH_ready (rs := [5, 7]) (by kernel_rfl) (by simp) ?_
     refine AllReadyH.cons (o := ⟨_, _, _, _, _, _⟩) rfl (fun K hK => ?_) ?_
     ·have cc := (own_cellH OQ.out.1 HQ.out).1
      simp only [Hdr.val] at cc
      (try have cc2 : (wa.alloc (.cells #[.int .i64 y.id, .string y.key, .int .u32 y.word] 56)).cell? ⟨g4, KX, none⟩ = some (.slice qa qn qc) := cc)
      go_simp
      clear cc
      (try clear cc2)
      refine hK.out _ _ (trivial) (fun hHeld => ?_)
      clear hK K
      refine wpAnyH_ready (rs := [7]) (by kernel_rfl) (by simp) ?_
      refine AllReadyH.cons (o := ⟨_, _, _, _, _, _⟩) rfl (fun K hK => ?_) AllReadyH.nil
      go_simp
      have SX := SXF wa.drew
      have e7 := Ex.new wa.drew (.cells #[.int .i64 y.id, .string y.key, .int .u32 y.word] 56)
      replace OQ := lH (OQ.out.nx e7)
      replace kx := kx.nx e7
      clear e7
      refine hK.out _ _ (trivial) (fun hHeld => ?_)
      clear hK K
      refine wpAnyH_ready (rs := [8]) (by kernel_rfl) (by simp) ?_
      refine AllReadyH.cons (o := ⟨_, _, _, _, _, _⟩) rfl (fun K hK => ?_) AllReadyH.nil
      rw [if_pos (by rfl)]
      have z0 := Ex.size kx
      have oi := OQ.out.2.2.1 KX _ _ HQ.out HCC.out
      refine wp_append_rda (enc := encN) _ (.tmp 32) (.tmp 34) 23 rfl w1.heap.size 56 (.agg #[.int .i64 0, .string ByteArray.empty, .int .u32 0]) 3 32 Tryz.underlying23 Tryz.infoN rfl (by omega) (by omega) _ c oi rfl _ _ 1 1 [y] SX (fun h => by cases h) (fun _ => rfl) (by simp [encN, Value.oneCell']) rfl (by omega) (by omega) z0 ?_
      intro v8 w8 own8 ch0 ch1 hat
      rw [← HCY.out] at own8
      obtain ⟨a8, cap8, rfl, _, _, _, _⟩ := own8.rd (fun _ => rfl)
      obtain ⟨pc, pf, OQ2⟩ := OwnQ.put (q' := (a8, cy.length, cap8)) OQ.out HQ.out own8 ch0 hat
      replace kx : Ex w1 w8 := Chg.trans kx ch1
      replace OQ := lH OQ2
      clear OQ2 own8 ch0 ch1 hat oi z0 SX
      refine hK.out _ _ (trivial) (fun hHeld => ?_)
      clear hK K
      refine tkH 9 (v := ?_) rfl (by kernel_rfl) (fun _ _ _ h => h) (by rfl) ?y2x9q123 (by assumption) ?z2x9q123
      case y2x9q123 => intro wq hSw; (go_simp); (try with_reducible rfl)
      refine wpAnyH_ready (rs := [10]) (by kernel_rfl) (by simp) ?_
      refine AllReadyH.cons (o := ⟨_, _, _, _, _, _⟩) rfl (fun K hK => ?_) AllReadyH.nil
      go_simp
      clear pc pf
      refine hK.out _ _ (trivial) (fun hHeld => ?_)
      clear hK K
      refine wpAnyH_done (by kernel_rfl) ?_ _
      replace kx := kx.setNew (p := ⟨g4, KX, none⟩) (Hdr.val (a8, cy.length, cap8)) hg4
      obtain ⟨wz, hwz⟩ : ∃ wz, wz = w8.setCell ⟨g4, KX, none⟩ (.slice a8 cy.length cap8) := ⟨_, rfl⟩
      have OQ := lH (OwnQ.cast OQ.out (w' := wz) hwz)
      have kx : Ex w1 wz := by rw [hwz]; exact kx
      rw [← hwz]
      clear hwz SXF hHeld hn5 hcl
      go_wp2_with fail
      exact ⟨⟨k + 1, _, by omega, by go_num, by rw [FSn.out, FIN.out]; exact OQ.out, kx⟩, by simp [intOf]; omega⟩
     refine AllReadyH.cons (o := ⟨_, _, _, _, _, _⟩) rfl (fun K hK => ?_) AllReadyH.nil
     ·go_simp
      have SX := SXF wa.drew
      have e7 := Ex.new wa.drew (.cells #[.int .i64 y.id, .string y.key, .int .u32 y.word] 56)
      replace OQ := lH (OQ.out.nx e7)
      replace kx := kx.nx e7
      clear e7
      refine hK.out _ _ (trivial) (fun hHeld => ?_)
      clear hK K
      refine wpAnyH_ready (rs := [5]) (by kernel_rfl) (by simp) ?_
      refine AllReadyH.cons (o := ⟨_, _, _, _, _, _⟩) rfl (fun K hK => ?_) AllReadyH.nil
      have cc := (own_cellH OQ.out.1 HQ.out).1
      simp only [Hdr.val] at cc
      (try have cc2 : (wa.alloc (.cells #[.int .i64 y.id, .string y.key, .int .u32 y.word] 56)).cell? ⟨g4, KX, none⟩ = some (.slice qa qn qc) := cc)
      go_simp
      clear cc
      (try clear cc2)
      refine hK.out _ _ (trivial) (fun hHeld => ?_)
      clear hK K
      refine wpAnyH_ready (rs := [8]) (by kernel_rfl) (by simp) ?_
      refine AllReadyH.cons (o := ⟨_, _, _, _, _, _⟩) rfl (fun K hK => ?_) AllReadyH.nil
      rw [if_pos (by rfl)]
      have z0 := Ex.size kx
      have oi := OQ.out.2.2.1 KX _ _ HQ.out HCC.out
      refine wp_append_rda (enc := encN) _ (.tmp 32) (.tmp 34) 23 rfl w1.heap.size 56 (.agg #[.int .i64 0, .string ByteArray.empty, .int .u32 0]) 3 32 Tryz.underlying23 Tryz.infoN rfl (by omega) (by omega) _ c oi rfl _ _ 1 1 [y] SX (fun h => by cases h) (fun _ => rfl) (by simp [encN, Value.oneCell']) rfl (by omega) (by omega) z0 ?_
      intro v8 w8 own8 ch0 ch1 hat
      rw [← HCY.out] at own8
      obtain ⟨a8, cap8, rfl, _, _, _, _⟩ := own8.rd (fun _ => rfl)
      obtain ⟨pc, pf, OQ2⟩ := OwnQ.put (q' := (a8, cy.length, cap8)) OQ.out HQ.out own8 ch0 hat
      replace kx : Ex w1 w8 := Chg.trans kx ch1
      replace OQ := lH OQ2
      clear OQ2 own8 ch0 ch1 hat oi z0 SX
      refine hK.out _ _ (trivial) (fun hHeld => ?_)
      clear hK K
      refine tkH 9 (v := ?_) rfl (by kernel_rfl) (fun _ _ _ h => h) (by rfl) ?y2x9q172 (by assumption) ?z2x9q172
      case y2x9q172 => intro wq hSw; (go_simp); (try with_reducible rfl)
      refine wpAnyH_ready (rs := [10]) (by kernel_rfl) (by simp) ?_
      refine AllReadyH.cons (o := ⟨_, _, _, _, _, _⟩) rfl (fun K hK => ?_) AllReadyH.nil
      go_simp
      clear pc pf
      refine hK.out _ _ (trivial) (fun hHeld => ?_)
      clear hK K
      refine wpAnyH_done (by kernel_rfl) ?_ _
      replace kx := kx.setNew (p := ⟨g4, KX, none⟩) (Hdr.val (a8, cy.length, cap8)) hg4
      obtain ⟨wz, hwz⟩ : ∃ wz, wz = w8.setCell ⟨g4, KX, none⟩ (.slice a8 cy.length cap8) := ⟨_, rfl⟩
      have OQ := lH (OwnQ.cast OQ.out (w' := wz) hwz)
      have kx : Ex w1 wz := by rw [hwz]; exact kx
      rw [← hwz]
      clear hwz SXF hHeld hn5 hcl
      go_wp2_with fail
      exact ⟨⟨k + 1, _, by omega, by go_num, by rw [FSn.out, FIN.out]; exact OQ.out, kx⟩, by simp [intOf]; omega⟩
  ·obtain rfl : k = n := by omega
   rw [List.take_of_length_le (by rw [HL.out]; exact Nat.le_refl _)] at OQ
   obtain ⟨a3, cap3, rfl, ll3, hc3, _, _⟩ := OQ.ll
   have LL3 := lH ll3
   clear OQ ll3 hk hlt
   go_wp2_with fail
   go_ret
   exact ⟨a3, cap3, by rw [HF.out]; rfl, by rw [HF.out]; exact LL3.out, HK1.out.nx kx⟩
end Go.Proofs.YtlgdjigocopglaaGreatDoor
