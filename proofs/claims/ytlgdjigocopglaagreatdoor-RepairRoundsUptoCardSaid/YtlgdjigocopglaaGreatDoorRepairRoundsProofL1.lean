/- Texts for RepairRoundsProof. -/
import Derived.Test.YtlgdjigocopglaaGreatDoorRqBCDEF1
import Derived.Test.YtlgdjigocopglaaGreatDoorRqABC1
import Derived.Test.YtlgdjigocopglaaGreatDoorRqAB1
set_option linter.unusedSimpArgs false
set_option linter.unusedVariables false

namespace Go.Proofs.YtlgdjigocopglaaGreatDoor
open Go.RowKit
def HasRel (l : List Int) (v : Int) (n : Nat) (w : World) (i : Value) (wr : World) : Prop :=
 ∃ k : Nat, k ≤ n ∧ i = .int .i64 k ∧ Ex w wr ∧ ∀ j z, j < k → l[j]? = some z → z ≠ v
set_option maxHeartbeats 1000000 in
theorem has_r (a : Option Addr) (n c : Nat) (l : List Int) (v : Int) (w : World) (h : Sl 1 encI w a n l) (hn : n ≤ 4000000000000000000) :
  Calls Tryz.prog 138 #[.slice a n c, .int .i64 v] w fun e w' => e = .returned (.bool (l.contains v)) ∧ Ex w w' := by
 have HL := lH h.len
 have hs := lH h
 clear h
 go_enter Tryz.func138, Tryz.ntmps138
 go_wp2_with fail
 go_loopw [5] (fun i wr => HasRel l v n w i wr) (fun i _ => n - (intOf i).toNat)
 case atStart => exact ⟨0, by omega, rfl, Ex.refl _, by intro j z h; omega⟩
 case round =>
  obtain ⟨k, hk, rfl, kw, hno⟩ := hrel
  have HNO := lH hno
  clear hno
  obtain ⟨wo, rfl⟩ : ∃ wo : World, wo = wr := ⟨_, rfl⟩
  by_cases hlt : k < n
  ·obtain ⟨x1, o1, y, rfl, hx1, hy, hc1⟩ := (hs.out.nx kw).at hlt
   have e0 : wo.cell? ⟨x1, o1 + k, none⟩ = some (.int .i64 y) := by simpa using hc1 0 _ rfl
   have HY := lH hy
   have KW := lH kw
   clear hc1 hy kw
   by_cases hv : y = v
   ·have HC : Hid (l.contains v = true) := lH (by rw [List.contains_iff_mem, ← hv]; exact List.mem_of_getElem? HY.out)
    have hb : (y == v) = true := by rw [hv]; simp
    clear hv
    go_wp2_with fail
    go_ret
    exact ⟨by rw [HC.out]; rfl, KW.out⟩
   ·have HV := lH hv
    have hb : (y == v) = false := by rw [beq_eq_false_iff_ne]; exact hv
    clear hv
    go_wp2_with fail
    refine ⟨⟨k + 1, by omega, by go_num, KW.out, fun j z hj hz => ?_⟩, by simp [intOf]; omega⟩
    rcases Nat.lt_or_ge j k with h | h
    ·exact HNO.out j z h hz
    ·obtain rfl : j = k := by omega
     rw [Option.some.inj (hz.symm.trans HY.out)]
     exact HV.out
  ·obtain rfl : k = n := by omega
   have HC : Hid (l.contains v = false) := lH (by
    cases hc : l.contains v with
    | false => rfl
    | true =>
     rw [List.contains_iff_mem] at hc
     obtain ⟨j, hj⟩ := List.mem_iff_getElem?.1 hc
     exact absurd rfl (HNO.out j v (by have := (List.getElem?_eq_some_iff.1 hj).1; rw [← HL.out]; exact this) hj))
   have KW := lH kw
   clear hk hlt kw
   go_wp2_with fail
   go_ret
   exact ⟨by rw [HC.out]; rfl, KW.out⟩
set_option maxRecDepth 100000 in
set_option maxHeartbeats 2000000 in
theorem ordered_r (a : Option Addr) (n c : Nat) (N : List Nd) (a2 : Option Addr) (n2 c2 : Nat) (l : List Int) (but : Int) (w : World) (h : Sl 3 encN w a n N) (hn : n ≤ 1000) (h2 : Sl 1 encI w a2 n2 l) (hn2 : n2 ≤ 4000000000000000000) :
  Calls Tryz.prog 126 #[.slice a n c, .slice a2 n2 c2, .int .i64 but] w (OiPost (ordN N l but) w) := by
 have hNn : N.length ≤ 1000 := by have := h.len; omega
 go_enter Tryz.func126, Tryz.ntmps126
 go_wp2_with fail
 (with_reducible refine (sort_r _ _ _ _ _ h hn).mono ?_)
 rintro e w1 ⟨a1, n1, c1, rfl, own1, kk⟩
 replace h2 := h2.nx kk
 have S1 : Sl 3 encN w1 a1 n1 (sortN N) := Slf.sl own1
 have hn1 : n1 = (sortN N).length := S1.len.symm
 subst hn1
 have hSl : (sortN N).length ≤ 1000 := by rw [sortN_length]; exact hNn
 have ES : Hid (ordN N l but = ((sortN N).filter (ordP l but)).map Nd.id) := lH rfl
 generalize sortN N = S at S1 hSl ES own1 ⊢
 have S1 := lH S1
 have H2 := lH h2
 have K1 : Hid (Ex w w1) := lH kk
 have hz1 := kk.size
 clear h own1 h2 kk hNn hn
 go_wp2_with fail
 go_loopw [7, 9] (fun o i wr => OrdRel S l but w1 o i wr) (fun _ i _ => S.length - (intOf i).toNat)
 case atStart => exact ⟨0, by omega, rfl, OwnL.nil _ _ _ _ _, Ex.refl _⟩
 case round =>
  obtain ⟨j, hj, rfl, own, ki⟩ := hrel
  obtain ⟨wi, rfl⟩ : ∃ wi : World, wi = wr := ⟨_, rfl⟩
  by_cases hjm : j < S.length
  ·obtain ⟨x3, o3, y, rfl, hx3, hy, hc3⟩ := (S1.out.nx ki).at hjm
   have e0 : wi.cell? ⟨x3, o3 + j * 3, none⟩ = some (.int .i64 y.id) := hc3 0 _ rfl
   have SN := lH (ord_snoc (l := l) (but := but) hy)
   have hrl : (((S.take j).filter (ordP l but)).map Nd.id).length ≤ 1000 := by
    rw [List.length_map]
    have := List.length_filter_le (ordP l but) (S.take j)
    rw [List.length_take] at this
    omega
   generalize ((S.take j).filter (ordP l but)).map Nd.id = row at own SN hrl
   have OWN := lH own
   have KI := lH ki
   have zb := ki.size
   clear hy hc3 own ki
   by_cases hb : y.id = but
   ·have hq : (y.id != but) = false := by simp [hb]
    have hq2 : (y.id == but) = true := by simp [hb]
    have PF : Hid (ordP l but y = false) := lH (by unfold ordP; rw [hq2]; rfl)
    clear hb
    go_wp2_with fail
    exact ⟨⟨j + 1, by omega, by go_num, by rw [SN.out, PF.out]; simpa using OWN.out, KI.out⟩, by simp [intOf]; omega⟩
   ·have hq : (y.id != but) = true := by simpa using hb
    have hq2 : (y.id == but) = false := by simpa using hb
    clear hb
    go_wp2_with fail
    (with_reducible refine (has_r _ _ _ _ y.id _ (H2.out.nx KI.out) hn2).mono ?_)
    rintro e w5 ⟨rfl, kk⟩
    have K5 := lH kk
    have e5 : w5.cell? ⟨x3, o3 + j * 3, none⟩ = some (.int .i64 y.id) := Chg.cellv kk e0 hx3
    have own5 := OWN.out.nx kk
    have k5 := KI.out.nx kk
    have hx5 := Nat.lt_of_lt_of_le hx3 kk.size
    have zb5 := k5.size
    have PB : Hid (ordP l but y = l.contains y.id) := lH (by unfold ordP; rw [hq2]; rfl)
    clear kk e0
    generalize l.contains y.id = inl at PB ⊢
    cases inl with
    | false =>
     have K5' := lH k5
     have O5' := lH own5
     clear k5 own5
     go_wp2_with fail
     exact ⟨⟨j + 1, by omega, by go_num, by rw [SN.out, PB.out]; simpa using O5'.out, K5'.out⟩, by simp [intOf]; omega⟩
    | true =>
     generalize y.id = yi at SN e5 hq hq2 ⊢
     go_wp2_with (at_builtin; (refine wpList_append_lit (enc := encI) w5 rfl _ _ 22 rfl w1.heap.size 3 (.int .i64 0) 1 8 Tryz.underlying22 Tryz.infoI6 rfl (by omega) (by omega) _ _ own5 rfl (yi : Int) _ rfl rfl (by simp [encI, Value.oneCell']) _ (by simp) rfl (by omega) zb5 _ ?_); intro v6 w6 own6 _ ch1 _)
     refine ⟨⟨j + 1, by omega, by go_num, by rw [SN.out, PB.out]; exact own6, Chg.trans k5 ch1⟩, by simp [intOf]; omega⟩
  ·obtain rfl : j = S.length := by omega
   rw [List.take_of_length_le (by omega)] at own
   have own := lH (own.base hz1)
   have KE := lH (K1.out.nx ki)
   clear hj hjm ki
   go_wp2_with fail
   go_ret
   exact ⟨_, rfl, by rw [ES.out]; exact own.out, KE.out⟩
theorem lit2 {w u : World} (h : Ex w u) (x y : Int) : ∃ g v, g = u.heap.size ∧ v = u.alloc (.cells #[.int .i64 x, .int .i64 y] 3) ∧ Sl 1 encI v (some ⟨g, 0, none⟩) 2 [x, y] ∧ Ex u v ∧ Ex w v :=
 ⟨_, _, rfl, rfl, Sl.lit [x, y] rfl rfl (fun _ => rfl) rfl, Ex.new _ _, h.nx (Ex.new _ _)⟩
theorem lit4 {w u : World} (h : Ex w u) (y : Nr) : ∃ g v, g = u.heap.size ∧ v = u.alloc (.cells #[.int .i64 y.1, .int .i64 y.2.1, .int .i64 y.2.2.1, .int .i64 y.2.2.2] 3) ∧ Sl 1 encI v (some ⟨g, 0, none⟩) 4 (nums4 y) ∧ Ex u v ∧ Ex w v :=
 ⟨_, _, rfl, rfl, Sl.lit (nums4 y) rfl rfl (fun _ => rfl) rfl, Ex.new _ _, h.nx (Ex.new _ _)⟩
def NmCut (l : List Int) (w : World) (s : Value) (wx : World) : Prop := OwnL 1 encI 3 w.heap.size wx s l ∧ Ex w wx
set_option maxRecDepth 100000 in
set_option maxHeartbeats 8000000 in
theorem numbers_r (p : Pr) (a1 : Option Addr) (n1 c1 : Nat) (a2 : Option Addr) (n2 c2 : Nat) (w : World) (h1 : Sl 1 encI w a1 n1 p.known) (h2 : Sl 4 encNr w a2 n2 p.near) (hn1 : n1 ≤ 2000000) (hn2 : n2 ≤ 2000000) (z1 : a1 = none → c1 = 0) :
  Calls Tryz.prog 92 #[.agg #[.int .i64 p.id, .slice a1 n1 c1, .int .i64 p.left, .int .i64 p.right, .slice a2 n2 c2]] w (OiPost (numsP p) w) := by
 obtain ⟨id, lf, rt, kn, nr⟩ := p
 have HN : Hid (numsP ⟨id, lf, rt, kn, nr⟩ = (kn ++ [lf, rt]) ++ nr.flatMap nums4) := lH rfl
 have hkl : kn.length ≤ 2000000 := by have : kn.length = n1 := h1.len; omega
 have hnl : nr.length = n2 := h2.len
 have hw0 := Nat.le_refl w.heap.size
 simp only at h1 h2 ⊢
 have B1 := Blk.new w [.int .i64 id, .slice a1 n1 c1, .int .i64 lf, .int .i64 rt, .slice a2 n2 c2] 41
 have kk := Ex.new w (.cells #[.int .i64 id, .slice a1 n1 c1, .int .i64 lf, .int .i64 rt, .slice a2 n2 c2] 41)
 obtain ⟨w1, hw1⟩ : ∃ w1, w1 = w.alloc (.cells #[.int .i64 id, .slice a1 n1 c1, .int .i64 lf, .int .i64 rt, .slice a2 n2 c2] 41) := ⟨_, rfl⟩
 obtain ⟨g, hg⟩ : ∃ g, g = w.heap.size := ⟨_, rfl⟩
 replace B1 : Blk w1 g [.int .i64 id, .slice a1 n1 c1, .int .i64 lf, .int .i64 rt, .slice a2 n2 c2] 41 := by rw [hw1, hg]; exact B1
 rw [← hw1] at kk
 have Hw1 := lH hw1
 have Hg := lH hg
 replace h1 := h1.nx kk
 replace h2 := h2.nx kk
 have hz1 := kk.size
 have K1 := lH kk
 have S1 := lH h1
 have S2 := lH h2
 clear h1 h2 kk hw1 hg
 go_enter Tryz.func92, Tryz.ntmps92
 go_upto_region 1 with fail
 rw [← Hg.out, ← Hw1.out]
 clear Hg Hw1
 have BH := lH B1
 clear B1
 go_cut [3] from 5 to 14 (fun s3 wx => NmCut (kn ++ [lf, rt]) w1 s3 wx)
 case first =>
  refine wp_region_held_drew (S := Ex w1) (by kernel_rfl) ((Ex.refl w1).drew) (fun hHeld => ?_)
  refine tkH 0 (v := ?_) rfl (by kernel_rfl) (fun _ _ _ h => h) (by rfl) ?y1x0q1 (by assumption) ?z1x0q1
  case y1x0q1 => intro wq hSw; (go_simp); (try with_reducible rfl)
  refine tkH 1 (v := ?_) rfl (by kernel_rfl) (fun _ _ _ h => h) (by rfl) ?y1x1q4 (by assumption) ?z1x1q4
  case y1x1q4 => intro wq hSw; (have cq := (BH.out.nx hSw).cell 1 _ rfl; go_simp); (try with_reducible rfl)
  refine tkH 3 (v := ?_) rfl (by kernel_rfl) (fun _ _ _ h => h) (by rfl) ?y1x3q7 (by assumption) ?z1x3q7
  case y1x3q7 => intro wq hSw; (go_simp); (try with_reducible rfl)
  refine tkH 4 (v := ?_) rfl (by kernel_rfl) (fun _ _ _ h => h) (by rfl) ?y1x4q10 (by assumption) ?z1x4q10
  case y1x4q10 => intro wq hSw; (have cq := (BH.out.nx hSw).cell 2 _ rfl; go_simp); (try with_reducible rfl)
  refine tkH 5 (v := ?_) rfl (by kernel_rfl) (fun _ _ _ h => h) (by rfl) ?y1x5q13 (by assumption) ?z1x5q13
  case y1x5q13 => intro wq hSw; (go_simp); (try with_reducible rfl)
  refine tkH 6 (v := ?_) rfl (by kernel_rfl) (fun _ _ _ h => h) (by rfl) ?y1x6q16 (by assumption) ?z1x6q16
  case y1x6q16 => intro wq hSw; (have cq := (BH.out.nx hSw).cell 3 _ rfl; go_simp); (try with_reducible rfl)
  refine wpAnyH_ready (rs := [2, 7]) (by kernel_rfl) (by simp) ?_
  refine AllReadyH.cons (o := ⟨_, _, _, _, _, _⟩) rfl (fun K hK => ?_) ?_
  ·rw [if_pos (by rfl)]
   have s0 := S1.out.nx hHeld
   have z0 := Ex.size hHeld
   refine wp_append_rd (enc := encI) _ (.const (.slice none 0 0)) (.tmp 6) 22 rfl w1.heap.size 3 (.int .i64 0) 1 8 Tryz.underlying22 Tryz.infoI6 rfl (by omega) (by omega) _ [] (OwnL.nil _ _ _ _ _) rfl _ _ n1 c1 kn s0 z1 (fun _ => rfl) (by simp [encI, Value.oneCell']) rfl (by simp) (by omega) z0 ?_
   intro v7 w7 own7 ch0 ch1
   have k7 : Ex _ w7 := ch0.mono (fun k hk => ⟨hk, by simp [Value.ownBlock]⟩)
   (try replace L8 := L8.nx k7)
   have j7 : Ex w1 w7 := Chg.trans hHeld ch1
   rw [List.nil_append] at own7
   clear ch0 ch1 s0 z0 k7 hHeld
   have hHeld := j7
   clear j7
   refine hK.out _ _ (hHeld) (fun hHeld => ?_)
   clear hK K
   refine wpAnyH_ready (rs := [7]) (by kernel_rfl) (by simp) ?_
   refine AllReadyH.cons (o := ⟨_, _, _, _, _, _⟩) rfl (fun K hK => ?_) AllReadyH.nil
   go_simp
   obtain ⟨g8, u8, hg8, hu8, L8, k8, j8⟩ := lit2 hHeld lf rt
   (try replace own7 := own7.nx k8)
   (first | rw [← hg8, ← hu8] | (rw [show w1.drew.heap.size = w1.heap.size from rfl] at hg8; rw [← hg8, show ∀ o, (w1.alloc o).drew = w1.drew.alloc o from fun _ => rfl, ← hu8]))
   clear hg8 hu8 k8 hHeld
   have hHeld := j8
   clear j8
   refine hK.out _ _ (hHeld) (fun hHeld => ?_)
   clear hK K
   refine wpAnyH_ready (rs := [8]) (by kernel_rfl) (by simp) ?_
   refine AllReadyH.cons (o := ⟨_, _, _, _, _, _⟩) rfl (fun K hK => ?_) AllReadyH.nil
   rw [if_pos (by rfl)]
   have z0 := Ex.size hHeld
   refine wp_append_rd (enc := encI) _ (.tmp 7) (.tmp 12) 22 rfl w1.heap.size 3 (.int .i64 0) 1 8 Tryz.underlying22 Tryz.infoI6 rfl (by omega) (by omega) _ kn own7 rfl _ _ 2 2 [lf, rt] L8 (fun h => by cases h) (fun _ => rfl) (by simp [encI, Value.oneCell']) rfl (by omega) (by omega) z0 ?_
   intro v9 w9 own9 ch0 ch1
   have j9 : Ex w1 w9 := Chg.trans hHeld ch1
   clear ch0 ch1 z0 own7 L8 hHeld
   have hHeld := j9
   clear j9
   refine hK.out _ _ (hHeld) (fun hHeld => ?_)
   clear hK K
   refine tkH 9 (v := ?_) rfl (by kernel_rfl) (fun _ _ _ h => h) (by rfl) ?y1x9q61 (by assumption) ?z1x9q61
   case y1x9q61 => intro wq hSw; (go_simp); (try with_reducible rfl)
   refine wpAnyH_done (by kernel_rfl) ?_ _
   go_wp2_with fail
   go_meet
   exact ⟨own9, hHeld⟩
  refine AllReadyH.cons (o := ⟨_, _, _, _, _, _⟩) rfl (fun K hK => ?_) AllReadyH.nil
  ·go_simp
   obtain ⟨g8, u8, hg8, hu8, L8, k8, j8⟩ := lit2 hHeld lf rt
   (try replace own7 := own7.nx k8)
   (first | rw [← hg8, ← hu8] | (rw [show w1.drew.heap.size = w1.heap.size from rfl] at hg8; rw [← hg8, show ∀ o, (w1.alloc o).drew = w1.drew.alloc o from fun _ => rfl, ← hu8]))
   clear hg8 hu8 k8 hHeld
   have hHeld := j8
   clear j8
   refine hK.out _ _ (hHeld) (fun hHeld => ?_)
   clear hK K
   refine wpAnyH_ready (rs := [2]) (by kernel_rfl) (by simp) ?_
   refine AllReadyH.cons (o := ⟨_, _, _, _, _, _⟩) rfl (fun K hK => ?_) AllReadyH.nil
   rw [if_pos (by rfl)]
   have s0 := S1.out.nx hHeld
   have z0 := Ex.size hHeld
   refine wp_append_rd (enc := encI) _ (.const (.slice none 0 0)) (.tmp 6) 22 rfl w1.heap.size 3 (.int .i64 0) 1 8 Tryz.underlying22 Tryz.infoI6 rfl (by omega) (by omega) _ [] (OwnL.nil _ _ _ _ _) rfl _ _ n1 c1 kn s0 z1 (fun _ => rfl) (by simp [encI, Value.oneCell']) rfl (by simp) (by omega) z0 ?_
   intro v7 w7 own7 ch0 ch1
   have k7 : Ex _ w7 := ch0.mono (fun k hk => ⟨hk, by simp [Value.ownBlock]⟩)
   (try replace L8 := L8.nx k7)
   have j7 : Ex w1 w7 := Chg.trans hHeld ch1
   rw [List.nil_append] at own7
   clear ch0 ch1 s0 z0 k7 hHeld
   have hHeld := j7
   clear j7
   refine hK.out _ _ (hHeld) (fun hHeld => ?_)
   clear hK K
   refine wpAnyH_ready (rs := [8]) (by kernel_rfl) (by simp) ?_
   refine AllReadyH.cons (o := ⟨_, _, _, _, _, _⟩) rfl (fun K hK => ?_) AllReadyH.nil
   rw [if_pos (by rfl)]
   have z0 := Ex.size hHeld
   refine wp_append_rd (enc := encI) _ (.tmp 7) (.tmp 12) 22 rfl w1.heap.size 3 (.int .i64 0) 1 8 Tryz.underlying22 Tryz.infoI6 rfl (by omega) (by omega) _ kn own7 rfl _ _ 2 2 [lf, rt] L8 (fun h => by cases h) (fun _ => rfl) (by simp [encI, Value.oneCell']) rfl (by omega) (by omega) z0 ?_
   intro v9 w9 own9 ch0 ch1
   have j9 : Ex w1 w9 := Chg.trans hHeld ch1
   clear ch0 ch1 z0 own7 L8 hHeld
   have hHeld := j9
   clear j9
   refine hK.out _ _ (hHeld) (fun hHeld => ?_)
   clear hK K
   refine tkH 9 (v := ?_) rfl (by kernel_rfl) (fun _ _ _ h => h) (by rfl) ?y1x9q107 (by assumption) ?z1x9q107
   case y1x9q107 => intro wq hSw; (go_simp); (try with_reducible rfl)
   refine wpAnyH_done (by kernel_rfl) ?_ _
   go_wp2_with fail
   go_meet
   exact ⟨own9, hHeld⟩
 case rest =>
  obtain ⟨own, kk⟩ := hcut
  have hl0 : (kn ++ [lf, rt]).length ≤ 2000002 := by simp; omega
  generalize kn ++ [lf, rt] = l0 at own HN hl0
  have OWN := lH own
  have KC := lH kk
  clear own kk
  go_wp2_with fail
  go_loopw [3, 4] (fun o i wr => NmRel l0 nr w1 o i wr) (fun _ i _ => nr.length - (intOf i).toNat)
  case atStart => exact ⟨0, by omega, rfl, by simpa using OWN.out, KC.out⟩
  case round =>
   obtain ⟨j, hj, rfl, own, ki⟩ := hrel
   obtain ⟨wi, rfl⟩ : ∃ wi : World, wi = wr := ⟨_, rfl⟩
   have b4 := (BH.out.nx ki).cell 4 _ rfl
   by_cases hjm : j < n2
   ·obtain ⟨x3, o3, y, rfl, hx3, hy, hc3⟩ := S2.out.at hjm
    have e0 : w1.cell? ⟨x3, o3 + j * 4, none⟩ = some (.int .i64 y.1) := hc3 0 _ rfl
    have e1 : w1.cell? ⟨x3, o3 + j * 4 + 1, none⟩ = some (.int .i64 y.2.1) := hc3 1 _ rfl
    have e2 : w1.cell? ⟨x3, o3 + j * 4 + 2, none⟩ = some (.int .i64 y.2.2.1) := hc3 2 _ rfl
    have e3 : w1.cell? ⟨x3, o3 + j * 4 + 3, none⟩ = some (.int .i64 y.2.2.2) := hc3 3 _ rfl
    have SN := lH (nm_snoc (l0 := l0) hy)
    have hrl : (l0 ++ (nr.take j).flatMap nums4).length ≤ 50000000 := by
     rw [List.length_append, nums_len, List.length_take]
     omega
    generalize l0 ++ (nr.take j).flatMap nums4 = row at own SN hrl
    have E := lH (show ∀ wq, Ex w1 wq → wq.cell? ⟨x3, o3 + j * 4, none⟩ = some (.int .i64 y.1) ∧ wq.cell? ⟨x3, o3 + j * 4 + 1, none⟩ = some (.int .i64 y.2.1) ∧ wq.cell? ⟨x3, o3 + j * 4 + 2, none⟩ = some (.int .i64 y.2.2.1) ∧ wq.cell? ⟨x3, o3 + j * 4 + 3, none⟩ = some (.int .i64 y.2.2.2) from fun wq k => ⟨Chg.cellv k e0 hx3, Chg.cellv k e1 hx3, Chg.cellv k e2 hx3, Chg.cellv k e3 hx3⟩)
    have zb := ki.size
    have KI := lH ki
    have OWN := lH (own.nx (Ex.drew (Ex.refl wi)))
    clear hy hc3 e0 e1 e2 e3 own ki
    go_upto_region 5 with fail
    clear b4
    refine wp_region_held_drew (S := Ex w1) (by kernel_rfl) (KI.out.drew) (fun hHeld => ?_)
    refine tkH 0 (v := ?_) rfl (by kernel_rfl) (fun _ _ _ h => h) (by rfl) ?y2x0q1 (by assumption) ?z2x0q1
    case y2x0q1 => intro wq hSw; (go_simp); (try with_reducible rfl)
    refine tkH 1 (v := ?_) rfl (by kernel_rfl) (fun _ _ _ h => h) (by rfl) ?y2x1q4 (by assumption) ?z2x1q4
    case y2x1q4 => intro wq hSw; (go_simp); (try with_reducible rfl)
    refine tkH 2 (v := ?_) rfl (by kernel_rfl) (fun _ _ _ h => h) (by rfl) ?y2x2q7 (by assumption) ?z2x2q7
    case y2x2q7 => intro wq hSw; (have cq := (BH.out.nx hSw).cell 4 _ rfl; go_simp); (try with_reducible rfl)
    refine tkH 3 (v := ?_) rfl (by kernel_rfl) (fun _ _ _ h => h) (by rfl) ?y2x3q10 (by assumption) ?z2x3q10
    case y2x3q10 => intro wq hSw; (go_simp); (try with_reducible rfl)
    refine tkH 4 (v := ?_) rfl (by kernel_rfl) (fun _ _ _ h => h) (by rfl) ?y2x4q13 (by assumption) ?z2x4q13
    case y2x4q13 => intro wq hSw; (go_simp); (try with_reducible rfl)
    refine tkH 5 (v := ?_) rfl (by kernel_rfl) (fun _ _ _ h => h) (by rfl) ?y2x5q16 (by assumption) ?z2x5q16
    case y2x5q16 => intro wq hSw; (go_simp); (try with_reducible rfl)
    refine tkH 6 (v := ?_) rfl (by kernel_rfl) (fun _ _ _ h => h) (by rfl) ?y2x6q19 (by assumption) ?z2x6q19
    case y2x6q19 => intro wq hSw; ((obtain ⟨q0, q1, q2, q3⟩ := E.out _ hSw); go_simp); (try with_reducible rfl)
    refine tkH 7 (v := ?_) rfl (by kernel_rfl) (fun _ _ _ h => h) (by rfl) ?y2x7q22 (by assumption) ?z2x7q22
    case y2x7q22 => intro wq hSw; (go_simp); (try with_reducible rfl)
    refine tkH 8 (v := ?_) rfl (by kernel_rfl) (fun _ _ _ h => h) (by rfl) ?y2x8q25 (by assumption) ?z2x8q25
    case y2x8q25 => intro wq hSw; (have cq := (BH.out.nx hSw).cell 4 _ rfl; go_simp); (try with_reducible rfl)
    refine tkH 9 (v := ?_) rfl (by kernel_rfl) (fun _ _ _ h => h) (by rfl) ?y2x9q28 (by assumption) ?z2x9q28
    case y2x9q28 => intro wq hSw; (go_simp); (try with_reducible rfl)
    refine tkH 10 (v := ?_) rfl (by kernel_rfl) (fun _ _ _ h => h) (by rfl) ?y2x10q31 (by assumption) ?z2x10q31
    case y2x10q31 => intro wq hSw; (go_simp); (try with_reducible rfl)
    refine tkH 11 (v := ?_) rfl (by kernel_rfl) (fun _ _ _ h => h) (by rfl) ?y2x11q34 (by assumption) ?z2x11q34
    case y2x11q34 => intro wq hSw; (go_simp); (try with_reducible rfl)
    refine tkH 12 (v := ?_) rfl (by kernel_rfl) (fun _ _ _ h => h) (by rfl) ?y2x12q37 (by assumption) ?z2x12q37
    case y2x12q37 => intro wq hSw; ((obtain ⟨q0, q1, q2, q3⟩ := E.out _ hSw); go_simp); (try with_reducible rfl)
    refine tkH 13 (v := ?_) rfl (by kernel_rfl) (fun _ _ _ h => h) (by rfl) ?y2x13q40 (by assumption) ?z2x13q40
    case y2x13q40 => intro wq hSw; (go_simp); (try with_reducible rfl)
    refine tkH 14 (v := ?_) rfl (by kernel_rfl) (fun _ _ _ h => h) (by rfl) ?y2x14q43 (by assumption) ?z2x14q43
    case y2x14q43 => intro wq hSw; (have cq := (BH.out.nx hSw).cell 4 _ rfl; go_simp); (try with_reducible rfl)
    refine tkH 15 (v := ?_) rfl (by kernel_rfl) (fun _ _ _ h => h) (by rfl) ?y2x15q46 (by assumption) ?z2x15q46
    case y2x15q46 => intro wq hSw; (go_simp); (try with_reducible rfl)
    refine tkH 16 (v := ?_) rfl (by kernel_rfl) (fun _ _ _ h => h) (by rfl) ?y2x16q49 (by assumption) ?z2x16q49
    case y2x16q49 => intro wq hSw; (go_simp); (try with_reducible rfl)
    refine tkH 17 (v := ?_) rfl (by kernel_rfl) (fun _ _ _ h => h) (by rfl) ?y2x17q52 (by assumption) ?z2x17q52
    case y2x17q52 => intro wq hSw; (go_simp); (try with_reducible rfl)
    refine tkH 18 (v := ?_) rfl (by kernel_rfl) (fun _ _ _ h => h) (by rfl) ?y2x18q55 (by assumption) ?z2x18q55
    case y2x18q55 => intro wq hSw; ((obtain ⟨q0, q1, q2, q3⟩ := E.out _ hSw); go_simp); (try with_reducible rfl)
    refine tkH 19 (v := ?_) rfl (by kernel_rfl) (fun _ _ _ h => h) (by rfl) ?y2x19q58 (by assumption) ?z2x19q58
    case y2x19q58 => intro wq hSw; (go_simp); (try with_reducible rfl)
    refine tkH 20 (v := ?_) rfl (by kernel_rfl) (fun _ _ _ h => h) (by rfl) ?y2x20q61 (by assumption) ?z2x20q61
    case y2x20q61 => intro wq hSw; (have cq := (BH.out.nx hSw).cell 4 _ rfl; go_simp); (try with_reducible rfl)
    refine tkH 21 (v := ?_) rfl (by kernel_rfl) (fun _ _ _ h => h) (by rfl) ?y2x21q64 (by assumption) ?z2x21q64
    case y2x21q64 => intro wq hSw; (go_simp); (try with_reducible rfl)
    refine tkH 22 (v := ?_) rfl (by kernel_rfl) (fun _ _ _ h => h) (by rfl) ?y2x22q67 (by assumption) ?z2x22q67
    case y2x22q67 => intro wq hSw; (go_simp); (try with_reducible rfl)
    refine tkH 23 (v := ?_) rfl (by kernel_rfl) (fun _ _ _ h => h) (by rfl) ?y2x23q70 (by assumption) ?z2x23q70
    case y2x23q70 => intro wq hSw; (go_simp); (try with_reducible rfl)
    refine tkH 24 (v := ?_) rfl (by kernel_rfl) (fun _ _ _ h => h) (by rfl) ?y2x24q73 (by assumption) ?z2x24q73
    case y2x24q73 => intro wq hSw; ((obtain ⟨q0, q1, q2, q3⟩ := E.out _ hSw); go_simp); (try with_reducible rfl)
    refine wpAnyH_ready (rs := [25]) (by kernel_rfl) (by simp) ?_
    refine AllReadyH.cons (o := ⟨_, _, _, _, _, _⟩) rfl (fun K hK => ?_) AllReadyH.nil
    go_simp
    obtain ⟨g8, u8, hg8, hu8, L8, k8, j8⟩ := lit4 hHeld y
    replace OWN := lH (OWN.out.nx k8)
    (first | rw [← hg8, ← hu8] | (rw [show wi.drew.heap.size = wi.heap.size from rfl] at hg8; rw [← hg8, show ∀ o, (wi.alloc o).drew = wi.drew.alloc o from fun _ => rfl, ← hu8]))
    clear hg8 hu8 k8 hHeld
    have hHeld := j8
    clear j8
    refine hK.out _ _ (hHeld) (fun hHeld => ?_)
    clear hK K
    refine wpAnyH_ready (rs := [26]) (by kernel_rfl) (by simp) ?_
    refine AllReadyH.cons (o := ⟨_, _, _, _, _, _⟩) rfl (fun K hK => ?_) AllReadyH.nil
    rw [if_pos (by rfl)]
    have z0 := Ex.size hHeld
    refine wp_append_rd (enc := encI) _ (.tmp 21) (.tmp 46) 22 rfl w1.heap.size 3 (.int .i64 0) 1 8 Tryz.underlying22 Tryz.infoI6 rfl (by omega) (by omega) _ row OWN.out rfl _ _ 4 4 (nums4 y) L8 (fun h => by cases h) (fun _ => rfl) (by simp [encI, Value.oneCell']) rfl (by omega) (by omega) z0 ?_
    intro v9 w9 own9 ch0 ch1
    have j9 : Ex w1 w9 := Chg.trans hHeld ch1
    clear ch0 ch1 z0 L8 hHeld
    have hHeld := j9
    clear j9
    refine hK.out _ _ (hHeld) (fun hHeld => ?_)
    clear hK K
    refine tkH 27 (v := ?_) rfl (by kernel_rfl) (fun _ _ _ h => h) (by rfl) ?y2x27q101 (by assumption) ?z2x27q101
    case y2x27q101 => intro wq hSw; (go_simp); (try with_reducible rfl)
    refine wpAnyH_done (by kernel_rfl) ?_ _
    skip
    go_wp2_with fail
    exact ⟨⟨j + 1, by omega, by go_num, by rw [SN.out]; exact own9, hHeld⟩, by simp [intOf]; omega⟩
   ·obtain rfl : j = n2 := by omega
    rw [List.take_of_length_le (by omega)] at own
    have own := lH (own.base hz1)
    have KE := lH (K1.out.nx ki)
    clear hj hjm ki
    go_wp2_with fail
    go_ret
    exact ⟨_, rfl, by rw [HN.out]; exact own.out, KE.out⟩
theorem nums_len_p (p : Pr) : (numsP p).length = p.known.length + 2 + 4 * p.near.length := by
 unfold numsP
 rw [List.length_append, List.length_append, nums_len]
 rfl
set_option maxRecDepth 100000 in
set_option maxHeartbeats 8000000 in
theorem numbers_q (p : Pr) (a1 : Option Addr) (n1 c1 : Nat) (a2 : Option Addr) (n2 c2 : Nat) (w : World) (h1 : Sl 1 encI w a1 n1 p.known) (h2 : Sl 4 encNr w a2 n2 p.near) (hn1 : n1 ≤ 2000000) (hn2 : n2 ≤ 2000000) :
  Calls Tryz.prog 92 #[.agg #[.int .i64 p.id, .slice a1 n1 c1, .int .i64 p.left, .int .i64 p.right, .slice a2 n2 c2]] w (OiPost (numsP p) w) := by
 obtain ⟨id, lf, rt, kn, nr⟩ := p
 have HN : Hid (numsP ⟨id, lf, rt, kn, nr⟩ = (kn ++ [lf, rt]) ++ nr.flatMap nums4) := lH rfl
 have hkl : kn.length ≤ 2000000 := by have : kn.length = n1 := h1.len; omega
 have hnl : nr.length = n2 := h2.len
 have hw0 := Nat.le_refl w.heap.size
 simp only at h1 h2 ⊢
 have B1 := Blk.new w [.int .i64 id, .slice a1 n1 c1, .int .i64 lf, .int .i64 rt, .slice a2 n2 c2] 41
 have kk := Ex.new w (.cells #[.int .i64 id, .slice a1 n1 c1, .int .i64 lf, .int .i64 rt, .slice a2 n2 c2] 41)
 obtain ⟨w1, hw1⟩ : ∃ w1, w1 = w.alloc (.cells #[.int .i64 id, .slice a1 n1 c1, .int .i64 lf, .int .i64 rt, .slice a2 n2 c2] 41) := ⟨_, rfl⟩
 obtain ⟨g, hg⟩ : ∃ g, g = w.heap.size := ⟨_, rfl⟩
 replace B1 : Blk w1 g [.int .i64 id, .slice a1 n1 c1, .int .i64 lf, .int .i64 rt, .slice a2 n2 c2] 41 := by rw [hw1, hg]; exact B1
 rw [← hw1] at kk
 have Hw1 := lH hw1
 have Hg := lH hg
 replace h1 := h1.nx kk
 replace h2 := h2.nx kk
 have hz1 := kk.size
 have K1 := lH kk
 have S1 := lH h1
 have S2 := lH h2
 clear h1 h2 kk hw1 hg
 go_enter Tryz.func92, Tryz.ntmps92
 go_upto_region 1 with fail
 rw [← Hg.out, ← Hw1.out]
 clear Hg Hw1
 have BH := lH B1
 clear B1
 go_cut [3] from 5 to 14 (fun s3 wx => NmCut (kn ++ [lf, rt]) w1 s3 wx)
 case first =>
  refine wp_region_held_drew (S := Ex w1) (by kernel_rfl) ((Ex.refl w1).drew) (fun hHeld => ?_)
  refine tkH 0 (v := ?_) rfl (by kernel_rfl) (fun _ _ _ h => h) (by rfl) ?y1x0q1 (by assumption) ?z1x0q1
  case y1x0q1 => intro wq hSw; (go_simp); (try with_reducible rfl)
  refine tkH 1 (v := ?_) rfl (by kernel_rfl) (fun _ _ _ h => h) (by rfl) ?y1x1q4 (by assumption) ?z1x1q4
  case y1x1q4 => intro wq hSw; (have cq := (BH.out.nx hSw).cell 1 _ rfl; go_simp); (try with_reducible rfl)
  refine tkH 3 (v := ?_) rfl (by kernel_rfl) (fun _ _ _ h => h) (by rfl) ?y1x3q7 (by assumption) ?z1x3q7
  case y1x3q7 => intro wq hSw; (go_simp); (try with_reducible rfl)
  refine tkH 4 (v := ?_) rfl (by kernel_rfl) (fun _ _ _ h => h) (by rfl) ?y1x4q10 (by assumption) ?z1x4q10
  case y1x4q10 => intro wq hSw; (have cq := (BH.out.nx hSw).cell 2 _ rfl; go_simp); (try with_reducible rfl)
  refine tkH 5 (v := ?_) rfl (by kernel_rfl) (fun _ _ _ h => h) (by rfl) ?y1x5q13 (by assumption) ?z1x5q13
  case y1x5q13 => intro wq hSw; (go_simp); (try with_reducible rfl)
  refine tkH 6 (v := ?_) rfl (by kernel_rfl) (fun _ _ _ h => h) (by rfl) ?y1x6q16 (by assumption) ?z1x6q16
  case y1x6q16 => intro wq hSw; (have cq := (BH.out.nx hSw).cell 3 _ rfl; go_simp); (try with_reducible rfl)
  refine wpAnyH_ready (rs := [2, 7]) (by kernel_rfl) (by simp) ?_
  refine AllReadyH.cons (o := ⟨_, _, _, _, _, _⟩) rfl (fun K hK => ?_) ?_
  ·rw [if_pos (by rfl)]
   have s0 := S1.out.nx hHeld
   have z0 := Ex.size hHeld
   refine wp_append_rq (enc := encI) _ (.const (.slice none 0 0)) (.tmp 6) 22 rfl w1.heap.size 3 (.int .i64 0) 1 8 Tryz.underlying22 Tryz.infoI6 rfl (by omega) (by omega) _ [] (OwnL.nil _ _ _ _ _) rfl _ n1 c1 kn s0 (fun _ => rfl) (by simp [encI, Value.oneCell']) rfl (by simp) (by omega) z0 ?_
   intro v7 w7 own7 ch0 ch1
   have k7 : Ex _ w7 := ch0.mono (fun k hk => ⟨hk, by simp [Value.ownBlock]⟩)
   (try replace L8 := L8.nx k7)
   have j7 : Ex w1 w7 := Chg.trans hHeld ch1
   rw [List.nil_append] at own7
   clear ch0 ch1 s0 z0 k7 hHeld
   have hHeld := j7
   clear j7
   refine hK.out _ _ (hHeld) (fun hHeld => ?_)
   clear hK K
   refine wpAnyH_ready (rs := [7]) (by kernel_rfl) (by simp) ?_
   refine AllReadyH.cons (o := ⟨_, _, _, _, _, _⟩) rfl (fun K hK => ?_) AllReadyH.nil
   go_simp
   obtain ⟨g8, u8, hg8, hu8, L8, k8, j8⟩ := lit2 hHeld lf rt
   (try replace own7 := own7.nx k8)
   (first | rw [← hg8, ← hu8] | (rw [show w1.drew.heap.size = w1.heap.size from rfl] at hg8; rw [← hg8, show ∀ o, (w1.alloc o).drew = w1.drew.alloc o from fun _ => rfl, ← hu8]))
   clear hg8 hu8 k8 hHeld
   have hHeld := j8
   clear j8
   refine hK.out _ _ (hHeld) (fun hHeld => ?_)
   clear hK K
   refine wpAnyH_ready (rs := [8]) (by kernel_rfl) (by simp) ?_
   refine AllReadyH.cons (o := ⟨_, _, _, _, _, _⟩) rfl (fun K hK => ?_) AllReadyH.nil
   rw [if_pos (by rfl)]
   have z0 := Ex.size hHeld
   refine wp_append_rd (enc := encI) _ (.tmp 7) (.tmp 12) 22 rfl w1.heap.size 3 (.int .i64 0) 1 8 Tryz.underlying22 Tryz.infoI6 rfl (by omega) (by omega) _ kn own7 rfl _ _ 2 2 [lf, rt] L8 (fun h => by cases h) (fun _ => rfl) (by simp [encI, Value.oneCell']) rfl (by omega) (by omega) z0 ?_
   intro v9 w9 own9 ch0 ch1
   have j9 : Ex w1 w9 := Chg.trans hHeld ch1
   clear ch0 ch1 z0 own7 L8 hHeld
   have hHeld := j9
   clear j9
   refine hK.out _ _ (hHeld) (fun hHeld => ?_)
   clear hK K
   refine tkH 9 (v := ?_) rfl (by kernel_rfl) (fun _ _ _ h => h) (by rfl) ?y1x9q61 (by assumption) ?z1x9q61
   case y1x9q61 => intro wq hSw; (go_simp); (try with_reducible rfl)
   refine wpAnyH_done (by kernel_rfl) ?_ _
   go_wp2_with fail
   go_meet
   exact ⟨own9, hHeld⟩
  refine AllReadyH.cons (o := ⟨_, _, _, _, _, _⟩) rfl (fun K hK => ?_) AllReadyH.nil
  ·go_simp
   obtain ⟨g8, u8, hg8, hu8, L8, k8, j8⟩ := lit2 hHeld lf rt
   (try replace own7 := own7.nx k8)
   (first | rw [← hg8, ← hu8] | (rw [show w1.drew.heap.size = w1.heap.size from rfl] at hg8; rw [← hg8, show ∀ o, (w1.alloc o).drew = w1.drew.alloc o from fun _ => rfl, ← hu8]))
   clear hg8 hu8 k8 hHeld
   have hHeld := j8
   clear j8
   refine hK.out _ _ (hHeld) (fun hHeld => ?_)
   clear hK K
   refine wpAnyH_ready (rs := [2]) (by kernel_rfl) (by simp) ?_
   refine AllReadyH.cons (o := ⟨_, _, _, _, _, _⟩) rfl (fun K hK => ?_) AllReadyH.nil
   rw [if_pos (by rfl)]
   have s0 := S1.out.nx hHeld
   have z0 := Ex.size hHeld
   refine wp_append_rq (enc := encI) _ (.const (.slice none 0 0)) (.tmp 6) 22 rfl w1.heap.size 3 (.int .i64 0) 1 8 Tryz.underlying22 Tryz.infoI6 rfl (by omega) (by omega) _ [] (OwnL.nil _ _ _ _ _) rfl _ n1 c1 kn s0 (fun _ => rfl) (by simp [encI, Value.oneCell']) rfl (by simp) (by omega) z0 ?_
   intro v7 w7 own7 ch0 ch1
   have k7 : Ex _ w7 := ch0.mono (fun k hk => ⟨hk, by simp [Value.ownBlock]⟩)
   (try replace L8 := L8.nx k7)
   have j7 : Ex w1 w7 := Chg.trans hHeld ch1
   rw [List.nil_append] at own7
   clear ch0 ch1 s0 z0 k7 hHeld
   have hHeld := j7
   clear j7
   refine hK.out _ _ (hHeld) (fun hHeld => ?_)
   clear hK K
   refine wpAnyH_ready (rs := [8]) (by kernel_rfl) (by simp) ?_
   refine AllReadyH.cons (o := ⟨_, _, _, _, _, _⟩) rfl (fun K hK => ?_) AllReadyH.nil
   rw [if_pos (by rfl)]
   have z0 := Ex.size hHeld
   refine wp_append_rd (enc := encI) _ (.tmp 7) (.tmp 12) 22 rfl w1.heap.size 3 (.int .i64 0) 1 8 Tryz.underlying22 Tryz.infoI6 rfl (by omega) (by omega) _ kn own7 rfl _ _ 2 2 [lf, rt] L8 (fun h => by cases h) (fun _ => rfl) (by simp [encI, Value.oneCell']) rfl (by omega) (by omega) z0 ?_
   intro v9 w9 own9 ch0 ch1
   have j9 : Ex w1 w9 := Chg.trans hHeld ch1
   clear ch0 ch1 z0 own7 L8 hHeld
   have hHeld := j9
   clear j9
   refine hK.out _ _ (hHeld) (fun hHeld => ?_)
   clear hK K
   refine tkH 9 (v := ?_) rfl (by kernel_rfl) (fun _ _ _ h => h) (by rfl) ?y1x9q107 (by assumption) ?z1x9q107
   case y1x9q107 => intro wq hSw; (go_simp); (try with_reducible rfl)
   refine wpAnyH_done (by kernel_rfl) ?_ _
   go_wp2_with fail
   go_meet
   exact ⟨own9, hHeld⟩
 case rest =>
  obtain ⟨own, kk⟩ := hcut
  have hl0 : (kn ++ [lf, rt]).length ≤ 2000002 := by simp; omega
  generalize kn ++ [lf, rt] = l0 at own HN hl0
  have OWN := lH own
  have KC := lH kk
  clear own kk
  go_wp2_with fail
  go_loopw [3, 4] (fun o i wr => NmRel l0 nr w1 o i wr) (fun _ i _ => nr.length - (intOf i).toNat)
  case atStart => exact ⟨0, by omega, rfl, by simpa using OWN.out, KC.out⟩
  case round =>
   obtain ⟨j, hj, rfl, own, ki⟩ := hrel
   obtain ⟨wi, rfl⟩ : ∃ wi : World, wi = wr := ⟨_, rfl⟩
   have b4 := (BH.out.nx ki).cell 4 _ rfl
   by_cases hjm : j < n2
   ·obtain ⟨x3, o3, y, rfl, hx3, hy, hc3⟩ := S2.out.at hjm
    have e0 : w1.cell? ⟨x3, o3 + j * 4, none⟩ = some (.int .i64 y.1) := hc3 0 _ rfl
    have e1 : w1.cell? ⟨x3, o3 + j * 4 + 1, none⟩ = some (.int .i64 y.2.1) := hc3 1 _ rfl
    have e2 : w1.cell? ⟨x3, o3 + j * 4 + 2, none⟩ = some (.int .i64 y.2.2.1) := hc3 2 _ rfl
    have e3 : w1.cell? ⟨x3, o3 + j * 4 + 3, none⟩ = some (.int .i64 y.2.2.2) := hc3 3 _ rfl
    have SN := lH (nm_snoc (l0 := l0) hy)
    have hrl : (l0 ++ (nr.take j).flatMap nums4).length ≤ 50000000 := by
     rw [List.length_append, nums_len, List.length_take]
     omega
    generalize l0 ++ (nr.take j).flatMap nums4 = row at own SN hrl
    have E := lH (show ∀ wq, Ex w1 wq → wq.cell? ⟨x3, o3 + j * 4, none⟩ = some (.int .i64 y.1) ∧ wq.cell? ⟨x3, o3 + j * 4 + 1, none⟩ = some (.int .i64 y.2.1) ∧ wq.cell? ⟨x3, o3 + j * 4 + 2, none⟩ = some (.int .i64 y.2.2.1) ∧ wq.cell? ⟨x3, o3 + j * 4 + 3, none⟩ = some (.int .i64 y.2.2.2) from fun wq k => ⟨Chg.cellv k e0 hx3, Chg.cellv k e1 hx3, Chg.cellv k e2 hx3, Chg.cellv k e3 hx3⟩)
    have zb := ki.size
    have KI := lH ki
    have OWN := lH (own.nx (Ex.drew (Ex.refl wi)))
    clear hy hc3 e0 e1 e2 e3 own ki
    go_upto_region 5 with fail
    clear b4
    refine wp_region_held_drew (S := Ex w1) (by kernel_rfl) (KI.out.drew) (fun hHeld => ?_)
    refine tkH 0 (v := ?_) rfl (by kernel_rfl) (fun _ _ _ h => h) (by rfl) ?y2x0q1 (by assumption) ?z2x0q1
    case y2x0q1 => intro wq hSw; (go_simp); (try with_reducible rfl)
    refine tkH 1 (v := ?_) rfl (by kernel_rfl) (fun _ _ _ h => h) (by rfl) ?y2x1q4 (by assumption) ?z2x1q4
    case y2x1q4 => intro wq hSw; (go_simp); (try with_reducible rfl)
    refine tkH 2 (v := ?_) rfl (by kernel_rfl) (fun _ _ _ h => h) (by rfl) ?y2x2q7 (by assumption) ?z2x2q7
    case y2x2q7 => intro wq hSw; (have cq := (BH.out.nx hSw).cell 4 _ rfl; go_simp); (try with_reducible rfl)
    refine tkH 3 (v := ?_) rfl (by kernel_rfl) (fun _ _ _ h => h) (by rfl) ?y2x3q10 (by assumption) ?z2x3q10
    case y2x3q10 => intro wq hSw; (go_simp); (try with_reducible rfl)
    refine tkH 4 (v := ?_) rfl (by kernel_rfl) (fun _ _ _ h => h) (by rfl) ?y2x4q13 (by assumption) ?z2x4q13
    case y2x4q13 => intro wq hSw; (go_simp); (try with_reducible rfl)
    refine tkH 5 (v := ?_) rfl (by kernel_rfl) (fun _ _ _ h => h) (by rfl) ?y2x5q16 (by assumption) ?z2x5q16
    case y2x5q16 => intro wq hSw; (go_simp); (try with_reducible rfl)
    refine tkH 6 (v := ?_) rfl (by kernel_rfl) (fun _ _ _ h => h) (by rfl) ?y2x6q19 (by assumption) ?z2x6q19
    case y2x6q19 => intro wq hSw; ((obtain ⟨q0, q1, q2, q3⟩ := E.out _ hSw); go_simp); (try with_reducible rfl)
    refine tkH 7 (v := ?_) rfl (by kernel_rfl) (fun _ _ _ h => h) (by rfl) ?y2x7q22 (by assumption) ?z2x7q22
    case y2x7q22 => intro wq hSw; (go_simp); (try with_reducible rfl)
    refine tkH 8 (v := ?_) rfl (by kernel_rfl) (fun _ _ _ h => h) (by rfl) ?y2x8q25 (by assumption) ?z2x8q25
    case y2x8q25 => intro wq hSw; (have cq := (BH.out.nx hSw).cell 4 _ rfl; go_simp); (try with_reducible rfl)
    refine tkH 9 (v := ?_) rfl (by kernel_rfl) (fun _ _ _ h => h) (by rfl) ?y2x9q28 (by assumption) ?z2x9q28
    case y2x9q28 => intro wq hSw; (go_simp); (try with_reducible rfl)
    refine tkH 10 (v := ?_) rfl (by kernel_rfl) (fun _ _ _ h => h) (by rfl) ?y2x10q31 (by assumption) ?z2x10q31
    case y2x10q31 => intro wq hSw; (go_simp); (try with_reducible rfl)
    refine tkH 11 (v := ?_) rfl (by kernel_rfl) (fun _ _ _ h => h) (by rfl) ?y2x11q34 (by assumption) ?z2x11q34
    case y2x11q34 => intro wq hSw; (go_simp); (try with_reducible rfl)
    refine tkH 12 (v := ?_) rfl (by kernel_rfl) (fun _ _ _ h => h) (by rfl) ?y2x12q37 (by assumption) ?z2x12q37
    case y2x12q37 => intro wq hSw; ((obtain ⟨q0, q1, q2, q3⟩ := E.out _ hSw); go_simp); (try with_reducible rfl)
    refine tkH 13 (v := ?_) rfl (by kernel_rfl) (fun _ _ _ h => h) (by rfl) ?y2x13q40 (by assumption) ?z2x13q40
    case y2x13q40 => intro wq hSw; (go_simp); (try with_reducible rfl)
    refine tkH 14 (v := ?_) rfl (by kernel_rfl) (fun _ _ _ h => h) (by rfl) ?y2x14q43 (by assumption) ?z2x14q43
    case y2x14q43 => intro wq hSw; (have cq := (BH.out.nx hSw).cell 4 _ rfl; go_simp); (try with_reducible rfl)
    refine tkH 15 (v := ?_) rfl (by kernel_rfl) (fun _ _ _ h => h) (by rfl) ?y2x15q46 (by assumption) ?z2x15q46
    case y2x15q46 => intro wq hSw; (go_simp); (try with_reducible rfl)
    refine tkH 16 (v := ?_) rfl (by kernel_rfl) (fun _ _ _ h => h) (by rfl) ?y2x16q49 (by assumption) ?z2x16q49
    case y2x16q49 => intro wq hSw; (go_simp); (try with_reducible rfl)
    refine tkH 17 (v := ?_) rfl (by kernel_rfl) (fun _ _ _ h => h) (by rfl) ?y2x17q52 (by assumption) ?z2x17q52
    case y2x17q52 => intro wq hSw; (go_simp); (try with_reducible rfl)
    refine tkH 18 (v := ?_) rfl (by kernel_rfl) (fun _ _ _ h => h) (by rfl) ?y2x18q55 (by assumption) ?z2x18q55
    case y2x18q55 => intro wq hSw; ((obtain ⟨q0, q1, q2, q3⟩ := E.out _ hSw); go_simp); (try with_reducible rfl)
    refine tkH 19 (v := ?_) rfl (by kernel_rfl) (fun _ _ _ h => h) (by rfl) ?y2x19q58 (by assumption) ?z2x19q58
    case y2x19q58 => intro wq hSw; (go_simp); (try with_reducible rfl)
    refine tkH 20 (v := ?_) rfl (by kernel_rfl) (fun _ _ _ h => h) (by rfl) ?y2x20q61 (by assumption) ?z2x20q61
    case y2x20q61 => intro wq hSw; (have cq := (BH.out.nx hSw).cell 4 _ rfl; go_simp); (try with_reducible rfl)
    refine tkH 21 (v := ?_) rfl (by kernel_rfl) (fun _ _ _ h => h) (by rfl) ?y2x21q64 (by assumption) ?z2x21q64
    case y2x21q64 => intro wq hSw; (go_simp); (try with_reducible rfl)
    refine tkH 22 (v := ?_) rfl (by kernel_rfl) (fun _ _ _ h => h) (by rfl) ?y2x22q67 (by assumption) ?z2x22q67
    case y2x22q67 => intro wq hSw; (go_simp); (try with_reducible rfl)
    refine tkH 23 (v := ?_) rfl (by kernel_rfl) (fun _ _ _ h => h) (by rfl) ?y2x23q70 (by assumption) ?z2x23q70
    case y2x23q70 => intro wq hSw; (go_simp); (try with_reducible rfl)
    refine tkH 24 (v := ?_) rfl (by kernel_rfl) (fun _ _ _ h => h) (by rfl) ?y2x24q73 (by assumption) ?z2x24q73
    case y2x24q73 => intro wq hSw; ((obtain ⟨q0, q1, q2, q3⟩ := E.out _ hSw); go_simp); (try with_reducible rfl)
    refine wpAnyH_ready (rs := [25]) (by kernel_rfl) (by simp) ?_
    refine AllReadyH.cons (o := ⟨_, _, _, _, _, _⟩) rfl (fun K hK => ?_) AllReadyH.nil
    go_simp
    obtain ⟨g8, u8, hg8, hu8, L8, k8, j8⟩ := lit4 hHeld y
    replace OWN := lH (OWN.out.nx k8)
    (first | rw [← hg8, ← hu8] | (rw [show wi.drew.heap.size = wi.heap.size from rfl] at hg8; rw [← hg8, show ∀ o, (wi.alloc o).drew = wi.drew.alloc o from fun _ => rfl, ← hu8]))
    clear hg8 hu8 k8 hHeld
    have hHeld := j8
    clear j8
    refine hK.out _ _ (hHeld) (fun hHeld => ?_)
    clear hK K
    refine wpAnyH_ready (rs := [26]) (by kernel_rfl) (by simp) ?_
    refine AllReadyH.cons (o := ⟨_, _, _, _, _, _⟩) rfl (fun K hK => ?_) AllReadyH.nil
    rw [if_pos (by rfl)]
    have z0 := Ex.size hHeld
    refine wp_append_rd (enc := encI) _ (.tmp 21) (.tmp 46) 22 rfl w1.heap.size 3 (.int .i64 0) 1 8 Tryz.underlying22 Tryz.infoI6 rfl (by omega) (by omega) _ row OWN.out rfl _ _ 4 4 (nums4 y) L8 (fun h => by cases h) (fun _ => rfl) (by simp [encI, Value.oneCell']) rfl (by omega) (by omega) z0 ?_
    intro v9 w9 own9 ch0 ch1
    have j9 : Ex w1 w9 := Chg.trans hHeld ch1
    clear ch0 ch1 z0 L8 hHeld
    have hHeld := j9
    clear j9
    refine hK.out _ _ (hHeld) (fun hHeld => ?_)
    clear hK K
    refine tkH 27 (v := ?_) rfl (by kernel_rfl) (fun _ _ _ h => h) (by rfl) ?y2x27q101 (by assumption) ?z2x27q101
    case y2x27q101 => intro wq hSw; (go_simp); (try with_reducible rfl)
    refine wpAnyH_done (by kernel_rfl) ?_ _
    skip
    go_wp2_with fail
    exact ⟨⟨j + 1, by omega, by go_num, by rw [SN.out]; exact own9, hHeld⟩, by simp [intOf]; omega⟩
   ·obtain rfl : j = n2 := by omega
    rw [List.take_of_length_le (by omega)] at own
    have own := lH (own.base hz1)
    have KE := lH (K1.out.nx ki)
    clear hj hjm ki
    go_wp2_with fail
    go_ret
    exact ⟨_, rfl, by rw [HN.out]; exact own.out, KE.out⟩
set_option maxRecDepth 100000 in
set_option maxHeartbeats 4000000 in
theorem refs_q (a : Option Addr) (n c : Nat) (N : List Nd) (p : Pr) (a1 : Option Addr) (n1 c1 : Nat) (a2 : Option Addr) (n2 c2 : Nat) (w : World) (h : Sl 3 encN w a n N) (hn : n ≤ 1000) (h1 : Sl 1 encI w a1 n1 p.known) (h2 : Sl 4 encNr w a2 n2 p.near) (hn1 : n1 ≤ 2000000) (hn2 : n2 ≤ 2000000) :
  Calls Tryz.prog 157 #[.slice a n c, .agg #[.int .i64 p.id, .slice a1 n1 c1, .int .i64 p.left, .int .i64 p.right, .slice a2 n2 c2]] w (OiPost (refsN N p) w) := by
 have EX := Ex.refl w
 have hl1 : p.known.length = n1 := h1.len
 have hl2 : p.near.length = n2 := h2.len
 have HNL := lH (nums_len_p p)
 have B3 := Blk.new w [.int .i64 p.id, .slice a1 n1 c1, .int .i64 p.left, .int .i64 p.right, .slice a2 n2 c2] 41
 have kk := Ex.new w (.cells #[.int .i64 p.id, .slice a1 n1 c1, .int .i64 p.left, .int .i64 p.right, .slice a2 n2 c2] 41)
 obtain ⟨w1, hw1⟩ : ∃ w1, w1 = w.alloc (.cells #[.int .i64 p.id, .slice a1 n1 c1, .int .i64 p.left, .int .i64 p.right, .slice a2 n2 c2] 41) := ⟨_, rfl⟩
 obtain ⟨g3, hg3⟩ : ∃ g3, g3 = w.heap.size := ⟨_, rfl⟩
 replace B3 : Blk w1 g3 [.int .i64 p.id, .slice a1 n1 c1, .int .i64 p.left, .int .i64 p.right, .slice a2 n2 c2] 41 := by rw [hw1, hg3]; exact B3
 rw [← hw1] at kk
 have Hw1 := lH hw1
 have Hg3 := lH hg3
 replace h := h.nx kk
 replace h1 := h1.nx kk
 replace h2 := h2.nx kk
 replace EX := EX.nx kk
 clear kk hw1 hg3
 go_enter Tryz.func157, Tryz.ntmps157
 go_upto_region 1 with fail
 rw [← Hg3.out, ← Hw1.out]
 clear Hg3 Hw1
 go_wp2_with fail
 (with_reducible refine (is_r _ _ _ _ _ h (by omega)).mono ?_)
 rintro e w2 ⟨rfl, kk⟩
 replace h := h.nx kk
 replace h1 := h1.nx kk
 replace h2 := h2.nx kk
 replace EX := EX.nx kk
 replace B3 := B3.nx kk
 clear kk
 by_cases hck : checkN N = 0
 case neg =>
  have d1 : (checkN N == 0) = false := by simpa using hck
  have E0 : Hid (refsN N p = []) := lH (by unfold refsN; rw [if_neg hck])
  rw [d1]
  clear h h1 h2 hck B3
  go_wp2_with fail
  go_ret
  exact ⟨_, rfl, by rw [E0.out]; exact OwnL.nil _ _ _ _ _, EX⟩
 have d1 : (checkN N == 0) = true := by simpa using hck
 have E0 : Hid (refsN N p = ordN N (numsP p) p.id) := lH (by unfold refsN; rw [if_pos hck])
 rw [d1]
 clear hck d1
 have HB := lH B3
 have HN := lH h
 have H1 := lH h1
 have H2 := lH h2
 have EXH := lH EX
 clear B3 h h1 h2 EX
 go_upto_region 3 with fail
 refine wp_region_held_drew (S := Ex w2) (by kernel_rfl) ((Ex.refl w2).drew) (fun hHeld => ?_)
 refine tkH 0 (v := ?_) rfl (by kernel_rfl) (fun _ _ _ h => h) (by rfl) ?y3x0q1 (by assumption) ?z3x0q1
 case y3x0q1 => intro wq hSw; (go_simp); (try with_reducible rfl)
 refine tkH 1 (v := ?_) rfl (by kernel_rfl) (fun _ _ _ h => h) (by rfl) ?y3x1q4 (by assumption) ?z3x1q4
 case y3x1q4 => intro wq hSw; (have B := HB.out.nx hSw; have c0 := B.cell 0 _ rfl; have c1 := B.cell 1 _ rfl; have c2 := B.cell 2 _ rfl; have c3 := B.cell 3 _ rfl; have c4 := B.cell 4 _ rfl; go_simp); (try with_reducible rfl)
 refine tkH 3 (v := ?_) rfl (by kernel_rfl) (fun _ _ _ h => h) (by rfl) ?y3x3q7 (by assumption) ?z3x3q7
 case y3x3q7 => intro wq hSw; (go_simp); (try with_reducible rfl)
 refine tkH 4 (v := ?_) rfl (by kernel_rfl) (fun _ _ _ h => h) (by rfl) ?y3x4q10 (by assumption) ?z3x4q10
 case y3x4q10 => intro wq hSw; (have c0 := (HB.out.nx hSw).cell 0 _ rfl; go_simp); (try with_reducible rfl)
 refine wpAnyH_ready (rs := [2]) (by kernel_rfl) (by simp) ?_
 refine AllReadyH.cons (o := ⟨_, _, _, _, _, _⟩) rfl (fun K hK => ?_) AllReadyH.nil
 go_simp
 (with_reducible refine (numbers_q p _ _ _ _ _ _ _ (H1.out.nx hHeld) (H2.out.nx hHeld) hn1 hn2).mono ?_)
 rintro e w5 ⟨v5, rfl, own5, kk⟩
 obtain ⟨A5, C5, rfl, sl5, _, _, _⟩ := own5.slf (fun _ => rfl)
 have sl5 := lH sl5.sl
 replace hHeld := hHeld.nx kk
 clear kk own5
 refine hK.out _ _ (hHeld) (fun hHeld => ?_)
 clear hK K
 refine wpAnyH_ready (rs := [5]) (by kernel_rfl) (by simp) ?_
 refine AllReadyH.cons (o := ⟨_, _, _, _, _, _⟩) rfl (fun K hK => ?_) AllReadyH.nil
 go_simp
 (with_reducible refine (ordered_r _ _ _ N _ _ _ (numsP p) p.id _ (HN.out.nx hHeld) hn sl5.out (by rw [HNL.out]; omega)).mono ?_)
 rintro e w6 ⟨v6, rfl, own6, kk⟩
 have own6 := lH (own6.base (EXH.out.nx hHeld).size)
 replace hHeld := hHeld.nx kk
 clear kk
 refine hK.out _ _ (hHeld) (fun hHeld => ?_)
 clear hK K
 refine tkH 6 (v := ?_) rfl (by kernel_rfl) (fun _ _ _ h => h) (by rfl) ?y3x6q36 (by assumption) ?z3x6q36
 case y3x6q36 => intro wq hSw; (go_simp); (try with_reducible rfl)
 refine wpAnyH_done (by kernel_rfl) ?_ _
 have KE := lH (EXH.out.nx hHeld)
 clear hHeld
 go_wp2_with fail
 go_ret
 exact ⟨_, rfl, by rw [E0.out]; exact own6.out, KE.out⟩
theorem refs_leN (N : List Nd) (p : Pr) : (refsN N p).length ≤ N.length := by
 unfold refsN
 split
 ·exact ord_len _ _
 ·exact Nat.zero_le _
theorem ar_yes {N : List Nd} {p : Pr} (h : (findN N p.id).2 = true ∧ checkN N = 0) : arN N p = ordN N (refsN N p ++ [p.id]) 0 := by unfold arN; rw [if_pos h]
theorem litIr {w0 u : World} (_ : Ex w0 u) (x : Int) : ∃ g v, g = u.heap.size ∧ v = u.alloc (.cells #[.int .i64 x] 3) ∧ Sl 1 encI v (some ⟨g, 0, none⟩) 1 [x] ∧ Ex u v :=
 ⟨_, _, rfl, rfl, Sl.lit [x] rfl rfl (fun _ => rfl) rfl, Ex.new _ _⟩
set_option maxRecDepth 100000 in
set_option maxHeartbeats 4000000 in
theorem around_r (a : Option Addr) (n c : Nat) (N : List Nd) (p : Pr) (a1 : Option Addr) (n1 c1 : Nat) (a2 : Option Addr) (n2 c2 : Nat) (w : World) (h : Sl 3 encN w a n N) (hn : n ≤ 1000) (h1 : Sl 1 encI w a1 n1 p.known) (h2 : Sl 4 encNr w a2 n2 p.near) (hn1 : n1 ≤ 2000000) (hn2 : n2 ≤ 2000000) :
  Calls Tryz.prog 137 #[.slice a n c, .agg #[.int .i64 p.id, .slice a1 n1 c1, .int .i64 p.left, .int .i64 p.right, .slice a2 n2 c2]] w (OiPost (arN N p) w) := by
 have EX := Ex.refl w
 have HL := lH h.len
 have B3 := Blk.new w [.int .i64 p.id, .slice a1 n1 c1, .int .i64 p.left, .int .i64 p.right, .slice a2 n2 c2] 41
 have kk := Ex.new w (.cells #[.int .i64 p.id, .slice a1 n1 c1, .int .i64 p.left, .int .i64 p.right, .slice a2 n2 c2] 41)
 obtain ⟨w1, hw1⟩ : ∃ w1, w1 = w.alloc (.cells #[.int .i64 p.id, .slice a1 n1 c1, .int .i64 p.left, .int .i64 p.right, .slice a2 n2 c2] 41) := ⟨_, rfl⟩
 obtain ⟨g3, hg3⟩ : ∃ g3, g3 = w.heap.size := ⟨_, rfl⟩
 replace B3 : Blk w1 g3 [.int .i64 p.id, .slice a1 n1 c1, .int .i64 p.left, .int .i64 p.right, .slice a2 n2 c2] 41 := by rw [hw1, hg3]; exact B3
 rw [← hw1] at kk
 have Hw1 := lH hw1
 have Hg3 := lH hg3
 replace h := h.nx kk
 replace h1 := h1.nx kk
 replace h2 := h2.nx kk
 replace EX := EX.nx kk
 clear kk hw1 hg3
 go_enter Tryz.func137, Tryz.ntmps137
 go_upto_region 1 with fail
 rw [← Hg3.out, ← Hw1.out]
 clear Hg3 Hw1
 have q0 := B3.cell 0 _ rfl
 go_wp2_with fail
 (with_reducible refine (find_r _ _ _ N p.id _ h (by omega)).mono ?_)
 rintro e w2 ⟨rfl, kk⟩
 replace h := h.nx kk
 replace h1 := h1.nx kk
 replace h2 := h2.nx kk
 replace EX := EX.nx kk
 replace B3 := B3.nx kk
 clear kk
 clear q0
 have HNO := lH (ar_no (N := N) (p := p))
 have HYE := lH (ar_yes (N := N) (p := p))
 obtain ⟨F, hF⟩ : ∃ F, F = findN N p.id := ⟨_, rfl⟩
 rw [← hF] at HNO HYE ⊢
 clear hF
 obtain ⟨⟨xi, xk, xw⟩, ok⟩ := F
 have B5 := Blk.new w2 [.int .i64 xi, .string xk, .int .u32 xw] 56
 have kk := Ex.new w2 (.cells #[.int .i64 xi, .string xk, .int .u32 xw] 56)
 obtain ⟨w3, hw3⟩ : ∃ w3, w3 = w2.alloc (.cells #[.int .i64 xi, .string xk, .int .u32 xw] 56) := ⟨_, rfl⟩
 obtain ⟨g5, hg5⟩ : ∃ g5, g5 = w2.heap.size := ⟨_, rfl⟩
 replace B5 : Blk w3 g5 [.int .i64 xi, .string xk, .int .u32 xw] 56 := by rw [hw3, hg5]; exact B5
 rw [← hw3] at kk
 have Hw3 := lH hw3
 have Hg5 := lH hg5
 replace h := h.nx kk
 replace h1 := h1.nx kk
 replace h2 := h2.nx kk
 replace EX := EX.nx kk
 replace B3 := B3.nx kk
 clear kk hw3 hg5
 simp only [Nd.val]
 go_upto_region 2 with fail
 rw [← Hg5.out, ← Hw3.out]
 clear Hg5 Hw3
 clear B5
 cases ok with
 | false =>
  have E0 : Hid (arN N p = []) := lH (HNO.out (fun hh => by cases hh.1))
  have EX := lH EX
  clear h h1 h2 B3
  go_wp2_with fail
  go_ret
  exact ⟨_, rfl, by rw [E0.out]; exact OwnL.nil _ _ _ _ _, EX.out⟩
 | true =>
  go_wp2_with fail
  (with_reducible refine (is_r _ _ _ N _ h (by omega)).mono ?_)
  rintro e w4 ⟨rfl, kk⟩
  replace h := h.nx kk
  replace h1 := h1.nx kk
  replace h2 := h2.nx kk
  replace EX := EX.nx kk
  replace B3 := B3.nx kk
  clear kk
  cases hck : (checkN N == 0) with
  | false =>
   have E0 : Hid (arN N p = []) := lH (HNO.out (fun hh => by rw [hh.2] at hck; cases hck))
   have EX := lH EX
   clear h h1 h2 B3 hck
   go_wp2_with fail
   go_ret
   exact ⟨_, rfl, by rw [E0.out]; exact OwnL.nil _ _ _ _ _, EX.out⟩
  | true =>
   have E0 : Hid (arN N p = ordN N (refsN N p ++ [p.id]) 0) := lH (HYE.out ⟨trivial, by simpa using hck⟩)
   have HRL : Hid ((refsN N p).length ≤ 1000) := lH (Nat.le_trans (refs_leN N p) (by have := HL.out; omega))
   have HN := lH h
   have H1 := lH h1
   have H2 := lH h2
   have HB := lH B3
   have EXH := lH EX
   have z4 := EX.size
   clear h h1 h2 B3 EX hck HNO HYE
   go_upto_region 4 with fail
   refine wp_region_held_drew (S := Ex w4) (by kernel_rfl) ((Ex.refl w4).drew) (fun hHeld => ?_)
   obtain ⟨wd, hwdx⟩ : ∃ wd : World, wd = World.drew w4 := ⟨_, rfl⟩
   rw [← hwdx] at hHeld ⊢
   have hDrew : Ex w4 wd := by rw [hwdx]; exact (Ex.refl w4).drew
   clear hwdx
   refine tkH 0 (v := ?_) rfl (by kernel_rfl) (fun _ _ _ h => h) (by rfl) ?y1x0q5 (by assumption) ?z1x0q5
   case y1x0q5 => intro wq hSw; (go_simp); (try with_reducible rfl)
   refine tkH 1 (v := ?_) rfl (by kernel_rfl) (fun _ _ _ h => h) (by rfl) ?y1x1q8 (by assumption) ?z1x1q8
   case y1x1q8 => intro wq hSw; (go_simp); (try with_reducible rfl)
   refine tkH 2 (v := ?_) rfl (by kernel_rfl) (fun _ _ _ h => h) (by rfl) ?y1x2q11 (by assumption) ?z1x2q11
   case y1x2q11 => intro wq hSw; (have B := HB.out.nx hSw; have c0 := B.cell 0 _ rfl; have c1 := B.cell 1 _ rfl; have c2 := B.cell 2 _ rfl; have c3 := B.cell 3 _ rfl; have c4 := B.cell 4 _ rfl; go_simp); (try with_reducible rfl)
   refine tkH 4 (v := ?_) rfl (by kernel_rfl) (fun _ _ _ h => h) (by rfl) ?y1x4q14 (by assumption) ?z1x4q14
   case y1x4q14 => intro wq hSw; (go_simp); (try with_reducible rfl)
   refine tkH 5 (v := ?_) rfl (by kernel_rfl) (fun _ _ _ h => h) (by rfl) ?y1x5q17 (by assumption) ?z1x5q17
   case y1x5q17 => intro wq hSw; (have c0 := (HB.out.nx hSw).cell 0 _ rfl; go_simp); (try with_reducible rfl)
   refine wpAnyH_ready (rs := [3, 6]) (by kernel_rfl) (by simp) ?_
   refine AllReadyH.cons (o := ⟨_, _, _, _, _, _⟩) rfl (fun K hK => ?_) ?_
   ·go_simp
    (with_reducible refine (refs_q _ _ _ N p _ _ _ _ _ _ _ (HN.out.nx hHeld) hn (H1.out.nx hHeld) (H2.out.nx hHeld) hn1 hn2).mono ?_)
    rintro e wz ⟨v5, rfl, own5, kk⟩
    replace own5 := own5.base hHeld.size
    (try replace SX := SX.nx kk)
    replace hHeld := hHeld.nx kk
    clear kk
    refine hK.out _ _ (hHeld) (fun hHeld => ?_)
    clear hK K
    refine wpAnyH_ready (rs := [6]) (by kernel_rfl) (by simp) ?_
    refine AllReadyH.cons (o := ⟨_, _, _, _, _, _⟩) rfl (fun K hK => ?_) AllReadyH.nil
    go_simp
    obtain ⟨g8, wz, hg8, hwz, SX, kk⟩ := litIr hHeld p.id
    rw [← hg8, ← hwz]
    (try replace own5 := own5.nx kk)
    replace hHeld := hHeld.nx kk
    clear hg8 hwz kk
    refine hK.out _ _ (hHeld) (fun hHeld => ?_)
    clear hK K
    refine wpAnyH_ready (rs := [7]) (by kernel_rfl) (by simp) ?_
    refine AllReadyH.cons (o := ⟨_, _, _, _, _, _⟩) rfl (fun K hK => ?_) AllReadyH.nil
    rw [if_pos (by rfl)]
    have zq := hHeld.size
    have hrl := HRL.out
    refine wp_append_rd (enc := encI) _ (.tmp 24) (.tmp 27) 22 rfl w4.heap.size 3 (.int .i64 0) 1 8 Tryz.underlying22 Tryz.infoI6 rfl (by omega) (by omega) _ _ own5 rfl _ _ 1 1 [p.id] SX (fun h => by cases h) (fun _ => rfl) (by simp [encI, Value.oneCell']) rfl (by omega) (by omega) zq ?_
    intro v9 wy own9 ch0 ch1
    replace hHeld : Ex w4 wy := Chg.trans hHeld ch1
    obtain ⟨A9, C9, rfl, R9, _⟩ := own9.rd (fun _ => rfl)
    have S9 : Sl 1 encI wy A9 ((refsN N p).length + 1) (refsN N p ++ [p.id]) := by {have hx := Rd.mono R9 (S' := fun k => k < wy.heap.size) (fun _ hk => hk.2); rw [List.length_append, List.length_singleton] at hx; exact hx}
    clear own9 R9 ch0 ch1 zq SX own5
    refine hK.out _ _ (hHeld) (fun hHeld => ?_)
    clear hK K
    refine wpAnyH_ready (rs := [8]) (by kernel_rfl) (by simp) ?_
    refine AllReadyH.cons (o := ⟨_, _, _, _, _, _⟩) rfl (fun K hK => ?_) AllReadyH.nil
    go_simp
    (with_reducible refine (ordered_r _ _ _ N _ _ _ (refsN N p ++ [p.id]) 0 _ (HN.out.nx hHeld) hn S9 (by have := HRL.out; omega)).mono ?_)
    rintro e wx ⟨v6, rfl, own6, kk⟩
    replace own6 := own6.base (Nat.le_trans z4 hHeld.size)
    replace hHeld := hHeld.nx kk
    clear kk S9
    refine hK.out _ _ (hHeld) (fun hHeld => ?_)
    clear hK K
    refine tkH 9 (v := ?_) rfl (by kernel_rfl) (fun _ _ _ h => h) (by rfl) ?y1x9q68 (by assumption) ?z1x9q68
    case y1x9q68 => intro wq hSw; (go_simp); (try with_reducible rfl)
    refine wpAnyH_done (by kernel_rfl) ?_ _
    have KE := lH (EXH.out.nx hHeld)
    have OW6 := lH own6
    clear hHeld own6
    go_wp2_with fail
    go_ret
    exact ⟨_, rfl, by rw [E0.out]; exact OW6.out, KE.out⟩
   refine AllReadyH.cons (o := ⟨_, _, _, _, _, _⟩) rfl (fun K hK => ?_) AllReadyH.nil
   ·go_simp
    obtain ⟨g8, wz, hg8, hwz, SX, kk⟩ := litIr hHeld p.id
    rw [← hg8, ← hwz]
    (try replace own5 := own5.nx kk)
    replace hHeld := hHeld.nx kk
    clear hg8 hwz kk
    refine hK.out _ _ (hHeld) (fun hHeld => ?_)
    clear hK K
    refine wpAnyH_ready (rs := [3]) (by kernel_rfl) (by simp) ?_
    refine AllReadyH.cons (o := ⟨_, _, _, _, _, _⟩) rfl (fun K hK => ?_) AllReadyH.nil
    go_simp
    (with_reducible refine (refs_q _ _ _ N p _ _ _ _ _ _ _ (HN.out.nx hHeld) hn (H1.out.nx hHeld) (H2.out.nx hHeld) hn1 hn2).mono ?_)
    rintro e wz ⟨v5, rfl, own5, kk⟩
    replace own5 := own5.base hHeld.size
    (try replace SX := SX.nx kk)
    replace hHeld := hHeld.nx kk
    clear kk
    refine hK.out _ _ (hHeld) (fun hHeld => ?_)
    clear hK K
    refine wpAnyH_ready (rs := [7]) (by kernel_rfl) (by simp) ?_
    refine AllReadyH.cons (o := ⟨_, _, _, _, _, _⟩) rfl (fun K hK => ?_) AllReadyH.nil
    rw [if_pos (by rfl)]
    have zq := hHeld.size
    have hrl := HRL.out
    refine wp_append_rd (enc := encI) _ (.tmp 24) (.tmp 27) 22 rfl w4.heap.size 3 (.int .i64 0) 1 8 Tryz.underlying22 Tryz.infoI6 rfl (by omega) (by omega) _ _ own5 rfl _ _ 1 1 [p.id] SX (fun h => by cases h) (fun _ => rfl) (by simp [encI, Value.oneCell']) rfl (by omega) (by omega) zq ?_
    intro v9 wy own9 ch0 ch1
    replace hHeld : Ex w4 wy := Chg.trans hHeld ch1
    obtain ⟨A9, C9, rfl, R9, _⟩ := own9.rd (fun _ => rfl)
    have S9 : Sl 1 encI wy A9 ((refsN N p).length + 1) (refsN N p ++ [p.id]) := by {have hx := Rd.mono R9 (S' := fun k => k < wy.heap.size) (fun _ hk => hk.2); rw [List.length_append, List.length_singleton] at hx; exact hx}
    clear own9 R9 ch0 ch1 zq SX own5
    refine hK.out _ _ (hHeld) (fun hHeld => ?_)
    clear hK K
    refine wpAnyH_ready (rs := [8]) (by kernel_rfl) (by simp) ?_
    refine AllReadyH.cons (o := ⟨_, _, _, _, _, _⟩) rfl (fun K hK => ?_) AllReadyH.nil
    go_simp
    (with_reducible refine (ordered_r _ _ _ N _ _ _ (refsN N p ++ [p.id]) 0 _ (HN.out.nx hHeld) hn S9 (by have := HRL.out; omega)).mono ?_)
    rintro e wx ⟨v6, rfl, own6, kk⟩
    replace own6 := own6.base (Nat.le_trans z4 hHeld.size)
    replace hHeld := hHeld.nx kk
    clear kk S9
    refine hK.out _ _ (hHeld) (fun hHeld => ?_)
    clear hK K
    refine tkH 9 (v := ?_) rfl (by kernel_rfl) (fun _ _ _ h => h) (by rfl) ?y1x9q120 (by assumption) ?z1x9q120
    case y1x9q120 => intro wq hSw; (go_simp); (try with_reducible rfl)
    refine wpAnyH_done (by kernel_rfl) ?_ _
    have KE := lH (EXH.out.nx hHeld)
    have OW6 := lH own6
    clear hHeld own6
    go_wp2_with fail
    go_ret
    exact ⟨_, rfl, by rw [E0.out]; exact OW6.out, KE.out⟩
def IrPost (M : List (Int × Int)) (w : World) (e : Ending) (w' : World) : Prop := ∃ v, e = .returned v ∧ OwnL 2 encS 111 w.heap.size w' v M ∧ Ex w w'
def IrRel (L : List Int) (id : Int) (w : World) (o i : Value) (wr : World) : Prop :=
 ∃ k : Nat, 1 ≤ k ∧ k ≤ L.length + 1 ∧ i = .int .i64 k ∧ OwnL 2 encS 111 w.heap.size wr o (((L.zip L.tail).take (k - 1)).flatMap (pr2 id)) ∧ Ex w wr
theorem pr2_cases (id a b : Int) : pr2 id (a, b) = (if a = id then [] else [(a, b)]) ++ (if b = id then [] else [(b, a)]) := rfl
set_option maxRecDepth 100000 in
set_option maxHeartbeats 8000000 in
theorem intros_r (a : Option Addr) (n c : Nat) (N : List Nd) (p : Pr) (a1 : Option Addr) (n1 c1 : Nat) (a2 : Option Addr) (n2 c2 : Nat) (w : World) (h : Sl 3 encN w a n N) (hn : n ≤ 1000) (h1 : Sl 1 encI w a1 n1 p.known) (h2 : Sl 4 encNr w a2 n2 p.near) (hn1 : n1 ≤ 2000000) (hn2 : n2 ≤ 2000000) :
  Calls Tryz.prog 124 #[.slice a n c, .agg #[.int .i64 p.id, .slice a1 n1 c1, .int .i64 p.left, .int .i64 p.right, .slice a2 n2 c2]] w (IrPost (introsN N p) w) := by
 have EX := Ex.refl w
 have HL := lH h.len
 have B3 := Blk.new w [.int .i64 p.id, .slice a1 n1 c1, .int .i64 p.left, .int .i64 p.right, .slice a2 n2 c2] 41
 have kk := Ex.new w (.cells #[.int .i64 p.id, .slice a1 n1 c1, .int .i64 p.left, .int .i64 p.right, .slice a2 n2 c2] 41)
 obtain ⟨w1, hw1⟩ : ∃ w1, w1 = w.alloc (.cells #[.int .i64 p.id, .slice a1 n1 c1, .int .i64 p.left, .int .i64 p.right, .slice a2 n2 c2] 41) := ⟨_, rfl⟩
 obtain ⟨g3, hg3⟩ : ∃ g3, g3 = w.heap.size := ⟨_, rfl⟩
 replace B3 : Blk w1 g3 [.int .i64 p.id, .slice a1 n1 c1, .int .i64 p.left, .int .i64 p.right, .slice a2 n2 c2] 41 := by rw [hw1, hg3]; exact B3
 rw [← hw1] at kk
 have Hw1 := lH hw1
 have Hg3 := lH hg3
 replace h := h.nx kk
 replace h1 := h1.nx kk
 replace h2 := h2.nx kk
 replace EX := EX.nx kk
 clear kk hw1 hg3
 go_enter Tryz.func124, Tryz.ntmps124
 go_upto_region 1 with fail
 rw [← Hg3.out, ← Hw1.out]
 clear Hg3 Hw1
 have q0 := B3.cell 0 _ rfl
 have q1 := B3.cell 1 _ rfl
 have q2 := B3.cell 2 _ rfl
 have q3 := B3.cell 3 _ rfl
 have q4 := B3.cell 4 _ rfl
 go_wp2_with fail
 (with_reducible refine (around_r _ _ _ N p _ _ _ _ _ _ _ h hn h1 h2 hn1 hn2).mono ?_)
 rintro e w2 ⟨v, rfl, own, kk⟩
 replace EX := EX.nx kk
 replace B3 := B3.nx kk
 clear kk
 clear q0 q1 q2 q3 q4 h h1 h2
 have hrl : (arN N p).length ≤ 1000 := by
  have h1 := HL.out
  have h2 := ar_len (N := N) p
  omega
 obtain ⟨aR, cR, rfl, R1, _, _, _⟩ := own.slf (fun _ => rfl)
 have S := lH R1.sl
 have IN : Hid (∀ M, prsN p.id (arN N p) = M → introsN N p = M) := lH (fun r hr => hr)
 generalize arN N p = R at own R1 S IN hrl ⊢
 have B3 := lH B3
 have z2 := EX.size
 have EX2 := lH EX
 clear own R1 EX
 go_wp2_with fail
 go_loopw [5, 7] (fun o i wr => IrRel R p.id w2 o i wr) (fun _ i _ => R.length + 1 - (intOf i).toNat)
 case atStart => exact ⟨1, by omega, by omega, rfl, OwnL.nil _ _ _ _ _, Ex.refl _⟩
 case round =>
  obtain ⟨k, hk1, hk, rfl, own, ki⟩ := hrel
  obtain ⟨wi, rfl⟩ : ∃ wi : World, wi = wr := ⟨_, rfl⟩
  have hol : (((R.zip R.tail).take (k - 1)).flatMap (pr2 p.id)).length ≤ 2000 := by
   have h1 := prs_take_len p.id ((R.zip R.tail).take (k - 1))
   rw [List.length_take, List.length_zip, List.length_tail] at h1
   omega
  by_cases hkm : k < R.length
  ·obtain ⟨xl, xo, yl, rfl, hxl, hyl, hcl⟩ := (S.out.nx ki).at (show k - 1 < R.length by omega)
   obtain ⟨xl', xo', yr, hee, hxr, hyr, hcr⟩ := (S.out.nx ki).at hkm
   cases hee
   have CL : Hid (∀ wq, Ex wi wq → wq.cell? ⟨xl, xo + (k - 1), none⟩ = some (.int .i64 yl)) := lH (fun wq kq => Chg.cellv kq (by simpa using hcl 0 _ rfl) hxl)
   have CR : Hid (∀ wq, Ex wi wq → wq.cell? ⟨xl, xo + k, none⟩ = some (.int .i64 yr)) := lH (fun wq kq => Chg.cellv kq (by simpa using hcr 0 _ rfl) hxl)
   have SN := lH ((prs_snoc (id := p.id) hyl (by rw [show k - 1 + 1 = k by omega]; exact hyr)).trans (by rw [pr2_cases]))
   rw [show k - 1 + 1 = k + 1 - 1 by omega] at SN
   generalize ((R.zip R.tail).take (k - 1)).flatMap (pr2 p.id) = O at own SN hol
   have hkp : (0 : Int) < (k : Int) := by omega
   have hwk : IntKind.i64.wrap ((k : Int) - 1) = (k : Int) - 1 := IntWalk.i64_in _ (by omega)
   have h01 : (1 : Int) ≤ (k : Int) := by omega
   have h02 : (k : Int) - 1 < (R.length : Int) := by omega
   have h03 : (k : Int) < (R.length : Int) := by omega
   have zi := ki.size
   have QI : Hid (∀ wq, Ex wi wq → wq.cell? ⟨g3, 0, none⟩ = some (.int .i64 p.id)) := lH (fun wq kq => (B3.out.nx (ki.nx kq)).cell 0 _ rfl)
   have OWN := lH own
   have KI := lH ki
   clear hyl hyr hcl hcr own ki
   go_upto_region 6 with fail
   refine wp_region_held_drew (S := Ex wi) (by kernel_rfl) ((Ex.refl wi).drew) (fun hHeld => ?_)
   obtain ⟨wd, hwdx⟩ : ∃ wd : World, wd = World.drew wi := ⟨_, rfl⟩
   rw [← hwdx] at hHeld ⊢
   have hDrew : Ex wi wd := by rw [hwdx]; exact (Ex.refl wi).drew
   clear hwdx
   refine tkH 0 (v := ?_) rfl (by kernel_rfl) (fun _ _ _ h => h) (by rfl) ?y1x0q5 (by assumption) ?z1x0q5
   case y1x0q5 => intro wq hSw; (go_simp); (try with_reducible rfl)
   refine tkH 1 (v := ?_) rfl (by kernel_rfl) (fun _ _ _ h => h) (by rfl) ?y1x1q8 (by assumption) ?z1x1q8
   case y1x1q8 => intro wq hSw; (go_simp); (try with_reducible rfl)
   refine tkH 2 (v := ?_) rfl (by kernel_rfl) (fun _ _ _ h => h) (by rfl) ?y1x2q11 (by assumption) ?z1x2q11
   case y1x2q11 => intro wq hSw; (go_simp); (try with_reducible rfl)
   refine tkH 3 (v := ?_) rfl (by kernel_rfl) (fun _ _ _ h => h) (by rfl) ?y1x3q14 (by assumption) ?z1x3q14
   case y1x3q14 => intro wq hSw; (go_simp); (try with_reducible rfl)
   refine tkH 4 (v := ?_) rfl (by kernel_rfl) (fun _ _ _ h => h) (by rfl) ?y1x4q17 (by assumption) ?z1x4q17
   case y1x4q17 => intro wq hSw; (have cq := CL.out wq hSw; go_simp); (try with_reducible rfl)
   refine tkH 5 (v := ?_) rfl (by kernel_rfl) (fun _ _ _ h => h) (by rfl) ?y1x5q20 (by assumption) ?z1x5q20
   case y1x5q20 => intro wq hSw; (go_simp); (try with_reducible rfl)
   refine tkH 6 (v := ?_) rfl (by kernel_rfl) (fun _ _ _ h => h) (by rfl) ?y1x6q23 (by assumption) ?z1x6q23
   case y1x6q23 => intro wq hSw; (go_simp); (try with_reducible rfl)
   refine tkH 7 (v := ?_) rfl (by kernel_rfl) (fun _ _ _ h => h) (by rfl) ?y1x7q26 (by assumption) ?z1x7q26
   case y1x7q26 => intro wq hSw; (go_simp); (try with_reducible rfl)
   refine tkH 8 (v := ?_) rfl (by kernel_rfl) (fun _ _ _ h => h) (by rfl) ?y1x8q29 (by assumption) ?z1x8q29
   case y1x8q29 => intro wq hSw; (have cq := CR.out wq hSw; go_simp); (try with_reducible rfl)
   refine tkH 9 (v := ?_) rfl (by kernel_rfl) (fun _ _ _ h => h) (by rfl) ?y1x9q32 (by assumption) ?z1x9q32
   case y1x9q32 => intro wq hSw; (go_simp); (try with_reducible rfl)
   refine tkH 10 (v := ?_) rfl (by kernel_rfl) (fun _ _ _ h => h) (by rfl) ?y1x10q35 (by assumption) ?z1x10q35
   case y1x10q35 => intro wq hSw; (go_simp); (try with_reducible rfl)
   refine wpAnyH_done (by kernel_rfl) ?_ _
   have qd := QI.out wd hHeld
   have KD := lH (KI.out.nx hHeld)
   have OD := OWN.out.nx hHeld
   have zd := KD.out.size
   clear hHeld hDrew OWN
   by_cases ha : yl = p.id
   ·have da : (yl != p.id) = false := by simpa using ha
    have SN1 := lH (SN.out.trans (show O ++ ((if yl = p.id then [] else [(yl, yr)]) ++ (if yr = p.id then [] else [(yr, yl)])) = O ++ (if yr = p.id then [] else [(yr, yl)]) by rw [if_pos ha, List.nil_append]))
    clear SN ha
    by_cases hb : yr = p.id
    ·have db : (yr != p.id) = false := by simpa using hb
     have SN2 := lH (SN1.out.trans (show O ++ (if yr = p.id then [] else [(yr, yl)]) = O by rw [if_pos hb, List.append_nil]))
     have OO := lH OD
     clear SN1 hb OD
     go_wp2_with fail
     exact ⟨⟨k + 1, by omega, by omega, by go_num, by rw [SN2.out]; exact OO.out, KD.out⟩, by simp [intOf]; omega⟩
    ·have db : (yr != p.id) = true := by simpa using hb
     have SN2 := lH (SN1.out.trans (show O ++ (if yr = p.id then [] else [(yr, yl)]) = O ++ [(yr, yl)] by rw [if_neg hb]))
     clear SN1 hb
     go_wp2_with (at_builtin; (refine wpList_append_lit (enc := encS) wd rfl _ _ 108 rfl w2.heap.size 111 (.agg #[.int .i64 0, .int .i64 0]) 2 16 Tryz.underlying108 Tryz.infoIn rfl (by omega) (by omega) _ _ OD rfl ((yr, yl) : Int × Int) _ rfl rfl (by simp [encS, Value.oneCell']) _ (by simp) rfl (by omega) zd _ ?_); intro v6 w6 own6 ch0 ch1 hz6)
     exact ⟨⟨k + 1, by omega, by omega, by go_num, by rw [SN2.out]; exact own6, Chg.trans KD.out ch1⟩, by simp [intOf]; omega⟩
   ·have da : (yl != p.id) = true := by simpa using ha
    have SN1 := lH (SN.out.trans (show O ++ ((if yl = p.id then [] else [(yl, yr)]) ++ (if yr = p.id then [] else [(yr, yl)])) = (O ++ [(yl, yr)]) ++ (if yr = p.id then [] else [(yr, yl)]) by rw [if_neg ha, List.append_assoc]))
    have hol2 : (O ++ [(yl, yr)]).length ≤ 2001 := by rw [List.length_append, List.length_singleton]; omega
    clear SN ha
    go_upto_region 9 with (at_builtin; (refine wpList_append_lit (enc := encS) wd rfl _ _ 108 rfl w2.heap.size 111 (.agg #[.int .i64 0, .int .i64 0]) 2 16 Tryz.underlying108 Tryz.infoIn rfl (by omega) (by omega) _ _ OD rfl ((yl, yr) : Int × Int) _ rfl rfl (by simp [encS, Value.oneCell']) _ (by simp) rfl (by omega) zd _ ?_); intro v6 w6 own6 ch0 ch1 hz6)
    have K6 := lH (Chg.trans KD.out ch1)
    have z6 := K6.out.size
    have qd6 := (B3.out.nx K6.out).cell 0 _ rfl
    clear qd OD ch0 ch1 hz6
    generalize O ++ [(yl, yr)] = O2 at own6 SN1 hol2
    by_cases hb : yr = p.id
    ·have db : (yr != p.id) = false := by simpa using hb
     have SN2 := lH (SN1.out.trans (show O2 ++ (if yr = p.id then [] else [(yr, yl)]) = O2 by rw [if_pos hb, List.append_nil]))
     have OO := lH own6
     clear SN1 hb own6
     go_wp2_with fail
     exact ⟨⟨k + 1, by omega, by omega, by go_num, by rw [SN2.out]; exact OO.out, K6.out⟩, by simp [intOf]; omega⟩
    ·have db : (yr != p.id) = true := by simpa using hb
     have SN2 := lH (SN1.out.trans (show O2 ++ (if yr = p.id then [] else [(yr, yl)]) = O2 ++ [(yr, yl)] by rw [if_neg hb]))
     clear SN1 hb
     go_wp2_with (at_builtin; (refine wpList_append_lit (enc := encS) w6 rfl _ _ 108 rfl w2.heap.size 111 (.agg #[.int .i64 0, .int .i64 0]) 2 16 Tryz.underlying108 Tryz.infoIn rfl (by omega) (by omega) _ _ own6 rfl ((yr, yl) : Int × Int) _ rfl rfl (by simp [encS, Value.oneCell']) _ (by simp) rfl (by omega) z6 _ ?_); intro v7 w7 own7 ch0 ch1 hz7)
     exact ⟨⟨k + 1, by omega, by omega, by go_num, by rw [SN2.out]; exact own7, Chg.trans K6.out ch1⟩, by simp [intOf]; omega⟩
  ·have h03 : ¬ (k : Int) < (R.length : Int) := by omega
   rw [prs_all (by omega)] at own
   have FO := lH (OwnL.base own z2)
   have FE := lH (EX2.out.nx ki)
   have HI := lH (IN.out _ rfl)
   clear own ki hkm hk
   go_wp2_with fail
   go_ret
   exact ⟨_, rfl, by rw [HI.out]; exact FO.out, FE.out⟩
def KrRel (R : List Int) (id : Int) (g : Nat) (w : World) (i : Value) (wr : World) : Prop :=
 ∃ (k : Nat) (q : Int × Int), k ≤ R.length ∧ i = .int .i64 k ∧ Blk wr g [.int .i64 q.1, .int .i64 q.2] 69 ∧ Ex w wr ∧
  (((∀ j z, j < k → R[j]? = some z → z ≠ id) ∧ q = (0, 0)) ∨ ((∃ j, j < k ∧ R[j]? = some id) ∧ q = besN id R))
theorem nodup_atU {R : List Int} (h : R.Nodup) {i j : Nat} {v : Int} (hi : R[i]? = some v) (hj : R[j]? = some v) : i = j := by
 obtain ⟨h1, h2⟩ := List.getElem?_eq_some_iff.1 hi
 obtain ⟨h3, h4⟩ := List.getElem?_eq_some_iff.1 hj
 have key := List.pairwise_iff_getElem.1 (show R.Pairwise (· ≠ ·) from h)
 rcases Nat.lt_trichotomy i j with h5 | h5 | h5
 ·exact absurd (h2.trans h4.symm) (key i j h1 h3 h5)
 ·exact h5
 ·exact absurd (h4.trans h2.symm) (key j i h3 h1 h5)
set_option maxRecDepth 100000 in
set_option maxHeartbeats 8000000 in
theorem keep_r (a : Option Addr) (n c : Nat) (N : List Nd) (p : Pr) (a1 : Option Addr) (n1 c1 : Nat) (a2 : Option Addr) (n2 c2 : Nat) (w : World) (h : Sl 3 encN w a n N) (hn : n ≤ 1000) (h1 : Sl 1 encI w a1 n1 p.known) (h2 : Sl 4 encNr w a2 n2 p.near) (hn1 : n1 ≤ 2000000) (hn2 : n2 ≤ 2000000) :
  Calls Tryz.prog 125 #[.slice a n c, .agg #[.int .i64 p.id, .slice a1 n1 c1, .int .i64 p.left, .int .i64 p.right, .slice a2 n2 c2]] w (KpPost N p w) := by
 have EX := Ex.refl w
 have HL := lH h.len
 obtain ⟨g3, hg3⟩ : ∃ g3, g3 = w.heap.size := ⟨_, rfl⟩
 obtain ⟨g4, hg4⟩ : ∃ g4, g4 = (w.heap.size + 1) := ⟨_, rfl⟩
 obtain ⟨w1, hw1⟩ : ∃ w1, w1 = ((w.alloc (.cells #[.int .i64 p.id, .slice a1 n1 c1, .int .i64 p.left, .int .i64 p.right, .slice a2 n2 c2] 41)).alloc (.cells #[.int .i64 0, .int .i64 0] 69)) := ⟨_, rfl⟩
 have kk : Ex w w1 := by rw [hw1]; exact (((Ex.refl w).alloc (.cells #[.int .i64 p.id, .slice a1 n1 c1, .int .i64 p.left, .int .i64 p.right, .slice a2 n2 c2] 41)).alloc (.cells #[.int .i64 0, .int .i64 0] 69))
 have B3 : Blk w1 g3 [.int .i64 p.id, .slice a1 n1 c1, .int .i64 p.left, .int .i64 p.right, .slice a2 n2 c2] 41 := by rw [hw1]; simp only [hg3, hg4]; have hbk := ((Blk.new w [.int .i64 p.id, .slice a1 n1 c1, .int .i64 p.left, .int .i64 p.right, .slice a2 n2 c2] 41).nx (Ex.new _ (.cells #[.int .i64 0, .int .i64 0] 69))); simpa using hbk
 have B4 : Blk w1 g4 [.int .i64 0, .int .i64 0] 69 := by rw [hw1]; simp only [hg3, hg4]; have hbk := (Blk.new (w.alloc (.cells #[.int .i64 p.id, .slice a1 n1 c1, .int .i64 p.left, .int .i64 p.right, .slice a2 n2 c2] 41)) [.int .i64 0, .int .i64 0] 69); simpa using hbk
 have Hw1 := lH hw1
 have Hg3 := lH hg3
 have Hg4 := lH hg4
 replace h := h.nx kk
 replace h1 := h1.nx kk
 replace h2 := h2.nx kk
 replace EX := EX.nx kk
 have zg4 : w.heap.size ≤ g4 := by omega
 clear kk hw1 hg3 hg4
 go_enter Tryz.func125, Tryz.ntmps125
 go_upto_region 1 with fail
 rw [← Hw1.out, ← Hg4.out, ← Hg3.out]
 clear Hw1 Hg4 Hg3
 have q0 := B3.cell 0 _ rfl
 have q1 := B3.cell 1 _ rfl
 have q2 := B3.cell 2 _ rfl
 have q3 := B3.cell 3 _ rfl
 have q4 := B3.cell 4 _ rfl
 go_wp2_with fail
 (with_reducible refine (around_r _ _ _ N p _ _ _ _ _ _ _ h hn h1 h2 hn1 hn2).mono ?_)
 rintro e w2 ⟨v, rfl, own, kk⟩
 replace EX := EX.nx kk
 replace B3 := B3.nx kk
 replace B4 := B4.nx kk
 clear kk
 clear q0 q1 q2 q3 q4 h h1 h2
 have hrl : (arN N p).length ≤ 1000 := by
  have h1 := HL.out
  have h2 := ar_len (N := N) p
  omega
 obtain ⟨aR, cR, rfl, R1, _, _, _⟩ := own.slf (fun _ => rfl)
 have S := lH R1.sl
 have KN : Hid (∀ r, besN p.id (arN N p) = r → keepN N p = r) := lH (fun r hr => hr)
 have ND := lH (ar_nodup' (N := N) p)
 generalize arN N p = R at own R1 S KN ND hrl ⊢
 have B3 := lH B3
 have B4 := lH B4
 have EX2 := lH EX
 clear own R1
 have B6 := Blk.new w2 [.int .i64 0, .int .i64 0] 69
 have kk := Ex.new w2 (.cells #[.int .i64 0, .int .i64 0] 69)
 obtain ⟨w4, hw4⟩ : ∃ w4, w4 = w2.alloc (.cells #[.int .i64 0, .int .i64 0] 69) := ⟨_, rfl⟩
 obtain ⟨g6, hg6⟩ : ∃ g6, g6 = w2.heap.size := ⟨_, rfl⟩
 replace B6 : Blk w4 g6 [.int .i64 0, .int .i64 0] 69 := by rw [hw4, hg6]; exact B6
 rw [← hw4] at kk
 have Hw4 := lH hw4
 have Hg6 := lH hg6
 have zg6 : w2.heap.size ≤ g6 := by omega
 have K4 := lH kk
 clear kk hw4 hg6 EX
 go_upto_region 3 with fail
 rw [← Hg6.out, ← Hw4.out]
 clear Hg6 Hw4
 have B60 := lH B6
 clear B6
 go_wp2_with fail
 go_loopw [7] (fun i wr => KrRel R p.id g6 w2 i wr) (fun i _ => R.length - (intOf i).toNat)
 case atStart => exact ⟨0, (0, 0), by omega, rfl, B60.out, K4.out, .inl ⟨fun j z h => by omega, rfl⟩⟩
 case round =>
  obtain ⟨k, ⟨qx, qy⟩, hk, rfl, B6, ki, hcase⟩ := hrel
  obtain ⟨wi, rfl⟩ : ∃ wi : World, wi = wr := ⟨_, rfl⟩
  simp only at B6
  by_cases hkm : k < R.length
  ·obtain ⟨xl, xo, y, rfl, hxl, hy, hcl⟩ := (S.out.nx ki).at hkm
   have CR : Hid (∀ wq, Ex wi wq → wq.cell? ⟨xl, xo + k, none⟩ = some (.int .i64 y)) := lH (fun wq kq => Chg.cellv kq (by simpa using hcl 0 _ rfl) hxl)
   have QI : Hid (∀ wq, Ex wi wq → wq.cell? ⟨g3, 0, none⟩ = some (.int .i64 p.id)) := lH (fun wq kq => (B3.out.nx (ki.nx kq)).cell 0 _ rfl)
   have B6h := lH B6
   have KI := lH ki
   have HC := lH hcase
   have HYK := lH hy
   have h03 : (k : Int) < (R.length : Int) := by omega
   have hk0 : (0 : Int) ≤ (k : Int) := by omega
   have hwk : IntKind.i64.wrap ((k : Int) - 1) = (k : Int) - 1 := IntWalk.i64_in _ (by omega)
   have hwp : IntKind.i64.wrap ((k : Int) + 1) = (k : Int) + 1 := IntWalk.i64_in _ (by omega)
   clear hcl hy B6 ki hcase hxl
   go_upto_region 6 with fail
   refine wp_region_held_drew (S := Ex wi) (by kernel_rfl) ((Ex.refl wi).drew) (fun hHeld => ?_)
   obtain ⟨wd, hwdx⟩ : ∃ wd : World, wd = World.drew wi := ⟨_, rfl⟩
   rw [← hwdx] at hHeld ⊢
   have hDrew : Ex wi wd := by rw [hwdx]; exact (Ex.refl wi).drew
   clear hwdx
   refine tkH 0 (v := ?_) rfl (by kernel_rfl) (fun _ _ _ h => h) (by rfl) ?y1x0q5 (by assumption) ?z1x0q5
   case y1x0q5 => intro wq hSw; (go_simp); (try with_reducible rfl)
   try simp only [Act.put, sA, sB, sC]
   refine tkH 1 (v := ?_) rfl (by kernel_rfl) (fun _ _ _ h => h) (by rfl) ?y1x1q8 (by assumption) ?z1x1q8
   case y1x1q8 => intro wq hSw; (go_simp); (try with_reducible rfl)
   try simp only [Act.put, sA, sB, sC]
   refine tkH 2 (v := ?_) rfl (by kernel_rfl) (fun _ _ _ h => h) (by rfl) ?y1x2q11 (by assumption) ?z1x2q11
   case y1x2q11 => intro wq hSw; (go_simp); (try with_reducible rfl)
   try simp only [Act.put, sA, sB, sC]
   refine tkH 3 (v := ?_) rfl (by kernel_rfl) (fun _ _ _ h => h) (by rfl) ?y1x3q14 (by assumption) ?z1x3q14
   case y1x3q14 => intro wq hSw; (have cq := CR.out wq hSw; go_simp); (try with_reducible rfl)
   try simp only [Act.put, sA, sB, sC]
   refine tkH 4 (v := ?_) rfl (by kernel_rfl) (fun _ _ _ h => h) (by rfl) ?y1x4q17 (by assumption) ?z1x4q17
   case y1x4q17 => intro wq hSw; (go_simp); (try with_reducible rfl)
   try simp only [Act.put, sA, sB, sC]
   refine tkH 5 (v := ?_) rfl (by kernel_rfl) (fun _ _ _ h => h) (by rfl) ?y1x5q20 (by assumption) ?z1x5q20
   case y1x5q20 => intro wq hSw; (have cq := QI.out wq hSw; go_simp); (try with_reducible rfl)
   try simp only [Act.put, sA, sB, sC]
   refine tkH 6 (v := ?_) rfl (by kernel_rfl) (fun _ _ _ h => h) (by rfl) ?y1x6q23 (by assumption) ?z1x6q23
   case y1x6q23 => intro wq hSw; (go_simp); (try with_reducible rfl)
   try simp only [Act.put, sA, sB, sC]
   refine wpAnyH_done (by kernel_rfl) ?_ _
   have B6 := B6h.out.nx hHeld
   have K : Ex w2 wd := KI.out.nx hHeld
   clear hHeld hDrew B6h KI
   by_cases he : y = p.id
   ·have de : (y != p.id) = false := by simpa using he
    subst he
    obtain ⟨hq1, hq2⟩ : qx = 0 ∧ qy = 0 := by
     rcases HC.out with ⟨_, h⟩ | ⟨⟨j, hj, hjv⟩, _⟩
     ·simpa using h
     ·have := nodup_atU ND.out hjv HYK.out
      omega
    subst hq1 hq2
    have HB := lH (bes_nodup ND.out HYK.out)
    by_cases hz : k = 0
    ·have HB : Hid (besN p.id R = (0, R[k + 1]?.getD 0)) := lH (by rw [HB.out, if_pos hz])
     have hzz : ¬ (k : Int) > 0 := by omega
     have hzz2 : ¬ (0 : Int) < (k : Int) := by omega
     clear hz
     by_cases hr1 : k + 1 < R.length
     ·obtain ⟨xr, xo', yr, hee2, hxr, hyr, hcr⟩ := (S.out.nx K).at hr1
      cases hee2
      have cr : wd.cell? ⟨xl, xo + (k + 1), none⟩ = some (.int .i64 yr) := by simpa using hcr 0 _ rfl
      have HB2 : Hid (besN p.id R = (0, yr)) := lH (by rw [HB.out, hyr]; rfl)
      have h04 : (k : Int) + 1 < (R.length : Int) := by omega
      have h05 : (0 : Int) ≤ (k : Int) + 1 := by omega
      have f1 := B6.free 1
      have c1 := B6.cell 1 _ rfl
      have BF : Hid (Blk (wd.setCell ⟨g6, 1, none⟩ (.int .i64 yr)) g6 [.int .i64 0, .int .i64 yr] 69) := lH (B6.set 1 _)
      have KF := lH (K.setNew (p := ⟨g6, 1, none⟩) (.int .i64 yr) zg6)
      clear hyr hcr hxr B6 K HB
      go_wp2_with fail
      exact ⟨⟨k + 1, (0, yr), by omega, by go_num, BF.out, KF.out, .inr ⟨⟨k, by omega, HYK.out⟩, HB2.out.symm⟩⟩, by simp [intOf]; omega⟩
     ·have hn : R[k + 1]? = none := List.getElem?_eq_none (by omega)
      have HB2 : Hid (besN p.id R = (0, 0)) := lH (by rw [HB.out, hn]; rfl)
      have h04 : ¬ (k : Int) + 1 < (R.length : Int) := by omega
      have BF := lH B6
      have KF := lH K
      clear hn B6 K HB
      go_wp2_with fail
      exact ⟨⟨k + 1, (0, 0), by omega, by go_num, BF.out, KF.out, .inr ⟨⟨k, by omega, HYK.out⟩, HB2.out.symm⟩⟩, by simp [intOf]; omega⟩
    ·obtain ⟨xl', xo', yl, hee, hxl, hyl, hcl⟩ := (S.out.nx K).at (show k - 1 < R.length by omega)
     cases hee
     have cl : wd.cell? ⟨xl, xo + (k - 1), none⟩ = some (.int .i64 yl) := by simpa using hcl 0 _ rfl
     have HB : Hid (besN p.id R = (yl, R[k + 1]?.getD 0)) := lH (by rw [HB.out, if_neg hz, hyl]; rfl)
     have hkp : (0 : Int) < (k : Int) := by omega
     have h01 : (1 : Int) ≤ (k : Int) := by omega
     have h02 : (k : Int) - 1 < (R.length : Int) := by omega
     have f0 := B6.free 0
     have c0 := B6.cell 0 _ rfl
     have BL := lH (B6.set 0 (.int .i64 yl))
     have KL := lH (K.setNew (p := ⟨g6, 0, none⟩) (.int .i64 yl) zg6)
     clear hcl hyl hxl B6 K
     go_upto_region 9 with fail
     obtain ⟨wl, hwl⟩ : ∃ wl, wl = wd.setCell ⟨g6, 0, none⟩ (.int .i64 yl) := ⟨_, rfl⟩
     rw [← hwl] at BL KL ⊢
     have B6 : Blk wl g6 [.int .i64 yl, .int .i64 0] 69 := BL.out
     have K := KL.out
     clear hwl BL KL f0 c0 cl
     by_cases hr1 : k + 1 < R.length
     ·obtain ⟨xr, xo', yr, hee2, hxr, hyr, hcr⟩ := (S.out.nx K).at hr1
      cases hee2
      have cr : wl.cell? ⟨xl, xo + (k + 1), none⟩ = some (.int .i64 yr) := by simpa using hcr 0 _ rfl
      have HB2 : Hid (besN p.id R = (yl, yr)) := lH (by rw [HB.out, hyr]; rfl)
      have h04 : (k : Int) + 1 < (R.length : Int) := by omega
      have h05 : (0 : Int) ≤ (k : Int) + 1 := by omega
      have f1 := B6.free 1
      have c1 := B6.cell 1 _ rfl
      have BF : Hid (Blk (wl.setCell ⟨g6, 1, none⟩ (.int .i64 yr)) g6 [.int .i64 yl, .int .i64 yr] 69) := lH (B6.set 1 _)
      have KF := lH (K.setNew (p := ⟨g6, 1, none⟩) (.int .i64 yr) zg6)
      clear hyr hcr hxr B6 K HB
      go_wp2_with fail
      exact ⟨⟨k + 1, (yl, yr), by omega, by go_num, BF.out, KF.out, .inr ⟨⟨k, by omega, HYK.out⟩, HB2.out.symm⟩⟩, by simp [intOf]; omega⟩
     ·have hn : R[k + 1]? = none := List.getElem?_eq_none (by omega)
      have HB2 : Hid (besN p.id R = (yl, 0)) := lH (by rw [HB.out, hn]; rfl)
      have h04 : ¬ (k : Int) + 1 < (R.length : Int) := by omega
      have BF := lH B6
      have KF := lH K
      clear hn B6 K HB
      go_wp2_with fail
      exact ⟨⟨k + 1, (yl, 0), by omega, by go_num, BF.out, KF.out, .inr ⟨⟨k, by omega, HYK.out⟩, HB2.out.symm⟩⟩, by simp [intOf]; omega⟩
   ·have de : (y != p.id) = true := by simpa using he
    have FN := lH (show KrRel R p.id g6 w2 (.int .i64 ((k : Int) + 1)) wd from ⟨k + 1, (qx, qy), by omega, by go_num, B6, K, by
     rcases HC.out with ⟨h1, h2⟩ | ⟨⟨j, hj, hjv⟩, h2⟩
     ·refine .inl ⟨fun j z hj hz => ?_, h2⟩
      rcases Nat.lt_or_ge j k with h3 | h3
      ·exact h1 j z h3 hz
      ·obtain rfl : j = k := by omega
       rw [HYK.out] at hz
       cases hz
       exact he
     ·exact .inr ⟨⟨j, by omega, hjv⟩, h2⟩⟩)
    clear B6 K he
    go_wp2_with fail
    exact ⟨FN.out, by simp [intOf]; omega⟩
  ·obtain rfl : k = R.length := by omega
   have h03 : ¬ ((R.length : Nat) : Int) < (R.length : Int) := by omega
   have hres : (qx, qy) = besN p.id R := by
    rcases hcase with ⟨h1, h2⟩ | ⟨_, h2⟩
    ·rw [h2, bes_none (fun hm => by
      obtain ⟨j, hj⟩ := List.mem_iff_getElem?.1 hm
      exact h1 j _ (List.getElem?_eq_some_iff.1 hj).1 hj rfl)]
    ·exact h2
   have KE := lH (KN.out _ hres.symm)
   have B4j := B4.out.nx ki
   have p0 := B6.cell 0 _ rfl
   have p1 := B6.cell 1 _ rfl
   have q0 := B4j.cell 0 _ rfl
   have q1 := B4j.cell 1 _ rfl
   have f0 := B4j.free 0
   have f1 := B4j.free 1
   have KF := lH (((EX2.out.nx ki).setNew (p := ⟨g4, 0, none⟩) (.int .i64 qx) zg4).setNew (p := ⟨g4, 1, none⟩) (.int .i64 qy) zg4)
   clear B4j B6 hcase hres ki hkm hk
   go_wp2_with fail
   refine bodyPost_ret (v := .agg #[.int .i64 qx, .int .i64 qy]) (by simp [results, Tryz.results125, go_sem, *]) rfl ⟨by rw [KE.out], KF.out⟩
end Go.Proofs.YtlgdjigocopglaaGreatDoor
