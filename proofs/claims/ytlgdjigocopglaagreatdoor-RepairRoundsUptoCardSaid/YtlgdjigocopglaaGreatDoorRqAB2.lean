/- Shared texts. -/
import Derived.Test.YtlgdjigocopglaaGreatDoorRqAll20
import Derived.Test.YtlgdjigocopglaaGreatDoorRqABDE1
import Derived.Test.YtlgdjigocopglaaGreatDoorRqAB1
set_option linter.unusedSimpArgs false
set_option linter.unusedVariables false

namespace Go.Proofs.YtlgdjigocopglaaGreatDoor
open Go.RowKit
set_option maxRecDepth 100000 in
set_option maxHeartbeats 8000000 in
theorem peer_r (a : Option Addr) (n c : Nat) (P : List Pr) (id : Int) (w : World) (h : PL w a n P) (hn : n ≤ 1000000) (hP : SmallP P) :
  Calls Tryz.prog 121 #[.slice a n c, .int .i64 id] w (CpPost (peerN P id) w.heap.size w) := by
 have HL := lH h.len
 have EX := Ex.refl w
 have B4 := Blk.new w [.int .i64 0, .slice none 0 0, .int .i64 0, .int .i64 0, .slice none 0 0] 41
 have kk := Ex.new w (.cells #[.int .i64 0, .slice none 0 0, .int .i64 0, .int .i64 0, .slice none 0 0] 41)
 obtain ⟨w1, hw1⟩ : ∃ w1, w1 = w.alloc (.cells #[.int .i64 0, .slice none 0 0, .int .i64 0, .int .i64 0, .slice none 0 0] 41) := ⟨_, rfl⟩
 obtain ⟨g4, hg4⟩ : ∃ g4, g4 = w.heap.size := ⟨_, rfl⟩
 replace B4 : Blk w1 g4 [.int .i64 0, .slice none 0 0, .int .i64 0, .int .i64 0, .slice none 0 0] 41 := by rw [hw1, hg4]; exact B4
 rw [← hw1] at kk
 have Hw1 := lH hw1
 have Hg4 := lH hg4
 replace h := h.nx kk
 replace EX := EX.nx kk
 have hg4' : w.heap.size ≤ g4 := by omega
 clear kk hw1 hg4
 have HS := lH h
 have HP := lH hP
 have HB := lH B4
 have EX := lH EX
 clear h hP
 go_enter Tryz.func121, Tryz.ntmps121
 go_upto_region 1 with fail
 rw [← Hg4.out, ← Hw1.out]
 clear Hg4 Hw1
 have hg4l := B4.lt
 clear B4
 go_wp2_with fail
 go_loopw [5] (fun i wr => PeRel P id n w1 i wr) (fun i _ => n - (intOf i).toNat)
 case atStart => exact ⟨0, by omega, rfl, Ex.refl _, by intro j z h; omega⟩
 case round =>
  obtain ⟨k, hk, rfl, kw, hno⟩ := hrel
  have HNO := lH hno
  clear hno
  obtain ⟨wo, rfl⟩ : ∃ wo : World, wo = wr := ⟨_, rfl⟩
  by_cases hlt : k < n
  ·obtain ⟨x3, o3, b1, m1, d1, b4, m4, d4, y, rfl, hx3, hy, e0, e1, e2, e3, e4, s1, s4⟩ := (HS.out.nx kw).rd hlt
   have hyP := HP.out y (List.mem_of_getElem? hy)
   have hl1 : m1 ≤ 17592186044416 := by have := s1.len; omega
   have hl4 : m4 ≤ 4398046511104 := by have := s4.len; omega
   have HY := lH hy
   have KW := lH kw
   clear hy kw hyP
   by_cases hv : y.id = id
   ·have hb : (y.id == id) = true := by simp [hv]
    have HP : Hid (peerN P id = y) := lH (peerN_at HY.out hv HNO.out)
    have hz := KW.out.size
    clear hv
    go_wp2_with fail
    (with_reducible refine (copypeer_r y _ _ _ _ _ _ _ s1 s4 hl1 hl4).mono ?_)
    rintro e w9 ⟨⟨A2, M2, C2⟩, ⟨A5, M5, C5⟩, rfl, own2, own5, kk⟩
    simp only [Hdr.val] at own2 own5 ⊢
    have B4 := HB.out.nx (KW.out.nx kk)
    have q0 := B4.cell 0 _ rfl
    have q1 := B4.cell 1 _ rfl
    have q2 := B4.cell 2 _ rfl
    have q3 := B4.cell 3 _ rfl
    have q4 := B4.cell 4 _ rfl
    have f0 := B4.free 0
    have f1 := B4.free 1
    have f2 := B4.free 2
    have f3 := B4.free 3
    have f4 := B4.free 4
    have hgo : g4 < wo.heap.size := Nat.lt_of_lt_of_le hg4l hz
    have k7 : Ex w w9 := EX.out.nx (KW.out.nx kk)
    have KE := lH (((((k7.setNew (p := ⟨g4, 0, none⟩) (.int .i64 y.id) hg4').setNew (p := ⟨g4, 1, none⟩) (.slice A2 M2 C2) hg4').setNew (p := ⟨g4, 2, none⟩) (.int .i64 y.left) hg4').setNew (p := ⟨g4, 3, none⟩) (.int .i64 y.right) hg4').setNew (p := ⟨g4, 4, none⟩) (.slice A5 M5 C5) hg4')
    have KB : Exb g4 w9 (((((w9.setCell ⟨g4, 0, none⟩ (.int .i64 y.id)).setCell ⟨g4, 1, none⟩ (.slice A2 M2 C2)).setCell ⟨g4, 2, none⟩ (.int .i64 y.left)).setCell ⟨g4, 3, none⟩ (.int .i64 y.right)).setCell ⟨g4, 4, none⟩ (.slice A5 M5 C5)) :=
     (((((Exb.refl g4 w9).setB (p := ⟨g4, 0, none⟩) _ rfl).setB (p := ⟨g4, 1, none⟩) _ rfl).setB (p := ⟨g4, 2, none⟩) _ rfl).setB (p := ⟨g4, 3, none⟩) _ rfl).setB (p := ⟨g4, 4, none⟩) _ rfl
    have hzw : w.heap.size ≤ wo.heap.size := (EX.out.nx KW.out).size
    have O1 := lH ((own2.nxb hgo KB).base hzw)
    have O4 := lH ((own5.nxb hgo KB).base hzw)
    clear B4 own2 own5 KB k7 e0 e1 e2 e3 e4 s1 s4 kk
    go_wp2_with fail
    refine bodyPost_ret (v := .agg #[.int .i64 y.id, .slice A2 M2 C2, .int .i64 y.left, .int .i64 y.right, .slice A5 M5 C5]) (by simp [results, Tryz.results121, go_sem, *]) rfl ?_
    rw [HP.out]
    exact ⟨(A2, M2, C2), (A5, M5, C5), rfl, O1.out, O4.out, KE.out⟩
   ·have HV := lH hv
    have hb : (y.id == id) = false := by simpa using hv
    clear hv e1 e2 e3 e4 s1 s4
    go_wp2_with fail
    refine ⟨⟨k + 1, by omega, by go_num, KW.out, fun j z hj hz => ?_⟩, by simp [intOf]; omega⟩
    rcases Nat.lt_or_ge j k with h | h
    ·exact HNO.out j z h hz
    ·obtain rfl : j = k := by omega
     rw [Option.some.inj (hz.symm.trans HY.out)]
     exact HV.out
  ·obtain rfl : k = n := by omega
   have HP : Hid (peerN P id = ⟨id, 0, 0, [], []⟩) := lH (peerN_none (fun j z hj hz => HNO.out j z (by rw [← HL.out]; exact hj) hz))
   have B4 := HB.out.nx kw
   have q0 := B4.cell 0 _ rfl
   have q1 := B4.cell 1 _ rfl
   have q2 := B4.cell 2 _ rfl
   have q3 := B4.cell 3 _ rfl
   have q4 := B4.cell 4 _ rfl
   have f0 := B4.free 0
   have f1 := B4.free 1
   have f2 := B4.free 2
   have f3 := B4.free 3
   have f4 := B4.free 4
   have k7 : Ex w wo := EX.out.nx kw
   have KE := lH (((((k7.setNew (p := ⟨g4, 0, none⟩) (.int .i64 id) hg4').setNew (p := ⟨g4, 1, none⟩) (.slice none 0 0) hg4').setNew (p := ⟨g4, 2, none⟩) (.int .i64 0) hg4').setNew (p := ⟨g4, 3, none⟩) (.int .i64 0) hg4').setNew (p := ⟨g4, 4, none⟩) (.slice none 0 0) hg4')
   clear B4 k7 kw hk hlt
   go_wp2_with fail
   refine bodyPost_ret (v := .agg #[.int .i64 id, .slice none 0 0, .int .i64 0, .int .i64 0, .slice none 0 0]) (by simp [results, Tryz.results121, go_sem, *]) rfl ?_
   rw [HP.out]
   exact ⟨(none, 0, 0), (none, 0, 0), rfl, OwnL.nil _ _ _ _ _, OwnL.nil _ _ _ _ _, KE.out⟩
set_option maxHeartbeats 4000000 in
theorem samelk_g (a1 a2 : Option Addr) (n m c1 c2 : Nat) (L M : List Lkd) (w : World) (h1 : LkL w a1 n L) (h2 : LkL w a2 m M) (hn : n ≤ 1000000) (hs : ∀ c ∈ L, c.2.length ≤ 9223372036854775807) :
  Calls Tryz.prog 46 #[.slice a1 n c1, .slice a2 m c2] w fun e w' => e = .returned (.bool (decide (L = M))) ∧ Ex w w' := by
 have HL := lH h1.len
 have HM := lH h2.len
 have HS := lH hs
 clear hs
 go_enter Tryz.func46, Tryz.ntmps46
 by_cases hnm : n = m
 ·subst hnm
  go_wp2_with fail
  go_loopw [5] (fun i wr => SmRel L M n w i wr) (fun i _ => n - (intOf i).toNat)
  case atStart => exact ⟨0, by omega, rfl, Ex.refl _, rfl⟩
  case round =>
   obtain ⟨k, hk, rfl, kw, hT⟩ := hrel
   obtain ⟨wo, rfl⟩ : ∃ wo : World, wo = wr := ⟨_, rfl⟩
   have HT := lH hT
   clear hT
   by_cases hlt : k < n
   ·obtain ⟨x1, o1, a1', n1', c1', d1, rfl, hx1, hy1, hc1, r1⟩ := (h1.nx kw).at hlt
    obtain ⟨x2, o2, a2', n2', c2', d2, rfl, hx2, hy2, hc2, r2⟩ := (h2.nx kw).at hlt
    have e0 : wo.cell? ⟨x1, o1 + k * 2, none⟩ = some (.int .i64 d1.1) := hc1 0 _ rfl
    have e1 : wo.cell? ⟨x1, o1 + k * 2 + 1, none⟩ = some (.slice a1' n1' c1') := hc1 1 _ rfl
    have f0 : wo.cell? ⟨x2, o2 + k * 2, none⟩ = some (.int .i64 d2.1) := hc2 0 _ rfl
    have f1 : wo.cell? ⟨x2, o2 + k * 2 + 1, none⟩ = some (.slice a2' n2' c2') := hc2 1 _ rfl
    have HY1 := lH hy1
    have HY2 := lH hy2
    have L1 := lH r1.len
    have L2 := lH r2.len
    have R1 := lH r1
    have R2 := lH r2
    have H1 := lH h1
    have H2 := lH h2
    have hb1 : n1' ≤ 9223372036854775807 := by rw [← r1.len]; exact HS.out _ (List.mem_of_getElem? hy1)
    have KW := lH kw
    clear hc1 hc2 hy1 hy2 r1 r2 h1 h2 kw
    by_cases hid : d1.1 = d2.1
    ·by_cases hln : n1' = n2'
     ·subst hln
      have g1 : decide (d1.1 = d2.1) = true := by simpa using hid
      go_wp2_with fail
      go_quiet (fail)
      go_wp2_with fail
      have KQ := KW.out.drewN 0
      go_loopw [6] (fun i wr => SvRel d1.2 d2.2 n1' wo i wr) (fun i _ => n1' - (intOf i).toNat)
      case atStart => exact ⟨0, by omega, rfl, (Ex.refl wo).drewN _, rfl⟩
      case round =>
       obtain ⟨j, hj, rfl, kv, hT2⟩ := hrel
       obtain ⟨wi, rfl⟩ : ∃ wi : World, wi = wr := ⟨_, rfl⟩
       have HT2 := lH hT2
       clear hT2
       have e1 := Chg.cellv kv e1 hx1
       have f1 := Chg.cellv kv f1 hx2
       by_cases hjl : j < n1'
       ·obtain ⟨x3, o3, y1, rfl, hx3, hy1, hc3⟩ := (R1.out.nx kv).at hjl
        obtain ⟨x4, o4, y2, rfl, hx4, hy2, hc4⟩ := (R2.out.nx kv).at hjl
        have u0 : wi.cell? ⟨x3, o3 + j * 2, none⟩ = some (.int .i64 y1.1) := hc3 0 _ rfl
        have u1 : wi.cell? ⟨x3, o3 + j * 2 + 1, none⟩ = some (.int .i64 y1.2) := hc3 1 _ rfl
        have v0 : wi.cell? ⟨x4, o4 + j * 2, none⟩ = some (.int .i64 y2.1) := hc4 0 _ rfl
        have v1 : wi.cell? ⟨x4, o4 + j * 2 + 1, none⟩ = some (.int .i64 y2.2) := hc4 1 _ rfl
        have HZ1 := lH hy1
        have HZ2 := lH hy2
        have KV := lH kv
        clear hc3 hc4 hy1 hy2 kv e0 f0
        by_cases hy : y1 = y2
        ·subst hy
         go_wp2_with fail
         go_quiet (fail)
         go_wp2_with fail
         exact ⟨⟨j + 1, by omega, by go_num, KV.out.drewN _, take_snoc_eq HT2.out HZ1.out HZ2.out rfl⟩, by simp [intOf]; omega⟩
        ·have ND : Hid (decide (L = M) = false) := lH (decide_eq_false (ne_at HY1.out HY2.out (fun h => ne_at HZ1.out HZ2.out hy (by rw [h]))))
         obtain ⟨p1, r1⟩ := y1
         obtain ⟨p2, r2⟩ := y2
         simp only at u0 u1 v0 v1
         by_cases hp : p1 = p2
         ·subst hp
          have hr : ¬ r1 = r2 := fun h => hy (by rw [h])
          have hb : (r1 == r2) = false := by simpa using hr
          clear hy HZ1 HZ2
          go_wp2_with fail
          go_quiet (fail)
          go_wp2_with fail
          go_ret
          exact ⟨by rw [ND.out]; rfl, (KW.out.nx KV.out).drewN _⟩
         ·have hb : (p1 == p2) = false := by simpa using hp
          clear hy HZ1 HZ2
          go_wp2_with fail
          go_quiet (fail)
          go_wp2_with fail
          go_ret
          exact ⟨by rw [ND.out]; rfl, (KW.out.nx KV.out).drewN _⟩
       ·obtain rfl : j = n1' := by omega
        have ED : d1 = d2 := Prod.ext hid (by
         have h3 := HT2.out
         rwa [List.take_of_length_le (by rw [L1.out]; exact Nat.le_refl _), List.take_of_length_le (by rw [L2.out]; exact Nat.le_refl _)] at h3)
        have ED := lH ED
        have KV := lH kv
        clear kv hj hjl e0 f0
        go_wp2_with fail
        exact ⟨⟨k + 1, by omega, by go_num, KW.out.nx KV.out, take_snoc_eq HT.out HY1.out HY2.out ED.out⟩, by simp [intOf]; omega⟩
     ·have g1 : decide (d1.1 = d2.1) = true := by simpa using hid
      have g2 : ¬ (n1' : Int) = (n2' : Int) := by omega
      have ND : Hid (decide (L = M) = false) := lH (decide_eq_false (ne_at HY1.out HY2.out (fun h => hln (by rw [← L1.out, ← L2.out, h]))))
      go_wp2_with fail
      go_quiet (fail)
      go_wp2_with fail
      go_ret
      exact ⟨by rw [ND.out]; rfl, KW.out.drewN _⟩
    ·have g1 : decide (d1.1 = d2.1) = false := by simpa using hid
     have ND : Hid (decide (L = M) = false) := lH (decide_eq_false (ne_at HY1.out HY2.out (fun h => hid (by rw [h]))))
     go_wp2_with fail
     go_quiet (fail)
     go_wp2_with fail
     go_ret
     exact ⟨by rw [ND.out]; rfl, KW.out.drewN _⟩
   ·obtain rfl : k = n := by omega
    have ED : Hid (decide (L = M) = true) := lH (decide_eq_true (by
     have h3 := HT.out
     rwa [List.take_of_length_le (by rw [HL.out]; exact Nat.le_refl _), List.take_of_length_le (by rw [HM.out]; exact Nat.le_refl _)] at h3))
    clear h1 h2 hk hlt
    go_wp2_with fail
    go_ret
    exact ⟨by rw [ED.out]; rfl, kw⟩
 ·have hnm' : ¬ (n : Int) = (m : Int) := by omega
  have ND : Hid (decide (L = M) = false) := lH (decide_eq_false (fun h => hnm (by rw [← HL.out, ← HM.out, h])))
  clear h1 h2
  go_wp2_with fail
  go_ret
  exact ⟨by rw [ND.out]; rfl, Ex.refl _⟩
theorem samelk_r (a1 a2 : Option Addr) (n m c1 c2 : Nat) (L M : List Lkd) (w : World) (h1 : LkL w a1 n L) (h2 : LkL w a2 m M) (hn : n ≤ 1000000) (hs : ∀ c ∈ L, c.2.length ≤ 1000000) :
  Calls Tryz.prog 46 #[.slice a1 n c1, .slice a2 m c2] w fun e w' => e = .returned (.bool (decide (L = M))) ∧ Ex w w' :=
 samelk_g a1 a2 n m c1 c2 L M w h1 h2 hn (fun c hc => Nat.le_trans (hs c hc) (by omega))
set_option maxHeartbeats 1000000 in
theorem other_r (a : Option Addr) (n c : Nat) (N : List Nd) (id own : Int) (w : World) (h : Sl 3 encN w a n N) (hn : n ≤ 1000) :
  Calls Tryz.prog 85 #[.slice a n c, .int .i64 id, .int .i64 own] w fun e w' => e = .returned (.int .i64 (otherN N id own)) ∧ Ex w w' := by
 have EX := Ex.refl w
 have E1 : Hid (∀ o, o = (findN N id).2 → otherN N id own = if o = true ∧ id ≠ own then id else 0) := lH (fun o ho => by rw [ho]; rfl)
 go_enter Tryz.func85, Tryz.ntmps85
 go_wp2_with fail
 (with_reducible refine (find_r _ _ _ _ id _ h (by omega)).mono ?_)
 rintro e w1 ⟨rfl, kk⟩
 replace EX := EX.nx kk
 clear kk
 replace E1 := E1.out _ rfl
 obtain ⟨F, hF⟩ : ∃ F, F = findN N id := ⟨_, rfl⟩
 rw [← hF] at E1 ⊢
 clear hF h
 obtain ⟨⟨xi, xk, xw⟩, ok⟩ := F
 replace E1 := lH E1
 have B5 := Blk.new w1 [.int .i64 xi, .string xk, .int .u32 xw] 56
 have kk := Ex.new w1 (.cells #[.int .i64 xi, .string xk, .int .u32 xw] 56)
 obtain ⟨w2, hw2⟩ : ∃ w2, w2 = w1.alloc (.cells #[.int .i64 xi, .string xk, .int .u32 xw] 56) := ⟨_, rfl⟩
 obtain ⟨g5, hg5⟩ : ∃ g5, g5 = w1.heap.size := ⟨_, rfl⟩
 replace B5 : Blk w2 g5 [.int .i64 xi, .string xk, .int .u32 xw] 56 := by rw [hw2, hg5]; exact B5
 rw [← hw2] at kk
 have Hw2 := lH hw2
 have Hg5 := lH hg5
 replace EX := EX.nx kk
 clear kk hw2 hg5
 simp only [Nd.val]
 go_upto_region 2 with fail
 rw [← Hg5.out, ← Hw2.out]
 clear Hg5 Hw2
 clear B5
 cases ok with
 | false =>
  have EZ : Hid (otherN N id own = 0) := lH (E1.out.trans (if_neg (by simp)))
  clear E1
  go_wp2_with fail
  go_ret
  exact ⟨by rw [EZ.out]; rfl, EX⟩
 | true =>
  by_cases he : id = own
  ·have EZ : Hid (otherN N id own = 0) := lH (E1.out.trans (if_neg (by simp [he])))
   have d1 : (id == own) = true := by simpa using he
   clear he E1
   go_wp2_with fail
   go_ret
   exact ⟨by rw [EZ.out]; rfl, EX⟩
  ·have EZ : Hid (otherN N id own = id) := lH (E1.out.trans (if_pos ⟨rfl, he⟩))
   have d1 : (id == own) = false := by simpa using he
   clear he E1
   go_wp2_with fail
   go_ret
   exact ⟨by rw [EZ.out]; rfl, EX⟩
theorem PL.one {w : World} {g : Nat} {y : Pr} {A1 A4 : Option Addr} {m1 c1 m4 c4 : Nat} (h1 : Sl 1 encI w A1 m1 y.known) (h4 : Sl 4 encNr w A4 m4 y.near) (g0 : g = w.heap.size) :
  PL (w.alloc (.cells #[.int .i64 y.id, .slice A1 m1 c1, .int .i64 y.left, .int .i64 y.right, .slice A4 m4 c4] 41)) (some ⟨g, 0, none⟩) 1 [y] := by
 subst g0
 refine ⟨[(y.nums, (A1, m1, c1), (A4, m4, c4))], Sl.lit _ rfl rfl encQ_len rfl, rfl, fun i r p hr hp => ?_⟩
 rcases i with _ | i
 ·simp only [List.getElem?_cons_zero, Option.some.injEq] at hr hp
  subst hr hp
  exact ⟨rfl, h1.nx (Ex.new _ _), h4.nx (Ex.new _ _)⟩
 ·simp at hr
set_option maxRecDepth 100000 in
set_option maxHeartbeats 4000000 in
theorem link_r (a : Option Addr) (n c : Nat) (N : List Nd) (p : Pr) (a1 : Option Addr) (n1 c1 : Nat) (a2 : Option Addr) (n2 c2 : Nat) (lev : Int) (w : World) (h : Sl 3 encN w a n N) (hn : n ≤ 1000) (hw : ∀ x ∈ N, x.word < 4294967296) (h2 : Sl 4 encNr w a2 n2 p.near) (hn2 : n2 ≤ 4000000000000000000) :
  Calls Tryz.prog 43 #[.slice a n c, .agg #[.int .i64 p.id, .slice a1 n1 c1, .int .i64 p.left, .int .i64 p.right, .slice a2 n2 c2], .int .i64 lev] w fun e w' => e = .returned (.agg #[.int .i64 (linkB N p lev).1, .int .i64 (linkB N p lev).2]) ∧ Ex w w' := by
 have EX := Ex.refl w
 have H0 := lH h
 have FW := lH (find_word hw p.id)
 have LN := lH (link_no (N := N) (p := p) (lev := lev))
 have LZ := lH (link_zero (N := N) (p := p) (lev := lev))
 have LB := lH (fun x => link_bit (N := N) (p := p) (lev := lev) (x := x))
 have hml := h2.len
 rw [hml] at LN LZ LB
 clear hw
 generalize hLB : linkB N p lev = L at LN LZ LB ⊢
 clear hLB
 obtain ⟨g4, hg4⟩ : ∃ g4, g4 = w.heap.size := ⟨_, rfl⟩
 obtain ⟨g6, hg6⟩ : ∃ g6, g6 = (w.heap.size + 1) := ⟨_, rfl⟩
 obtain ⟨w1, hw1⟩ : ∃ w1, w1 = ((w.alloc (.cells #[.int .i64 p.id, .slice a1 n1 c1, .int .i64 p.left, .int .i64 p.right, .slice a2 n2 c2] 41)).alloc (.cells #[.int .i64 0, .int .i64 0] 69)) := ⟨_, rfl⟩
 have kk : Ex w w1 := by rw [hw1]; exact (((Ex.refl w).alloc (.cells #[.int .i64 p.id, .slice a1 n1 c1, .int .i64 p.left, .int .i64 p.right, .slice a2 n2 c2] 41)).alloc (.cells #[.int .i64 0, .int .i64 0] 69))
 have B4 : Blk w1 g4 [.int .i64 p.id, .slice a1 n1 c1, .int .i64 p.left, .int .i64 p.right, .slice a2 n2 c2] 41 := by rw [hw1]; simp only [hg4, hg6]; have hbk := ((Blk.new w [.int .i64 p.id, .slice a1 n1 c1, .int .i64 p.left, .int .i64 p.right, .slice a2 n2 c2] 41).nx (Ex.new _ (.cells #[.int .i64 0, .int .i64 0] 69))); simpa using hbk
 have B6 : Blk w1 g6 [.int .i64 0, .int .i64 0] 69 := by rw [hw1]; simp only [hg4, hg6]; have hbk := (Blk.new (w.alloc (.cells #[.int .i64 p.id, .slice a1 n1 c1, .int .i64 p.left, .int .i64 p.right, .slice a2 n2 c2] 41)) [.int .i64 0, .int .i64 0] 69); simpa using hbk
 have Hw1 := lH hw1
 have Hg4 := lH hg4
 have Hg6 := lH hg6
 replace h := h.nx kk
 replace h2 := h2.nx kk
 replace EX := EX.nx kk
 have zg6 : w.heap.size ≤ g6 := by omega
 clear kk hw1 hg4 hg6
 go_enter Tryz.func43, Tryz.ntmps43
 go_upto_region 1 with fail
 rw [← Hw1.out, ← Hg6.out, ← Hg4.out]
 clear Hw1 Hg6 Hg4
 have q0 := B4.cell 0 _ rfl
 go_wp2_with fail
 (with_reducible refine (find_r _ _ _ N p.id _ h (by omega)).mono ?_)
 rintro e w2 ⟨rfl, kk⟩
 replace h := h.nx kk
 replace h2 := h2.nx kk
 replace EX := EX.nx kk
 replace B4 := B4.nx kk
 replace B6 := B6.nx kk
 clear kk
 replace FW := FW.out
 replace LN := LN.out
 replace LZ := LZ.out
 replace LB := LB.out
 obtain ⟨F, hF⟩ : ∃ F, F = findN N p.id := ⟨_, rfl⟩
 rw [← hF] at FW LN LZ LB ⊢
 clear hF q0
 obtain ⟨⟨xi, xk, xw⟩, ok⟩ := F
 replace FW := lH FW
 replace LN := lH LN
 replace LZ := lH LZ
 replace LB := lH LB
 have B7 := Blk.new w2 [.int .i64 xi, .string xk, .int .u32 xw] 56
 have kk := Ex.new w2 (.cells #[.int .i64 xi, .string xk, .int .u32 xw] 56)
 obtain ⟨w3, hw3⟩ : ∃ w3, w3 = w2.alloc (.cells #[.int .i64 xi, .string xk, .int .u32 xw] 56) := ⟨_, rfl⟩
 obtain ⟨g7, hg7⟩ : ∃ g7, g7 = w2.heap.size := ⟨_, rfl⟩
 replace B7 : Blk w3 g7 [.int .i64 xi, .string xk, .int .u32 xw] 56 := by rw [hw3, hg7]; exact B7
 rw [← hw3] at kk
 have Hw3 := lH hw3
 have Hg7 := lH hg7
 replace h := h.nx kk
 replace h2 := h2.nx kk
 replace EX := EX.nx kk
 replace B4 := B4.nx kk
 replace B6 := B6.nx kk
 clear kk hw3 hg7
 simp only [Nd.val]
 go_upto_region 2 with fail
 rw [← Hg7.out, ← Hw3.out]
 clear Hg7 Hw3
 by_cases hok : ok = true
 case neg =>
  obtain rfl : ok = false := by simpa using hok
  have E0 : Hid (L = (0, 0)) := lH (LN.out (fun hh => by cases hh.1))
  have r0 := B6.cell 0 _ rfl
  have r1 := B6.cell 1 _ rfl
  have f0 := B6.free 0
  have f1 := B6.free 1
  have KE := lH ((EX.setNew (p := ⟨g6, 0, none⟩) (.int .i64 0) zg6).setNew (p := ⟨g6, 1, none⟩) (.int .i64 0) zg6)
  clear h h2 EX B4 B6 B7 hok
  go_wp2_with fail
  refine bodyPost_ret (v := .agg #[.int .i64 0, .int .i64 0]) (by simp [results, Tryz.results43, go_sem, *]) rfl ⟨by rw [E0.out], KE.out⟩
 subst hok
 go_wp2_with fail
 (with_reducible refine (is_r _ _ _ N _ h (by omega)).mono ?_)
 rintro e w4 ⟨rfl, kk⟩
 replace h := h.nx kk
 replace h2 := h2.nx kk
 replace EX := EX.nx kk
 replace B4 := B4.nx kk
 replace B6 := B6.nx kk
 replace B7 := B7.nx kk
 clear kk
 cases hck0 : (checkN N == 0) with
 | false =>
  have E0 : Hid (L = (0, 0)) := lH (LN.out (fun hh => by rw [hh.2.1] at hck0; cases hck0))
  clear hck0
  have r0 := B6.cell 0 _ rfl
  have r1 := B6.cell 1 _ rfl
  have f0 := B6.free 0
  have f1 := B6.free 1
  have KE := lH ((EX.setNew (p := ⟨g6, 0, none⟩) (.int .i64 0) zg6).setNew (p := ⟨g6, 1, none⟩) (.int .i64 0) zg6)
  clear h h2 EX B4 B6 B7
  go_wp2_with fail
  refine bodyPost_ret (v := .agg #[.int .i64 0, .int .i64 0]) (by simp [results, Tryz.results43, go_sem, *]) rfl ⟨by rw [E0.out], KE.out⟩
 | true =>
 have hck : checkN N = 0 := by simpa using hck0
 clear hck0
 go_wp2_with fail
 refine (level_r lev _).mono ?_
 rintro e wL ⟨rfl, hwL⟩
 subst hwL
 cases hlv : lvlN lev with
 | false =>
  have E0 : Hid (L = (0, 0)) := lH (LN.out (fun hh => by rw [hlv] at hh; cases hh.2.2.1))
  clear hlv hck
  have r0 := B6.cell 0 _ rfl
  have r1 := B6.cell 1 _ rfl
  have f0 := B6.free 0
  have f1 := B6.free 1
  have KE := lH ((EX.setNew (p := ⟨g6, 0, none⟩) (.int .i64 0) zg6).setNew (p := ⟨g6, 1, none⟩) (.int .i64 0) zg6)
  clear h h2 EX B4 B6 B7
  go_wp2_with fail
  refine bodyPost_ret (v := .agg #[.int .i64 0, .int .i64 0]) (by simp [results, Tryz.results43, go_sem, *]) rfl ⟨by rw [E0.out], KE.out⟩
 | true =>
 by_cases hl3 : lev > (n2 : Int)
 ·have E0 : Hid (L = (0, 0)) := lH (LN.out (fun hh => by have := hh.2.2.2; omega))
  have p4 := B4.cell 4 _ rfl
  have hl4 : (n2 : Int) < lev := hl3
  clear hlv hck
  have r0 := B6.cell 0 _ rfl
  have r1 := B6.cell 1 _ rfl
  have f0 := B6.free 0
  have f1 := B6.free 1
  have KE := lH ((EX.setNew (p := ⟨g6, 0, none⟩) (.int .i64 0) zg6).setNew (p := ⟨g6, 1, none⟩) (.int .i64 0) zg6)
  clear h h2 EX B4 B6 B7
  go_wp2_with fail
  refine bodyPost_ret (v := .agg #[.int .i64 0, .int .i64 0]) (by simp [results, Tryz.results43, go_sem, *]) rfl ⟨by rw [E0.out], KE.out⟩
 have hl01 : 0 ≤ lev ∧ lev ≤ 16 := by unfold lvlN at hlv; simpa using hlv
 have hl0 := hl01.1
 have hl1 := hl01.2
 have hl2 : lev ≤ (n2 : Int) := by omega
 have CND : Hid (True ∧ checkN N = 0 ∧ lvlN lev = true ∧ lev ≤ (n2 : Int)) := lH ⟨trivial, hck, hlv, hl2⟩
 have d4 : decide (lev > (n2 : Int)) = false := by simp; omega
 have d5 : ¬ (n2 : Int) < lev := by omega
 have FWh := FW.out trivial
 clear hck LN FW hlv hl3 hl01
 obtain ⟨k, rfl⟩ := Int.eq_ofNat_of_zero_le hl0
 have p2 := B4.cell 2 _ rfl
 have p3 := B4.cell 3 _ rfl
 have p4 := B4.cell 4 _ rfl
 go_upto_region 4 with fail
 by_cases h0 : (k : Int) = 0
 ·have E0 := lH (LZ.out CND.out h0)
  have hk0 : k = 0 := by omega
  subst hk0
  have B9 := Blk.new w4 [.int .i64 p.left, .int .i64 p.right] 69
  have kk := Ex.new w4 (.cells #[.int .i64 p.left, .int .i64 p.right] 69)
  obtain ⟨w5, hw5⟩ : ∃ w5, w5 = w4.alloc (.cells #[.int .i64 p.left, .int .i64 p.right] 69) := ⟨_, rfl⟩
  obtain ⟨g9, hg9⟩ : ∃ g9, g9 = w4.heap.size := ⟨_, rfl⟩
  replace B9 : Blk w5 g9 [.int .i64 p.left, .int .i64 p.right] 69 := by rw [hw5, hg9]; exact B9
  rw [← hw5] at kk
  have Hw5 := lH hw5
  have Hg9 := lH hg9
  replace EX := EX.nx kk
  replace B4 := B4.nx kk
  replace B6 := B6.nx kk
  clear kk hw5 hg9
  clear h h2 B7 LZ LB h0
  go_upto_region 10 with fail
  clear p2 p3 p4
  rw [← Hg9.out, ← Hw5.out]
  clear Hg9 Hw5
  have Y0 : Hid (∀ wq, Ex w5 wq → wq.cell? ⟨g9, 0, none⟩ = some (.int .i64 p.left)) := lH (fun wq kq => (B9.nx kq).cell 0 _ rfl)
  have Y1 : Hid (∀ wq, Ex w5 wq → wq.cell? ⟨g9, 1, none⟩ = some (.int .i64 p.right)) := lH (fun wq kq => (B9.nx kq).cell 1 _ rfl)
  have QI : Hid (∀ wq, Ex w5 wq → wq.cell? ⟨g4, 0, none⟩ = some (.int .i64 p.id)) := lH (fun wq kq => (B4.nx kq).cell 0 _ rfl)
  have HS := lH (H0.out.nx EX)
  have K := lH EX
  replace B6 := lH B6
  clear B9 B4 EX
  refine wp_region_late_drew (S := Ex w5) [13] (by kernel_rfl) ((Ex.refl w5).drew) (fun hHeld => ?_)
  obtain ⟨wd, hwdx⟩ : ∃ wd : World, wd = World.drew w5 := ⟨_, rfl⟩
  rw [← hwdx] at hHeld ⊢
  have hDrew : Ex w5 wd := by rw [hwdx]; exact (Ex.refl w5).drew
  clear hwdx
  refine tkL 0 (v := ?_) rfl (by kernel_rfl) (fun _ _ _ h => h) (by rfl) ?y1x0q5 (by assumption) ?z1x0q5
  case y1x0q5 => intro wq hSw; (go_simp); (try with_reducible rfl)
  refine tkL 1 (v := ?_) rfl (by kernel_rfl) (fun _ _ _ h => h) (by rfl) ?y1x1q8 (by assumption) ?z1x1q8
  case y1x1q8 => intro wq hSw; (go_simp); (try with_reducible rfl)
  refine tkL 2 (v := ?_) rfl (by kernel_rfl) (fun _ _ _ h => h) (by rfl) ?y1x2q11 (by assumption) ?z1x2q11
  case y1x2q11 => intro wq hSw; (have cq := Y0.out wq hSw; go_simp); (try with_reducible rfl)
  refine tkL 3 (v := ?_) rfl (by kernel_rfl) (fun _ _ _ h => h) (by rfl) ?y1x3q14 (by assumption) ?z1x3q14
  case y1x3q14 => intro wq hSw; (go_simp); (try with_reducible rfl)
  refine tkL 4 (v := ?_) rfl (by kernel_rfl) (fun _ _ _ h => h) (by rfl) ?y1x4q17 (by assumption) ?z1x4q17
  case y1x4q17 => intro wq hSw; (have cq := QI.out wq hSw; go_simp); (try with_reducible rfl)
  refine tkL 6 (v := ?_) rfl (by kernel_rfl) (fun _ _ _ h => h) (by rfl) ?y1x6q20 (by assumption) ?z1x6q20
  case y1x6q20 => intro wq hSw; (go_simp); (try with_reducible rfl)
  refine tkL 7 (v := ?_) rfl (by kernel_rfl) (fun _ _ _ h => h) (by rfl) ?y1x7q23 (by assumption) ?z1x7q23
  case y1x7q23 => intro wq hSw; (go_simp); (try with_reducible rfl)
  refine tkL 8 (v := ?_) rfl (by kernel_rfl) (fun _ _ _ h => h) (by rfl) ?y1x8q26 (by assumption) ?z1x8q26
  case y1x8q26 => intro wq hSw; (have cq := Y1.out wq hSw; go_simp); (try with_reducible rfl)
  refine tkL 9 (v := ?_) rfl (by kernel_rfl) (fun _ _ _ h => h) (by rfl) ?y1x9q29 (by assumption) ?z1x9q29
  case y1x9q29 => intro wq hSw; (go_simp); (try with_reducible rfl)
  refine tkL 10 (v := ?_) rfl (by kernel_rfl) (fun _ _ _ h => h) (by rfl) ?y1x10q32 (by assumption) ?z1x10q32
  case y1x10q32 => intro wq hSw; (have cq := QI.out wq hSw; go_simp); (try with_reducible rfl)
  refine wpAnyL_ready (rs := [5]) (by kernel_rfl) (by simp) ?_
  refine AllReadyL.cons (o := ⟨_, _, _, _, _, _⟩) rfl (fun K hK => ?_) AllReadyL.nil
  go_simp
  (with_reducible refine (other_r _ _ _ N p.left p.id _ (HS.out.nx hHeld) hn).mono ?_)
  rintro e wb ⟨rfl, kk⟩
  replace hHeld := hHeld.nx kk
  clear kk
  refine hK.out _ _ (hHeld) (fun hHeld => ?_)
  clear hK K
  refine wpAnyL_ready (rs := [11]) (by kernel_rfl) (by simp) ?_
  refine AllReadyL.cons (o := ⟨_, _, _, _, _, _⟩) rfl (fun K hK => ?_) AllReadyL.nil
  go_simp
  (with_reducible refine (other_r _ _ _ N p.right p.id _ (HS.out.nx hHeld) hn).mono ?_)
  rintro e wc ⟨rfl, kk⟩
  replace hHeld := hHeld.nx kk
  clear kk
  have B6z := B6.out.nx hHeld
  have f0 := B6z.free 0
  have f1 := B6z.free 1
  have r0 := B6z.cell 0 _ rfl
  have r1 := B6z.cell 1 _ rfl
  refine hK.out _ _ (hHeld) (fun hHeld => ?_)
  clear hK K
  refine tkL 12 (v := ?_) rfl (by kernel_rfl) (fun _ _ _ h => h) (by rfl) ?y1x12q60 (by assumption) ?z1x12q60
  case y1x12q60 => intro wq hSw; (go_simp); (try with_reducible rfl)
  refine wpAnyL_ready (rs := [13]) (by kernel_rfl) (by simp) ?_
  refine AllReadyL.consL (o := ⟨_, _, _, _, _, _⟩) rfl (by rfl) (fun K hK => ?_) AllReadyL.nil
  go_simp
  refine hK.out _ _ ?_
  clear hK K
  refine wpAnyL_done (by kernel_rfl) ?_ _
  have KE := lH (((K.out.nx hHeld).setNew (p := ⟨g6, 0, none⟩) (.int .i64 (otherN N p.left p.id)) zg6).setNew (p := ⟨g6, 1, none⟩) (.int .i64 (otherN N p.right p.id)) zg6)
  clear hDrew hHeld B6z
  go_wp2_with fail
  refine bodyPost_ret (v := .agg #[.int .i64 (otherN N p.left p.id), .int .i64 (otherN N p.right p.id)]) (by simp [results, Tryz.results43, go_sem, *]) rfl ⟨by rw [E0.out], KE.out⟩
 ·obtain ⟨x6, o6, ny, rfl, hx6, hny, hc6⟩ := h2.at (show k - 1 < n2 by omega)
  have LX := lH (LB.out ny CND.out h0 (by rw [show ((k : Int) - 1).toNat = k - 1 by omega]; exact near_at hny))
  have r0 : w4.cell? ⟨x6, o6 + (k - 1) * 4, none⟩ = some (.int .i64 ny.1) := hc6 0 _ rfl
  have r1 : w4.cell? ⟨x6, o6 + (k - 1) * 4 + 1, none⟩ = some (.int .i64 ny.2.1) := hc6 1 _ rfl
  have r2 : w4.cell? ⟨x6, o6 + (k - 1) * 4 + 1 + 1, none⟩ = some (.int .i64 ny.2.2.1) := by simpa [Nat.add_assoc] using hc6 2 _ rfl
  have r3 : w4.cell? ⟨x6, o6 + (k - 1) * 4 + 1 + 1 + 1, none⟩ = some (.int .i64 ny.2.2.2) := by simpa [Nat.add_assoc] using hc6 3 _ rfl
  have hkp : (0 : Int) < (k : Int) := by omega
  have hwk : IntKind.i64.wrap ((k : Int) - 1) = (k : Int) - 1 := IntWalk.i64_in _ (by omega)
  have h01 : (1 : Int) ≤ (k : Int) := by omega
  have h02 : (k : Int) - 1 < (n2 : Int) := by omega
  have hl4 := B4.lt
  have hl6 := B6.lt
  have hl7 := B7.lt
  have zz := EX.size
  have B9 := Blk.new w4 [.int .i64 p.left, .int .i64 p.right] 69
  have kk := Ex.new w4 (.cells #[.int .i64 p.left, .int .i64 p.right] 69)
  obtain ⟨w5, hw5⟩ : ∃ w5, w5 = w4.alloc (.cells #[.int .i64 p.left, .int .i64 p.right] 69) := ⟨_, rfl⟩
  obtain ⟨g9, hg9⟩ : ∃ g9, g9 = w4.heap.size := ⟨_, rfl⟩
  replace B9 : Blk w5 g9 [.int .i64 p.left, .int .i64 p.right] 69 := by rw [hw5, hg9]; exact B9
  rw [← hw5] at kk
  have Hw5 := lH hw5
  have Hg9 := lH hg9
  replace EX := EX.nx kk
  replace B4 := B4.nx kk
  replace B6 := B6.nx kk
  replace B7 := B7.nx kk
  have zg9 : w.heap.size ≤ g9 := by omega
  have h49 : ¬ g4 = g9 := by omega
  have h69 : ¬ g6 = g9 := by omega
  have h79 : ¬ g7 = g9 := by omega
  have t0 := Chg.cellv kk r0 hx6
  have t1 := Chg.cellv kk r1 hx6
  have t2 := Chg.cellv kk r2 hx6
  have t3 := Chg.cellv kk r3 hx6
  clear r0 r1 r2 r3 kk hw5 hg9 h h2 hc6 hny LB LZ h0 hl4 hl6 hl7 zz
  go_upto_region 5 with fail
  rw [← Hg9.out, ← Hw5.out]
  clear Hg9 Hw5
  have p4 := B4.cell 4 _ rfl
  clear p2 p3
  have hl9 := B9.lt
  have B10 := Blk.new w5 [.int .i64 ny.1, .int .i64 ny.2.1, .int .i64 ny.2.2.1, .int .i64 ny.2.2.2] 50
  have kk := Ex.new w5 (.cells #[.int .i64 ny.1, .int .i64 ny.2.1, .int .i64 ny.2.2.1, .int .i64 ny.2.2.2] 50)
  obtain ⟨w6, hw6⟩ : ∃ w6, w6 = w5.alloc (.cells #[.int .i64 ny.1, .int .i64 ny.2.1, .int .i64 ny.2.2.1, .int .i64 ny.2.2.2] 50) := ⟨_, rfl⟩
  obtain ⟨g10, hg10⟩ : ∃ g10, g10 = w5.heap.size := ⟨_, rfl⟩
  replace B10 : Blk w6 g10 [.int .i64 ny.1, .int .i64 ny.2.1, .int .i64 ny.2.2.1, .int .i64 ny.2.2.2] 50 := by rw [hw6, hg10]; exact B10
  rw [← hw6] at kk
  have Hw6 := lH hw6
  have Hg10 := lH hg10
  replace EX := EX.nx kk
  replace B4 := B4.nx kk
  replace B6 := B6.nx kk
  replace B7 := B7.nx kk
  replace B9 := B9.nx kk
  have h10 : ¬ g10 = g9 := by omega
  clear kk hw6 hg10 hl9
  go_upto_region 7 with fail
  rw [← Hg10.out, ← Hw6.out]
  clear Hg10 Hw6
  clear t0 t1 t2 t3 p4
  have u0 := B10.cell 0 _ rfl
  have u2 := B10.cell 2 _ rfl
  have f0 := B9.free 0
  have f1 := B9.free 1
  have v0 := B9.cell 0 _ rfl
  have v1 := B9.cell 1 _ rfl
  have KB0 : Exb g9 w6 ((w6.setCell ⟨g9, 0, none⟩ (.int .i64 ny.1)).setCell ⟨g9, 1, none⟩ (.int .i64 ny.2.2.1)) := ((Exb.refl g9 w6).setB (p := ⟨g9, 0, none⟩) _ rfl).setB (p := ⟨g9, 1, none⟩) _ rfl
  have BS0 : Blk ((w6.setCell ⟨g9, 0, none⟩ (.int .i64 ny.1)).setCell ⟨g9, 1, none⟩ (.int .i64 ny.2.2.1)) g9 [.int .i64 ny.1, .int .i64 ny.2.2.1] 69 := (B9.set 0 (.int .i64 ny.1)).set 1 (.int .i64 ny.2.2.1)
  have KS0 : Ex w ((w6.setCell ⟨g9, 0, none⟩ (.int .i64 ny.1)).setCell ⟨g9, 1, none⟩ (.int .i64 ny.2.2.1)) := (EX.setNew (p := ⟨g9, 0, none⟩) _ zg9).setNew (p := ⟨g9, 1, none⟩) _ zg9
  replace B4 := lH B4
  replace B6 := lH B6
  replace B7 := lH B7
  replace B10 := lH B10
  replace KB0 := lH KB0
  replace BS0 := lH BS0
  replace KS0 := lH KS0
  clear B9 EX
  go_upto_region 8 with fail
  obtain ⟨w7, hw7⟩ : ∃ w7, w7 = ((w6.setCell ⟨g9, 0, none⟩ (.int .i64 ny.1)).setCell ⟨g9, 1, none⟩ (.int .i64 ny.2.2.1)) := ⟨_, rfl⟩
  rw [← hw7] at KB0 BS0 KS0 ⊢
  have B9 := BS0.out
  have EX := KS0.out
  replace B4 := B4.out.nxb h49 KB0.out
  replace B6 := B6.out.nxb h69 KB0.out
  replace B7 := B7.out.nxb h79 KB0.out
  replace B10 := B10.out.nxb h10 KB0.out
  clear hw7 KB0 BS0 KS0 f0 f1 v0 v1
  clear u0 u2
  have q2 := B7.cell 2 _ rfl
  go_wp2_with fail
  refine (bit_r xw ((k : Int) - 1) _ FWh (by omega) (by omega)).mono ?_
  rintro e w8 ⟨rfl, rfl⟩
  by_cases hb : bitN xw ((k : Int) - 1) = 1
  ·have E0 := lH (LX.out.1 hb)
   have db : (((bitN xw ((k : Int) - 1) : Nat) : Int) == 1) = true := by rw [hb]; rfl
   clear hb FWh LX
   have u0 := B10.cell 1 _ rfl
   have u2 := B10.cell 3 _ rfl
   have f0 := B9.free 0
   have f1 := B9.free 1
   have v0 := B9.cell 0 _ rfl
   have v1 := B9.cell 1 _ rfl
   have KB0 : Exb g9 w7 ((w7.setCell ⟨g9, 0, none⟩ (.int .i64 ny.2.1)).setCell ⟨g9, 1, none⟩ (.int .i64 ny.2.2.2)) := ((Exb.refl g9 w7).setB (p := ⟨g9, 0, none⟩) _ rfl).setB (p := ⟨g9, 1, none⟩) _ rfl
   have BS0 : Blk ((w7.setCell ⟨g9, 0, none⟩ (.int .i64 ny.2.1)).setCell ⟨g9, 1, none⟩ (.int .i64 ny.2.2.2)) g9 [.int .i64 ny.2.1, .int .i64 ny.2.2.2] 69 := (B9.set 0 (.int .i64 ny.2.1)).set 1 (.int .i64 ny.2.2.2)
   have KS0 : Ex w ((w7.setCell ⟨g9, 0, none⟩ (.int .i64 ny.2.1)).setCell ⟨g9, 1, none⟩ (.int .i64 ny.2.2.2)) := (EX.setNew (p := ⟨g9, 0, none⟩) _ zg9).setNew (p := ⟨g9, 1, none⟩) _ zg9
   replace B4 := lH B4
   replace B6 := lH B6
   replace B7 := lH B7
   replace B10 := lH B10
   replace KB0 := lH KB0
   replace BS0 := lH BS0
   replace KS0 := lH KS0
   clear B9 EX
   go_upto_region 10 with fail
   obtain ⟨w9, hw9⟩ : ∃ w9, w9 = ((w7.setCell ⟨g9, 0, none⟩ (.int .i64 ny.2.1)).setCell ⟨g9, 1, none⟩ (.int .i64 ny.2.2.2)) := ⟨_, rfl⟩
   rw [← hw9] at KB0 BS0 KS0 ⊢
   have B9 := BS0.out
   have EX := KS0.out
   replace B4 := B4.out.nxb h49 KB0.out
   replace B6 := B6.out.nxb h69 KB0.out
   replace B7 := B7.out.nxb h79 KB0.out
   replace B10 := B10.out.nxb h10 KB0.out
   clear hw9 KB0 BS0 KS0 f0 f1 v0 v1
   clear u0 u2 q2 B7 B10
   have Y0 : Hid (∀ wq, Ex w9 wq → wq.cell? ⟨g9, 0, none⟩ = some (.int .i64 ny.2.1)) := lH (fun wq kq => (B9.nx kq).cell 0 _ rfl)
   have Y1 : Hid (∀ wq, Ex w9 wq → wq.cell? ⟨g9, 1, none⟩ = some (.int .i64 ny.2.2.2)) := lH (fun wq kq => (B9.nx kq).cell 1 _ rfl)
   have QI : Hid (∀ wq, Ex w9 wq → wq.cell? ⟨g4, 0, none⟩ = some (.int .i64 p.id)) := lH (fun wq kq => (B4.nx kq).cell 0 _ rfl)
   have HS := lH (H0.out.nx EX)
   have K := lH EX
   replace B6 := lH B6
   clear B9 B4 EX
   refine wp_region_late_drew (S := Ex w9) [13] (by kernel_rfl) ((Ex.refl w9).drew) (fun hHeld => ?_)
   obtain ⟨wd, hwdx⟩ : ∃ wd : World, wd = World.drew w9 := ⟨_, rfl⟩
   rw [← hwdx] at hHeld ⊢
   have hDrew : Ex w9 wd := by rw [hwdx]; exact (Ex.refl w9).drew
   clear hwdx
   refine tkL 0 (v := ?_) rfl (by kernel_rfl) (fun _ _ _ h => h) (by rfl) ?y2x0q5 (by assumption) ?z2x0q5
   case y2x0q5 => intro wq hSw; (go_simp); (try with_reducible rfl)
   refine tkL 1 (v := ?_) rfl (by kernel_rfl) (fun _ _ _ h => h) (by rfl) ?y2x1q8 (by assumption) ?z2x1q8
   case y2x1q8 => intro wq hSw; (go_simp); (try with_reducible rfl)
   refine tkL 2 (v := ?_) rfl (by kernel_rfl) (fun _ _ _ h => h) (by rfl) ?y2x2q11 (by assumption) ?z2x2q11
   case y2x2q11 => intro wq hSw; (have cq := Y0.out wq hSw; go_simp); (try with_reducible rfl)
   refine tkL 3 (v := ?_) rfl (by kernel_rfl) (fun _ _ _ h => h) (by rfl) ?y2x3q14 (by assumption) ?z2x3q14
   case y2x3q14 => intro wq hSw; (go_simp); (try with_reducible rfl)
   refine tkL 4 (v := ?_) rfl (by kernel_rfl) (fun _ _ _ h => h) (by rfl) ?y2x4q17 (by assumption) ?z2x4q17
   case y2x4q17 => intro wq hSw; (have cq := QI.out wq hSw; go_simp); (try with_reducible rfl)
   refine tkL 6 (v := ?_) rfl (by kernel_rfl) (fun _ _ _ h => h) (by rfl) ?y2x6q20 (by assumption) ?z2x6q20
   case y2x6q20 => intro wq hSw; (go_simp); (try with_reducible rfl)
   refine tkL 7 (v := ?_) rfl (by kernel_rfl) (fun _ _ _ h => h) (by rfl) ?y2x7q23 (by assumption) ?z2x7q23
   case y2x7q23 => intro wq hSw; (go_simp); (try with_reducible rfl)
   refine tkL 8 (v := ?_) rfl (by kernel_rfl) (fun _ _ _ h => h) (by rfl) ?y2x8q26 (by assumption) ?z2x8q26
   case y2x8q26 => intro wq hSw; (have cq := Y1.out wq hSw; go_simp); (try with_reducible rfl)
   refine tkL 9 (v := ?_) rfl (by kernel_rfl) (fun _ _ _ h => h) (by rfl) ?y2x9q29 (by assumption) ?z2x9q29
   case y2x9q29 => intro wq hSw; (go_simp); (try with_reducible rfl)
   refine tkL 10 (v := ?_) rfl (by kernel_rfl) (fun _ _ _ h => h) (by rfl) ?y2x10q32 (by assumption) ?z2x10q32
   case y2x10q32 => intro wq hSw; (have cq := QI.out wq hSw; go_simp); (try with_reducible rfl)
   refine wpAnyL_ready (rs := [5]) (by kernel_rfl) (by simp) ?_
   refine AllReadyL.cons (o := ⟨_, _, _, _, _, _⟩) rfl (fun K hK => ?_) AllReadyL.nil
   go_simp
   (with_reducible refine (other_r _ _ _ N ny.2.1 p.id _ (HS.out.nx hHeld) hn).mono ?_)
   rintro e wb ⟨rfl, kk⟩
   replace hHeld := hHeld.nx kk
   clear kk
   refine hK.out _ _ (hHeld) (fun hHeld => ?_)
   clear hK K
   refine wpAnyL_ready (rs := [11]) (by kernel_rfl) (by simp) ?_
   refine AllReadyL.cons (o := ⟨_, _, _, _, _, _⟩) rfl (fun K hK => ?_) AllReadyL.nil
   go_simp
   (with_reducible refine (other_r _ _ _ N ny.2.2.2 p.id _ (HS.out.nx hHeld) hn).mono ?_)
   rintro e wc ⟨rfl, kk⟩
   replace hHeld := hHeld.nx kk
   clear kk
   have B6z := B6.out.nx hHeld
   have f0 := B6z.free 0
   have f1 := B6z.free 1
   have r0 := B6z.cell 0 _ rfl
   have r1 := B6z.cell 1 _ rfl
   refine hK.out _ _ (hHeld) (fun hHeld => ?_)
   clear hK K
   refine tkL 12 (v := ?_) rfl (by kernel_rfl) (fun _ _ _ h => h) (by rfl) ?y2x12q60 (by assumption) ?z2x12q60
   case y2x12q60 => intro wq hSw; (go_simp); (try with_reducible rfl)
   refine wpAnyL_ready (rs := [13]) (by kernel_rfl) (by simp) ?_
   refine AllReadyL.consL (o := ⟨_, _, _, _, _, _⟩) rfl (by rfl) (fun K hK => ?_) AllReadyL.nil
   go_simp
   refine hK.out _ _ ?_
   clear hK K
   refine wpAnyL_done (by kernel_rfl) ?_ _
   have KE := lH (((K.out.nx hHeld).setNew (p := ⟨g6, 0, none⟩) (.int .i64 (otherN N ny.2.1 p.id)) zg6).setNew (p := ⟨g6, 1, none⟩) (.int .i64 (otherN N ny.2.2.2 p.id)) zg6)
   clear hDrew hHeld B6z
   go_wp2_with fail
   refine bodyPost_ret (v := .agg #[.int .i64 (otherN N ny.2.1 p.id), .int .i64 (otherN N ny.2.2.2 p.id)]) (by simp [results, Tryz.results43, go_sem, *]) rfl ⟨by rw [E0.out], KE.out⟩
  ·have E0 := lH (LX.out.2 hb)
   have db : (((bitN xw ((k : Int) - 1) : Nat) : Int) == 1) = false := by simp; omega
   clear hb FWh LX
   go_upto_region 10 with fail
   clear q2 B7 B10
   have Y0 : Hid (∀ wq, Ex w7 wq → wq.cell? ⟨g9, 0, none⟩ = some (.int .i64 ny.1)) := lH (fun wq kq => (B9.nx kq).cell 0 _ rfl)
   have Y1 : Hid (∀ wq, Ex w7 wq → wq.cell? ⟨g9, 1, none⟩ = some (.int .i64 ny.2.2.1)) := lH (fun wq kq => (B9.nx kq).cell 1 _ rfl)
   have QI : Hid (∀ wq, Ex w7 wq → wq.cell? ⟨g4, 0, none⟩ = some (.int .i64 p.id)) := lH (fun wq kq => (B4.nx kq).cell 0 _ rfl)
   have HS := lH (H0.out.nx EX)
   have K := lH EX
   replace B6 := lH B6
   clear B9 B4 EX
   refine wp_region_late_drew (S := Ex w7) [13] (by kernel_rfl) ((Ex.refl w7).drew) (fun hHeld => ?_)
   obtain ⟨wd, hwdx⟩ : ∃ wd : World, wd = World.drew w7 := ⟨_, rfl⟩
   rw [← hwdx] at hHeld ⊢
   have hDrew : Ex w7 wd := by rw [hwdx]; exact (Ex.refl w7).drew
   clear hwdx
   refine tkL 0 (v := ?_) rfl (by kernel_rfl) (fun _ _ _ h => h) (by rfl) ?y3x0q5 (by assumption) ?z3x0q5
   case y3x0q5 => intro wq hSw; (go_simp); (try with_reducible rfl)
   refine tkL 1 (v := ?_) rfl (by kernel_rfl) (fun _ _ _ h => h) (by rfl) ?y3x1q8 (by assumption) ?z3x1q8
   case y3x1q8 => intro wq hSw; (go_simp); (try with_reducible rfl)
   refine tkL 2 (v := ?_) rfl (by kernel_rfl) (fun _ _ _ h => h) (by rfl) ?y3x2q11 (by assumption) ?z3x2q11
   case y3x2q11 => intro wq hSw; (have cq := Y0.out wq hSw; go_simp); (try with_reducible rfl)
   refine tkL 3 (v := ?_) rfl (by kernel_rfl) (fun _ _ _ h => h) (by rfl) ?y3x3q14 (by assumption) ?z3x3q14
   case y3x3q14 => intro wq hSw; (go_simp); (try with_reducible rfl)
   refine tkL 4 (v := ?_) rfl (by kernel_rfl) (fun _ _ _ h => h) (by rfl) ?y3x4q17 (by assumption) ?z3x4q17
   case y3x4q17 => intro wq hSw; (have cq := QI.out wq hSw; go_simp); (try with_reducible rfl)
   refine tkL 6 (v := ?_) rfl (by kernel_rfl) (fun _ _ _ h => h) (by rfl) ?y3x6q20 (by assumption) ?z3x6q20
   case y3x6q20 => intro wq hSw; (go_simp); (try with_reducible rfl)
   refine tkL 7 (v := ?_) rfl (by kernel_rfl) (fun _ _ _ h => h) (by rfl) ?y3x7q23 (by assumption) ?z3x7q23
   case y3x7q23 => intro wq hSw; (go_simp); (try with_reducible rfl)
   refine tkL 8 (v := ?_) rfl (by kernel_rfl) (fun _ _ _ h => h) (by rfl) ?y3x8q26 (by assumption) ?z3x8q26
   case y3x8q26 => intro wq hSw; (have cq := Y1.out wq hSw; go_simp); (try with_reducible rfl)
   refine tkL 9 (v := ?_) rfl (by kernel_rfl) (fun _ _ _ h => h) (by rfl) ?y3x9q29 (by assumption) ?z3x9q29
   case y3x9q29 => intro wq hSw; (go_simp); (try with_reducible rfl)
   refine tkL 10 (v := ?_) rfl (by kernel_rfl) (fun _ _ _ h => h) (by rfl) ?y3x10q32 (by assumption) ?z3x10q32
   case y3x10q32 => intro wq hSw; (have cq := QI.out wq hSw; go_simp); (try with_reducible rfl)
   refine wpAnyL_ready (rs := [5]) (by kernel_rfl) (by simp) ?_
   refine AllReadyL.cons (o := ⟨_, _, _, _, _, _⟩) rfl (fun K hK => ?_) AllReadyL.nil
   go_simp
   (with_reducible refine (other_r _ _ _ N ny.1 p.id _ (HS.out.nx hHeld) hn).mono ?_)
   rintro e wb ⟨rfl, kk⟩
   replace hHeld := hHeld.nx kk
   clear kk
   refine hK.out _ _ (hHeld) (fun hHeld => ?_)
   clear hK K
   refine wpAnyL_ready (rs := [11]) (by kernel_rfl) (by simp) ?_
   refine AllReadyL.cons (o := ⟨_, _, _, _, _, _⟩) rfl (fun K hK => ?_) AllReadyL.nil
   go_simp
   (with_reducible refine (other_r _ _ _ N ny.2.2.1 p.id _ (HS.out.nx hHeld) hn).mono ?_)
   rintro e wc ⟨rfl, kk⟩
   replace hHeld := hHeld.nx kk
   clear kk
   have B6z := B6.out.nx hHeld
   have f0 := B6z.free 0
   have f1 := B6z.free 1
   have r0 := B6z.cell 0 _ rfl
   have r1 := B6z.cell 1 _ rfl
   refine hK.out _ _ (hHeld) (fun hHeld => ?_)
   clear hK K
   refine tkL 12 (v := ?_) rfl (by kernel_rfl) (fun _ _ _ h => h) (by rfl) ?y3x12q60 (by assumption) ?z3x12q60
   case y3x12q60 => intro wq hSw; (go_simp); (try with_reducible rfl)
   refine wpAnyL_ready (rs := [13]) (by kernel_rfl) (by simp) ?_
   refine AllReadyL.consL (o := ⟨_, _, _, _, _, _⟩) rfl (by rfl) (fun K hK => ?_) AllReadyL.nil
   go_simp
   refine hK.out _ _ ?_
   clear hK K
   refine wpAnyL_done (by kernel_rfl) ?_ _
   have KE := lH (((K.out.nx hHeld).setNew (p := ⟨g6, 0, none⟩) (.int .i64 (otherN N ny.1 p.id)) zg6).setNew (p := ⟨g6, 1, none⟩) (.int .i64 (otherN N ny.2.2.1 p.id)) zg6)
   clear hDrew hHeld B6z
   go_wp2_with fail
   refine bodyPost_ret (v := .agg #[.int .i64 (otherN N ny.1 p.id), .int .i64 (otherN N ny.2.2.1 p.id)]) (by simp [results, Tryz.results43, go_sem, *]) rfl ⟨by rw [E0.out], KE.out⟩
theorem other_z (N : List Nd) (own : Int) : otherN N 0 own = 0 := by unfold otherN; split <;> rfl
theorem other_link (N : List Nd) (p : Pr) (lev : Int) : otherN N (linkB N p lev).1 p.id = (linkB N p lev).1 ∧ otherN N (linkB N p lev).2 p.id = (linkB N p lev).2 := by
 have key : ∀ z, otherN N (otherN N z p.id) p.id = otherN N z p.id := fun z => by
  by_cases h : (findN N z).2 = true ∧ z ≠ p.id
  ·have e : otherN N z p.id = z := by unfold otherN; rw [if_pos h]
   rw [e, e]
  ·have e : otherN N z p.id = 0 := by unfold otherN; rw [if_neg h]
   rw [e, other_z]
 unfold linkB
 split
 ·exact ⟨key _, key _⟩
 ·exact ⟨other_z _ _, other_z _ _⟩
def sideR (N : List Nd) (nb : Int) (lev : Nat) (zero one : Int) : Int × Int :=
 if (findN N nb).2 = true then (if bitN (findN N nb).1.word lev = 0 then ((findN N nb).1.id, one) else (zero, (findN N nb).1.id)) else (0, 0)
theorem side_pair {N : List Nd} {own nb : Int} (h : otherN N nb own = nb) (lev : Nat) (zero one : Int) :
  (otherN N (sideR N nb lev zero one).1 own, otherN N (sideR N nb lev zero one).2 own) = pairB N own nb lev zero one := by
 unfold sideR pairB
 by_cases hf : (findN N nb).2 = true
 ·rw [if_pos hf, if_pos hf]
  have hid : (findN N nb).1.id = nb := (findN_mem hf).2
  by_cases hb : bitN (findN N nb).1.word lev = 0
  ·rw [if_pos hb, if_pos hb]
   simp only
   rw [hid, h]
  ·rw [if_neg hb, if_neg hb]
   simp only
   rw [hid, h]
 ·rw [if_neg hf, if_neg hf]
  simp only
  rw [other_z]
set_option maxRecDepth 100000 in
set_option maxHeartbeats 2000000 in
theorem near17_r (p : Pr) (a1 : Option Addr) (n1 c1 : Nat) (a2 : Option Addr) (n2 c2 : Nat) (lev : Nat) (x : Nr) (hx : nearAt p lev = x) (w : World) (h2 : Sl 4 encNr w a2 n2 p.near) :
  Calls Tryz.prog 122 #[.agg #[.int .i64 p.id, .slice a1 n1 c1, .int .i64 p.left, .int .i64 p.right, .slice a2 n2 c2], .int .i64 lev] w fun e w' => e = .returned (.agg #[.int .i64 x.1, .int .i64 x.2.1, .int .i64 x.2.2.1, .int .i64 x.2.2.2]) ∧ Ex w w' := by
 have EX := Ex.refl w
 obtain ⟨g2, hg2⟩ : ∃ g2, g2 = w.heap.size := ⟨_, rfl⟩
 obtain ⟨g4, hg4⟩ : ∃ g4, g4 = (w.heap.size + 1) := ⟨_, rfl⟩
 obtain ⟨w1, hw1⟩ : ∃ w1, w1 = ((w.alloc (.cells #[.int .i64 p.id, .slice a1 n1 c1, .int .i64 p.left, .int .i64 p.right, .slice a2 n2 c2] 41)).alloc (.cells #[.int .i64 0, .int .i64 0, .int .i64 0, .int .i64 0] 50)) := ⟨_, rfl⟩
 have kk : Ex w w1 := by rw [hw1]; exact (((Ex.refl w).alloc (.cells #[.int .i64 p.id, .slice a1 n1 c1, .int .i64 p.left, .int .i64 p.right, .slice a2 n2 c2] 41)).alloc (.cells #[.int .i64 0, .int .i64 0, .int .i64 0, .int .i64 0] 50))
 have B2 : Blk w1 g2 [.int .i64 p.id, .slice a1 n1 c1, .int .i64 p.left, .int .i64 p.right, .slice a2 n2 c2] 41 := by rw [hw1]; simp only [hg2, hg4]; have hbk := ((Blk.new w [.int .i64 p.id, .slice a1 n1 c1, .int .i64 p.left, .int .i64 p.right, .slice a2 n2 c2] 41).nx (Ex.new _ (.cells #[.int .i64 0, .int .i64 0, .int .i64 0, .int .i64 0] 50))); simpa using hbk
 have B4 : Blk w1 g4 [.int .i64 0, .int .i64 0, .int .i64 0, .int .i64 0] 50 := by rw [hw1]; simp only [hg2, hg4]; have hbk := (Blk.new (w.alloc (.cells #[.int .i64 p.id, .slice a1 n1 c1, .int .i64 p.left, .int .i64 p.right, .slice a2 n2 c2] 41)) [.int .i64 0, .int .i64 0, .int .i64 0, .int .i64 0] 50); simpa using hbk
 have Hw1 := lH hw1
 have Hg2 := lH hg2
 have Hg4 := lH hg4
 replace h2 := h2.nx kk
 replace EX := EX.nx kk
 have hz4 : w.heap.size ≤ g4 := by omega
 clear kk hw1 hg2 hg4
 go_enter Tryz.func122, Tryz.ntmps122
 go_upto_region 1 with fail
 rw [← Hw1.out, ← Hg4.out, ← Hg2.out]
 clear Hw1 Hg4 Hg2
 have q4 := B2.cell 4 _ rfl
 have f0 := B4.free 0
 have f1 := B4.free 1
 have f2 := B4.free 2
 have f3 := B4.free 3
 have c0 := B4.cell 0 _ rfl
 have c1' := B4.cell 1 _ rfl
 have c2' := B4.cell 2 _ rfl
 have c3 := B4.cell 3 _ rfl
 have hml := h2.len
 by_cases hlt : lev < n2
 ·obtain ⟨x6, o6, ny, rfl, hx6, hny, hc6⟩ := h2.at hlt
  obtain rfl : ny = x := (near_at hny).symm.trans hx
  have r0 : w1.cell? ⟨x6, o6 + lev * 4, none⟩ = some (.int .i64 ny.1) := hc6 0 _ rfl
  have r1 : w1.cell? ⟨x6, o6 + lev * 4 + 1, none⟩ = some (.int .i64 ny.2.1) := hc6 1 _ rfl
  have r2 : w1.cell? ⟨x6, o6 + lev * 4 + 1 + 1, none⟩ = some (.int .i64 ny.2.2.1) := by simpa [Nat.add_assoc] using hc6 2 _ rfl
  have r3 : w1.cell? ⟨x6, o6 + lev * 4 + 1 + 1 + 1, none⟩ = some (.int .i64 ny.2.2.2) := by simpa [Nat.add_assoc] using hc6 3 _ rfl
  have hl1 : (lev : Int) < (n2 : Int) := by omega
  have KE := lH ((((EX.setNew (p := ⟨g4, 0, none⟩) (.int .i64 ny.1) hz4).setNew (p := ⟨g4, 1, none⟩) (.int .i64 ny.2.1) hz4).setNew (p := ⟨g4, 2, none⟩) (.int .i64 ny.2.2.1) hz4).setNew (p := ⟨g4, 3, none⟩) (.int .i64 ny.2.2.2) hz4)
  clear h2 hc6 hny EX B2 B4 hx hml
  go_wp2_with fail
  refine bodyPost_ret (v := .agg #[.int .i64 ny.1, .int .i64 ny.2.1, .int .i64 ny.2.2.1, .int .i64 ny.2.2.2]) (by simp [results, Tryz.results122, go_sem, *]) rfl ⟨rfl, KE.out⟩
 ·obtain rfl : x = (0, 0, 0, 0) := hx.symm.trans (near_out (by omega))
  have hge : n2 ≤ lev := by omega
  have KE := lH ((((EX.setNew (p := ⟨g4, 0, none⟩) (.int .i64 0) hz4).setNew (p := ⟨g4, 1, none⟩) (.int .i64 0) hz4).setNew (p := ⟨g4, 2, none⟩) (.int .i64 0) hz4).setNew (p := ⟨g4, 3, none⟩) (.int .i64 0) hz4)
  clear h2 EX B2 B4 hx hml hlt
  go_wp2_with fail
  refine bodyPost_ret (v := .agg #[.int .i64 0, .int .i64 0, .int .i64 0, .int .i64 0]) (by simp [results, Tryz.results122, go_sem, *]) rfl ⟨rfl, KE.out⟩
theorem side_cases (N : List Nd) (nb : Int) (lev : Nat) (zero one : Int) :
  ((findN N nb).2 = false → sideR N nb lev zero one = (0, 0)) ∧ ((findN N nb).2 = true → bitN (findN N nb).1.word lev = 0 → sideR N nb lev zero one = ((findN N nb).1.id, one)) ∧
   ((findN N nb).2 = true → ¬ bitN (findN N nb).1.word lev = 0 → sideR N nb lev zero one = (zero, (findN N nb).1.id)) := by
 unfold sideR
 exact ⟨fun h => by rw [if_neg (by rw [h]; simp)], fun h hb => by rw [if_pos h, if_pos hb], fun h hb => by rw [if_pos h, if_neg hb]⟩
theorem litN4e {w0 u : World} (_ : Ex w0 u) (a b c d : Int) : ∃ g v, g = u.heap.size ∧ v = u.alloc (.cells #[.int .i64 a, .int .i64 b, .int .i64 c, .int .i64 d] 50) ∧ Sl 4 encNr v (some ⟨g, 0, none⟩) 1 [(a, b, c, d)] ∧ Ex u v :=
 ⟨_, _, rfl, rfl, Sl.lit [(a, b, c, d)] rfl rfl (fun _ => rfl) rfl, Ex.new _ _⟩
def SdCut (g : Nat) (a b c d : Int) (w wx : World) : Prop := Blk wx g [.int .i64 a, .int .i64 b, .int .i64 c, .int .i64 d] 50 ∧ Ex w wx
def NyRel (F : Nat → Nr) (h β : Nat) (w2 : World) (o i : Value) (wr : World) : Prop :=
 ∃ j : Nat, j ≤ h ∧ i = .int .i64 j ∧ OwnL 4 encNr 50 β wr o ((List.range j).map F) ∧ Ex w2 wr
set_option maxRecDepth 100000 in
set_option maxHeartbeats 16000000 in
theorem next17_r (a : Option Addr) (n c : Nat) (N : List Nd) (a2 : Option Addr) (n2 c2 : Nat) (P : List Pr) (p : Pr) (a1 : Option Addr) (n1 c1 : Nat) (a3 : Option Addr) (n3 c3 h : Nat) (w : World) (hs : Sl 3 encN w a n N) (hn : n ≤ 1000) (hw : ∀ x ∈ N, x.word < 4294967296)
  (h2 : PL w a2 n2 P) (hn2 : n2 ≤ 1000000) (hP : SmallP P) (h3 : Sl 4 encNr w a3 n3 p.near) (hn3 : n3 ≤ 4000000000000000000) (hh : h ≤ 16) :
  Calls Tryz.prog 89 #[.slice a n c, .slice a2 n2 c2, .agg #[.int .i64 p.id, .slice a1 n1 c1, .int .i64 p.left, .int .i64 p.right, .slice a3 n3 c3], .int .i64 h] w (NxPost (nextB N (peerN P) p h) w) := by
 have EX := Ex.refl w
 have HW := lH hw
 have HP := lH hP
 have FF : Hid (∀ F, stepB N (peerN P) p = F → nextB N (peerN P) p h = (List.range h).map F) := lH (fun F hF => by rw [← hF]; rfl)
 have STP : Hid (∀ j : Nat, stepB N (peerN P) p j = stepB N (peerN P) p j) := lH (fun _ => rfl)
 clear hw hP STP
 obtain ⟨g6, hg6⟩ : ∃ g6, g6 = w.heap.size := ⟨_, rfl⟩
 obtain ⟨w2, hw2⟩ : ∃ w2, w2 = (w.alloc (.cells #[.int .i64 p.id, .slice a1 n1 c1, .int .i64 p.left, .int .i64 p.right, .slice a3 n3 c3] 41)) := ⟨_, rfl⟩
 have kk : Ex w w2 := by rw [hw2]; exact ((Ex.refl w).alloc (.cells #[.int .i64 p.id, .slice a1 n1 c1, .int .i64 p.left, .int .i64 p.right, .slice a3 n3 c3] 41))
 have B6 : Blk w2 g6 [.int .i64 p.id, .slice a1 n1 c1, .int .i64 p.left, .int .i64 p.right, .slice a3 n3 c3] 41 := by rw [hw2]; simp only [hg6]; have hbk := (Blk.new w [.int .i64 p.id, .slice a1 n1 c1, .int .i64 p.left, .int .i64 p.right, .slice a3 n3 c3] 41); simpa using hbk
 have Hw2 := lH hw2
 have Hg6 := lH hg6
 replace hs := hs.nx kk
 replace h2 := h2.nx kk
 replace h3 := h3.nx kk
 replace EX := EX.nx kk
 clear kk hw2 hg6
 go_enter Tryz.func89, Tryz.ntmps89
 go_upto_region 1 with fail
 rw [← Hw2.out, ← Hg6.out]
 clear Hw2 Hg6
 have z2 := EX.size
 have H1 := lH hs
 have H2 := lH h2
 have H3 := lH h3
 have B6h := lH B6
 have EX := lH EX
 clear hs h2 h3 B6
 go_wp2_with fail
 go_loopw [9, 10] (fun o i wr => NyRel (stepB N (peerN P) p) h w2.heap.size w2 o i wr) (fun _ i _ => h - (intOf i).toNat)
 case atStart => exact ⟨0, by omega, rfl, OwnL.nil _ _ _ _ _, Ex.refl _⟩
 case round =>
  obtain ⟨j, hj, rfl, own, ki⟩ := hrel
  obtain ⟨wi, rfl⟩ : ∃ wi : World, wi = wr := ⟨_, rfl⟩
  by_cases hjm : j < h
  ·have q0 := (B6h.out.nx ki).cell 0 _ rfl
   have q1 := (B6h.out.nx ki).cell 1 _ rfl
   have q2 := (B6h.out.nx ki).cell 2 _ rfl
   have q3 := (B6h.out.nx ki).cell 3 _ rfl
   have q4 := (B6h.out.nx ki).cell 4 _ rfl
   have hj16 : j ≤ 16 := by omega
   have hjh : (j : Int) < (h : Int) := by omega
   obtain ⟨LK, hLK⟩ : ∃ LK, LK = linkB N p j := ⟨_, rfl⟩
   have OL := lH (other_link N p j)
   have KI := lH ki
   have OWN := lH own
   have RS : Hid ((List.range (j + 1)).map (stepB N (peerN P) p) = (List.range j).map (stepB N (peerN P) p) ++ [stepB N (peerN P) p j]) := lH (by rw [List.range_succ, List.map_append]; rfl)
   have hrl : ((List.range j).map (stepB N (peerN P) p)).length = j := by simp
   clear ki own
   go_wp2_with fail
   (with_reducible refine (link_r _ _ _ N p _ _ _ _ _ _ j _ (H1.out.nx KI.out) hn HW.out (H3.out.nx KI.out) hn3).mono ?_)
   rintro e w4 ⟨rfl, kk⟩
   replace OWN := lH (OWN.out.nx kk)
   replace KI := lH (KI.out.nx kk)
   clear kk q0 q1 q2 q3 q4
   rw [← hLK] at OL ⊢
   obtain ⟨lkl, lkr⟩ := LK
   simp only at OL
   have B11 := Blk.new w4 [.int .i64 lkl, .int .i64 lkr] 69
   have kk := Ex.new w4 (.cells #[.int .i64 lkl, .int .i64 lkr] 69)
   obtain ⟨wj, hwj⟩ : ∃ wj, wj = w4.alloc (.cells #[.int .i64 lkl, .int .i64 lkr] 69) := ⟨_, rfl⟩
   obtain ⟨g11, hg11⟩ : ∃ g11, g11 = w4.heap.size := ⟨_, rfl⟩
   replace B11 : Blk wj g11 [.int .i64 lkl, .int .i64 lkr] 69 := by rw [hwj, hg11]; exact B11
   rw [← hwj] at kk
   have Hwj := lH hwj
   have Hg11 := lH hg11
   replace OWN := lH (OWN.out.nx kk)
   have KJ := lH (KI.out.nx kk)
   clear kk hwj hg11
   go_upto_region 6 with fail
   rw [← Hg11.out, ← Hwj.out]
   clear Hg11 Hwj
   have B11h := lH B11
   clear B11
   have B12 := Blk.new wj [.int .i64 0, .int .i64 0, .int .i64 0, .int .i64 0] 50
   have kk := Ex.new wj (.cells #[.int .i64 0, .int .i64 0, .int .i64 0, .int .i64 0] 50)
   obtain ⟨w6, hw6⟩ : ∃ w6, w6 = wj.alloc (.cells #[.int .i64 0, .int .i64 0, .int .i64 0, .int .i64 0] 50) := ⟨_, rfl⟩
   obtain ⟨g12, hg12⟩ : ∃ g12, g12 = wj.heap.size := ⟨_, rfl⟩
   replace B12 : Blk w6 g12 [.int .i64 0, .int .i64 0, .int .i64 0, .int .i64 0] 50 := by rw [hw6, hg12]; exact B12
   rw [← hw6] at kk
   have Hw6 := lH hw6
   have Hg12 := lH hg12
   have zg12 : wj.heap.size ≤ g12 := by omega
   have K6 := kk
   clear kk hw6 hg12
   go_upto_region 7 with fail
   rw [← Hg12.out, ← Hw6.out]
   clear Hg12 Hw6
   obtain ⟨xol, hxol⟩ : ∃ x, nearAt (peerN P lkl) j = x := ⟨_, rfl⟩
   obtain ⟨xor, hxor⟩ : ∃ x, nearAt (peerN P lkr) j = x := ⟨_, rfl⟩
   have ST := lH (step_of N (peerN P) p j hLK.symm hxol hxor)
   have HXOl := lH hxol
   have HXOr := lH hxor
   clear hLK hxol hxor
   have u0 := (B11h.out.nx K6).cell 0 _ rfl
   go_wp2_with fail
   (with_reducible refine (find_r _ _ _ N lkl _ (H1.out.nx (KJ.out.nx K6)) (by omega)).mono ?_)
   rintro e wfl ⟨rfl, kk⟩
   replace B12 := B12.nx kk
   have KF := lH (K6.nx kk)
   clear kk u0
   have SD := lH (side_cases N lkl j xol.1 xol.2.1)
   have FWD := lH (fun h => find_word HW.out lkl h)
   have FID := lH (fun (h : (findN N lkl).2 = true) => (findN_mem h).2)
   generalize hsd : sideR N lkl j xol.1 xol.2.1 = sdl at SD
   have HSDl := lH hsd
   clear hsd
   obtain ⟨F, hF⟩ : ∃ F, F = findN N lkl := ⟨_, rfl⟩
   rw [← hF] at SD FWD FID ⊢
   clear hF
   obtain ⟨⟨xi, xk, xw⟩, ok⟩ := F
   have hl12 := B12.lt
   have B13 := Blk.new wfl [.int .i64 xi, .string xk, .int .u32 xw] 56
   have kk := Ex.new wfl (.cells #[.int .i64 xi, .string xk, .int .u32 xw] 56)
   obtain ⟨wgl, hwgl⟩ : ∃ wgl, wgl = wfl.alloc (.cells #[.int .i64 xi, .string xk, .int .u32 xw] 56) := ⟨_, rfl⟩
   obtain ⟨g13, hg13⟩ : ∃ g13, g13 = wfl.heap.size := ⟨_, rfl⟩
   replace B13 : Blk wgl g13 [.int .i64 xi, .string xk, .int .u32 xw] 56 := by rw [hwgl, hg13]; exact B13
   rw [← hwgl] at kk
   have Hwgl := lH hwgl
   have Hg13 := lH hg13
   replace B12 := B12.nx kk
   have KG := lH (KF.out.nx kk)
   have n1312 : ¬ g13 = g12 := by omega
   clear kk hwgl hg13 hl12
   simp only [Nd.val]
   go_upto_region 8 with fail
   rw [← Hg13.out, ← Hwgl.out]
   clear Hg13 Hwgl
   go_upto_if 36 with fail
   go_cut [15] from 37 to 59 (fun _ wx => SdCut g12 sdl.1 sdl.2 0 0 wj wx)
   case first =>
    cases ok with
    | false =>
     obtain ⟨sd0, _, _⟩ := SD.out
     have hz := sd0 rfl
     have CUT := lH (show SdCut g12 sdl.1 sdl.2 0 0 wj wgl from ⟨by rw [hz]; exact B12, KG.out⟩)
     clear B12 B13 sd0 hz
     go_wp2_with fail
     go_meet
     exact CUT.out
    | true =>
     have hid : xi = lkl := FID.out rfl
     subst hid
     have q0 := B13.cell 0 _ rfl
     go_wp2_with fail
     (with_reducible refine (peer_r _ _ _ P xi _ (H2.out.nx (KJ.out.nx KG.out)) hn2 HP.out).mono ?_)
     rintro e whl ⟨⟨A1, n1', c1'⟩, ⟨A4, n4', c4'⟩, rfl, _, on, kk⟩
     replace B12 := B12.nx kk
     replace B13 := B13.nx kk
     have KH := lH (KG.out.nx kk)
     have S4 : Sl 4 encNr whl A4 n4' (peerN P xi).near := by
      obtain ⟨_, _, e, r, _⟩ := on.rd (fun _ => rfl)
      injection e with h1 h2 h3
      subst h1 h2 h3
      exact r.mono (fun _ hk => hk.2)
     simp only [Hdr.val]
     clear kk q0 on
     go_wp2_with fail
     (with_reducible refine (near17_r (peerN P xi) _ _ _ _ _ _ j xol HXOl.out _ S4).mono ?_)
     rintro e wnl ⟨rfl, kk⟩
     replace B12 := B12.nx kk
     replace B13 := B13.nx kk
     replace KH := lH (KH.out.nx kk)
     clear kk S4
     have hl12 := B12.lt
     have B15 := Blk.new wnl [.int .i64 xol.1, .int .i64 xol.2.1, .int .i64 xol.2.2.1, .int .i64 xol.2.2.2] 50
     have kk := Ex.new wnl (.cells #[.int .i64 xol.1, .int .i64 xol.2.1, .int .i64 xol.2.2.1, .int .i64 xol.2.2.2] 50)
     obtain ⟨wol, hwol⟩ : ∃ wol, wol = wnl.alloc (.cells #[.int .i64 xol.1, .int .i64 xol.2.1, .int .i64 xol.2.2.1, .int .i64 xol.2.2.2] 50) := ⟨_, rfl⟩
     obtain ⟨g15, hg15⟩ : ∃ g15, g15 = wnl.heap.size := ⟨_, rfl⟩
     replace B15 : Blk wol g15 [.int .i64 xol.1, .int .i64 xol.2.1, .int .i64 xol.2.2.1, .int .i64 xol.2.2.2] 50 := by rw [hwol, hg15]; exact B15
     rw [← hwol] at kk
     have Hwol := lH hwol
     have Hg15 := lH hg15
     replace B12 := B12.nx kk
     replace B13 := B13.nx kk
     replace KH := lH (KH.out.nx kk)
     have n1512 : ¬ g15 = g12 := by omega
     clear kk hwol hg15 hl12
     go_upto_region 10 with fail
     rw [← Hg15.out, ← Hwol.out]
     clear Hg15 Hwol
     have B12h := lH B12
     have B13h := lH B13
     have B15h := lH B15
     clear B12 B13 B15
     refine wp_region_held_drew (S := Exb g12 wol) (by kernel_rfl) ((Exb.refl g12 wol).drew) (fun hHeld => ?_)
     obtain ⟨wd, hwdx⟩ : ∃ wd : World, wd = World.drew wol := ⟨_, rfl⟩
     rw [← hwdx] at hHeld ⊢
     have hDrew : Ex wol wd := by rw [hwdx]; exact (Ex.refl wol).drew
     clear hwdx
     refine tkH 0 (v := ?_) rfl (by kernel_rfl) (fun _ _ _ h => h) (by rfl) ?y1x0q5 (by assumption) ?z1x0q5
     case y1x0q5 => intro wq hSw; (go_simp); (try with_reducible rfl)
     refine tkH 1 (v := ?_) rfl (by kernel_rfl) (fun _ _ _ h => h) (by rfl) ?y1x1q8 (by assumption) ?z1x1q8
     case y1x1q8 => intro wq hSw; (have cq := (B15h.out.nxb n1512 hSw).cell 0 _ rfl; go_simp); (try with_reducible rfl)
     refine tkH 2 (v := ?_) rfl (by kernel_rfl) (fun _ _ _ h => h) (by rfl) ?y1x2q11 (by assumption) ?z1x2q11
     case y1x2q11 => intro wq hSw; (go_simp); (try with_reducible rfl)
     refine tkH 3 (v := ?_) rfl (by kernel_rfl) (fun _ _ _ h => h) (by rfl) ?y1x3q14 (by assumption) ?z1x3q14
     case y1x3q14 => intro wq hSw; (have cq := (B15h.out.nxb n1512 hSw).cell 1 _ rfl; go_simp); (try with_reducible rfl)
     refine tkH 4 (v := ?_) rfl (by kernel_rfl) (fun _ _ _ h => h) (by rfl) ?y1x4q17 (by assumption) ?z1x4q17
     case y1x4q17 => intro wq hSw; (go_simp); (try with_reducible rfl)
     refine wpAnyH_ready (rs := [5]) (by kernel_rfl) (by simp) ?_
     refine AllReadyH.cons (o := ⟨_, _, _, _, _, _⟩) rfl (fun K hK => ?_) AllReadyH.nil
     have BQ := B12h.out.nx hDrew
     have KZ := hDrew.b g12
     have cq := BQ.cell 0 _ rfl
     have fq := BQ.free 0
     go_simp
     clear cq fq
     replace KZ := KZ.setB (p := ⟨g12, 0, none⟩) (.int .i64 xol.1) rfl
     replace BQ := BQ.set 0 (.int .i64 xol.1)
     refine hK.out _ _ (KZ) (fun hHeld => ?_)
     clear hK K
     refine tkH 6 (v := ?_) rfl (by kernel_rfl) (fun _ _ _ h => h) (by rfl) ?y1x6q33 (by assumption) ?z1x6q33
     case y1x6q33 => intro wq hSw; (go_simp); (try with_reducible rfl)
     refine wpAnyH_ready (rs := [7]) (by kernel_rfl) (by simp) ?_
     refine AllReadyH.cons (o := ⟨_, _, _, _, _, _⟩) rfl (fun K hK => ?_) AllReadyH.nil
     have cq := BQ.cell 1 _ rfl
     have fq := BQ.free 1
     go_simp
     clear cq fq
     replace KZ := KZ.setB (p := ⟨g12, 1, none⟩) (.int .i64 xol.2.1) rfl
     replace BQ := BQ.set 1 (.int .i64 xol.2.1)
     refine hK.out _ _ (KZ) (fun hHeld => ?_)
     clear hK K
     refine wpAnyH_done (by kernel_rfl) ?_ _
     obtain ⟨wpl, hwpl⟩ : ∃ wp, wp = (wd.setCell ⟨g12, 0, none⟩ (.int .i64 xol.1)).setCell ⟨g12, 1, none⟩ (.int .i64 xol.2.1) := ⟨_, rfl⟩
     rw [← hwpl] at BQ KZ ⊢
     have B13 := B13h.out.nxb n1312 KZ
     have KP := (Exl.nxb (b := g12) (w := wj) ⟨KH.out, zg12⟩ KZ).1
     have B12 : Blk wpl g12 [.int .i64 xol.1, .int .i64 xol.2.1, .int .i64 0, .int .i64 0] 50 := BQ
     clear hwpl BQ KZ hHeld hDrew B12h B13h B15h
     obtain ⟨_, sd1, sd2⟩ := SD.out
     have FWh := FWD.out trivial
     have q2 := B13.cell 2 _ rfl
     go_wp2_with fail
     refine (bit_r xw j _ FWh (by omega) (by omega)).mono ?_
     rintro e wbl ⟨rfl, hwb⟩
     subst hwb
     have q0 := B13.cell 0 _ rfl
     by_cases hb : bitN xw j = 0
     ·have hz := sd1 trivial hb
      have d1 : (((bitN xw j : Nat) : Int) == 0) = true := by rw [hb]; rfl
      have f0 := B12.free 0
      have r0 := B12.cell 0 _ rfl
      have CUT := lH (show SdCut g12 sdl.1 sdl.2 0 0 wj (wpl.setCell ⟨g12, 0, none⟩ (.int .i64 xi)) from ⟨by rw [hz]; exact B12.set 0 (.int .i64 xi), KP.setNew (p := ⟨g12, 0, none⟩) _ zg12⟩)
      clear B12 B13 KP hz hb sd1 sd2 FWh
      go_wp2_with fail
      go_meet
      exact CUT.out
     ·have hz := sd2 trivial hb
      have d1 : (((bitN xw j : Nat) : Int) == 0) = false := by simpa using hb
      have f0 := B12.free 1
      have r0 := B12.cell 1 _ rfl
      have CUT := lH (show SdCut g12 sdl.1 sdl.2 0 0 wj (wpl.setCell ⟨g12, 1, none⟩ (.int .i64 xi)) from ⟨by rw [hz]; exact B12.set 1 (.int .i64 xi), KP.setNew (p := ⟨g12, 1, none⟩) _ zg12⟩)
      clear B12 B13 KP hz hb sd1 sd2 FWh
      go_wp2_with fail
      go_meet
      exact CUT.out
   case rest =>
    rename World => wxl
    obtain ⟨B12, k12⟩ := hcut
    have u0 := (B11h.out.nx k12).cell 1 _ rfl
    go_wp2_with fail
    (with_reducible refine (find_r _ _ _ N lkr _ (H1.out.nx (KJ.out.nx k12)) (by omega)).mono ?_)
    rintro e wfr ⟨rfl, kk⟩
    replace B12 := B12.nx kk
    have KF := lH (k12.nx kk)
    clear kk u0
    have SD := lH (side_cases N lkr j xor.2.2.1 xor.2.2.2)
    have FWD := lH (fun h => find_word HW.out lkr h)
    have FID := lH (fun (h : (findN N lkr).2 = true) => (findN_mem h).2)
    generalize hsd : sideR N lkr j xor.2.2.1 xor.2.2.2 = sdr at SD
    have HSDr := lH hsd
    clear hsd
    obtain ⟨F, hF⟩ : ∃ F, F = findN N lkr := ⟨_, rfl⟩
    rw [← hF] at SD FWD FID ⊢
    clear hF
    obtain ⟨⟨xi, xk, xw⟩, ok⟩ := F
    have hl12 := B12.lt
    have B13 := Blk.new wfr [.int .i64 xi, .string xk, .int .u32 xw] 56
    have kk := Ex.new wfr (.cells #[.int .i64 xi, .string xk, .int .u32 xw] 56)
    obtain ⟨wgr, hwgr⟩ : ∃ wgr, wgr = wfr.alloc (.cells #[.int .i64 xi, .string xk, .int .u32 xw] 56) := ⟨_, rfl⟩
    obtain ⟨g13, hg13⟩ : ∃ g13, g13 = wfr.heap.size := ⟨_, rfl⟩
    replace B13 : Blk wgr g13 [.int .i64 xi, .string xk, .int .u32 xw] 56 := by rw [hwgr, hg13]; exact B13
    rw [← hwgr] at kk
    have Hwgr := lH hwgr
    have Hg13 := lH hg13
    replace B12 := B12.nx kk
    have KG := lH (KF.out.nx kk)
    have n1312 : ¬ g13 = g12 := by omega
    clear kk hwgr hg13 hl12
    simp only [Nd.val]
    go_upto_region 15 with fail
    rw [← Hg13.out, ← Hwgr.out]
    clear Hg13 Hwgr
    go_upto_if 67 with fail
    go_cut [18] from 68 to 90 (fun _ wx => SdCut g12 sdl.1 sdl.2 sdr.1 sdr.2 wj wx)
    case first =>
     cases ok with
     | false =>
      obtain ⟨sd0, _, _⟩ := SD.out
      have hz := sd0 rfl
      have CUT := lH (show SdCut g12 sdl.1 sdl.2 sdr.1 sdr.2 wj wgr from ⟨by rw [hz]; exact B12, KG.out⟩)
      clear B12 B13 sd0 hz
      go_wp2_with fail
      go_meet
      exact CUT.out
     | true =>
      have hid : xi = lkr := FID.out rfl
      subst hid
      have q0 := B13.cell 0 _ rfl
      go_wp2_with fail
      (with_reducible refine (peer_r _ _ _ P xi _ (H2.out.nx (KJ.out.nx KG.out)) hn2 HP.out).mono ?_)
      rintro e whr ⟨⟨A1, n1', c1'⟩, ⟨A4, n4', c4'⟩, rfl, _, on, kk⟩
      replace B12 := B12.nx kk
      replace B13 := B13.nx kk
      have KH := lH (KG.out.nx kk)
      have S4 : Sl 4 encNr whr A4 n4' (peerN P xi).near := by
       obtain ⟨_, _, e, r, _⟩ := on.rd (fun _ => rfl)
       injection e with h1 h2 h3
       subst h1 h2 h3
       exact r.mono (fun _ hk => hk.2)
      simp only [Hdr.val]
      clear kk q0 on
      go_wp2_with fail
      (with_reducible refine (near17_r (peerN P xi) _ _ _ _ _ _ j xor HXOr.out _ S4).mono ?_)
      rintro e wnr ⟨rfl, kk⟩
      replace B12 := B12.nx kk
      replace B13 := B13.nx kk
      replace KH := lH (KH.out.nx kk)
      clear kk S4
      have hl12 := B12.lt
      have B15 := Blk.new wnr [.int .i64 xor.1, .int .i64 xor.2.1, .int .i64 xor.2.2.1, .int .i64 xor.2.2.2] 50
      have kk := Ex.new wnr (.cells #[.int .i64 xor.1, .int .i64 xor.2.1, .int .i64 xor.2.2.1, .int .i64 xor.2.2.2] 50)
      obtain ⟨wor, hwor⟩ : ∃ wor, wor = wnr.alloc (.cells #[.int .i64 xor.1, .int .i64 xor.2.1, .int .i64 xor.2.2.1, .int .i64 xor.2.2.2] 50) := ⟨_, rfl⟩
      obtain ⟨g15, hg15⟩ : ∃ g15, g15 = wnr.heap.size := ⟨_, rfl⟩
      replace B15 : Blk wor g15 [.int .i64 xor.1, .int .i64 xor.2.1, .int .i64 xor.2.2.1, .int .i64 xor.2.2.2] 50 := by rw [hwor, hg15]; exact B15
      rw [← hwor] at kk
      have Hwor := lH hwor
      have Hg15 := lH hg15
      replace B12 := B12.nx kk
      replace B13 := B13.nx kk
      replace KH := lH (KH.out.nx kk)
      have n1512 : ¬ g15 = g12 := by omega
      clear kk hwor hg15 hl12
      go_upto_region 17 with fail
      rw [← Hg15.out, ← Hwor.out]
      clear Hg15 Hwor
      have B12h := lH B12
      have B13h := lH B13
      have B15h := lH B15
      clear B12 B13 B15
      refine wp_region_held_drew (S := Exb g12 wor) (by kernel_rfl) ((Exb.refl g12 wor).drew) (fun hHeld => ?_)
      obtain ⟨wd, hwdx⟩ : ∃ wd : World, wd = World.drew wor := ⟨_, rfl⟩
      rw [← hwdx] at hHeld ⊢
      have hDrew : Ex wor wd := by rw [hwdx]; exact (Ex.refl wor).drew
      clear hwdx
      refine tkH 0 (v := ?_) rfl (by kernel_rfl) (fun _ _ _ h => h) (by rfl) ?y2x0q5 (by assumption) ?z2x0q5
      case y2x0q5 => intro wq hSw; (go_simp); (try with_reducible rfl)
      refine tkH 1 (v := ?_) rfl (by kernel_rfl) (fun _ _ _ h => h) (by rfl) ?y2x1q8 (by assumption) ?z2x1q8
      case y2x1q8 => intro wq hSw; (have cq := (B15h.out.nxb n1512 hSw).cell 2 _ rfl; go_simp); (try with_reducible rfl)
      refine tkH 2 (v := ?_) rfl (by kernel_rfl) (fun _ _ _ h => h) (by rfl) ?y2x2q11 (by assumption) ?z2x2q11
      case y2x2q11 => intro wq hSw; (go_simp); (try with_reducible rfl)
      refine tkH 3 (v := ?_) rfl (by kernel_rfl) (fun _ _ _ h => h) (by rfl) ?y2x3q14 (by assumption) ?z2x3q14
      case y2x3q14 => intro wq hSw; (have cq := (B15h.out.nxb n1512 hSw).cell 3 _ rfl; go_simp); (try with_reducible rfl)
      refine tkH 4 (v := ?_) rfl (by kernel_rfl) (fun _ _ _ h => h) (by rfl) ?y2x4q17 (by assumption) ?z2x4q17
      case y2x4q17 => intro wq hSw; (go_simp); (try with_reducible rfl)
      refine wpAnyH_ready (rs := [5]) (by kernel_rfl) (by simp) ?_
      refine AllReadyH.cons (o := ⟨_, _, _, _, _, _⟩) rfl (fun K hK => ?_) AllReadyH.nil
      have BQ := B12h.out.nx hDrew
      have KZ := hDrew.b g12
      have cq := BQ.cell 2 _ rfl
      have fq := BQ.free 2
      go_simp
      clear cq fq
      replace KZ := KZ.setB (p := ⟨g12, 2, none⟩) (.int .i64 xor.2.2.1) rfl
      replace BQ := BQ.set 2 (.int .i64 xor.2.2.1)
      refine hK.out _ _ (KZ) (fun hHeld => ?_)
      clear hK K
      refine tkH 6 (v := ?_) rfl (by kernel_rfl) (fun _ _ _ h => h) (by rfl) ?y2x6q33 (by assumption) ?z2x6q33
      case y2x6q33 => intro wq hSw; (go_simp); (try with_reducible rfl)
      refine wpAnyH_ready (rs := [7]) (by kernel_rfl) (by simp) ?_
      refine AllReadyH.cons (o := ⟨_, _, _, _, _, _⟩) rfl (fun K hK => ?_) AllReadyH.nil
      have cq := BQ.cell 3 _ rfl
      have fq := BQ.free 3
      go_simp
      clear cq fq
      replace KZ := KZ.setB (p := ⟨g12, 3, none⟩) (.int .i64 xor.2.2.2) rfl
      replace BQ := BQ.set 3 (.int .i64 xor.2.2.2)
      refine hK.out _ _ (KZ) (fun hHeld => ?_)
      clear hK K
      refine wpAnyH_done (by kernel_rfl) ?_ _
      obtain ⟨wpr, hwpr⟩ : ∃ wp, wp = (wd.setCell ⟨g12, 2, none⟩ (.int .i64 xor.2.2.1)).setCell ⟨g12, 3, none⟩ (.int .i64 xor.2.2.2) := ⟨_, rfl⟩
      rw [← hwpr] at BQ KZ ⊢
      have B13 := B13h.out.nxb n1312 KZ
      have KP := (Exl.nxb (b := g12) (w := wj) ⟨KH.out, zg12⟩ KZ).1
      have B12 : Blk wpr g12 [.int .i64 sdl.1, .int .i64 sdl.2, .int .i64 xor.2.2.1, .int .i64 xor.2.2.2] 50 := BQ
      clear hwpr BQ KZ hHeld hDrew B12h B13h B15h
      obtain ⟨_, sd1, sd2⟩ := SD.out
      have FWh := FWD.out trivial
      have q2 := B13.cell 2 _ rfl
      go_wp2_with fail
      refine (bit_r xw j _ FWh (by omega) (by omega)).mono ?_
      rintro e wbr ⟨rfl, hwb⟩
      subst hwb
      have q0 := B13.cell 0 _ rfl
      by_cases hb : bitN xw j = 0
      ·have hz := sd1 trivial hb
       have d1 : (((bitN xw j : Nat) : Int) == 0) = true := by rw [hb]; rfl
       have f0 := B12.free 2
       have r0 := B12.cell 2 _ rfl
       have CUT := lH (show SdCut g12 sdl.1 sdl.2 sdr.1 sdr.2 wj (wpr.setCell ⟨g12, 2, none⟩ (.int .i64 xi)) from ⟨by rw [hz]; exact B12.set 2 (.int .i64 xi), KP.setNew (p := ⟨g12, 2, none⟩) _ zg12⟩)
       clear B12 B13 KP hz hb sd1 sd2 FWh
       go_wp2_with fail
       go_meet
       exact CUT.out
      ·have hz := sd2 trivial hb
       have d1 : (((bitN xw j : Nat) : Int) == 0) = false := by simpa using hb
       have f0 := B12.free 3
       have r0 := B12.cell 3 _ rfl
       have CUT := lH (show SdCut g12 sdl.1 sdl.2 sdr.1 sdr.2 wj (wpr.setCell ⟨g12, 3, none⟩ (.int .i64 xi)) from ⟨by rw [hz]; exact B12.set 3 (.int .i64 xi), KP.setNew (p := ⟨g12, 3, none⟩) _ zg12⟩)
       clear B12 B13 KP hz hb sd1 sd2 FWh
       go_wp2_with fail
       go_meet
       exact CUT.out
    case rest =>
     rename World => wxr
     obtain ⟨B12, k12⟩ := hcut
     go_upto_region 21 with fail
     obtain ⟨yA, hA⟩ : ∃ x, otherN N sdl.1 p.id = x := ⟨_, rfl⟩
     obtain ⟨yB, hB⟩ : ∃ x, otherN N sdl.2 p.id = x := ⟨_, rfl⟩
     obtain ⟨yC, hC⟩ : ∃ x, otherN N sdr.1 p.id = x := ⟨_, rfl⟩
     obtain ⟨yD, hD⟩ : ∃ x, otherN N sdr.2 p.id = x := ⟨_, rfl⟩
     have ES : Hid (stepB N (peerN P) p j = (yA, yB, yC, yD)) := lH (by
      have e1 := side_pair OL.out.1 j xol.1 xol.2.1
      have e2 := side_pair OL.out.2 j xor.2.2.1 xor.2.2.2
      rw [HSDl.out] at e1
      rw [HSDr.out] at e2
      refine ST.out.trans ?_
      show ((pairB N p.id lkl j xol.1 xol.2.1).1, (pairB N p.id lkl j xol.1 xol.2.1).2, (pairB N p.id lkr j xor.2.2.1 xor.2.2.2).1, (pairB N p.id lkr j xor.2.2.1 xor.2.2.2).2) = (yA, yB, yC, yD)
      rw [← e1, ← e2, hA, hB, hC, hD])
     have HA := lH hA
     have HB := lH hB
     have HC := lH hC
     have HD := lH hD
     have B12h := lH B12
     have KX := lH (KJ.out.nx k12)
     have OWX := lH (OWN.out.nx k12)
     have zx := KX.out.size
     rw [ES.out] at RS
     generalize (List.range j).map (stepB N (peerN P) p) = row at OWX RS hrl
     clear hA hB hC hD B12 k12 ST OWN
     refine wp_region_late_drew (S := Ex wxr) [27] (by kernel_rfl) ((Ex.refl wxr).drew) (fun hHeld => ?_)
     obtain ⟨wd, hwdx⟩ : ∃ wd : World, wd = World.drew wxr := ⟨_, rfl⟩
     rw [← hwdx] at hHeld ⊢
     have hDrew : Ex wxr wd := by rw [hwdx]; exact (Ex.refl wxr).drew
     clear hwdx
     refine tkL 0 (v := ?_) rfl (by kernel_rfl) (fun _ _ _ h => h) (by rfl) ?y3x0q5 (by assumption) ?z3x0q5
     case y3x0q5 => intro wq hSw; (go_simp); (try with_reducible rfl)
     refine tkL 1 (v := ?_) rfl (by kernel_rfl) (fun _ _ _ h => h) (by rfl) ?y3x1q8 (by assumption) ?z3x1q8
     case y3x1q8 => intro wq hSw; (go_simp); (try with_reducible rfl)
     refine tkL 2 (v := ?_) rfl (by kernel_rfl) (fun _ _ _ h => h) (by rfl) ?y3x2q11 (by assumption) ?z3x2q11
     case y3x2q11 => intro wq hSw; (go_simp); (try with_reducible rfl)
     refine tkL 3 (v := ?_) rfl (by kernel_rfl) (fun _ _ _ h => h) (by rfl) ?y3x3q14 (by assumption) ?z3x3q14
     case y3x3q14 => intro wq hSw; (have cq := (B12h.out.nx hSw).cell 0 _ rfl; go_simp); (try with_reducible rfl)
     refine tkL 4 (v := ?_) rfl (by kernel_rfl) (fun _ _ _ h => h) (by rfl) ?y3x4q17 (by assumption) ?z3x4q17
     case y3x4q17 => intro wq hSw; (go_simp); (try with_reducible rfl)
     refine tkL 5 (v := ?_) rfl (by kernel_rfl) (fun _ _ _ h => h) (by rfl) ?y3x5q20 (by assumption) ?z3x5q20
     case y3x5q20 => intro wq hSw; (have cq := (B6h.out.nx (KX.out.nx hSw)).cell 0 _ rfl; go_simp); (try with_reducible rfl)
     refine tkL 7 (v := ?_) rfl (by kernel_rfl) (fun _ _ _ h => h) (by rfl) ?y3x7q23 (by assumption) ?z3x7q23
     case y3x7q23 => intro wq hSw; (go_simp); (try with_reducible rfl)
     refine tkL 8 (v := ?_) rfl (by kernel_rfl) (fun _ _ _ h => h) (by rfl) ?y3x8q26 (by assumption) ?z3x8q26
     case y3x8q26 => intro wq hSw; (go_simp); (try with_reducible rfl)
     refine tkL 9 (v := ?_) rfl (by kernel_rfl) (fun _ _ _ h => h) (by rfl) ?y3x9q29 (by assumption) ?z3x9q29
     case y3x9q29 => intro wq hSw; (have cq := (B12h.out.nx hSw).cell 1 _ rfl; go_simp); (try with_reducible rfl)
     refine tkL 10 (v := ?_) rfl (by kernel_rfl) (fun _ _ _ h => h) (by rfl) ?y3x10q32 (by assumption) ?z3x10q32
     case y3x10q32 => intro wq hSw; (go_simp); (try with_reducible rfl)
     refine tkL 11 (v := ?_) rfl (by kernel_rfl) (fun _ _ _ h => h) (by rfl) ?y3x11q35 (by assumption) ?z3x11q35
     case y3x11q35 => intro wq hSw; (have cq := (B6h.out.nx (KX.out.nx hSw)).cell 0 _ rfl; go_simp); (try with_reducible rfl)
     refine tkL 13 (v := ?_) rfl (by kernel_rfl) (fun _ _ _ h => h) (by rfl) ?y3x13q38 (by assumption) ?z3x13q38
     case y3x13q38 => intro wq hSw; (go_simp); (try with_reducible rfl)
     refine tkL 14 (v := ?_) rfl (by kernel_rfl) (fun _ _ _ h => h) (by rfl) ?y3x14q41 (by assumption) ?z3x14q41
     case y3x14q41 => intro wq hSw; (go_simp); (try with_reducible rfl)
     refine tkL 15 (v := ?_) rfl (by kernel_rfl) (fun _ _ _ h => h) (by rfl) ?y3x15q44 (by assumption) ?z3x15q44
     case y3x15q44 => intro wq hSw; (have cq := (B12h.out.nx hSw).cell 2 _ rfl; go_simp); (try with_reducible rfl)
     refine tkL 16 (v := ?_) rfl (by kernel_rfl) (fun _ _ _ h => h) (by rfl) ?y3x16q47 (by assumption) ?z3x16q47
     case y3x16q47 => intro wq hSw; (go_simp); (try with_reducible rfl)
     refine tkL 17 (v := ?_) rfl (by kernel_rfl) (fun _ _ _ h => h) (by rfl) ?y3x17q50 (by assumption) ?z3x17q50
     case y3x17q50 => intro wq hSw; (have cq := (B6h.out.nx (KX.out.nx hSw)).cell 0 _ rfl; go_simp); (try with_reducible rfl)
     refine tkL 19 (v := ?_) rfl (by kernel_rfl) (fun _ _ _ h => h) (by rfl) ?y3x19q53 (by assumption) ?z3x19q53
     case y3x19q53 => intro wq hSw; (go_simp); (try with_reducible rfl)
     refine tkL 20 (v := ?_) rfl (by kernel_rfl) (fun _ _ _ h => h) (by rfl) ?y3x20q56 (by assumption) ?z3x20q56
     case y3x20q56 => intro wq hSw; (go_simp); (try with_reducible rfl)
     refine tkL 21 (v := ?_) rfl (by kernel_rfl) (fun _ _ _ h => h) (by rfl) ?y3x21q59 (by assumption) ?z3x21q59
     case y3x21q59 => intro wq hSw; (have cq := (B12h.out.nx hSw).cell 3 _ rfl; go_simp); (try with_reducible rfl)
     refine tkL 22 (v := ?_) rfl (by kernel_rfl) (fun _ _ _ h => h) (by rfl) ?y3x22q62 (by assumption) ?z3x22q62
     case y3x22q62 => intro wq hSw; (go_simp); (try with_reducible rfl)
     refine tkL 23 (v := ?_) rfl (by kernel_rfl) (fun _ _ _ h => h) (by rfl) ?y3x23q65 (by assumption) ?z3x23q65
     case y3x23q65 => intro wq hSw; (have cq := (B6h.out.nx (KX.out.nx hSw)).cell 0 _ rfl; go_simp); (try with_reducible rfl)
     refine wpAnyL_ready (rs := [6]) (by kernel_rfl) (by simp) ?_
     refine AllReadyL.cons (o := ⟨_, _, _, _, _, _⟩) rfl (fun K hK => ?_) AllReadyL.nil
     go_simp
     (with_reducible refine (other_r _ _ _ N sdl.1 p.id _ (H1.out.nx (KX.out.nx hHeld)) hn).mono ?_)
     rintro e wz ⟨rfl, kk⟩
     rw [HA.out]
     replace hHeld := hHeld.nx kk
     clear kk
     refine hK.out _ _ (hHeld) (fun hHeld => ?_)
     clear hK K
     refine wpAnyL_ready (rs := [12]) (by kernel_rfl) (by simp) ?_
     refine AllReadyL.cons (o := ⟨_, _, _, _, _, _⟩) rfl (fun K hK => ?_) AllReadyL.nil
     go_simp
     (with_reducible refine (other_r _ _ _ N sdl.2 p.id _ (H1.out.nx (KX.out.nx hHeld)) hn).mono ?_)
     rintro e wz ⟨rfl, kk⟩
     rw [HB.out]
     replace hHeld := hHeld.nx kk
     clear kk
     refine hK.out _ _ (hHeld) (fun hHeld => ?_)
     clear hK K
     refine wpAnyL_ready (rs := [18]) (by kernel_rfl) (by simp) ?_
     refine AllReadyL.cons (o := ⟨_, _, _, _, _, _⟩) rfl (fun K hK => ?_) AllReadyL.nil
     go_simp
     (with_reducible refine (other_r _ _ _ N sdr.1 p.id _ (H1.out.nx (KX.out.nx hHeld)) hn).mono ?_)
     rintro e wz ⟨rfl, kk⟩
     rw [HC.out]
     replace hHeld := hHeld.nx kk
     clear kk
     refine hK.out _ _ (hHeld) (fun hHeld => ?_)
     clear hK K
     refine wpAnyL_ready (rs := [24]) (by kernel_rfl) (by simp) ?_
     refine AllReadyL.cons (o := ⟨_, _, _, _, _, _⟩) rfl (fun K hK => ?_) AllReadyL.nil
     go_simp
     (with_reducible refine (other_r _ _ _ N sdr.2 p.id _ (H1.out.nx (KX.out.nx hHeld)) hn).mono ?_)
     rintro e wz ⟨rfl, kk⟩
     rw [HD.out]
     replace hHeld := hHeld.nx kk
     clear kk
     refine hK.out _ _ (hHeld) (fun hHeld => ?_)
     clear hK K
     refine tkL 25 (v := ?_) rfl (by kernel_rfl) (fun _ _ _ h => h) (by rfl) ?y3x25q112 (by assumption) ?z3x25q112
     case y3x25q112 => intro wq hSw; (go_simp); (try with_reducible rfl)
     refine wpAnyL_ready (rs := [26]) (by kernel_rfl) (by simp) ?_
     refine AllReadyL.cons (o := ⟨_, _, _, _, _, _⟩) rfl (fun K hK => ?_) AllReadyL.nil
     go_simp
     obtain ⟨g8, wz, hg8, hwz, SX, kk⟩ := litN4e hHeld yA yB yC yD
     rw [← hg8, ← hwz]
     replace hHeld := hHeld.nx kk
     clear hg8 hwz kk
     refine hK.out _ _ (hHeld) (fun hHeld => ?_)
     clear hK K
     refine wpAnyL_ready (rs := [27]) (by kernel_rfl) (by simp) ?_
     refine AllReadyL.consL (o := ⟨_, _, _, _, _, _⟩) rfl (by rfl) (fun K hK => ?_) AllReadyL.nil
     rw [if_pos (by rfl)]
     have own4 := OWX.out.nx hHeld
     have zq := Nat.le_trans zx hHeld.size
     refine wp_append_rd (enc := encNr) _ (.tmp 91) (.tmp 117) 39 rfl w2.heap.size 50 (.agg #[.int .i64 0, .int .i64 0, .int .i64 0, .int .i64 0]) 4 32 Tryz.underlying39 Tryz.infoNr rfl (by omega) (by omega) _ row own4 rfl _ _ 1 1 [(yA, yB, yC, yD)] SX (fun h => by cases h) (fun _ => rfl) (by simp [encNr, Value.oneCell']) rfl (by omega) (by omega) zq ?_
     intro v9 wz own9 ch0 ch1
     refine hK.out _ _ ?_
     clear hK K
     refine wpAnyL_takeP (i := 28) (oi := ⟨_, _, _, _, _, _⟩) (v := ?_) rfl (by kernel_rfl) (by kernel_rfl) (by kernel_rfl) (fun _ _ _ h => h) (Or.inl ⟨by rfl, ?y3x28q135⟩) ?z3x28q135
     case y3x28q135 => intro wq hSw; (go_simp); (try with_reducible rfl)
     refine wpAnyL_done (by kernel_rfl) ?_ _
     have KF := lH (Chg.trans (KX.out.nx hHeld) ch1)
     have RR := lH (show OwnL 4 encNr 50 w2.heap.size wz v9 ((List.range (j + 1)).map (stepB N (peerN P) p)) from by rw [RS.out]; exact own9)
     clear own9 ch0 ch1 hHeld hDrew SX
     go_wp2_with fail
     exact ⟨⟨j + 1, by omega, by go_num, RR.out, KF.out⟩, by simp [intOf]; omega⟩
  ·obtain rfl : j = h := by omega
   have FO := lH (own.base z2)
   have FE := lH (EX.out.nx ki)
   have FH := lH (FF.out _ rfl)
   clear own ki hj hjm
   go_wp2_with fail
   go_ret
   exact ⟨_, rfl, by rw [FH.out]; exact FO.out, FE.out⟩
theorem normal_yes {N : List Nd} {P : List Pr} (h : (checkN N == 0) = true) : normalN N P = (sortN N).map fun x => peerN P x.id := by unfold normalN; rw [if_pos (by simpa using h)]
theorem normal_not {N : List Nd} {P : List Pr} (h : (checkN N == 0) = false) : normalN N P = [] := by unfold normalN; rw [if_neg (by simpa using h)]
set_option maxRecDepth 100000 in
set_option maxHeartbeats 8000000 in
theorem normal_r (a : Option Addr) (n c : Nat) (N : List Nd) (a2 : Option Addr) (n2 c2 : Nat) (P : List Pr) (w : World) (h : Sl 3 encN w a n N) (hn : n ≤ 1000) (h2 : PL w a2 n2 P) (hn2 : n2 ≤ 1000000) (hP : SmallP P) :
  Calls Tryz.prog 87 #[.slice a n c, .slice a2 n2 c2] w (PlPost (normalN N P) w) := by
 have HL := lH h.len
 have HP := lH hP
 have EX := Ex.refl w
 clear hP
 go_enter Tryz.func87, Tryz.ntmps87
 go_wp2_with fail
 (with_reducible refine (is_r _ _ _ N _ h (by omega)).mono ?_)
 rintro e w1 ⟨rfl, kk⟩
 replace h := h.nx kk
 replace h2 := h2.nx kk
 replace EX := EX.nx kk
 clear kk
 cases hc : (checkN N == 0) with
 | false =>
  have E0 := lH (normal_not (P := P) hc)
  have EX := lH EX
  clear h h2 hc
  go_wp2_with fail
  go_ret
  exact ⟨_, [], rfl, by rw [E0.out]; exact OwnP.nil _ _ _ _ _, EX.out⟩
 | true =>
  have E0 := lH (normal_yes (P := P) hc)
  clear hc
  go_wp2_with fail
  (with_reducible refine (sort_r _ _ _ N _ h hn).mono ?_)
  rintro e w3 ⟨a3, n3, c3, rfl, r3, kk⟩
  replace h2 := h2.nx kk
  replace EX := EX.nx kk
  clear kk
  have r3 : Slf 3 encN w1 w3 a3 n3 _ := r3
  have R3 := lH r3.sl
  have hn3 : n3 ≤ 1000 := by have := r3.len; have := sortN_length N; have := HL.out; omega
  obtain ⟨S, hS⟩ : ∃ S, S = sortN N := ⟨_, rfl⟩
  rw [← hS] at R3 E0
  have HSL := lH R3.out.len
  have H2 := lH h2
  have z0 := EX.size
  have EX := lH EX
  clear h h2 hS r3
  go_wp2_with fail
  go_loopw [5, 7] (fun o i wr => NoRel S P w3 o i wr) (fun _ i _ => n3 - (intOf i).toNat)
  case atStart => exact ⟨0, [], by omega, rfl, OwnP.nil _ _ _ _ _, Ex.refl _⟩
  case round =>
   obtain ⟨j, qs, hj, rfl, own, ki⟩ := hrel
   rw [HSL.out] at hj
   obtain ⟨wi, rfl⟩ : ∃ wi : World, wi = wr := ⟨_, rfl⟩
   by_cases hjm : j < n3
   ·obtain ⟨x3, o3, x, rfl, hx3, hy, hc3⟩ := (R3.out.nx ki).at hjm
    have e0 : wi.cell? ⟨x3, o3 + j * 3, none⟩ = some (.int .i64 x.id) := hc3 0 _ rfl
    have SN := lH (no_snoc (P := P) hy)
    have hql : qs.length = j := by rw [own.2.1, List.length_map, List.length_take, HSL.out]; omega
    have hwi := ki.size
    have KI := lH ki
    have OWN := lH own
    clear hy own ki hc3
    go_wp2_with fail
    (with_reducible refine (peer_r _ _ _ P x.id _ (H2.out.nx KI.out) hn2 HP.out).mono ?_)
    rintro e w6 ⟨hk, hnr, rfl, own2, own5, kk⟩
    generalize peerN P x.id = p at SN own2 own5 ⊢
    have K6 := lH kk
    have OP := lH (OWN.out.nx kk)
    have KN := kk.nx (Ex.new _ (.cells #[.int .i64 p.id, hk.val, .int .i64 p.left, .int .i64 p.right, hnr.val] 41))
    have zn := Nat.le_trans hwi KN.size
    have o2 := lH own2
    have o5 := lH own5
    obtain ⟨A2, M2, C2⟩ := hk
    obtain ⟨A5, M5, C5⟩ := hnr
    simp only [Hdr.val] at KN zn ⊢
    clear e0 kk own2 own5
    go_wp2_with (at_builtin; (refine wpList_append_W (enc := encQ) _ rfl _ _ 24 rfl w3.heap.size 41 (.agg #[.int .i64 0, .slice none 0 0, .int .i64 0, .int .i64 0, .slice none 0 0]) 5 72 Tryz.underlying24 Tryz.infoPr rfl (by omega) (by omega) _ qs (OP.out.nx (Ex.new _ _)).row rfl _ 1 1 [(p.nums, (A2, M2, C2), (A5, M5, C5))] (Sl.lit _ rfl rfl encQ_len rfl) encQ_len encQ_one rfl (by omega) (by omega) zn ?_); intro v9 w9 own9 ch0 ch1 _)
    have RR := OWN.out.app (p := p) (hk := (A2, M2, C2)) (hn := (A5, M5, C5)) (by decide) (by decide) hwi KN (o2.out.nx (Ex.new _ _)) (o5.out.nx (Ex.new _ _)) own9 ch0
    exact ⟨⟨j + 1, _, by rw [HSL.out]; omega, by go_num, by rw [SN.out]; exact RR, Chg.trans (KI.out.nx KN) ch1⟩, by simp [intOf]; omega⟩
   ·obtain rfl : j = n3 := by omega
    rw [List.take_of_length_le (by rw [HSL.out]; exact Nat.le_refl _)] at own
    have OWN := lH (own.lower z0)
    have KI := lH (EX.out.nx ki)
    clear own ki hj hjm
    go_wp2_with fail
    go_ret
    exact ⟨_, qs, rfl, by rw [E0.out]; exact OWN.out, KI.out⟩
set_option maxRecDepth 100000 in
set_option maxHeartbeats 8000000 in
theorem bround_r (a : Option Addr) (n c : Nat) (N : List Nd) (a2 : Option Addr) (n2 c2 : Nat) (P : List Pr) (hh : Int) (w : World) (h : Sl 3 encN w a n N) (hn : n ≤ 1000) (hw : ∀ x ∈ N, x.word < 4294967296) (h2 : PL w a2 n2 P) (hn2 : n2 ≤ 1000000) (hP : SmallP P) :
  Calls Tryz.prog 45 #[.slice a n c, .slice a2 n2 c2, .int .i64 hh] w (PlPost (bRoundN N P hh) w) := by
 have HL := lH h.len
 have HW := lH hw
 clear hw
 have NO : Hid (lvlN hh = false → PlPost (bRoundN N P hh) w (.returned (.slice none 0 0)) w) := lH (fun h => by
  rw [bround_no h]
  exact ⟨_, [], rfl, OwnP.nil _ _ _ _ _, Ex.refl _⟩)
 go_enter Tryz.func45, Tryz.ntmps45
 go_wp2_with fail
 refine (level_r hh _).mono ?_
 rintro e wL ⟨rfl, hwL⟩
 subst hwL
 cases hlv : lvlN hh with
 | false =>
  have FI := lH (NO.out hlv)
  clear h h2 hP NO hlv
  go_wp2_with fail
  go_ret
  exact FI.out
 | true =>
 have hb : 0 ≤ hh ∧ hh ≤ 16 := by unfold lvlN at hlv; simpa using hlv
 obtain ⟨k, rfl⟩ := Int.eq_ofNat_of_zero_le hb.1
 have hk16 : k ≤ 16 := by omega
 have HR := lH (bround_eq (N := N) (P := P) hk16)
 clear NO hlv hb
 go_wp2_with fail
 (with_reducible refine (normal_r _ _ _ N _ _ _ P _ h hn h2 hn2 hP).mono ?_)
 rintro e w3 ⟨v3, qs, rfl, OQ, kk⟩
 replace h := h.nx kk
 clear h2
 have K03 := lH kk
 obtain ⟨hQ1, hQ2⟩ := normal_le N P
 have HQS := lH (normal_small N hP)
 generalize normalN N P = Q at OQ hQ1 hQ2 HR HQS
 obtain ⟨aQ, cQ, rfl, PQ0, _, _, _, _⟩ := OQ.pl
 have HPQ := lH PQ0
 have hQn : Q.length ≤ n := by have := HL.out; omega
 have hz3 := kk.size
 have HS := lH h
 clear OQ PQ0 kk hQ1 hQ2 hP h
 go_wp2_with fail
 go_loopw [8, 9] (fun o i wr => BrRel N Q k w3 o i wr) (fun _ i _ => Q.length - (intOf i).toNat)
 case atStart => exact ⟨0, [], by omega, rfl, OwnP.nil _ _ _ _ _, Ex.refl _⟩
 case round =>
  obtain ⟨j, qz, hj, rfl, own, ki⟩ := hrel
  obtain ⟨wi, rfl⟩ : ∃ wi : World, wi = wr := ⟨_, rfl⟩
  by_cases hjm : j < Q.length
  ·obtain ⟨x5, o5, b1, m1, d1, b4, m4, d4, y, rfl, hx5, hy, e0, e1, e2, e3, e4, s1, s4⟩ := (HPQ.out.nx ki).rd hjm
   have SN := lH (br_snoc N (h := k) hy)
   have hyP := HQS.out y (List.mem_of_getElem? hy)
   have hql : qz.length = j := by rw [own.2.1, List.length_map, List.length_take]; omega
   have hl1 : m1 ≤ 17592186044416 := by have := s1.len; omega
   have hl4 : m4 ≤ 4398046511104 := by have := s4.len; omega
   have hwi := ki.size
   have S1y := lH s1
   have S4y := lH s4
   have KI := lH ki
   have OWN := lH own
   have E0 := lH (fun wq (kq : Ex wi wq) => Chg.cellv kq e0 hx5)
   have E1 := lH (fun wq (kq : Ex wi wq) => Chg.cellv kq e1 hx5)
   have E2 := lH (fun wq (kq : Ex wi wq) => Chg.cellv kq e2 hx5)
   have E3 := lH (fun wq (kq : Ex wi wq) => Chg.cellv kq e3 hx5)
   have E4 := lH (fun wq (kq : Ex wi wq) => Chg.cellv kq e4 hx5)
   clear hy own ki hyP s1 s4 hx5
   go_wp2_with fail
   (with_reducible refine (copypeer_r y _ _ _ _ _ _ _ S1y.out S4y.out hl1 hl4).mono ?_)
   rintro e w5 ⟨⟨A2, M2, C2⟩, ⟨A6, M6, C6⟩, rfl, own2, _, kk⟩
   have K5 := lH kk
   simp only [Hdr.val] at own2 ⊢
   clear e0 e1 e2 e3 e4 kk
   have z5 := K5.out.size
   have B8 := Blk.new w5 [.int .i64 y.id, .slice A2 M2 C2, .int .i64 y.left, .int .i64 y.right, .slice A6 M6 C6] 41
   have kk := Ex.new w5 (.cells #[.int .i64 y.id, .slice A2 M2 C2, .int .i64 y.left, .int .i64 y.right, .slice A6 M6 C6] 41)
   obtain ⟨w7, hw7⟩ : ∃ w7, w7 = w5.alloc (.cells #[.int .i64 y.id, .slice A2 M2 C2, .int .i64 y.left, .int .i64 y.right, .slice A6 M6 C6] 41) := ⟨_, rfl⟩
   obtain ⟨g8, hg8⟩ : ∃ g8, g8 = w5.heap.size := ⟨_, rfl⟩
   replace B8 : Blk w7 g8 [.int .i64 y.id, .slice A2 M2 C2, .int .i64 y.left, .int .i64 y.right, .slice A6 M6 C6] 41 := by rw [hw7, hg8]; exact B8
   rw [← hw7] at kk
   have Hw7 := lH hw7
   have Hg8 := lH hg8
   replace own2 := own2.nx kk
   have zg8 : wi.heap.size ≤ g8 := by omega
   have K7 := lH (K5.out.nx kk)
   clear kk hw7 hg8
   go_upto_region 9 with fail
   rw [← Hg8.out, ← Hw7.out]
   clear Hg8 Hw7
   have e0 := E0.out _ K7.out
   have e1 := E1.out _ K7.out
   have e2 := E2.out _ K7.out
   have e3 := E3.out _ K7.out
   have e4 := E4.out _ K7.out
   have z7 := K7.out.size
   go_wp2_with fail
   (with_reducible refine (next17_r _ _ _ N _ _ _ Q y _ _ _ _ _ _ k _ (HS.out.nx (KI.out.nx K7.out)) hn HW.out (HPQ.out.nx (KI.out.nx K7.out)) (by omega) HQS.out (S4y.out.nx K7.out) (by omega) hk16).mono ?_)
   rintro e wn ⟨vc, rfl, own5, kk⟩
   replace B8 := B8.nx kk
   replace own2 := own2.nx kk
   obtain ⟨A5, C5, rfl, _, _, _, _⟩ := own5.slf (fun _ => rfl)
   replace own5 := own5.base z7
   have KN7 := lH (K7.out.nx kk)
   have HNL := lH (nextB_len N (peerN Q) y k)
   generalize nextB N (peerN Q) y k = NX at own5 SN HNL ⊢
   have c4 := B8.cell 4 _ rfl
   have f4 := B8.free 4
   have hg8l := B8.lt
   clear kk e0 e1 e2 e3 e4
   have KB : Exb g8 wn (wn.setCell ⟨g8, 4, none⟩ (.slice A5 NX.length C5)) := (Exb.refl g8 wn).setB (p := ⟨g8, 4, none⟩) _ rfl
   have OW2 := lH (own2.put B8 (by decide) KB)
   have OW5 := lH (own5.put B8 (by decide) KB)
   have BS := lH (B8.set 4 (.slice A5 NX.length C5))
   have KS := lH (KN7.out.setNew (p := ⟨g8, 4, none⟩) (.slice A5 NX.length C5) zg8)
   clear B8 own2 own5 KB
   go_upto_region 10 with fail
   obtain ⟨wz, hwz⟩ : ∃ wz, wz = wn.setCell ⟨g8, 4, none⟩ (.slice A5 NX.length C5) := ⟨_, rfl⟩
   rw [← hwz] at OW2 OW5 BS KS ⊢
   have BF : Blk wz g8 [.int .i64 y.id, .slice A2 M2 C2, .int .i64 y.left, .int .i64 y.right, .slice A5 NX.length C5] 41 := BS.out
   have p0 := BF.cell 0 _ rfl
   have p1 := BF.cell 1 _ rfl
   have p2 := BF.cell 2 _ rfl
   have p3 := BF.cell 3 _ rfl
   have p4 := BF.cell 4 _ rfl
   have OP := lH (OWN.out.nx KS.out)
   have KN := KS.out.nx (Ex.new _ (.cells #[.int .i64 y.id, .slice A2 M2 C2, .int .i64 y.left, .int .i64 y.right, .slice A5 NX.length C5] 41))
   have zn := Nat.le_trans hwi KN.size
   clear hwz BF BS c4 f4
   go_wp2_with (at_builtin; (refine wpList_append_W (enc := encQ) _ rfl _ _ 24 rfl w3.heap.size 41 (.agg #[.int .i64 0, .slice none 0 0, .int .i64 0, .int .i64 0, .slice none 0 0]) 5 72 Tryz.underlying24 Tryz.infoPr rfl (by omega) (by omega) _ qz (OP.out.nx (Ex.new _ _)).row rfl _ 1 1 [(y.nums, (A2, M2, C2), (A5, NX.length, C5))] (Sl.lit _ rfl rfl encQ_len rfl) encQ_len encQ_one rfl (by omega) (by omega) zn ?_); intro v9 w9 own9 ch0 ch1 _)
   have RR := OWN.out.app (p := { y with near := NX }) (hk := (A2, M2, C2)) (hn := (A5, NX.length, C5)) (by decide) (by decide) hwi KN (OW2.out.nx (Ex.new _ _)) (OW5.out.nx (Ex.new _ _)) own9 ch0
   exact ⟨⟨j + 1, _, by omega, by go_num, by rw [SN.out]; exact RR, Chg.trans (KI.out.nx KN) ch1⟩, by simp [intOf]; omega⟩
  ·obtain rfl : j = Q.length := by omega
   rw [List.take_length] at own
   have OWN := lH (own.lower hz3)
   have KI := lH (K03.out.nx ki)
   clear own ki hj hjm
   go_wp2_with fail
   go_ret
   exact ⟨_, qz, rfl, by rw [HR.out]; exact OWN.out, KI.out⟩
end Go.Proofs.YtlgdjigocopglaaGreatDoor
