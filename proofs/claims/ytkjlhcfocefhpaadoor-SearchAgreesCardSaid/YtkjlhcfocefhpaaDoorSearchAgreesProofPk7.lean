/- Texts for the statement SearchAgreesProof, part 7 of 11: RouS, RouM, RouW, SameL, SrF, Own, Sane8, LoopT, WireP, WireU, WireD. -/
import Derived.WalkMore
import Derived.WalkKit
import Derived.Test.YtkjlhcfocefhpaaDoorRows
import Derived.Test.YtkjlhcfocefhpaaDoorSearchAgreesProofPk1
import Derived.Test.YtkjlhcfocefhpaaDoorSearchAgreesProofPk3
import Derived.Test.YtkjlhcfocefhpaaDoorSearchAgreesProofPk4
import Derived.Test.YtkjlhcfocefhpaaDoorSearchAgreesProofPk5
import Derived.Test.YtkjlhcfocefhpaaDoorSearchAgreesProofPk6

/- Route of the reference. -/
namespace Go.Proofs.YtkjlhcfocefhpaaDoor
open Go.RowKit

theorem Tryd.infoHp : (Tryd.prog.info? 52).map (fun i => (i.zero, i.size, i.bytes)) = some (some (.agg #[.int .i64 0, .int .i64 0, .int .i64 0]), 3, 24) := by kernel_rfl
def encHp (h : Hop) : List Value := [.int .i64 h.1, .int .i64 h.2.1, .int .i64 h.2.2]
/-- hops that were just made, and an error -/
def RtPost (r : List Hop × Int) (w : World) (e : Ending) (w' : World) : Prop := ∃ v : Value, e = .returned (.tuple #[v, .int .i64 r.2]) ∧ OwnL 3 encHp 52 w.heap.size w' v r.1 ∧ Ex w w'
def lenS : Value → Nat | .slice _ n _ => n | _ => 0
def RrRel (N : List Nd) (L : List Lkd) (key : List UInt8) (right : Bool) (R : Nd × List Hop) (g base : Nat) (w0 : World) (o l : Value) (wr : World) : Prop :=
  ∃ (x : Nd) (lev : Nat) (z : Int) (out : List Hop), l = .int .i64 z ∧ z = (lev : Int) - 1 ∧ lev ≤ 17 ∧ OwnL 3 encHp 52 base wr o out ∧ Blk wr g [.int .i64 x.id, .string x.key, .int .u32 x.word] 48 ∧
    RtSt N L key right R x lev out ∧ x ∈ N ∧ out.length + bey N right x ≤ N.length ∧ Exb g w0 wr
theorem route_bad {N : List Nd} {L : List Lkd} {frm : Int} {s : ByteArray} (h : checkN N ≠ 0 ∨ 64 < s.size) : routeN N L frm s = ([], 1) := by unfold routeN; rw [if_pos h]
theorem route_unk {N : List Nd} {L : List Lkd} {frm : Int} {s : ByteArray} (h : ¬ (checkN N ≠ 0 ∨ 64 < s.size)) (hf : (findN N frm).2 = false) : routeN N L frm s = ([], 6) := by unfold routeN; rw [if_neg h, if_pos hf]
theorem lenS_own {base : Nat} {w : World} {v : Value} {out : List Hop} (h : OwnL 3 encHp 52 base w v out) : lenS v = out.length := by
  obtain ⟨a, cap, rfl, _⟩ := h.rd (fun _ => rfl)
  rfl
theorem check_len {l : List Nd} (h : checkN l = 0) : l.length ≤ 64 := by
  unfold checkN at h
  split at h
  · omega
  · omega
theorem fldL (u v : Value) (w : World) (h1 : u.cells = #[u]) (h2 : v.cells = #[v]) : (Instr.field 74 (.agg #[u, v]) 0).run Tryd.prog w = .ok u w := by
  kernel_rfl
theorem meas_dn (q n t : Nat) : ((q : Int) - 1 + 1).toNat * (n + 1) + t < ((q : Int) + 1).toNat * (n + 1) + t := by
  have h1 : ((q : Int) - 1 + 1).toNat = q := by omega
  have h2 : ((q : Int) + 1).toNat = q + 1 := by omega
  rw [h1, h2, Nat.add_mul]
  omega
theorem route_val {N : List Nd} {L : List Lkd} {frm : Int} {s : ByteArray} {x0 : Nd} {right : Bool} {T : Int} {R : Nd × List Hop} {x : Nd} {out : List Hop} (h1 : ¬ (checkN N ≠ 0 ∨ 64 < s.size)) (hf : (x0, true) = findN N frm)
    (hr : right = !Op.bytesLess s.toList x0.key.toList) (hT : T = topL L frm) (hR : R = rtF N L s.toList right (18 * (N.length + 1)) x0 (T + 1).toNat []) (hd : R = (x, out)) :
    routeN N L frm s = if ((findN N (atL L x.id 0).1).2 && !right && !Op.bytesLess s.toList (findN N (atL L x.id 0).1).1.key.toList) = true then (out ++ [(x.id, (findN N (atL L x.id 0).1).1.id, 0)], 0) else (out, 0) := by
  unfold routeN
  rw [if_neg h1, ← hf, if_neg (by simp)]
  simp only
  rw [← hr, ← hT, ← hR, hd]

set_option maxRecDepth 100000 in
set_option maxHeartbeats 8000000 in
theorem route_r (a : Option Addr) (n c : Nat) (N : List Nd) (a2 : Option Addr) (n2 c2 : Nat) (L : List Lkd) (frm : Int) (s : ByteArray) (w : World) (h : Sl 3 encN w a n N) (hn : n ≤ 1000) (h2 : LkL w a2 n2 L) (hn2 : n2 ≤ 1000000)
    (hs : ∀ c ∈ L, c.2.length ≤ 9223372036854775807) :
    Calls Tryd.prog 23 #[.slice a n c, .slice a2 n2 c2, .int .i64 frm, .string s] w (RtPost (routeN N L frm s) w) := by
  have HS := Lib.hid hs
  have hlen := h.len
  have HLN := Lib.hid hlen
  clear hs hlen
  go_enter Tryd.func23, Tryd.ntmps23
  go_wp2_with fail
  (with_reducible refine (is_r _ _ _ _ _ h (by omega)).mono ?_)
  rintro e w1 ⟨rfl, kk⟩
  have SN := h.nx kk
  have SL := Lib.hid (h2.nx kk)
  have EX := Lib.hid kk
  clear h h2 kk
  by_cases hck : checkN N = 0
  · have HC := Lib.hid hck
    have hcb : (checkN N == 0) = true := by rw [hck]; rfl
    rw [hcb]
    clear hck hcb
    go_wp2_with fail
    (with_reducible refine (vkey_r _ _).mono ?_)
    rintro e w1' ⟨rfl, rfl⟩
    by_cases hsz : (s.size : Int) ≤ 64
    · have HSZ := Lib.hid hsz
      rw [decide_eq_true hsz]
      clear hsz
      go_wp2_with fail
      (with_reducible refine (find_r _ _ _ _ _ _ SN (by omega)).mono ?_)
      rintro e w2 ⟨rfl, kk⟩
      obtain ⟨FR, hFR⟩ : ∃ FR, FR = findN N frm := ⟨_, rfl⟩
      rw [← hFR]
      have HFR := Lib.hid hFR
      replace SN := SN.nx kk
      have SL := Lib.hid (SL.out.nx kk)
      have EX := Lib.hid (EX.out.nx kk)
      obtain ⟨x, ok⟩ := FR
      unfold Nd.val
      simp only
      clear kk hFR
      have B := Blk.new w2 [.int .i64 x.id, .string x.key, .int .u32 x.word] 48
      have kk := Ex.new w2 (.cells #[.int .i64 x.id, .string x.key, .int .u32 x.word] 48)
      obtain ⟨w3, hw3⟩ : ∃ w3, w3 = w2.alloc (.cells #[.int .i64 x.id, .string x.key, .int .u32 x.word] 48) := ⟨_, rfl⟩
      obtain ⟨g, hg⟩ : ∃ g, g = w2.heap.size := ⟨_, rfl⟩
      have B : Blk w3 g [.int .i64 x.id, .string x.key, .int .u32 x.word] 48 := by rw [hw3, hg]; exact B
      rw [← hw3] at kk
      have HW3 := Lib.hid hw3
      have HG := Lib.hid hg
      have SN : Slb 3 encN g w3 a n N := (SN.slb (by omega)).nxb (kk.b g)
      have SL := Lib.hid ((NL.lkb SL.out (show w2.heap.size ≤ g by omega)).nxb (kk.b g))
      have hgw : w.heap.size ≤ g := by rw [hg]; exact EX.out.size
      have EX := Lib.hid (EX.out.nx kk)
      clear kk hw3 hg
      go_upto_region 4 with fail
      rw [← HG.out, ← HW3.out]
      clear HG HW3
      cases ok with
      | false =>
        have RN := Lib.hid (route_unk (L := L) (show ¬ (checkN N ≠ 0 ∨ 64 < s.size) by rintro (h | h); exact h HC.out; have := HSZ.out; omega) (show (findN N frm).2 = false by rw [← HFR.out]))
        clear SN B
        go_wp2_with fail
        go_ret2
        exact ⟨_, by rw [RN.out]; rfl, by rw [RN.out]; exact OwnL.nil _ _ _ _ _, EX.out⟩
      | true =>
        have b1 := B.cell 1 _ rfl
        obtain ⟨right, hr⟩ : ∃ right, right = !Op.bytesLess s.toList x.key.toList := ⟨_, rfl⟩
        have HR := Lib.hid hr
        have hx : x ∈ N := by have := (findN_mem (show (findN N frm).2 = true by rw [← HFR.out])).1; rw [← HFR.out] at this; exact this
        clear hr
        go_upto_region 7 with fail
        rw [← HR.out]
        clear b1
        go_wp2_with fail
        (with_reducible refine (top_r _ _ _ _ _ _ SL.out.nl hn2 HS.out).mono ?_)
        rintro e w4 ⟨rfl, kk⟩
        obtain ⟨T, hT⟩ : ∃ T, T = topL L frm := ⟨_, rfl⟩
        rw [← hT]
        have ht1 : -1 ≤ T ∧ T ≤ 16 := by
          rw [hT]; unfold topL; split <;> omega
        have HT := Lib.hid hT
        replace SN := SN.nxb (kk.b g)
        replace B := B.nx kk
        have SL := Lib.hid (SL.out.nxb (kk.b g))
        have EX := Lib.hid (EX.out.nx kk)
        have hgl := B.lt
        clear kk hT
        obtain ⟨R, hR⟩ : ∃ R, R = rtF N L s.toList right (18 * (N.length + 1)) x (T + 1).toNat [] := ⟨_, rfl⟩
        have ST : Hid (RrRel N L s.toList right R g w4.heap.size w4 (.slice none 0 0) (.int .i64 T) w4) := Lib.hid
          ⟨x, (T + 1).toNat, T, [], rfl, by omega, by omega, OwnL.nil _ _ _ _ _, B, by rw [hR]; exact RtSt.start (by omega), hx, by simpa using bey_le (N := N) (right := right) x, Exb.refl _ _⟩
        have HRR := Lib.hid hR
        have hcl := check_len HC.out
        rw [HLN.out] at hcl
        have HX := Lib.hid hx
        clear hR hx
        have SN := Lib.hid SN
        clear B
        go_wp2_with fail
        go_loopw [13, 14] (fun o l wr => RrRel N L s.toList right R g w4.heap.size w4 o l wr) (fun o l _ => (intOf l + 1).toNat * (n + 1) + (n - lenS o))
        case atStart => exact ST.out
        case round =>
          clear ST
          obtain ⟨x, lev, z, out, rfl, hz, hl17, own, B, hst, hxN, hcnt, kw⟩ := hrel
          obtain ⟨wo, rfl⟩ : ∃ wo : World, wo = wr := ⟨_, rfl⟩
          have hlo := lenS_own own
          have HN1 := HLN.out
          have hol : out.length ≤ 64 := by omega
          have OWN := Lib.hid own
          have KW := Lib.hid kw
          have HST := Lib.hid hst
          have HXN := Lib.hid hxN
          have HLO := Lib.hid hlo
          have SO := SN.out.nxb kw
          have LO := SL.out.nxb kw
          have b0 := B.cell 0 _ rfl
          have b1 := B.cell 1 _ rfl
          have b2 := B.cell 2 _ rfl
          cases lev with
          | zero =>
            obtain rfl : z = -1 := by omega
            have RV := Lib.hid (route_val (show ¬ (checkN N ≠ 0 ∨ 64 < s.size) by rintro (h | h); exact h HC.out; have := HSZ.out; omega) HFR.out HR.out HT.out HRR.out (HST.out.done))
            have EW := Lib.hid (Exl.nxb (b := g) (w := w) ⟨EX.out, hgw⟩ KW.out)
            have OWN := Lib.hid (OwnL.base OWN.out EX.out.size)
            have SO := SO.sl
            have LO := LO.nl
            have KX := Ex.refl wo
            clear own kw hst hxN hlo hz HN1 B b1 b2
            go_wp2_with fail
            (with_reducible refine (at_r _ _ _ _ _ 0 _ LO hn2 (by omega)).mono ?_)
            rintro e w5 ⟨rfl, kk⟩
            obtain ⟨P, hP⟩ : ∃ P, P = atL L x.id 0 := ⟨_, rfl⟩
            rw [← hP]
            rw [← hP] at RV
            have HP := Lib.hid hP
            replace SO := SO.nx kk
            have OWN := Lib.hid (OWN.out.nx kk)
            have EW := Lib.hid (EW.out.nx kk)
            have b0 := Chg.cellv kk b0 (World.block_lt_of_cell? wo _ b0)
            have FL : ∀ w : World, (Instr.field 74 (.agg #[.int .i64 P.1, .int .i64 P.2]) 0).run Tryd.prog w = .ok (.int .i64 P.1) w := fun w => fldL _ _ w rfl rfl
            clear kk hP KX LO
            go_wp2_with fail
            (with_reducible refine (find_r _ _ _ _ _ _ SO (by omega)).mono ?_)
            rintro e w6 ⟨rfl, kk⟩
            obtain ⟨E, hE⟩ : ∃ E, E = findN N P.1 := ⟨_, rfl⟩
            rw [← hE]
            rw [← hE] at RV
            have OWN := Lib.hid (OWN.out.nx kk)
            have EW := Lib.hid (EW.out.nx kk)
            have b0 := Chg.cellv kk b0 (World.block_lt_of_cell? w5 _ b0)
            obtain ⟨E, eo⟩ := E
            unfold Nd.val
            simp only at RV ⊢
            clear kk hE SO
            have B17 := Blk.new w6 [.int .i64 E.id, .string E.key, .int .u32 E.word] 48
            have kk := Ex.new w6 (.cells #[.int .i64 E.id, .string E.key, .int .u32 E.word] 48)
            obtain ⟨w7, hw7⟩ : ∃ w7, w7 = w6.alloc (.cells #[.int .i64 E.id, .string E.key, .int .u32 E.word] 48) := ⟨_, rfl⟩
            obtain ⟨g17, hg17⟩ : ∃ g17, g17 = w6.heap.size := ⟨_, rfl⟩
            have B17 : Blk w7 g17 [.int .i64 E.id, .string E.key, .int .u32 E.word] 48 := by rw [hw7, hg17]; exact B17
            rw [← hw7] at kk
            have HW7 := Lib.hid hw7
            have HG17 := Lib.hid hg17
            have OWN := Lib.hid (OWN.out.nx kk)
            have EW := Lib.hid (EW.out.nx kk)
            have b0 := Chg.cellv kk b0 (World.block_lt_of_cell? w6 _ b0)
            have e0 := B17.cell 0 _ rfl
            have e1 := B17.cell 1 _ rfl
            have LE : (Op.bytesLess E.key.toList s.toList || E.key.toList == s.toList) = !Op.bytesLess s.toList E.key.toList := le_not _ _
            have hzw : w.heap.size ≤ w7.heap.size := EW.out.1.size
            clear kk hw7 hg17 B17
            go_upto_region 16 with fail
            rw [← HG17.out, ← HW7.out]
            clear HG17 HW7
            have fin0 : routeN N L frm s = (out, 0) → RtPost (routeN N L frm s) w (.returned (.tuple #[u13, .int .i64 0])) w7 := fun h => by rw [h]; exact ⟨_, rfl, OWN.out, EW.out.1⟩
            have FIN0 := Lib.hid fin0
            clear fin0
            cases eo with
            | false =>
              have RZ := Lib.hid (RV.out.trans (if_neg (by simp)))
              clear RV
              go_wp2_with fail
              go_ret2
              exact FIN0.out RZ.out
            | true =>
              cases hri : right with
              | true =>
                have RZ := Lib.hid (RV.out.trans (if_neg (by rw [hri]; simp)))
                clear RV
                go_wp2_with fail
                go_ret2
                exact FIN0.out RZ.out
              | false =>
                cases hle : Op.bytesLess s.toList E.key.toList with
                | true =>
                  have RZ := Lib.hid (RV.out.trans (if_neg (by rw [hle]; simp)))
                  clear RV
                  go_wp2_with fail
                  go_ret2
                  exact FIN0.out RZ.out
                | false =>
                  have RZ := Lib.hid (RV.out.trans (if_pos (by rw [hle, hri]; simp)))
                  clear RV FIN0
                  go_wp2_with (at_builtin; (refine wpList_append_lit (enc := encHp) w7 rfl _ _ 34 rfl w.heap.size 52 (.agg #[.int .i64 0, .int .i64 0, .int .i64 0]) 3 24 Tryd.underlying34 Tryd.infoHp rfl (by omega) (by omega) _ _ OWN.out rfl ((x.id, E.id, 0) : Hop) _ rfl rfl (by simp [encHp, Value.oneCell']) _ (by simp) rfl (by omega) (by omega) _ ?_); intro v9 w9 own9 ch0 ch1 _; have OWN9 := Lib.hid own9; have CH1 := Lib.hid ch1; clear own9 ch0 ch1)
                  go_ret2
                  exact ⟨_, by rw [RZ.out]; rfl, by rw [RZ.out]; exact OWN9.out, Chg.trans EW.out.1 CH1.out⟩
          | succ q =>
            obtain rfl : z = (q : Int) := by omega
            have HCNT := Lib.hid hcnt
            clear own kw hst hxN hlo hz HN1
            go_wp2_with fail
            (with_reducible refine (next_r _ _ _ _ _ _ _ _ _ _ _ _ _ SO.sl hn LO.nl hn2 (by omega)).mono ?_)
            rintro e w5 ⟨Y, ok, rfl, ho, kk⟩
            have HO := Lib.hid ho
            have SO := Lib.hid SO
            have BX := Lib.hid (B.nx kk)
            have OWN := Lib.hid (OWN.out.nx kk)
            have KW := Lib.hid (KW.out.nxb (kk.b g))
            clear kk ho b0 b1 b2 B LO SO
            have BY := Blk.new w5 [.int .i64 Y.id, .string Y.key, .int .u32 Y.word] 48
            have kk := Ex.new w5 (.cells #[.int .i64 Y.id, .string Y.key, .int .u32 Y.word] 48)
            obtain ⟨w6, hw6⟩ : ∃ w6, w6 = w5.alloc (.cells #[.int .i64 Y.id, .string Y.key, .int .u32 Y.word] 48) := ⟨_, rfl⟩
            obtain ⟨gy, hgy⟩ : ∃ gy, gy = w5.heap.size := ⟨_, rfl⟩
            have BY : Blk w6 gy [.int .i64 Y.id, .string Y.key, .int .u32 Y.word] 48 := by rw [hw6, hgy]; exact BY
            rw [← hw6] at kk
            have HW6 := Lib.hid hw6
            have HGY := Lib.hid hgy
            have hgyb : w4.heap.size ≤ gy := by rw [hgy]; exact KW.out.size
            have hno : ∀ v x, OwnL 3 encHp 52 w4.heap.size w5 v x → ¬ v.ownBlock = some gy := fun v x hv he => by
              obtain ⟨_, cur, h1⟩ := OwnL.blk hv he
              have := heap_lt h1
              omega
            have HNO := Lib.hid (hno _ _ OWN.out)
            have BX := BX.out.nx kk
            have OWN := Lib.hid (OWN.out.nx kk)
            have KW := Lib.hid (KW.out.nxb (kk.b g))
            clear kk hw6 hgy hno
            go_upto_region 11 with fail
            rw [← HGY.out, ← HW6.out]
            clear HGY HW6
            cases ok with
            | false =>
              have RR := Lib.hid (show RrRel N L s.toList right R g w4.heap.size w4 u13 (.int .i64 ((q : Int) - 1)) w6 from
                ⟨x, q, (q : Int) - 1, out, rfl, rfl, by omega, OWN.out, BX, HST.out.down HO.out, HXN.out, HCNT.out, KW.out⟩)
              clear BX BY
              go_wp2_with fail
              refine ⟨RR.out, ?_⟩
              show ((q : Int) - 1 + 1).toNat * (n + 1) + (n - lenS u13) < ((q : Int) + 1).toNat * (n + 1) + (n - lenS u13)
              exact meas_dn _ _ _
            | true =>
              have hh : hopN N L s.toList right x q = some Y := by rw [HO.out]; rfl
              have hbl := bey_lt hh
              have HH := Lib.hid hh
              have hyl := BY.lt
              have y0 := BY.cell 0 _ rfl
              have b0 := BX.cell 0 _ rfl
              have hz4 : w4.heap.size ≤ w6.heap.size := KW.out.size
              have HB := Lib.hid (And.intro BX BY)
              clear hh BX BY
              go_wp2_with (at_builtin; (refine wpList_append_lit (enc := encHp) w6 rfl _ _ 34 rfl w4.heap.size 52 (.agg #[.int .i64 0, .int .i64 0, .int .i64 0]) 3 24 Tryd.underlying34 Tryd.infoHp rfl (by omega) (by omega) _ _ OWN.out rfl ((x.id, Y.id, (q : Int)) : Hop) _ rfl rfl (by simp [encHp, Value.oneCell']) _ (by simp) rfl (by omega) (by omega) _ ?_); intro v9 w9 own9 ch0 ch1 _; have BY9 := Blk.chg HB.out.2 ch0 ⟨hyl, HNO.out⟩; have BX9 := Blk.chg HB.out.1 ch1 hgl; have y0 := BY9.cell 0 _ rfl; have y1 := BY9.cell 1 _ rfl; have y2 := BY9.cell 2 _ rfl; have b0 := BX9.cell 0 _ rfl; have b1 := BX9.cell 1 _ rfl; have b2 := BX9.cell 2 _ rfl; have z0 := BX9.free 0; have z1 := BX9.free 1; have z2 := BX9.free 2; have OWN9 := Lib.hid own9; have CH1 := Lib.hid ch1; have HB9 := Lib.hid BX9; clear own9 ch0 ch1 BX9 BY9)
              have hl9 := lenS_own OWN9.out
              have hl8 := HLO.out
              have KW9 : Exb g w4 w9 := Chg.trans KW.out (CH1.out.mono (fun x hx => hx.1))
              have hcn := HCNT.out
              have hn9 := HLN.out
              refine ⟨⟨Y, q + 1, (q : Int), out ++ [(x.id, Y.id, (q : Int))], rfl, by omega, by omega,
                OWN9.out.nxb hgl ((((Exb.refl g w9).setB (p := ⟨g, 0, none⟩) (.int .i64 Y.id) rfl).setB (p := ⟨g, 1, none⟩) (.string Y.key) rfl).setB (p := ⟨g, 2, none⟩) (.int .u32 Y.word) rfl),
                ((HB9.out.set 0 (.int .i64 Y.id)).set 1 (.string Y.key)).set 2 (.int .u32 Y.word), HST.out.hop HH.out, (hop_mem HH.out).1, by rw [List.length_append, List.length_singleton]; omega,
                ((KW9.setB (p := ⟨g, 0, none⟩) (.int .i64 Y.id) rfl).setB (p := ⟨g, 1, none⟩) (.string Y.key) rfl).setB (p := ⟨g, 2, none⟩) (.int .u32 Y.word) rfl⟩, ?_⟩
              show ((q : Int) + 1).toNat * (n + 1) + (n - lenS v9) < ((q : Int) + 1).toNat * (n + 1) + (n - lenS u13)
              rw [hl9, hl8, List.length_append, List.length_singleton]
              omega
    · have RN := Lib.hid (route_bad (L := L) (frm := frm) (show checkN N ≠ 0 ∨ 64 < s.size from .inr (by omega)))
      rw [decide_eq_false hsz]
      clear SN hsz
      go_wp2_with fail
      go_ret2
      exact ⟨_, by rw [RN.out]; rfl, by rw [RN.out]; exact OwnL.nil _ _ _ _ _, EX.out⟩
  · have RN := Lib.hid (route_bad (L := L) (frm := frm) (s := s) (.inl hck))
    have hcb : (checkN N == 0) = false := by rw [beq_eq_false_iff_ne]; exact hck
    rw [hcb]
    clear SN hck hcb
    go_wp2_with fail
    go_ret2
    exact ⟨_, by rw [RN.out]; rfl, by rw [RN.out]; exact OwnL.nil _ _ _ _ _, EX.out⟩
end Go.Proofs.YtkjlhcfocefhpaaDoor

/- The network of the package search: made, link. -/
namespace Go.Proofs.YtkjlhcfocefhpaaDoor
open Go.RowKit

/-- the nodes by their numbers -/
def fN (N : List Nd) (id : Int) : Option Value := (N.find? fun x => x.id == id).map Nd.val
/-- the heads of the rows of links by the numbers -/
def fQ (qs : List (Int × Hdr)) (id : Int) : Option Value := (qs.find? fun q => q.1 == id).map fun q => q.2.val
theorem fN_snoc {N : List Nd} (hd : N.Pairwise fun x y => x.id ≠ y.id) {k : Nat} {y : Nd} (hy : N[k]? = some y) : (fun z => if z = y.id then some y.val else fN (N.take k) z) = fN (N.take (k + 1)) := by
  funext z
  obtain ⟨hk, e⟩ := List.getElem?_eq_some_iff.1 hy
  unfold fN
  rw [take_snocN N k y hy, List.find?_append]
  by_cases hz : z = y.id
  · have : (N.take k).find? (fun x => x.id == z) = none := by
      rw [List.find?_eq_none]
      intro x hx hxz
      obtain ⟨j, hj⟩ := List.mem_iff_getElem?.1 hx
      rw [List.getElem?_take] at hj
      split at hj
      · rename_i hjk
        obtain ⟨h1, e1⟩ := List.getElem?_eq_some_iff.1 hj
        have := List.pairwise_iff_getElem.1 hd j k h1 hk hjk
        rw [e1, e] at this
        exact this ((by simpa using hxz : x.id = z).trans hz)
      · cases hj
    rw [this, if_pos hz, hz]
    simp
  · rw [if_neg hz]
    have h1 : (y.id == z) = false := by rw [beq_eq_false_iff_ne]; exact fun h => hz h.symm
    cases h2 : (N.take k).find? (fun x => x.id == z) with
    | some x => rfl
    | none => simp [h1]
theorem fQ_snoc {qs : List (Int × Hdr)} {k : Nat} {q : Int × Hdr} (hq : qs[k]? = some q) : fQ (qs.take (k + 1)) = if (fQ (qs.take k) q.1).isSome = true then fQ (qs.take k) else fun z => if z = q.1 then some q.2.val else fQ (qs.take k) z := by
  have e : qs.take (k + 1) = qs.take k ++ [q] := by rw [List.take_add_one, hq]; rfl
  funext z
  unfold fQ
  rw [e, List.find?_append]
  by_cases hs : ((qs.take k).find? fun r => r.1 == q.1).isSome = true
  · have hs' : (((qs.take k).find? fun r => r.1 == q.1).map fun q => q.2.val).isSome = true := by rw [Option.isSome_map]; exact hs
    rw [if_pos hs']
    cases h2 : (qs.take k).find? (fun r => r.1 == z) with
    | some x => rfl
    | none =>
      by_cases hz : z = q.1
      · rw [hz] at h2; rw [h2] at hs; cases hs
      · have h1 : (q.1 == z) = false := by rw [beq_eq_false_iff_ne]; exact fun h => hz h.symm
        simp [h1]
  · have hs' : ¬ (((qs.take k).find? fun r => r.1 == q.1).map fun q => q.2.val).isSome = true := by rw [Option.isSome_map]; exact hs
    rw [if_neg hs']
    have hn : (qs.take k).find? (fun r => r.1 == q.1) = none := Option.not_isSome_iff_eq_none.1 hs
    by_cases hz : z = q.1
    · rw [if_pos hz, hz, hn]; simp
    · have h1 : (q.1 == z) = false := by rw [beq_eq_false_iff_ne]; exact fun h => hz h.symm
      rw [if_neg hz]
      cases h2 : (qs.take k).find? (fun r => r.1 == z) with
      | some x => rfl
      | none => simp [h1]
theorem find_fN (N : List Nd) (id : Int) : (fN N id).getD Nd.zero.val = (findN N id).1.val ∧ (fN N id).isSome = (findN N id).2 := by
  unfold fN findN
  cases N.find? (fun x => x.id == id) <;> exact ⟨rfl, rfl⟩
/-- the memory of a network: all below β -/
def Net (β : Nat) (w : World) (b1 b2 : Nat) (N : List Nd) (L : List Lkd) : Prop :=
  ∃ qs : List (Int × Hdr), b1 < β ∧ MapV w b1 (fN N) ∧ b2 < β ∧ MapV w b2 (fQ qs) ∧ qs.length = L.length ∧ ∀ (j : Nat) (q : Int × Hdr) (c : Lkd), qs[j]? = some q → L[j]? = some c → q.1 = c.1 ∧ Rd 2 encS (· < β) w q.2.1 q.2.2.1 c.2
theorem Net.chg {β : Nat} {w w' : World} {b1 b2 : Nat} {N : List Nd} {L : List Lkd} (h : Net β w b1 b2 N L) (k : Chg (· < β) w w') : Net β w' b1 b2 N L := by
  obtain ⟨qs, h1, h2, h3, h4, h5, h6⟩ := h
  exact ⟨qs, h1, h2.chg k h1, h3, h4.chg k h3, h5, fun j q c hq hc => ⟨(h6 j q c hq hc).1, Rd.chg (h6 j q c hq hc).2 k (fun _ x => x)⟩⟩
theorem Net.nx {β : Nat} {w w' : World} {b1 b2 : Nat} {N : List Nd} {L : List Lkd} (h : Net β w b1 b2 N L) (hb : β ≤ w.heap.size) (k : Ex w w') : Net β w' b1 b2 N L := h.chg (Chg.mono k (fun _ hk => Nat.lt_of_lt_of_le hk hb))
theorem Net.up {β β' : Nat} {w : World} {b1 b2 : Nat} {N : List Nd} {L : List Lkd} (h : Net β w b1 b2 N L) (hb : β ≤ β') : Net β' w b1 b2 N L := by
  obtain ⟨qs, h1, h2, h3, h4, h5, h6⟩ := h
  exact ⟨qs, by omega, h2, by omega, h4, h5, fun j q c hq hc => ⟨(h6 j q c hq hc).1, Rd.mono (h6 j q c hq hc).2 (fun _ hk => Nat.lt_of_lt_of_le hk hb)⟩⟩
/-- the row of a number -/
theorem Net.row {β : Nat} {w : World} {b1 b2 : Nat} {N : List Nd} {L : List Lkd} {qs : List (Int × Hdr)} (hl : qs.length = L.length) (h6 : ∀ (j : Nat) (q : Int × Hdr) (c : Lkd), qs[j]? = some q → L[j]? = some c → q.1 = c.1 ∧ Rd 2 encS (· < β) w q.2.1 q.2.2.1 c.2) (id : Int) :
    ∃ (a : Option Addr) (n c : Nat) (row : List (Int × Int)), (fQ qs id).getD (.slice none 0 0) = .slice a n c ∧ Rd 2 encS (· < β) w a n row ∧ topL L id = min ((n : Int) - 1) 16 ∧ (∀ lev : Nat, atL L id (lev : Int) = row[lev]?.getD (0, 0)) ∧ (row = [] ∨ ∃ d ∈ L, row = d.2) := by
  have key : ∀ (qs : List (Int × Hdr)) (L : List Lkd), qs.length = L.length → (∀ (j : Nat) (q : Int × Hdr) (c : Lkd), qs[j]? = some q → L[j]? = some c → q.1 = c.1 ∧ Rd 2 encS (· < β) w q.2.1 q.2.2.1 c.2) →
      (qs.find? (fun q => q.1 == id) = none ∧ L.find? (fun c => c.1 == id) = none) ∨ ∃ q d, qs.find? (fun q => q.1 == id) = some q ∧ L.find? (fun c => c.1 == id) = some d ∧ d ∈ L ∧ Rd 2 encS (· < β) w q.2.1 q.2.2.1 d.2 := by
    intro qs
    induction qs with
    | nil => intro L h _; cases L with
      | nil => exact .inl ⟨rfl, rfl⟩
      | cons d L => simp at h
    | cons q qs ih =>
      intro L h h6
      cases L with
      | nil => simp at h
      | cons d L =>
        obtain ⟨e1, e2⟩ := h6 0 q d rfl rfl
        by_cases hq : q.1 = id
        · exact .inr ⟨q, d, by rw [List.find?_cons_of_pos (by simpa using hq)], by rw [List.find?_cons_of_pos (by rw [← e1]; simpa using hq)], by simp, e2⟩
        · rw [List.find?_cons_of_neg (by simpa using hq), List.find?_cons_of_neg (by rw [← e1]; simpa using hq)]
          rcases ih L (by simpa using h) (fun j q c hq hc => h6 (j + 1) q c hq hc) with h | ⟨q', d', g1, g2, g3, g4⟩
          · exact .inl h
          · exact .inr ⟨q', d', g1, g2, by simp [g3], g4⟩
  rcases key qs L hl h6 with ⟨g1, g2⟩ | ⟨q, d, g1, g2, g3, g4⟩
  · refine ⟨none, 0, 0, [], by unfold fQ; rw [g1]; rfl, Rd.nil _ _ _ _ _, by unfold topL; rw [g2]; rfl, fun lev => by unfold atL; rw [g2]; rfl, .inl rfl⟩
  · refine ⟨q.2.1, q.2.2.1, q.2.2.2, d.2, by unfold fQ; rw [g1]; rfl, g4, by unfold topL; rw [g2]; simp only; rw [g4.1], fun lev => ?_, .inr ⟨d, g3, rfl⟩⟩
    unfold atL
    rw [g2]
    simp only
    rw [if_neg (by omega)]
    rfl
theorem Tryd.zeroNd (w : World) : (zeroValue 48).run Tryd.prog w = .ok (.agg #[.int .i64 0, .string ⟨#[]⟩, .int .u32 0]) w := by kernel_rfl
theorem Tryd.zeroLs (w : World) : (zeroValue 88).run Tryd.prog w = .ok (.slice none 0 0) w := by kernel_rfl

def sideN (side : Int) (p : Int × Int) : Int := if side = 1 then p.2 else p.1
/-- a node, and whether it is there -/
def LnPost (r : Nd × Bool) (w : World) (e : Ending) (w' : World) : Prop := e = .returned (.tuple #[.agg #[.int .i64 r.1.id, .string r.1.key, .int .u32 r.1.word], .bool r.2]) ∧ Ex w w'
set_option maxRecDepth 100000 in
set_option maxHeartbeats 4000000 in
theorem link_p (β b1 b2 : Nat) (N : List Nd) (L : List Lkd) (id : Int) (lev : Nat) (side : Int) (w : World) (h : Net β w b1 b2 N L) (h0 : checkN N = 0) (hb : β ≤ w.heap.size) (hs : ∀ c ∈ L, c.2.length ≤ 9223372036854775807) (hl : lev ≤ 1000) :
    Calls Tryd.prog 65 #[.agg #[.map (some b1), .map (some b2)], .int .i64 id, .int .i64 lev, .int .i64 side] w (LnPost (findN N (sideN side (atL L id lev))) w) := by
  obtain ⟨qs, h1, m1, h2, m2, h5, h6⟩ := h
  obtain ⟨a, n, c, row, r1, r2, _, r4, r5⟩ := Net.row (b1 := b1) (b2 := b2) (N := N) h5 h6 id
  have hnb : n ≤ 9223372036854775807 := by
    rw [← r2.1]
    rcases r5 with h | ⟨d, hd, h⟩
    · rw [h]; simp
    · rw [h]; exact hs d hd
  have B4 := Blk.new w [.map (some b1), .map (some b2)] 100
  have k1 := Ex.new w (.cells #[.map (some b1), .map (some b2)] 100)
  have B8 := Blk.new (w.alloc (.cells #[.map (some b1), .map (some b2)] 100)) [.int .i64 0, .string ⟨#[]⟩, .int .u32 0] 48
  have k2 := Ex.new (w.alloc (.cells #[.map (some b1), .map (some b2)] 100)) (.cells #[.int .i64 0, .string ⟨#[]⟩, .int .u32 0] 48)
  have B4 := B4.nx k2
  obtain ⟨w1, hw1⟩ : ∃ w1, w1 = (w.alloc (.cells #[.map (some b1), .map (some b2)] 100)).alloc (.cells #[.int .i64 0, .string ⟨#[]⟩, .int .u32 0] 48) := ⟨_, rfl⟩
  obtain ⟨g4, hg4⟩ : ∃ g4, g4 = w.heap.size := ⟨_, rfl⟩
  obtain ⟨g8, hg8⟩ : ∃ g8, g8 = w.heap.size + 1 := ⟨_, rfl⟩
  have B4 : Blk w1 g4 [.map (some b1), .map (some b2)] 100 := by rw [hw1, hg4]; exact B4
  have B8 : Blk w1 g8 [.int .i64 0, .string ⟨#[]⟩, .int .u32 0] 48 := by rw [hw1, hg8]; simpa using B8
  have k1 := k1.nx k2
  rw [← hw1] at k1
  have hgw : w.heap.size ≤ g8 := by omega
  have HW1 := Lib.hid hw1
  have HG4 := Lib.hid hg4
  have HG8 := Lib.hid hg8
  have M1 := m1.nx k1
  have M2 := m2.nx k1
  have RW := Lib.hid (show Sl 2 encS w1 a n row from Sl.nx (Rd.mono r2 (fun _ hk => Nat.lt_of_lt_of_le hk hb)) k1)
  have look := M2.look1 (mt := 98) Tryd.underlying98 Tryd.underlying3 (Tryd.zeroLs w1) id
  rw [r1] at look
  have c0 := B4.cell 0 _ rfl
  have c1 := B4.cell 1 _ rfl
  have KE := Lib.hid (fun (wr : World) (v0 v1 v2 : Value) (k : Ex w1 wr) => (((k1.nx k).setNew (p := ⟨g8, 0, none⟩) v0 hgw).setNew (p := ⟨g8, 1, none⟩) v1 hgw).setNew (p := ⟨g8, 2, none⟩) v2 hgw)
  have R4 := Lib.hid r4
  have RL := Lib.hid r2.1
  have HB := Lib.hid (And.intro B4 B8)
  have hmm : b1 < w1.heap.size := M1.lt
  clear m1 m2 h5 h6 r1 r2 r4 r5 hw1 hg4 hg8 k1 k2 B4 B8 hs
  go_enter Tryd.func65, Tryd.ntmps65
  go_upto_region 1 with fail
  rw [← HG8.out, ← HW1.out, ← HG4.out]
  clear HG8 HW1 HG4
  by_cases hlv : n ≤ lev
  · have hlv' : (n : Int) ≤ (lev : Int) := by omega
    have AT : Hid (findN N (sideN side (atL L id (lev : Int))) = (Nd.zero, false)) := Lib.hid (by
      rw [R4.out lev, List.getElem?_eq_none (by rw [RL.out]; exact hlv)]
      have := find_zero h0
      unfold sideN
      split <;> exact this)
    have q0 := HB.out.2.cell 0 _ rfl
    have q1 := HB.out.2.cell 1 _ rfl
    have q2 := HB.out.2.cell 2 _ rfl
    have z0 := HB.out.2.free 0
    have z1 := HB.out.2.free 1
    have z2 := HB.out.2.free 2
    have KF := KE.out w1 (.int .i64 0) (.string ⟨#[]⟩) (.int .u32 0) (Ex.refl w1)
    have KF := Lib.hid KF
    clear M1 M2 hlv
    go_wp2_with fail
    refine bodyPost_ret (v := .tuple #[.agg #[.int .i64 0, .string ⟨#[]⟩, .int .u32 0], .bool false]) (by simp [results, Tryd.results65, go_sem, *]) rfl ⟨by rw [AT.out]; rfl, KF.out⟩
  · have hlv' : ¬ (n : Int) ≤ (lev : Int) := by omega
    obtain ⟨x2, o2, y, rfl, hx2, hy, hc2⟩ := RW.out.at (j := lev) (by omega)
    have f0 : w1.cell? ⟨x2, o2 + lev * 2, none⟩ = some (.int .i64 y.1) := hc2 0 _ rfl
    have f1 : w1.cell? ⟨x2, o2 + lev * 2 + 1, none⟩ = some (.int .i64 y.2) := hc2 1 _ rfl
    have AT : Hid (atL L id (lev : Int) = y) := Lib.hid (by rw [R4.out lev, hy]; rfl)
    have B10 := Blk.new w1 [.int .i64 y.1, .int .i64 y.2] 74
    have k3 := Ex.new w1 (.cells #[.int .i64 y.1, .int .i64 y.2] 74)
    obtain ⟨w2, hw2⟩ : ∃ w2, w2 = w1.alloc (.cells #[.int .i64 y.1, .int .i64 y.2] 74) := ⟨_, rfl⟩
    obtain ⟨g10, hg10⟩ : ∃ g10, g10 = w1.heap.size := ⟨_, rfl⟩
    have B10 : Blk w2 g10 [.int .i64 y.1, .int .i64 y.2] 74 := by rw [hw2, hg10]; exact B10
    rw [← hw2] at k3
    have HW2 := Lib.hid hw2
    have HG10 := Lib.hid hg10
    have M1b := Lib.hid (M1.nx k3)
    have HBb := Lib.hid (And.intro (HB.out.1.nx k3) (HB.out.2.nx k3))
    have K3 := Lib.hid k3
    clear hc2 hy hw2 hg10 k3 hlv M1 M2
    go_upto_region 4 with fail
    rw [← HG10.out, ← HW2.out]
    clear HG10 HW2 look f0 f1 c0 c1
    have d0 := B10.cell 0 _ rfl
    have d1 := B10.cell 1 _ rfl
    have c0 := HBb.out.1.cell 0 _ rfl
    obtain ⟨T, hT⟩ : ∃ T, T = sideN side y := ⟨_, rfl⟩
    have ATT : Hid (sideN side (atL L id (lev : Int)) = T) := Lib.hid (by rw [AT.out, hT])
    have lk := M1b.out.look (mt := 97) Tryd.underlying97 Tryd.underlying3 (Tryd.zeroNd w2) T
    have ff := find_fN N T
    have e1 : (fN N T).getD (.agg #[.int .i64 0, .string ⟨#[]⟩, .int .u32 0]) = (findN N T).1.val := ff.1
    rw [e1, ff.2] at lk
    obtain ⟨E, hE⟩ : ∃ E, E = findN N T := ⟨_, rfl⟩
    rw [← hE] at lk
    have AE : Hid (findN N (sideN side (atL L id (lev : Int))) = E) := Lib.hid (by rw [ATT.out, hE])
    obtain ⟨E, eo⟩ := E
    unfold Nd.val at lk
    simp only at lk
    have q0 := HBb.out.2.cell 0 _ rfl
    have q1 := HBb.out.2.cell 1 _ rfl
    have q2 := HBb.out.2.cell 2 _ rfl
    have z0 := HBb.out.2.free 0
    have z1 := HBb.out.2.free 1
    have z2 := HBb.out.2.free 2
    have hg8l := HBb.out.2.lt
    have hne : ¬ g8 = w2.heap.size := by omega
    have hne2 : ¬ w2.heap.size = g8 := by omega
    have KF := Lib.hid ((KE.out w2 (.int .i64 E.id) (.string E.key) (.int .u32 E.word) K3.out).alloc (.cells #[.int .i64 E.id, .string E.key, .int .u32 E.word] 48))
    clear ff e1 hE M1b B10 ATT
    by_cases hsd : side = 1
    · rw [show sideN side y = y.2 from if_pos hsd] at hT
      have sb : (side == 1) = true := by simpa using hsd
      subst hT
      clear hsd
      go_wp2_with fail
      refine bodyPost_ret (v := .tuple #[.agg #[.int .i64 E.id, .string E.key, .int .u32 E.word], .bool eo]) (by simp [results, Tryd.results65, go_sem, *]) rfl ⟨by rw [AE.out], KF.out⟩
    · rw [show sideN side y = y.1 from if_neg hsd] at hT
      have sb : (side == 1) = false := by simpa using hsd
      subst hT
      clear hsd
      go_wp2_with fail
      refine bodyPost_ret (v := .tuple #[.agg #[.int .i64 E.id, .string E.key, .int .u32 E.word], .bool eo]) (by simp [results, Tryd.results65, go_sem, *]) rfl ⟨by rw [AE.out], KF.out⟩
def M1Rel (N : List Nd) (b : Nat) (w : World) (i : Value) (wr : World) : Prop := ∃ k : Nat, k ≤ N.length ∧ i = .int .i64 k ∧ MapV wr b (fN (N.take k)) ∧ Exb b w wr
def M2Rel (qs : List (Int × Hdr)) (b : Nat) (w : World) (i : Value) (wr : World) : Prop := ∃ k : Nat, k ≤ qs.length ∧ i = .int .i64 k ∧ MapV wr b (fQ (qs.take k)) ∧ Exb b w wr
/-- a network that was just made -/
def MdPost (N : List Nd) (L : List Lkd) (w : World) (e : Ending) (w' : World) : Prop := ∃ b1 b2 : Nat, e = .returned (.agg #[.map (some b1), .map (some b2)]) ∧ Net w'.heap.size w' b1 b2 N L ∧ Ex w w'
set_option maxRecDepth 100000 in
set_option maxHeartbeats 4000000 in
theorem made_p (a : Option Addr) (n c : Nat) (N : List Nd) (a2 : Option Addr) (n2 c2 : Nat) (L : List Lkd) (w : World) (h : Sl 3 encN w a n N) (hn : n ≤ 1000) (h2 : LkL w a2 n2 L) (hn2 : n2 ≤ 1000000) (h0 : checkN N = 0) :
    Calls Tryd.prog 63 #[.slice a n c, .slice a2 n2 c2] w (MdPost N L w) := by
  have ID : Hid (N.Pairwise fun x y => x.id ≠ y.id) := Lib.hid ((keys_pw (check_keys h0)).imp (fun h => h.2))
  have HL := Lib.hid h.len
  obtain ⟨qs, hq1, hq2, hq3⟩ := h2
  have HQL := Lib.hid hq1.len
  have HQ2 := Lib.hid hq2
  have HQ3 := Lib.hid hq3
  have hmm := @run_makeMap Tryd.prog
  obtain ⟨g4, hg4⟩ : ∃ g4, g4 = w.heap.size := ⟨_, rfl⟩
  obtain ⟨b1, hb1⟩ : ∃ b1, b1 = w.heap.size + 1 := ⟨_, rfl⟩
  obtain ⟨b2, hb2⟩ : ∃ b2, b2 = w.heap.size + 1 + 1 := ⟨_, rfl⟩
  obtain ⟨g5, hg5⟩ : ∃ g5, g5 = w.heap.size + 1 + 1 + 1 := ⟨_, rfl⟩
  obtain ⟨w4, hw4, k4, B4, M1, M2, B5⟩ : ∃ w4, w4 = (((w.alloc (.cells #[.map none, .map none] 100)).alloc (.map #[] 0)).alloc (.map #[] 0)).alloc (.cells #[.map (some b1), .map (some b2)] 100) ∧ Ex w w4 ∧
      Blk w4 g4 [.map none, .map none] 100 ∧ MapV w4 b1 (fun _ => none) ∧ MapV w4 b2 (fun _ => none) ∧ Blk w4 g5 [.map (some b1), .map (some b2)] 100 := by
    refine ⟨_, rfl, ?_, ?_, ?_, ?_, ?_⟩
    · exact (((Ex.new w _).alloc _).alloc _).alloc _
    · rw [hg4]; exact (((Blk.new w _ _).nx (Ex.new _ _)).nx (Ex.new _ _)).nx (Ex.new _ _)
    · have := ((MapV.made (w.alloc (.cells #[.map none, .map none] 100))).nx (Ex.new _ (.map #[] 0))).nx (Ex.new _ (.cells #[.map (some b1), .map (some b2)] 100))
      rw [show (w.alloc (.cells #[.map none, .map none] 100)).heap.size = b1 by rw [hb1]; simp] at this
      exact this
    · have := (MapV.made ((w.alloc (.cells #[.map none, .map none] 100)).alloc (.map #[] 0))).nx (Ex.new _ (.cells #[.map (some b1), .map (some b2)] 100))
      rw [show ((w.alloc (.cells #[.map none, .map none] 100)).alloc (.map #[] 0)).heap.size = b2 by rw [hb2]; simp] at this
      exact this
    · have := Blk.new (((w.alloc (.cells #[.map none, .map none] 100)).alloc (.map #[] 0)).alloc (.map #[] 0)) [.map (some b1), .map (some b2)] 100
      rw [show (((w.alloc (.cells #[.map none, .map none] 100)).alloc (.map #[] 0)).alloc (.map #[] 0)).heap.size = g5 by rw [hg5]; simp] at this
      exact this
  have hle1 : w.heap.size ≤ b1 := by omega
  have hle2 : w.heap.size ≤ b2 := by omega
  have hn12 : b1 ≠ b2 := by omega
  have hn41 : g4 ≠ b1 := by omega
  have hn42 : g4 ≠ b2 := by omega
  have hn51 : g5 ≠ b1 := by omega
  have hn52 : g5 ≠ b2 := by omega
  have hle4 : w.heap.size ≤ g4 := by omega
  have SW := Lib.hid ((h.slb hle1).nxb (k4.b b1))
  have SQ := Lib.hid (hq1.nx k4)
  have HS4 := Lib.hid (show (∀ k, k < w.heap.size → k < w4.heap.size) from fun k hk => Nat.lt_of_lt_of_le hk k4.size)
  have HW4 := Lib.hid hw4
  have HG4 := Lib.hid hg4
  have HB1 := Lib.hid hb1
  have HB2 := Lib.hid hb2
  have HG5 := Lib.hid hg5
  have K4 := Lib.hid k4
  have hq1n := Lib.hid hq1
  clear h hq1 hq2 hq3 hw4 hg4 hb1 hb2 hg5 k4
  go_enter Tryd.func63, Tryd.ntmps63
  go_upto_region 2 with fail
  rw [← HG5.out, ← HB2.out, ← HB1.out, ← HG4.out, ← HW4.out]
  clear HG5 HB2 HB1 HG4 HW4 hmm
  go_wp2_with fail
  go_loopw [17] (fun i wr => M1Rel N b1 w4 i wr) (fun i _ => n - (intOf i).toNat)
  case atStart => exact ⟨0, by omega, rfl, M1, Exb.refl _ _⟩
  case round =>
    clear M1
    obtain ⟨k, hk, rfl, M1, kw⟩ := hrel
    obtain ⟨wo, rfl⟩ : ∃ wo : World, wo = wr := ⟨_, rfl⟩
    have B5w := B5.nxb hn51 kw
    rw [HL.out] at hk
    by_cases hlt : k < n
    · obtain ⟨x1, o1, y, rfl, hx1, hy, hc1⟩ := (SW.out.nxb kw).sl.at hlt
      have e0 : wo.cell? ⟨x1, o1 + k * 3, none⟩ = some (.int .i64 y.id) := hc1 0 _ rfl
      have e1 : wo.cell? ⟨x1, o1 + k * 3 + 1, none⟩ = some (.string y.key) := hc1 1 _ rfl
      have e2 : wo.cell? ⟨x1, o1 + k * 3 + 1 + 1, none⟩ = some (.int .u32 y.word) := by simpa [Nat.add_assoc] using hc1 2 _ rfl
      have FS := Lib.hid (fN_snoc ID.out hy)
      have B7 := Blk.new wo [.int .i64 y.id, .string y.key, .int .u32 y.word] 48
      have k7 := Ex.new wo (.cells #[.int .i64 y.id, .string y.key, .int .u32 y.word] 48)
      obtain ⟨w7, hw7⟩ : ∃ w7, w7 = wo.alloc (.cells #[.int .i64 y.id, .string y.key, .int .u32 y.word] 48) := ⟨_, rfl⟩
      obtain ⟨g7, hg7⟩ : ∃ g7, g7 = wo.heap.size := ⟨_, rfl⟩
      have B7 : Blk w7 g7 [.int .i64 y.id, .string y.key, .int .u32 y.word] 48 := by rw [hw7, hg7]; exact B7
      rw [← hw7] at k7
      have HW7 := Lib.hid hw7
      have HG7 := Lib.hid hg7
      have M7 := M1.nx k7
      have kw7 := kw.nxb (k7.b b1)
      have c0 := (B5w.nx k7).cell 0 _ rfl
      have d0 := B7.cell 0 _ rfl
      have d1 := B7.cell 1 _ rfl
      have d2 := B7.cell 2 _ rfl
      obtain ⟨wm, hrun, MI2, km⟩ := MapV.put (P := Tryd.prog) M7 (mt := 97) Tryd.underlying97 Tryd.underlying3 y.id (.agg #[.int .i64 y.id, .string y.key, .int .u32 y.word])
      have RR := Lib.hid (show M1Rel N b1 w4 (.int .i64 ((k : Int) + 1)) wm from ⟨k + 1, by rw [HL.out]; omega, by go_num, by rw [← FS.out]; exact MI2, kw7.nxb km⟩)
      clear hc1 hy hw7 hg7 k7 M1 kw B7 M7 MI2 km kw7 B5w
      go_upto_region 5 with fail
      rw [← HG7.out, ← HW7.out]
      clear HG7 HW7 e0 e1 e2
      go_wp2_with fail
      exact ⟨RR.out, by simp [intOf]; omega⟩
    · obtain rfl : k = n := by omega
      rw [List.take_of_length_le (by rw [HL.out]; exact Nat.le_refl _)] at M1
      have M1L := M1.lt
      have M2w := M2.nxb (Ne.symm hn12) kw
      have KW := Lib.hid (Exl.nxb (b := b1) (w := w) ⟨K4.out, hle1⟩ kw).1
      have B4w := B4.nxb hn41 kw
      have SQ := Lib.hid (show Slb 2 (encP encI) b2 wo a2 n2 qs from ((hq1n.out.slb hle2).nxb (KW.out.b b2)))
      clear hk hlt kw M2 B4 B5
      go_wp2_with fail
      go_loopw [29] (fun i wr => M2Rel qs b2 wo i wr) (fun i _ => n2 - (intOf i).toNat)
      case atStart => exact ⟨0, by omega, rfl, M2w, Exb.refl _ _⟩
      case round =>
        clear M2w
        obtain ⟨j, hj, rfl, M2, kj⟩ := hrel
        obtain ⟨wi, rfl⟩ : ∃ wi : World, wi = wr := ⟨_, rfl⟩
        rw [HQL.out] at hj
        have B5i := B5w.nxb hn52 kj
        by_cases hjl : j < n2
        · obtain ⟨x1, o1, q, rfl, hx1, hq, hc1⟩ := (SQ.out.nxb kj).sl.at hjl
          obtain ⟨qi, qa, qn, qc⟩ := q
          have e0 : wi.cell? ⟨x1, o1 + j * 2, none⟩ = some (.int .i64 qi) := hc1 0 _ rfl
          have e1 : wi.cell? ⟨x1, o1 + j * 2 + 1, none⟩ = some (.slice qa qn qc) := hc1 1 _ rfl
          have FS := Lib.hid (fQ_snoc hq)
          have B9 := Blk.new wi [.int .i64 qi, .slice qa qn qc] 90
          have k9 := Ex.new wi (.cells #[.int .i64 qi, .slice qa qn qc] 90)
          obtain ⟨w9, hw9⟩ : ∃ w9, w9 = wi.alloc (.cells #[.int .i64 qi, .slice qa qn qc] 90) := ⟨_, rfl⟩
          obtain ⟨g9, hg9⟩ : ∃ g9, g9 = wi.heap.size := ⟨_, rfl⟩
          have B9 : Blk w9 g9 [.int .i64 qi, .slice qa qn qc] 90 := by rw [hw9, hg9]; exact B9
          rw [← hw9] at k9
          have HW9 := Lib.hid hw9
          have HG9 := Lib.hid hg9
          have M9 := M2.nx k9
          have kj9 := kj.nxb (k9.b b2)
          have c1 := (B5i.nx k9).cell 1 _ rfl
          have d0 := B9.cell 0 _ rfl
          have d1 := B9.cell 1 _ rfl
          have lk := M9.look (P := Tryd.prog) (mt := 98) Tryd.underlying98 Tryd.underlying3 (Tryd.zeroLs w9) qi
          clear hc1 hq hw9 hg9 k9 M2 kj B9 B5i
          cases hsm : (fQ (qs.take j) qi).isSome with
          | true =>
            rw [hsm] at lk
            have RR := Lib.hid (show M2Rel qs b2 wo (.int .i64 ((j : Int) + 1)) w9 from ⟨j + 1, by rw [HQL.out]; omega, by go_num, by rw [FS.out, if_pos hsm]; exact M9, kj9⟩)
            generalize (fQ (qs.take j) qi).getD (Value.slice none 0 0) = vv at lk
            clear M9 kj9 hsm
            go_upto_region 10 with fail
            rw [← HG9.out, ← HW9.out]
            clear HG9 HW9 e0 e1
            go_wp2_with fail
            exact ⟨RR.out, by simp [intOf]; omega⟩
          | false =>
            rw [hsm] at lk
            obtain ⟨wm, hrun, MI2, km⟩ := MapV.put (P := Tryd.prog) M9 (mt := 98) Tryd.underlying98 Tryd.underlying3 qi (.slice qa qn qc)
            have RR := Lib.hid (show M2Rel qs b2 wo (.int .i64 ((j : Int) + 1)) wm from ⟨j + 1, by rw [HQL.out]; omega, by go_num, by rw [FS.out, if_neg (by rw [hsm]; simp)]; exact MI2, kj9.nxb km⟩)
            generalize (fQ (qs.take j) qi).getD (Value.slice none 0 0) = vv at lk
            clear M9 kj9 hsm MI2 km
            go_upto_region 10 with fail
            rw [← HG9.out, ← HW9.out]
            clear HG9 HW9 e0 e1
            go_wp2_with fail
            exact ⟨RR.out, by simp [intOf]; omega⟩
        · obtain rfl : j = n2 := by omega
          rw [List.take_of_length_le (by rw [HQL.out]; exact Nat.le_refl _)] at M2
          have M1i := M1.nxb hn12 kj
          have c0 := B5i.cell 0 _ rfl
          have c1 := B5i.cell 1 _ rfl
          have B4i := B4w.nxb hn42 kj
          have q0 := B4i.cell 0 _ rfl
          have q1 := B4i.cell 1 _ rfl
          have z0 := B4i.free 0
          have z1 := B4i.free 1
          have KI : Ex w wi := (Exl.nxb (b := b2) (w := w) ⟨KW.out, hle2⟩ kj).1
          have KF := (KI.setNew (p := ⟨g4, 0, none⟩) (.map (some b1)) hle4).setNew (p := ⟨g4, 1, none⟩) (.map (some b2)) hle4
          have kset : Exb g4 wi ((wi.setCell ⟨g4, 0, none⟩ (.map (some b1))).setCell ⟨g4, 1, none⟩ (.map (some b2))) := ((Exb.refl g4 wi).setB (p := ⟨g4, 0, none⟩) (.map (some b1)) rfl).setB (p := ⟨g4, 1, none⟩) (.map (some b2)) rfl
          have FIN := Lib.hid (show MdPost N L w (.returned (.agg #[.map (some b1), .map (some b2)])) ((wi.setCell ⟨g4, 0, none⟩ (.map (some b1))).setCell ⟨g4, 1, none⟩ (.map (some b2))) from
            ⟨b1, b2, rfl, ⟨qs, (M1i.nxb (Ne.symm hn41) kset).lt, M1i.nxb (Ne.symm hn41) kset, (M2.nxb (Ne.symm hn42) kset).lt, M2.nxb (Ne.symm hn42) kset, by rw [HQL.out, HQ2.out], fun j q c hq hc => ⟨(HQ3.out j q c hq hc).1, (HQ3.out j q c hq hc).2.nx KF⟩⟩, KF⟩)
          clear hj hjl M2 M1i B5i B4i KI KF kset kj
          go_wp2_with fail
          refine bodyPost_ret (v := .agg #[.map (some b1), .map (some b2)]) (by simp [results, Tryd.results63, go_sem, *]) rfl FIN.out
end Go.Proofs.YtkjlhcfocefhpaaDoor

/- Route of the package search (printed by gen_rouw.py). -/
namespace Go.Proofs.YtkjlhcfocefhpaaDoor
open Go.RowKit

/-- a hop was made: the list is longer, and the node is the next one -/
def HpPost (base go gx : Nat) (x y : Nd) (lev : Int) (out : List Hop) (w : World) (e : Ending) (w' : World) : Prop :=
  e = .returned (.tuple #[]) ∧ ∃ v : Value, Blk w' go [v] 34 ∧ OwnL 3 encHp 52 base w' v (out ++ [(x.id, y.id, lev)]) ∧ Blk w' gx [.int .i64 y.id, .string y.key, .int .u32 y.word] 48 ∧ Chg (fun k => k < base ∧ k ≠ go ∧ k ≠ gx) w w'
set_option maxRecDepth 100000 in
set_option maxHeartbeats 2000000 in
theorem hop_p (base go gx : Nat) (x y : Nd) (lev : Int) (v : Value) (out : List Hop) (w : World) (hgo : Blk w go [v] 34) (own : OwnL 3 encHp 52 base w v out) (hgx : Blk w gx [.int .i64 x.id, .string x.key, .int .u32 x.word] 48) (h1 : go ≠ gx) (h2 : go < base) (h3 : gx < base) (hb : base ≤ w.heap.size) (ho : out.length ≤ 1000) :
    Calls Tryd.prog 64 #[.agg #[.int .i64 y.id, .string y.key, .int .u32 y.word], .int .i64 lev, .pointer (some ⟨go, 0, none⟩), .pointer (some ⟨gx, 0, none⟩)] w (HpPost base go gx x y lev out w) := by
  have B4 := Blk.new w [.int .i64 y.id, .string y.key, .int .u32 y.word] 48
  have k1 := Ex.new w (.cells #[.int .i64 y.id, .string y.key, .int .u32 y.word] 48)
  obtain ⟨w1, hw1⟩ : ∃ w1, w1 = w.alloc (.cells #[.int .i64 y.id, .string y.key, .int .u32 y.word] 48) := ⟨_, rfl⟩
  obtain ⟨g4, hg4⟩ : ∃ g4, g4 = w.heap.size := ⟨_, rfl⟩
  have B4 : Blk w1 g4 [.int .i64 y.id, .string y.key, .int .u32 y.word] 48 := by rw [hw1, hg4]; exact B4
  rw [← hw1] at k1
  have HW1 := Lib.hid hw1
  have HG4 := Lib.hid hg4
  have hno : ¬ v.ownBlock = some g4 := fun he => by
    obtain ⟨_, cur, h⟩ := OwnL.blk own he
    have := heap_lt h
    omega
  have HNO := Lib.hid hno
  have hg4b : base ≤ g4 := by omega
  have BO := Lib.hid (hgo.nx k1)
  have BX := Lib.hid (hgx.nx k1)
  have OWN := Lib.hid (own.nx k1)
  have b0 := (hgo.nx k1).cell 0 _ rfl
  have x0 := (hgx.nx k1).cell 0 _ rfl
  have y0 := B4.cell 0 _ rfl
  have hz : base ≤ w1.heap.size := Nat.le_trans hb k1.size
  have BB := Lib.hid B4
  have hgl := B4.lt
  have K1 := Lib.hid k1
  clear hgo own hgx hw1 hg4 hno k1 B4
  go_enter Tryd.func64, Tryd.ntmps64
  go_upto_region 1 with fail
  rw [← HG4.out, ← HW1.out]
  clear HG4 HW1
  go_wp2_with (at_builtin; (refine wpList_append_lit (enc := encHp) w1 rfl _ _ 34 rfl base 52 (.agg #[.int .i64 0, .int .i64 0, .int .i64 0]) 3 24 Tryd.underlying34 Tryd.infoHp rfl (by omega) (by omega) _ _ OWN.out rfl ((x.id, y.id, lev) : Hop) _ rfl rfl (by simp [encHp, Value.oneCell']) _ (by simp) rfl (by omega) (by omega) _ ?_); intro v9 w9 own9 ch0 ch1 _; (obtain ⟨a9, n9, c9, rfl⟩ : ∃ a n c, v9 = Value.slice a n c := (by obtain ⟨a, c, h, _⟩ := OwnL.rd own9 (fun _ => rfl); exact ⟨a, _, c, h⟩)); have BO9 := Blk.chg BO.out ch1 h2; have BX9 := Blk.chg BX.out ch1 h3; have BY9 := Blk.chg BB.out ch0 ⟨hgl, HNO.out⟩; have b0 := BO9.cell 0 _ rfl; have z3 := BO9.free 0; have x0 := BX9.cell 0 _ rfl; have x1 := BX9.cell 1 _ rfl; have x2 := BX9.cell 2 _ rfl; have z0 := BX9.free 0; have z1 := BX9.free 1; have z2 := BX9.free 2; have y0 := BY9.cell 0 _ rfl; have y1 := BY9.cell 1 _ rfl; have y2 := BY9.cell 2 _ rfl; have hne := h1; have hgy : ¬ g4 = gx := (by omega); have hgo : ¬ g4 = go := (by omega); have OWN9 := Lib.hid own9; have CH1 := Lib.hid ch1; have HBO := Lib.hid BO9; have HBX := Lib.hid BX9; clear own9 ch0 ch1 BO9 BX9 BY9)
  go_end0
  obtain ⟨v9, hv9⟩ : ∃ v9, v9 = Value.slice a9 n9 c9 := ⟨_, rfl⟩
  rw [← hv9] at OWN9 ⊢
  have s0 : Exb go w9 (w9.setCell ⟨go, 0, none⟩ v9) := (Exb.refl go w9).setB (p := ⟨go, 0, none⟩) v9 rfl
  have s1 : Exb gx (w9.setCell ⟨go, 0, none⟩ v9) ((((w9.setCell ⟨go, 0, none⟩ v9).setCell ⟨gx, 0, none⟩ (.int .i64 y.id)).setCell ⟨gx, 1, none⟩ (.string y.key)).setCell ⟨gx, 2, none⟩ (.int .u32 y.word)) :=
    (((Exb.refl gx _).setB (p := ⟨gx, 0, none⟩) (.int .i64 y.id) rfl).setB (p := ⟨gx, 1, none⟩) (.string y.key) rfl).setB (p := ⟨gx, 2, none⟩) (.int .u32 y.word) rfl
  refine ⟨rfl, v9, (HBO.out.set 0 v9).nxb h1 s1, (OWN9.out.nxb h2 s0).nxb h3 s1, (((HBX.out.nxb (Ne.symm h1) s0).set 0 (.int .i64 y.id)).set 1 (.string y.key)).set 2 (.int .u32 y.word), ?_⟩
  exact Chg.trans (Chg.trans (Chg.trans (Chg.mono K1.out (fun k hk => by have := hk.1; omega)) (Chg.mono CH1.out (fun k hk => hk.1))) (Chg.mono s0 (fun k hk => ⟨by have := hk.1; have := CH1.out.size; omega, hk.2.1⟩))) (Chg.mono s1 (fun k hk => ⟨by have := hk.1; have := CH1.out.size; have := s0.size; omega, hk.2.2⟩))

/-- the list that lies in a block -/
def lenAt (w : World) (g : Nat) : Nat := match w.cell? ⟨g, 0, none⟩ with | some v => lenS v | none => 0
/-- where the search stands: the node lies in gx, the hops in go -/
def RoSt (N : List Nd) (L : List Lkd) (key : List UInt8) (right : Bool) (R : Nd × List Hop) (gx go base : Nat) (w0 : World) (lev : Nat) (wr : World) : Prop :=
  ∃ (x : Nd) (out : List Hop) (v : Value), Blk wr go [v] 34 ∧ OwnL 3 encHp 52 base wr v out ∧ Blk wr gx [.int .i64 x.id, .string x.key, .int .u32 x.word] 48 ∧ RtSt N L key right R x lev out ∧ x ∈ N ∧ out.length + bey N right x ≤ N.length ∧ Chg (· < gx) w0 wr
def RoRel (N : List Nd) (L : List Lkd) (key : List UInt8) (right : Bool) (R : Nd × List Hop) (gx go base : Nat) (w0 : World) (l : Value) (wr : World) : Prop :=
  ∃ lev : Nat, l = .int .i64 ((lev : Int) - 1) ∧ lev ≤ 17 ∧ RoSt N L key right R gx go base w0 lev wr
def RiRel (N : List Nd) (L : List Lkd) (key : List UInt8) (right : Bool) (R : Nd × List Hop) (gx go base : Nat) (w0 : World) (q : Nat) (wr : World) : Prop :=
  RoSt N L key right R gx go base w0 (q + 1) wr
theorem hop_none {N : List Nd} {L : List Lkd} {key : List UInt8} {right : Bool} {x : Nd} {q : Nat} {E : Nd × Bool} (hE : E = findN N (sideN (if right then 1 else 0) (atL L x.id q)))
    (h : E.2 = false ∨ (if right then (!Op.bytesLess x.key.toList E.1.key.toList) || Op.bytesLess key E.1.key.toList else (!Op.bytesLess E.1.key.toList x.key.toList) || !Op.bytesLess key E.1.key.toList) = true) : hopN N L key right x q = none := by
  unfold hopN
  cases right with
  | true =>
    rw [if_pos rfl]
    have e : sideN (if true = true then 1 else 0) (atL L x.id q) = (atL L x.id q).2 := rfl
    rw [e] at hE
    rw [← hE]
    rw [if_neg]
    rcases h with h | h
    · rw [h]; simp
    · intro hc
      simp only [Bool.and_eq_true, Bool.not_eq_true'] at hc
      rw [if_pos rfl, hc.2.1, hc.2.2] at h
      cases h
  | false =>
    rw [if_neg (by simp)]
    have e : sideN (if false = true then 1 else 0) (atL L x.id q) = (atL L x.id q).1 := rfl
    rw [e] at hE
    rw [← hE]
    rw [if_neg]
    rcases h with h | h
    · rw [h]; simp
    · intro hc
      simp only [Bool.and_eq_true] at hc
      rw [if_neg (by simp), hc.2.1, hc.2.2] at h
      cases h
theorem hop_some {N : List Nd} {L : List Lkd} {key : List UInt8} {right : Bool} {x : Nd} {q : Nat} {E : Nd} (hE : (E, true) = findN N (sideN (if right then 1 else 0) (atL L x.id q)))
    (h : (if right then (!Op.bytesLess x.key.toList E.key.toList) || Op.bytesLess key E.key.toList else (!Op.bytesLess E.key.toList x.key.toList) || !Op.bytesLess key E.key.toList) = false) : hopN N L key right x q = some E := by
  unfold hopN
  cases right with
  | true =>
    rw [if_pos rfl]
    have e : sideN (if true = true then 1 else 0) (atL L x.id q) = (atL L x.id q).2 := rfl
    rw [e] at hE
    rw [← hE]
    rw [if_pos rfl] at h
    simp only [Bool.or_eq_false_iff, Bool.not_eq_false'] at h
    rw [if_pos (by simp [h.1, h.2])]
  | false =>
    rw [if_neg (by simp)]
    have e : sideN (if false = true then 1 else 0) (atL L x.id q) = (atL L x.id q).1 := rfl
    rw [e] at hE
    rw [← hE]
    rw [if_neg (by simp)] at h
    simp only [Bool.or_eq_false_iff, Bool.not_eq_false'] at h
    rw [if_pos (by simp [h.1, h.2])]
theorem link0_p (β b1 b2 : Nat) (N : List Nd) (L : List Lkd) (id : Int) (w : World) (h : Net β w b1 b2 N L) (h0 : checkN N = 0) (hb : β ≤ w.heap.size) (hs : ∀ c ∈ L, c.2.length ≤ 9223372036854775807) :
    Calls Tryd.prog 65 #[.agg #[.map (some b1), .map (some b2)], .int .i64 id, .int .i64 0, .int .i64 0] w (LnPost (findN N (atL L id 0).1) w) := link_p β b1 b2 N L id 0 0 w h h0 hb hs (by omega)
theorem linkR_p (β b1 b2 : Nat) (N : List Nd) (L : List Lkd) (id : Int) (lev : Nat) (w : World) (h : Net β w b1 b2 N L) (h0 : checkN N = 0) (hb : β ≤ w.heap.size) (hs : ∀ c ∈ L, c.2.length ≤ 9223372036854775807) (hl : lev ≤ 1000) :
    Calls Tryd.prog 65 #[.agg #[.map (some b1), .map (some b2)], .int .i64 id, .int .i64 lev, .int .i64 1] w (LnPost (findN N (sideN 1 (atL L id lev))) w) := link_p β b1 b2 N L id lev 1 w h h0 hb hs hl
theorem linkL_p (β b1 b2 : Nat) (N : List Nd) (L : List Lkd) (id : Int) (lev : Nat) (w : World) (h : Net β w b1 b2 N L) (h0 : checkN N = 0) (hb : β ≤ w.heap.size) (hs : ∀ c ∈ L, c.2.length ≤ 9223372036854775807) (hl : lev ≤ 1000) :
    Calls Tryd.prog 65 #[.agg #[.map (some b1), .map (some b2)], .int .i64 id, .int .i64 lev, .int .i64 0] w (LnPost (findN N (sideN 0 (atL L id lev))) w) := link_p β b1 b2 N L id lev 0 w h h0 hb hs hl
theorem blk3 {w : World} {g : Nat} {x y z : Value} {ty : TypeId} (h : Blk w g [x, y, z] ty) : w.cell? ⟨g, 0, none⟩ = some x ∧ w.cell? ⟨g, 1, none⟩ = some y ∧ w.cell? ⟨g, 2, none⟩ = some z := ⟨h.cell 0 _ rfl, h.cell 1 _ rfl, h.cell 2 _ rfl⟩

theorem Blk.nxg {w w' : World} {g x : Nat} {cs : List Value} {ty : TypeId} (h : Blk w g cs ty) (k : Chg (· < x) w w') (hg : g < x) : Blk w' g cs ty := (Chg.block k g hg).trans h
theorem hop0_p (base go gx : Nat) (x y : Nd) (v : Value) (out : List Hop) (w : World) (hgo : Blk w go [v] 34) (own : OwnL 3 encHp 52 base w v out) (hgx : Blk w gx [.int .i64 x.id, .string x.key, .int .u32 x.word] 48) (h1 : go ≠ gx) (h2 : go < base) (h3 : gx < base) (hb : base ≤ w.heap.size) (ho : out.length ≤ 1000) :
    Calls Tryd.prog 64 #[.agg #[.int .i64 y.id, .string y.key, .int .u32 y.word], .int .i64 0, .pointer (some ⟨go, 0, none⟩), .pointer (some ⟨gx, 0, none⟩)] w (HpPost base go gx x y 0 out w) := hop_p base go gx x y 0 v out w hgo own hgx h1 h2 h3 hb ho
set_option maxRecDepth 100000 in
set_option maxHeartbeats 16000000 in
theorem route_p (a : Option Addr) (n c : Nat) (N : List Nd) (a2 : Option Addr) (n2 c2 : Nat) (L : List Lkd) (frm : Int) (s : ByteArray) (w : World) (h : Sl 3 encN w a n N) (hn : n ≤ 1000) (hc : n ≤ c) (hm : c ≤ maxLen) (h2 : LkL w a2 n2 L) (hn2 : n2 ≤ 1000000)
    (hs : ∀ c ∈ L, c.2.length ≤ 9223372036854775807) :
    Calls Tryd.prog 22 #[.slice a n c, .slice a2 n2 c2, .int .i64 frm, .string s] w (RtPost (routeN N L frm s) w) := by
  have HS := Lib.hid hs
  have HLN := Lib.hid h.len
  clear hs
  go_enter Tryd.func22, Tryd.ntmps22
  have EX := Ex.refl w
  go_wp2_with fail
  go_step3
  go_wp2_with fail
  (with_reducible refine (check_p _ _ _ _ _ h (by omega) hc hm).mono ?_)
  rintro e w1 ⟨rfl, kk⟩
  replace h := h.nx kk
  replace h2 := Lib.hid (h2.nx kk)
  replace EX := Lib.hid (EX.nx kk)
  clear kk
  by_cases hck : checkN N = 0
  case neg =>
    have RN := Lib.hid (route_bad (L := L) (frm := frm) (s := s) (.inl hck))
    have d1 : (checkN N != 0) = true := by simpa using hck
    clear h hck
    go_wp2_with fail
    (try rw [Exit.noGoto_ret])
    go_ret2
    exact ⟨_, by rw [RN.out]; rfl, by rw [RN.out]; exact OwnL.nil _ _ _ _ _, EX.out⟩
  have HC := Lib.hid hck
  have d1 : (checkN N != 0) = false := by simpa using hck
  clear hck
  go_wp2_with fail
  (with_reducible refine (vkey_p _ _).mono ?_)
  rintro e w1' ⟨rfl, rfl⟩
  by_cases hsz : (s.size : Int) ≤ 64
  case neg =>
    have RN := Lib.hid (route_bad (L := L) (frm := frm) (show checkN N ≠ 0 ∨ 64 < s.size from .inr (by omega)))
    rw [decide_eq_false hsz]
    clear h hsz
    go_wp2_with fail
    (try rw [Exit.noGoto_ret])
    go_ret2
    exact ⟨_, by rw [RN.out]; rfl, by rw [RN.out]; exact OwnL.nil _ _ _ _ _, EX.out⟩
  have NB : Hid (¬ (checkN N ≠ 0 ∨ 64 < s.size)) := Lib.hid (by rintro (h | h); exact h HC.out; omega)
  rw [decide_eq_true hsz]
  clear hsz d1
  have HCL := Lib.hid (by have := check_len HC.out; have := HLN.out; omega : n ≤ 64)
  go_wp2_with fail
  (with_reducible refine (made_p _ _ _ _ _ _ _ _ _ h (by omega) h2.out hn2 HC.out).mono ?_)
  rintro e w3 ⟨b1, b2, rfl, NT, kk⟩
  replace EX := Lib.hid (EX.out.nx kk)
  have hzw3 := EX.out.size
  have hnb1 := NT
  have NT := Lib.hid NT
  clear kk hnb1 h h2
  have B10 := Blk.new w3 [.map (some b1), .map (some b2)] 100
  have kk := Ex.new w3 (.cells #[.map (some b1), .map (some b2)] 100)
  obtain ⟨w4, hw4⟩ : ∃ w4, w4 = w3.alloc (.cells #[.map (some b1), .map (some b2)] 100) := ⟨_, rfl⟩
  obtain ⟨g10, hg10⟩ : ∃ g10, g10 = w3.heap.size := ⟨_, rfl⟩
  replace B10 : Blk w4 g10 [.map (some b1), .map (some b2)] 100 := by rw [hw4, hg10]; exact B10
  rw [← hw4] at kk
  have Hw4 := Lib.hid hw4
  have Hg10 := Lib.hid hg10
  replace EX := Lib.hid (EX.out.nx kk)
  have NT := Lib.hid (NT.out.nx (Nat.le_refl _) kk)
  have M1 : MapV w4 b1 (fN N) := by obtain ⟨_, _, m, _⟩ := NT.out; exact m
  have hg10l : g10 = w3.heap.size := hg10
  have hz10 : w.heap.size ≤ g10 := by omega
  have NT := Lib.hid (NT.out.up (show w3.heap.size ≤ g10 by omega))
  clear kk hw4 hg10 hg10l
  go_upto_region 4 with fail
  rw [← Hg10.out, ← Hw4.out]
  clear Hg10 Hw4
  have c0 := B10.cell 0 _ rfl
  have lk := M1.look (mt := 97) Tryd.underlying97 Tryd.underlying3 (Tryd.zeroNd w4) frm
  have ff := find_fN N frm
  have e1 : (fN N frm).getD (.agg #[.int .i64 0, .string ⟨#[]⟩, .int .u32 0]) = (findN N frm).1.val := ff.1
  rw [e1, ff.2] at lk
  obtain ⟨FR, hFR⟩ : ∃ FR, FR = findN N frm := ⟨_, rfl⟩
  rw [← hFR] at lk
  have HFR := Lib.hid hFR
  obtain ⟨x0, ok⟩ := FR
  unfold Nd.val at lk
  simp only at lk
  have NTL := Lib.hid B10.lt
  clear hFR ff e1 M1
  have BX := Blk.new w4 [.int .i64 x0.id, .string x0.key, .int .u32 x0.word] 48
  have kk := Ex.new w4 (.cells #[.int .i64 x0.id, .string x0.key, .int .u32 x0.word] 48)
  obtain ⟨w5, hw5⟩ : ∃ w5, w5 = w4.alloc (.cells #[.int .i64 x0.id, .string x0.key, .int .u32 x0.word] 48) := ⟨_, rfl⟩
  obtain ⟨gx, hgx⟩ : ∃ gx, gx = w4.heap.size := ⟨_, rfl⟩
  replace BX : Blk w5 gx [.int .i64 x0.id, .string x0.key, .int .u32 x0.word] 48 := by rw [hw5, hgx]; exact BX
  rw [← hw5] at kk
  have Hw5 := Lib.hid hw5
  have Hgx := Lib.hid hgx
  replace B10 := B10.nx kk
  replace EX := Lib.hid (EX.out.nx kk)
  have NT := Lib.hid (NT.out.nx (Nat.le_of_lt NTL.out) kk)
  have hg10x : g10 < gx := by have := NTL.out; omega
  have hwgx : w.heap.size ≤ gx := by omega
  clear kk hw5 hgx
  go_upto_region 5 with fail
  rw [← Hgx.out, ← Hw5.out]
  clear Hgx Hw5 lk c0
  have B10 := Lib.hid B10
  cases ok with
  | false =>
    have RN := Lib.hid (route_unk (L := L) NB.out (show (findN N frm).2 = false by rw [← HFR.out]))
    clear BX
    go_wp2_with fail
    (try rw [Exit.noGoto_ret])
    go_ret2
    exact ⟨_, by rw [RN.out]; rfl, by rw [RN.out]; exact OwnL.nil _ _ _ _ _, EX.out⟩
  | true =>
    have HX0 := Lib.hid (show x0 ∈ N by have := (findN_mem (show (findN N frm).2 = true by rw [← HFR.out])).1; rw [← HFR.out] at this; exact this)
    have hgx5 := BX.lt
    have BO := Blk.new w5 [.slice none 0 0] 34
    have kk := Ex.new w5 (.cells #[.slice none 0 0] 34)
    obtain ⟨w6, hw6⟩ : ∃ w6, w6 = w5.alloc (.cells #[.slice none 0 0] 34) := ⟨_, rfl⟩
    obtain ⟨go, hgo⟩ : ∃ go, go = w5.heap.size := ⟨_, rfl⟩
    replace BO : Blk w6 go [.slice none 0 0] 34 := by rw [hw6, hgo]; exact BO
    rw [← hw6] at kk
    have Hw6 := Lib.hid hw6
    have Hgo := Lib.hid hgo
    replace BX := BX.nx kk
    replace EX := Lib.hid (EX.out.nx kk)
    have NT := Lib.hid (NT.out.nx (by omega) kk)
    have B10 := Lib.hid (B10.out.nx kk)
    have hgg : gx < go := by omega
    have hgx6 := BX.lt
    clear kk hw6 hgo
    go_upto_region 8 with fail
    rw [← Hgo.out, ← Hw6.out]
    clear Hgo Hw6
    obtain ⟨x0', x1', x2'⟩ := blk3 BX
    have BX := Lib.hid BX
    have HCX := Lib.hid (And.intro hgg hgx6)
    obtain ⟨qs, _, _, _, m2, q5, q6⟩ := NT.out
    obtain ⟨aR, nR, cR, row, r1, r2, r3, _, r5⟩ := Net.row (b1 := b1) (b2 := b2) (N := N) q5 q6 frm
    have lk := m2.look1 (mt := 98) Tryd.underlying98 Tryd.underlying3 (Tryd.zeroLs w6) frm
    rw [r1] at lk
    have hnR : nR ≤ 9223372036854775807 := by
      rw [← r2.1]
      rcases r5 with h | ⟨d, hd, h⟩
      · rw [h]; simp
      · rw [h]; exact HS.out d hd
    have c1 := B10.out.cell 1 _ rfl
    obtain ⟨T, hT⟩ : ∃ T, T = topL L frm := ⟨_, rfl⟩
    have ht1 : -1 ≤ T ∧ T ≤ 16 := by rw [hT, r3]; omega
    have hTm : Hid (T = min ((nR : Int) - 1) 16) := Lib.hid (hT.trans r3)
    have HT := Lib.hid hT
    clear q5 q6 r1 r2 r3 r5 m2 hT x0' x2'
    cases hlt : Op.bytesLess s.toList x0.key.toList with
    | true =>
      have HR : Hid (false = !Op.bytesLess s.toList x0.key.toList) := Lib.hid (by rw [hlt]; rfl)
      go_wp2_with fail
      go_step3
      go_wp2_with fail
      rw [← hTm.out]
      clear hlt lk c1 x1' hnR

      obtain ⟨R, hR⟩ : ∃ R, R = rtF N L s.toList false (18 * (N.length + 1)) x0 (T + 1).toNat [] := ⟨_, rfl⟩
      have HRR := Lib.hid hR
      have ST : Hid (RoRel N L s.toList false R gx go (go + 1) w6 (.int .i64 T) w6) := Lib.hid
        ⟨(T + 1).toNat, by congr 1; omega, by omega, x0, [], .slice none 0 0, BO, OwnL.nil _ _ _ _ _, BX.out, by rw [hR]; exact RtSt.start (by omega), HX0.out, by simpa using bey_le (N := N) (right := false) x0, Chg.refl _ _⟩
      clear hR BO BX
      go_loopw [16] (fun l wr => RoRel N L s.toList false R gx go (go + 1) w6 l wr) (fun l _ => (intOf l + 1).toNat)
      case atStart => exact ST.out
      case round =>
        clear ST
        obtain ⟨lev, rfl, hl17, HRS⟩ := hrel
        obtain ⟨wo, rfl⟩ : ∃ wo : World, wo = wr := ⟨_, rfl⟩
        cases lev with
        | zero =>
          obtain ⟨x, out, v, BO, OWN, BX, HST, HXN, HCNT, KW⟩ := HRS
          have RV := Lib.hid (route_val NB.out HFR.out HR.out HT.out HRR.out (HST.done))
          have hol : out.length ≤ 64 := by have h1 := HCL.out; have h2 := HLN.out; omega
          have NTo := NT.out.chg (Chg.mono KW (fun k (hk : k < g10) => Nat.lt_trans hk hg10x))
          have B10o := Blk.nxg B10.out KW hg10x
          have c0 := B10o.cell 0 _ rfl
          have c1 := B10o.cell 1 _ rfl
          obtain ⟨x0', x1', x2'⟩ := blk3 BX
          have EW : Ex w wo := Chg.trans EX.out (Chg.mono KW (fun k (hk : k < w.heap.size) => Nat.lt_of_lt_of_le hk hwgx))
          have hwz : gx ≤ wo.heap.size := Nat.le_trans (Nat.le_of_lt hgx6) KW.size
          have hgoz := BO.lt
          have hgxz := BX.lt
          have HB := Lib.hid (And.intro BX BO)
          have OWN := Lib.hid OWN
          have EW := Lib.hid EW
          have KW := Lib.hid KW
          have NTo := Lib.hid NTo
          clear HST HXN HCNT BX BO B10o
          go_wp2_with fail
          (with_reducible refine (link0_p _ _ _ _ _ _ _ NTo.out HC.out (by omega) HS.out).mono ?_)
          rintro e w7 ⟨rfl, kk⟩
          replace OWN := Lib.hid (OWN.out.nx kk)
          replace EW := Lib.hid (EW.out.nx kk)
          obtain ⟨E, hE⟩ : ∃ E, E = findN N (atL L x.id 0).1 := ⟨_, rfl⟩
          rw [← hE]
          rw [← hE] at RV
          have HB := Lib.hid (And.intro (HB.out.1.nx kk) (HB.out.2.nx kk))
          have KW := Lib.hid (Chg.trans KW.out (Chg.mono kk (fun k (hk : k < gx) => show k < wo.heap.size by omega)))
          have hz7 := Ex.size kk
          obtain ⟨E, eo⟩ := E
          simp only at RV ⊢
          clear kk hE c0 c1 x0' x1' x2'
          have B19 := Blk.new w7 [.int .i64 E.id, .string E.key, .int .u32 E.word] 48
          have kk := Ex.new w7 (.cells #[.int .i64 E.id, .string E.key, .int .u32 E.word] 48)
          obtain ⟨w8, hw8⟩ : ∃ w8, w8 = w7.alloc (.cells #[.int .i64 E.id, .string E.key, .int .u32 E.word] 48) := ⟨_, rfl⟩
          obtain ⟨g19, hg19⟩ : ∃ g19, g19 = w7.heap.size := ⟨_, rfl⟩
          replace B19 : Blk w8 g19 [.int .i64 E.id, .string E.key, .int .u32 E.word] 48 := by rw [hw8, hg19]; exact B19
          rw [← hw8] at kk
          have Hw8 := Lib.hid hw8
          have Hg19 := Lib.hid hg19
          replace OWN := Lib.hid (OWN.out.nx kk)
          replace EW := Lib.hid (EW.out.nx kk)
          have HB := Lib.hid (And.intro (HB.out.1.nx kk) (HB.out.2.nx kk))
          have hz8 := Ex.size kk
          have hl8 := B19.lt
          have hgge : go < g19 := by omega
          clear kk hw8 hg19
          go_upto_region 21 with fail
          rw [← Hg19.out, ← Hw8.out]
          clear Hg19 Hw8
          have y1 := B19.cell 1 _ rfl
          obtain ⟨y0, _, y2⟩ := blk3 B19
          have o0 := HB.out.2.cell 0 _ rfl
          have LE : (Op.bytesLess E.key.toList s.toList || E.key.toList == s.toList) = !Op.bytesLess s.toList E.key.toList := le_not _ _
          have FIN0 : Hid (routeN N L frm s = (out, 0) → RtPost (routeN N L frm s) w (.returned (.tuple #[v, .int .i64 0])) w8) := Lib.hid (fun h => by rw [h]; exact ⟨_, rfl, OwnL.base OWN.out (by omega), EW.out⟩)
          have BE := Lib.hid B19
          clear B19
          cases eo with
          | false =>
            have RZ := Lib.hid (RV.out.trans (if_neg (by simp)))
            clear RV
            go_wp2_with fail
            (try rw [Exit.noGoto_ret])
            go_ret2
            exact FIN0.out RZ.out
          | true =>
            cases hle : Op.bytesLess s.toList E.key.toList with
            | true =>
              have RZ := Lib.hid (RV.out.trans (if_neg (by rw [hle]; simp)))
              clear RV
              go_wp2_with fail
              (try rw [Exit.noGoto_ret])
              go_ret2
              exact FIN0.out RZ.out
            | false =>
              have RZ := Lib.hid (RV.out.trans (if_pos (by rw [hle]; simp)))
              clear RV FIN0
              go_wp2_with fail
              (with_reducible refine (hop0_p (go + 1) go gx x E v out _ HB.out.2 OWN.out HB.out.1 (by omega) (by omega) (by omega) (by omega) (by omega)).mono ?_)
              rintro e w9 ⟨rfl, v9, bo9, own9, _, ch9⟩
              have o9 := bo9.cell 0 _ rfl
              have FIN := Lib.hid (show RtPost (routeN N L frm s) w (.returned (.tuple #[v9, .int .i64 0])) w9 by rw [RZ.out]; exact ⟨_, rfl, OwnL.base own9 (by omega), Chg.trans EW.out (Chg.mono ch9 (fun k (hk : k < w.heap.size) => ⟨by omega, by omega, by omega⟩))⟩)
              clear bo9 own9 ch9 o0 y0 y1 y2
              go_wp2_with fail
              (try rw [Exit.noGoto_ret])
              go_ret2
              exact FIN.out
        | succ q =>
          have HRS := Lib.hid HRS
          obtain ⟨lq, hlq⟩ : ∃ lq : Int, lq = ((q + 1 : Nat) : Int) - 1 := ⟨_, rfl⟩
          rw [← hlq]
          obtain rfl : lq = (q : Int) := by omega
          clear hlq
          go_wp2_with fail
          go_loopw [] (fun wr => RiRel N L s.toList false R gx go (go + 1) w6 q wr) (fun wr => n - lenAt wr go)
          case atStart => exact HRS.out
          case round =>
            clear HRS
            obtain ⟨x, out, v, BO, OWN, BX, HST, HXN, HCNT, KW⟩ := hrel
            obtain ⟨wi, rfl⟩ : ∃ wi : World, wi = wr := ⟨_, rfl⟩
            have hol : out.length ≤ 64 := by have h1 := HCL.out; have h2 := HLN.out; omega
            have NTo := NT.out.chg (Chg.mono KW (fun k (hk : k < g10) => Nat.lt_trans hk hg10x))
            have B10o := Blk.nxg B10.out KW hg10x
            have c0 := B10o.cell 0 _ rfl
            have c1 := B10o.cell 1 _ rfl
            obtain ⟨x0', x1', x2'⟩ := blk3 BX
            have hwz : gx ≤ wi.heap.size := Nat.le_trans (Nat.le_of_lt hgx6) KW.size
            have hgoz := BO.lt
            have hgxz := BX.lt
            have HLA : Hid (lenAt wi go = out.length) := Lib.hid (by unfold lenAt; rw [BO.cell 0 _ rfl]; exact lenS_own OWN)
            replace HST := Lib.hid HST
            replace HXN := Lib.hid HXN
            replace HCNT := Lib.hid HCNT
            replace KW := Lib.hid KW
            replace OWN := Lib.hid OWN
            have HB := Lib.hid (And.intro BX BO)
            replace NTo := Lib.hid NTo
            clear BX BO B10o
            go_wp2_with fail
            (with_reducible refine (linkL_p _ _ _ _ _ _ _ _ NTo.out HC.out (by omega) HS.out (by omega)).mono ?_)
            rintro e w7 ⟨rfl, kk⟩
            replace OWN := Lib.hid (OWN.out.nx kk)
            obtain ⟨E, hE⟩ : ∃ E, E = findN N (sideN 0 (atL L x.id q)) := ⟨_, rfl⟩
            rw [← hE]
            have HE := Lib.hid hE
            have HB := Lib.hid (And.intro (HB.out.1.nx kk) (HB.out.2.nx kk))
            have KW := Lib.hid (Chg.trans KW.out (Chg.mono kk (fun k (hk : k < gx) => show k < wi.heap.size by omega)))
            have hz7 := Ex.size kk
            obtain ⟨E, eo⟩ := E
            simp only
            clear kk hE c0 c1 x0' x1' x2'
            have B17 := Blk.new w7 [.int .i64 E.id, .string E.key, .int .u32 E.word] 48
            have kk := Ex.new w7 (.cells #[.int .i64 E.id, .string E.key, .int .u32 E.word] 48)
            obtain ⟨w9, hw9⟩ : ∃ w9, w9 = w7.alloc (.cells #[.int .i64 E.id, .string E.key, .int .u32 E.word] 48) := ⟨_, rfl⟩
            obtain ⟨g17, hg17⟩ : ∃ g17, g17 = w7.heap.size := ⟨_, rfl⟩
            replace B17 : Blk w9 g17 [.int .i64 E.id, .string E.key, .int .u32 E.word] 48 := by rw [hw9, hg17]; exact B17
            rw [← hw9] at kk
            have Hw9 := Lib.hid hw9
            have Hg17 := Lib.hid hg17
            replace OWN := Lib.hid (OWN.out.nx kk)
            have HB := Lib.hid (And.intro (HB.out.1.nx kk) (HB.out.2.nx kk))
            have KW := Lib.hid (Chg.trans KW.out (Chg.mono kk (fun k (hk : k < gx) => show k < w7.heap.size by omega)))
            have hz8 := Ex.size kk
            have hl8 := B17.lt
            have hgge : go < g17 := by omega
            clear kk hw9 hg17
            go_upto_region 16 with fail
            rw [← Hg17.out, ← Hw9.out]
            clear Hg17 Hw9
            obtain ⟨y0, y1, y2⟩ := blk3 B17
            obtain ⟨x0', x1', x2'⟩ := blk3 HB.out.1
            have BE := Lib.hid B17
            have LE : (Op.bytesLess x.key.toList E.key.toList || x.key.toList == E.key.toList) = !Op.bytesLess E.key.toList x.key.toList := le_not _ _
            have LE2 : (Op.bytesLess E.key.toList s.toList || E.key.toList == s.toList) = !Op.bytesLess s.toList E.key.toList := le_not _ _
            clear B17
            cases eo with
            | false =>
              have HNO := Lib.hid (hop_none (right := false) (key := s.toList) HE.out (.inl rfl))
              have RR := Lib.hid (show RoRel N L s.toList false R gx go (go + 1) w6 (.int .i64 ((q : Int) - 1)) w9 from ⟨q, rfl, by omega, x, out, v, HB.out.2, OWN.out, HB.out.1, HST.out.down HNO.out, HXN.out, HCNT.out, KW.out⟩)
              clear x0' x1' x2' y0 y1 y2
              go_wp2_with fail
              exact ⟨RR.out, by simp [intOf] <;> omega⟩
            | true =>
              cases hA : Op.bytesLess E.key.toList x.key.toList with
              | false =>
                have HNO := Lib.hid (hop_none (right := false) (key := s.toList) HE.out (.inr (by rw [if_neg (by simp), hA]; rfl)))
                have RR := Lib.hid (show RoRel N L s.toList false R gx go (go + 1) w6 (.int .i64 ((q : Int) - 1)) w9 from ⟨q, rfl, by omega, x, out, v, HB.out.2, OWN.out, HB.out.1, HST.out.down HNO.out, HXN.out, HCNT.out, KW.out⟩)
                clear x0' x2' y0 y2
                go_wp2_with fail
                exact ⟨RR.out, by simp [intOf] <;> omega⟩
              | true =>
                cases hK : Op.bytesLess s.toList E.key.toList with
                | false =>
                  have HNO := Lib.hid (hop_none (right := false) (key := s.toList) HE.out (.inr (by rw [if_neg (by simp), hA, hK]; rfl)))
                  have RR := Lib.hid (show RoRel N L s.toList false R gx go (go + 1) w6 (.int .i64 ((q : Int) - 1)) w9 from ⟨q, rfl, by omega, x, out, v, HB.out.2, OWN.out, HB.out.1, HST.out.down HNO.out, HXN.out, HCNT.out, KW.out⟩)
                  clear x0' x2' y0 y2
                  go_wp2_with fail
                  exact ⟨RR.out, by simp [intOf] <;> omega⟩
                | true =>
                  have HH := Lib.hid (hop_some (right := false) (key := s.toList) HE.out (by rw [if_neg (by simp), hA, hK]; rfl))
                  have hbl := bey_lt HH.out
                  clear x0' x2'
                  go_wp2_with fail
                  (with_reducible refine (hop_p (go + 1) go gx x E (q : Int) v out _ HB.out.2 OWN.out HB.out.1 (by omega) (by omega) (by omega) (by omega) (by omega)).mono ?_)
                  rintro e w10 ⟨rfl, v9, bo9, own9, bx9, ch9⟩
                  have HLB : Hid (lenAt w10 go = out.length + 1) := Lib.hid (by unfold lenAt; rw [bo9.cell 0 _ rfl]; simp only; rw [lenS_own own9, List.length_append, List.length_singleton])
                  have hcn := HCNT.out
                  have RR := Lib.hid (show RiRel N L s.toList false R gx go (go + 1) w6 q w10 from ⟨E, out ++ [(x.id, E.id, (q : Int))], v9, bo9, own9, bx9, HST.out.hop HH.out, (hop_mem HH.out).1, by rw [List.length_append, List.length_singleton]; omega, Chg.trans KW.out (Chg.mono ch9 (fun k (hk : k < gx) => ⟨by omega, by omega, by omega⟩))⟩)
                  clear bo9 own9 bx9 ch9 y0 y1 y2 x1' hA hK LE LE2
                  go_wp2_with fail
                  refine ⟨RR.out, ?_⟩
                  have h1 := HLA.out
                  have h2 := HLB.out
                  have h3 := HLN.out
                  have h4 := HCNT.out
                  show n - lenAt w10 go < n - lenAt wi go
                  omega
    | false =>
      have HR : Hid (true = !Op.bytesLess s.toList x0.key.toList) := Lib.hid (by rw [hlt]; rfl)
      go_wp2_with fail
      go_step3
      go_wp2_with fail
      rw [← hTm.out]
      clear hlt lk c1 x1' hnR

      obtain ⟨R, hR⟩ : ∃ R, R = rtF N L s.toList true (18 * (N.length + 1)) x0 (T + 1).toNat [] := ⟨_, rfl⟩
      have HRR := Lib.hid hR
      have ST : Hid (RoRel N L s.toList true R gx go (go + 1) w6 (.int .i64 T) w6) := Lib.hid
        ⟨(T + 1).toNat, by congr 1; omega, by omega, x0, [], .slice none 0 0, BO, OwnL.nil _ _ _ _ _, BX.out, by rw [hR]; exact RtSt.start (by omega), HX0.out, by simpa using bey_le (N := N) (right := true) x0, Chg.refl _ _⟩
      clear hR BO BX
      go_loopw [16] (fun l wr => RoRel N L s.toList true R gx go (go + 1) w6 l wr) (fun l _ => (intOf l + 1).toNat)
      case atStart => exact ST.out
      case round =>
        clear ST
        obtain ⟨lev, rfl, hl17, HRS⟩ := hrel
        obtain ⟨wo, rfl⟩ : ∃ wo : World, wo = wr := ⟨_, rfl⟩
        cases lev with
        | zero =>
          obtain ⟨x, out, v, BO, OWN, BX, HST, HXN, HCNT, KW⟩ := HRS
          have RV := Lib.hid (route_val NB.out HFR.out HR.out HT.out HRR.out (HST.done))
          have hol : out.length ≤ 64 := by have h1 := HCL.out; have h2 := HLN.out; omega
          have NTo := NT.out.chg (Chg.mono KW (fun k (hk : k < g10) => Nat.lt_trans hk hg10x))
          have B10o := Blk.nxg B10.out KW hg10x
          have c0 := B10o.cell 0 _ rfl
          have c1 := B10o.cell 1 _ rfl
          obtain ⟨x0', x1', x2'⟩ := blk3 BX
          have EW : Ex w wo := Chg.trans EX.out (Chg.mono KW (fun k (hk : k < w.heap.size) => Nat.lt_of_lt_of_le hk hwgx))
          have hwz : gx ≤ wo.heap.size := Nat.le_trans (Nat.le_of_lt hgx6) KW.size
          have hgoz := BO.lt
          have hgxz := BX.lt
          have HB := Lib.hid (And.intro BX BO)
          have OWN := Lib.hid OWN
          have EW := Lib.hid EW
          have KW := Lib.hid KW
          have NTo := Lib.hid NTo
          clear HST HXN HCNT BX BO B10o
          go_wp2_with fail
          (with_reducible refine (link0_p _ _ _ _ _ _ _ NTo.out HC.out (by omega) HS.out).mono ?_)
          rintro e w7 ⟨rfl, kk⟩
          replace OWN := Lib.hid (OWN.out.nx kk)
          replace EW := Lib.hid (EW.out.nx kk)
          obtain ⟨E, hE⟩ : ∃ E, E = findN N (atL L x.id 0).1 := ⟨_, rfl⟩
          rw [← hE]
          rw [← hE] at RV
          have HB := Lib.hid (And.intro (HB.out.1.nx kk) (HB.out.2.nx kk))
          have KW := Lib.hid (Chg.trans KW.out (Chg.mono kk (fun k (hk : k < gx) => show k < wo.heap.size by omega)))
          have hz7 := Ex.size kk
          obtain ⟨E, eo⟩ := E
          simp only at RV ⊢
          clear kk hE c0 c1 x0' x1' x2'
          have B19 := Blk.new w7 [.int .i64 E.id, .string E.key, .int .u32 E.word] 48
          have kk := Ex.new w7 (.cells #[.int .i64 E.id, .string E.key, .int .u32 E.word] 48)
          obtain ⟨w8, hw8⟩ : ∃ w8, w8 = w7.alloc (.cells #[.int .i64 E.id, .string E.key, .int .u32 E.word] 48) := ⟨_, rfl⟩
          obtain ⟨g19, hg19⟩ : ∃ g19, g19 = w7.heap.size := ⟨_, rfl⟩
          replace B19 : Blk w8 g19 [.int .i64 E.id, .string E.key, .int .u32 E.word] 48 := by rw [hw8, hg19]; exact B19
          rw [← hw8] at kk
          have Hw8 := Lib.hid hw8
          have Hg19 := Lib.hid hg19
          replace OWN := Lib.hid (OWN.out.nx kk)
          replace EW := Lib.hid (EW.out.nx kk)
          have HB := Lib.hid (And.intro (HB.out.1.nx kk) (HB.out.2.nx kk))
          have hz8 := Ex.size kk
          have hl8 := B19.lt
          have hgge : go < g19 := by omega
          clear kk hw8 hg19
          go_upto_region 21 with fail
          rw [← Hg19.out, ← Hw8.out]
          clear Hg19 Hw8
          have y1 := B19.cell 1 _ rfl
          obtain ⟨y0, _, y2⟩ := blk3 B19
          have o0 := HB.out.2.cell 0 _ rfl
          have LE : (Op.bytesLess E.key.toList s.toList || E.key.toList == s.toList) = !Op.bytesLess s.toList E.key.toList := le_not _ _
          have FIN0 : Hid (routeN N L frm s = (out, 0) → RtPost (routeN N L frm s) w (.returned (.tuple #[v, .int .i64 0])) w8) := Lib.hid (fun h => by rw [h]; exact ⟨_, rfl, OwnL.base OWN.out (by omega), EW.out⟩)
          have BE := Lib.hid B19
          clear B19
          cases eo with
          | false =>
            have RZ := Lib.hid (RV.out.trans (if_neg (by simp)))
            clear RV
            go_wp2_with fail
            (try rw [Exit.noGoto_ret])
            go_ret2
            exact FIN0.out RZ.out
          | true =>
            have RZ := Lib.hid (RV.out.trans (if_neg (by simp)))
            clear RV
            go_wp2_with fail
            (try rw [Exit.noGoto_ret])
            go_ret2
            exact FIN0.out RZ.out
        | succ q =>
          have HRS := Lib.hid HRS
          obtain ⟨lq, hlq⟩ : ∃ lq : Int, lq = ((q + 1 : Nat) : Int) - 1 := ⟨_, rfl⟩
          rw [← hlq]
          obtain rfl : lq = (q : Int) := by omega
          clear hlq
          go_wp2_with fail
          go_loopw [] (fun wr => RiRel N L s.toList true R gx go (go + 1) w6 q wr) (fun wr => n - lenAt wr go)
          case atStart => exact HRS.out
          case round =>
            clear HRS
            obtain ⟨x, out, v, BO, OWN, BX, HST, HXN, HCNT, KW⟩ := hrel
            obtain ⟨wi, rfl⟩ : ∃ wi : World, wi = wr := ⟨_, rfl⟩
            have hol : out.length ≤ 64 := by have h1 := HCL.out; have h2 := HLN.out; omega
            have NTo := NT.out.chg (Chg.mono KW (fun k (hk : k < g10) => Nat.lt_trans hk hg10x))
            have B10o := Blk.nxg B10.out KW hg10x
            have c0 := B10o.cell 0 _ rfl
            have c1 := B10o.cell 1 _ rfl
            obtain ⟨x0', x1', x2'⟩ := blk3 BX
            have hwz : gx ≤ wi.heap.size := Nat.le_trans (Nat.le_of_lt hgx6) KW.size
            have hgoz := BO.lt
            have hgxz := BX.lt
            have HLA : Hid (lenAt wi go = out.length) := Lib.hid (by unfold lenAt; rw [BO.cell 0 _ rfl]; exact lenS_own OWN)
            replace HST := Lib.hid HST
            replace HXN := Lib.hid HXN
            replace HCNT := Lib.hid HCNT
            replace KW := Lib.hid KW
            replace OWN := Lib.hid OWN
            have HB := Lib.hid (And.intro BX BO)
            replace NTo := Lib.hid NTo
            clear BX BO B10o
            go_wp2_with fail
            (with_reducible refine (linkR_p _ _ _ _ _ _ _ _ NTo.out HC.out (by omega) HS.out (by omega)).mono ?_)
            rintro e w7 ⟨rfl, kk⟩
            replace OWN := Lib.hid (OWN.out.nx kk)
            obtain ⟨E, hE⟩ : ∃ E, E = findN N (sideN 1 (atL L x.id q)) := ⟨_, rfl⟩
            rw [← hE]
            have HE := Lib.hid hE
            have HB := Lib.hid (And.intro (HB.out.1.nx kk) (HB.out.2.nx kk))
            have KW := Lib.hid (Chg.trans KW.out (Chg.mono kk (fun k (hk : k < gx) => show k < wi.heap.size by omega)))
            have hz7 := Ex.size kk
            obtain ⟨E, eo⟩ := E
            simp only
            clear kk hE c0 c1 x0' x1' x2'
            have B17 := Blk.new w7 [.int .i64 E.id, .string E.key, .int .u32 E.word] 48
            have kk := Ex.new w7 (.cells #[.int .i64 E.id, .string E.key, .int .u32 E.word] 48)
            obtain ⟨w9, hw9⟩ : ∃ w9, w9 = w7.alloc (.cells #[.int .i64 E.id, .string E.key, .int .u32 E.word] 48) := ⟨_, rfl⟩
            obtain ⟨g17, hg17⟩ : ∃ g17, g17 = w7.heap.size := ⟨_, rfl⟩
            replace B17 : Blk w9 g17 [.int .i64 E.id, .string E.key, .int .u32 E.word] 48 := by rw [hw9, hg17]; exact B17
            rw [← hw9] at kk
            have Hw9 := Lib.hid hw9
            have Hg17 := Lib.hid hg17
            replace OWN := Lib.hid (OWN.out.nx kk)
            have HB := Lib.hid (And.intro (HB.out.1.nx kk) (HB.out.2.nx kk))
            have KW := Lib.hid (Chg.trans KW.out (Chg.mono kk (fun k (hk : k < gx) => show k < w7.heap.size by omega)))
            have hz8 := Ex.size kk
            have hl8 := B17.lt
            have hgge : go < g17 := by omega
            clear kk hw9 hg17
            go_upto_region 16 with fail
            rw [← Hg17.out, ← Hw9.out]
            clear Hg17 Hw9
            obtain ⟨y0, y1, y2⟩ := blk3 B17
            obtain ⟨x0', x1', x2'⟩ := blk3 HB.out.1
            have BE := Lib.hid B17
            have LE : (Op.bytesLess E.key.toList x.key.toList || E.key.toList == x.key.toList) = !Op.bytesLess x.key.toList E.key.toList := le_not _ _
            have LE2 : (Op.bytesLess E.key.toList s.toList || E.key.toList == s.toList) = !Op.bytesLess s.toList E.key.toList := le_not _ _
            clear B17
            cases eo with
            | false =>
              have HNO := Lib.hid (hop_none (right := true) (key := s.toList) HE.out (.inl rfl))
              have RR := Lib.hid (show RoRel N L s.toList true R gx go (go + 1) w6 (.int .i64 ((q : Int) - 1)) w9 from ⟨q, rfl, by omega, x, out, v, HB.out.2, OWN.out, HB.out.1, HST.out.down HNO.out, HXN.out, HCNT.out, KW.out⟩)
              clear x0' x1' x2' y0 y1 y2
              go_wp2_with fail
              exact ⟨RR.out, by simp [intOf] <;> omega⟩
            | true =>
              cases hA : Op.bytesLess x.key.toList E.key.toList with
              | false =>
                have HNO := Lib.hid (hop_none (right := true) (key := s.toList) HE.out (.inr (by rw [if_pos rfl, hA]; rfl)))
                have RR := Lib.hid (show RoRel N L s.toList true R gx go (go + 1) w6 (.int .i64 ((q : Int) - 1)) w9 from ⟨q, rfl, by omega, x, out, v, HB.out.2, OWN.out, HB.out.1, HST.out.down HNO.out, HXN.out, HCNT.out, KW.out⟩)
                clear x0' x2' y0 y2
                go_wp2_with fail
                exact ⟨RR.out, by simp [intOf] <;> omega⟩
              | true =>
                cases hK : Op.bytesLess s.toList E.key.toList with
                | true =>
                  have HNO := Lib.hid (hop_none (right := true) (key := s.toList) HE.out (.inr (by rw [if_pos rfl, hA, hK]; rfl)))
                  have RR := Lib.hid (show RoRel N L s.toList true R gx go (go + 1) w6 (.int .i64 ((q : Int) - 1)) w9 from ⟨q, rfl, by omega, x, out, v, HB.out.2, OWN.out, HB.out.1, HST.out.down HNO.out, HXN.out, HCNT.out, KW.out⟩)
                  clear x0' x2' y0 y2
                  go_wp2_with fail
                  exact ⟨RR.out, by simp [intOf] <;> omega⟩
                | false =>
                  have HH := Lib.hid (hop_some (right := true) (key := s.toList) HE.out (by rw [if_pos rfl, hA, hK]; rfl))
                  have hbl := bey_lt HH.out
                  clear x0' x2'
                  go_wp2_with fail
                  (with_reducible refine (hop_p (go + 1) go gx x E (q : Int) v out _ HB.out.2 OWN.out HB.out.1 (by omega) (by omega) (by omega) (by omega) (by omega)).mono ?_)
                  rintro e w10 ⟨rfl, v9, bo9, own9, bx9, ch9⟩
                  have HLB : Hid (lenAt w10 go = out.length + 1) := Lib.hid (by unfold lenAt; rw [bo9.cell 0 _ rfl]; simp only; rw [lenS_own own9, List.length_append, List.length_singleton])
                  have hcn := HCNT.out
                  have RR := Lib.hid (show RiRel N L s.toList true R gx go (go + 1) w6 q w10 from ⟨E, out ++ [(x.id, E.id, (q : Int))], v9, bo9, own9, bx9, HST.out.hop HH.out, (hop_mem HH.out).1, by rw [List.length_append, List.length_singleton]; omega, Chg.trans KW.out (Chg.mono ch9 (fun k (hk : k < gx) => ⟨by omega, by omega, by omega⟩))⟩)
                  clear bo9 own9 bx9 ch9 y0 y1 y2 x1' hA hK LE LE2
                  go_wp2_with fail
                  refine ⟨RR.out, ?_⟩
                  have h1 := HLA.out
                  have h2 := HLB.out
                  have h3 := HLN.out
                  have h4 := HCNT.out
                  show n - lenAt w10 go < n - lenAt wi go
                  omega
end Go.Proofs.YtkjlhcfocefhpaaDoor

/- When two lists of links are equal. -/
namespace Go.Proofs.YtkjlhcfocefhpaaDoor
open Go.RowKit

def SmRel (L M : List Lkd) (n : Nat) (w : World) (i : Value) (wr : World) : Prop := ∃ k : Nat, k ≤ n ∧ i = .int .i64 k ∧ Ex w wr ∧ L.take k = M.take k
def SvRel (r s : List (Int × Int)) (n : Nat) (w : World) (i : Value) (wr : World) : Prop := ∃ k : Nat, k ≤ n ∧ i = .int .i64 k ∧ Ex w wr ∧ r.take k = s.take k
theorem take_snoc_eq {α : Type} {L M : List α} {k : Nat} {c d : α} (h : L.take k = M.take k) (hc : L[k]? = some c) (hd : M[k]? = some d) (he : c = d) : L.take (k + 1) = M.take (k + 1) := by
  rw [List.take_add_one, List.take_add_one, h, hc, hd, he]
theorem ne_at {α : Type} {L M : List α} {k : Nat} {c d : α} (hc : L[k]? = some c) (hd : M[k]? = some d) (he : c ≠ d) : ¬ L = M := by
  intro h
  rw [h, hd] at hc
  exact he (Option.some.inj hc).symm

end Go.Proofs.YtkjlhcfocefhpaaDoor

/- End, Bound, Run, Rank and Owner (printed by gen_srf.py). -/
namespace Go.Proofs.YtkjlhcfocefhpaaDoor
open Go.RowKit

set_option maxHeartbeats 1000000 in
theorem end_p (frm : Int) (a : Option Addr) (n c : Nat) (H : List Hop) (w : World) (h : Sl 3 encHp w a n H) (hn : n ≤ 1000000) :
    Calls Tryd.prog 25 #[.int .i64 frm, .slice a n c] w fun e w' => e = .returned (.int .i64 (endN frm H)) ∧ Ex w w' := by
  have HL := Lib.hid h.len
  go_enter Tryd.func25, Tryd.ntmps25
  by_cases h0 : n = 0
  · subst h0
    have e : Hid (endN frm H = frm) := Lib.hid (by rw [List.length_eq_zero_iff.1 HL.out]; rfl)
    rw [e.out]
    clear h
    go_wp2_with fail
    go_ret
    exact ⟨rfl, Ex.refl _⟩
  · obtain ⟨m, rfl⟩ : ∃ m, n = m + 1 := ⟨n - 1, by omega⟩
    obtain ⟨x1, o1, y, rfl, hx1, hy, hc1⟩ := h.at (j := m) (by omega)
    have e1 : w.cell? ⟨x1, o1 + m * 3 + 1, none⟩ = some (.int .i64 y.2.1) := hc1 1 _ rfl
    have e : Hid (endN frm H = y.2.1) := Lib.hid (by unfold endN; rw [List.getLast?_eq_getElem?, HL.out, Nat.add_sub_cancel, hy])
    rw [e.out]
    clear h hc1 hy h0
    go_wp2_with fail
    go_ret
    exact ⟨rfl, Ex.refl _⟩

set_option maxHeartbeats 1000000 in
theorem end_r (frm : Int) (a : Option Addr) (n c : Nat) (H : List Hop) (w : World) (h : Sl 3 encHp w a n H) (hn : n ≤ 1000000) :
    Calls Tryd.prog 26 #[.int .i64 frm, .slice a n c] w fun e w' => e = .returned (.int .i64 (endN frm H)) ∧ Ex w w' := by
  have HL := Lib.hid h.len
  go_enter Tryd.func26, Tryd.ntmps26
  by_cases h0 : n = 0
  · subst h0
    have e : Hid (endN frm H = frm) := Lib.hid (by rw [List.length_eq_zero_iff.1 HL.out]; rfl)
    rw [e.out]
    clear h
    go_wp2_with fail
    go_ret
    exact ⟨rfl, Ex.refl _⟩
  · obtain ⟨m, rfl⟩ : ∃ m, n = m + 1 := ⟨n - 1, by omega⟩
    obtain ⟨x1, o1, y, rfl, hx1, hy, hc1⟩ := h.at (j := m) (by omega)
    have e1 : w.cell? ⟨x1, o1 + m * 3 + 1, none⟩ = some (.int .i64 y.2.1) := hc1 1 _ rfl
    have e : Hid (endN frm H = y.2.1) := Lib.hid (by unfold endN; rw [List.getLast?_eq_getElem?, HL.out, Nat.add_sub_cancel, hy])
    rw [e.out]
    clear h hc1 hy h0
    go_wp2_with fail
    go_ret
    exact ⟨rfl, Ex.refl _⟩

def ShRel (L M : List Hop) (n : Nat) (w : World) (i : Value) (wr : World) : Prop := ∃ k : Nat, k ≤ n ∧ i = .int .i64 k ∧ Ex w wr ∧ L.take k = M.take k
set_option maxHeartbeats 2000000 in
theorem sameh_r (a1 a2 : Option Addr) (n m c1 c2 : Nat) (L M : List Hop) (w : World) (h1 : Sl 3 encHp w a1 n L) (h2 : Sl 3 encHp w a2 m M) (hn : n ≤ 1000000) :
    Calls Tryd.prog 24 #[.slice a1 n c1, .slice a2 m c2] w fun e w' => e = .returned (.bool (decide (L = M))) ∧ Ex w w' := by
  have HL := Lib.hid h1.len
  have HM := Lib.hid h2.len
  go_enter Tryd.func24, Tryd.ntmps24
  by_cases hnm : n = m
  · subst hnm
    go_wp2_with fail
    go_loopw [5] (fun i wr => ShRel L M n w i wr) (fun i _ => n - (intOf i).toNat)
    case atStart => exact ⟨0, by omega, rfl, Ex.refl _, rfl⟩
    case round =>
      obtain ⟨k, hk, rfl, kw, hT⟩ := hrel
      obtain ⟨wo, rfl⟩ : ∃ wo : World, wo = wr := ⟨_, rfl⟩
      have HT := Lib.hid hT
      clear hT
      by_cases hlt : k < n
      · obtain ⟨x1, o1, y1, rfl, hx1, hy1, hc1⟩ := (h1.nx kw).at hlt
        obtain ⟨x2, o2, y2, rfl, hx2, hy2, hc2⟩ := (h2.nx kw).at hlt
        have e0 : wo.cell? ⟨x1, o1 + k * 3, none⟩ = some (.int .i64 y1.1) := hc1 0 _ rfl
        have e1 : wo.cell? ⟨x1, o1 + k * 3 + 1, none⟩ = some (.int .i64 y1.2.1) := hc1 1 _ rfl
        have e2 : wo.cell? ⟨x1, o1 + k * 3 + 1 + 1, none⟩ = some (.int .i64 y1.2.2) := by simpa [Nat.add_assoc] using hc1 2 _ rfl
        have f0 : wo.cell? ⟨x2, o2 + k * 3, none⟩ = some (.int .i64 y2.1) := hc2 0 _ rfl
        have f1 : wo.cell? ⟨x2, o2 + k * 3 + 1, none⟩ = some (.int .i64 y2.2.1) := hc2 1 _ rfl
        have f2 : wo.cell? ⟨x2, o2 + k * 3 + 1 + 1, none⟩ = some (.int .i64 y2.2.2) := by simpa [Nat.add_assoc] using hc2 2 _ rfl
        have HY1 := Lib.hid hy1
        have HY2 := Lib.hid hy2
        have KW := Lib.hid kw
        clear hc1 hc2 hy1 hy2 h1 h2 kw
        by_cases hy : y1 = y2
        · subst hy
          go_wp2_with fail
          go_quiet (fail)
          go_wp2_with fail
          exact ⟨⟨k + 1, by omega, by go_num, KW.out.drewN _, take_snoc_eq HT.out HY1.out HY2.out rfl⟩, by simp [intOf]; omega⟩
        · have ND : Hid (decide (L = M) = false) := Lib.hid (decide_eq_false (ne_at HY1.out HY2.out hy))
          obtain ⟨p1, q1, r1⟩ := y1
          obtain ⟨p2, q2, r2⟩ := y2
          simp only at e0 e1 e2 f0 f1 f2
          by_cases hp : p1 = p2
          · subst hp
            by_cases hq : q1 = q2
            · subst hq
              have hr : ¬ r1 = r2 := fun h => hy (by rw [h])
              have hb : (r1 == r2) = false := by simpa using hr
              clear hy HY1 HY2 hr
              go_wp2_with fail
              go_quiet (fail)
              go_wp2_with fail
              go_ret
              exact ⟨by rw [ND.out]; rfl, KW.out.drewN _⟩
            · have hb : (q1 == q2) = false := by simpa using hq
              clear hy HY1 HY2 hq
              go_wp2_with fail
              go_quiet (fail)
              go_wp2_with fail
              go_ret
              exact ⟨by rw [ND.out]; rfl, KW.out.drewN _⟩
          · have hb : (p1 == p2) = false := by simpa using hp
            clear hy HY1 HY2 hp
            go_wp2_with fail
            go_quiet (fail)
            go_wp2_with fail
            go_ret
            exact ⟨by rw [ND.out]; rfl, KW.out.drewN _⟩
      · obtain rfl : k = n := by omega
        have ED : Hid (decide (L = M) = true) := Lib.hid (decide_eq_true (by
          have h3 := HT.out
          rwa [List.take_of_length_le (by rw [HL.out]; exact Nat.le_refl _), List.take_of_length_le (by rw [HM.out]; exact Nat.le_refl _)] at h3))
        clear h1 h2 hk hlt
        go_wp2_with fail
        go_ret
        exact ⟨by rw [ED.out]; rfl, kw⟩
  · have hnm' : ¬ (n : Int) = (m : Int) := by omega
    have ND : Hid (decide (L = M) = false) := Lib.hid (decide_eq_false (fun h => hnm (by rw [← HL.out, ← HM.out, h])))
    clear h1 h2
    go_wp2_with fail
    go_ret
    exact ⟨by rw [ND.out]; rfl, Ex.refl _⟩
theorem boundN_no {l : List Nd} {id : Int} (h : (findN l id).2 = false ∨ checkN l ≠ 0) : boundN l id = 0 := by
  unfold boundN
  rw [if_neg]
  rintro ⟨h1, h2⟩
  rcases h with h | h
  · rw [h] at h1; cases h1
  · exact h h2
theorem boundN_yes {l : List Nd} {id : Int} (h : (findN l id).2 = true) (h2 : checkN l = 0) : boundN l id = 1 + runS l id 17 := by
  unfold boundN
  rw [if_pos ⟨h, h2⟩]; rfl
theorem runS_le (l : List Nd) (id : Int) : ∀ k, runS l id k ≤ k * l.length
  | 0 => by unfold runS; simp
  | k + 1 => by rw [runS_succ]; have := runS_le l id k; have := runN_le l id k; rw [Nat.add_mul]; omega
theorem rn_drew {x : Nd} {lev : Int} {G : List Nd} {g n : Nat} {w wr : World} {m r i : Value} (h : RnRel x lev G g w m r i wr) : RnRel x lev G g w m r i (wr.drewN n) := by
  obtain ⟨k, h1, h2, h3, h4, h5⟩ := h
  exact ⟨k, h1, h2, h3, h4, h5.drewN _⟩
theorem same_rv {a b : Nat} {h : Int} {v : Bool} (H : sameN a b h = v) (w : World) (ha : a < 4294967296) (hb : b < 4294967296) :
    Calls Tryd.prog 76 #[.int .u32 a, .int .u32 b, .int .i64 h] w fun e w' => e = .returned (.bool v) ∧ w = w' := by
  have := same_r a b h w ha hb
  rw [H] at this
  exact this
theorem through_mem {l : List Nd} {id lev : Int} (h1 : checkN l = 0) (h2 : (findN l id).2 = true) (h3 : lvlN lev = true) : idxI (thrG l id lev) id < (thrG l id lev).length := by
  obtain ⟨m1, m2⟩ := findN_mem h2
  have hm : (findN l id).1 ∈ thrG l id lev := by
    unfold thrG groupN
    rw [List.mem_filter]
    exact ⟨(sortN_mem l _).2 m1, sameN_refl _ (by unfold lvlN at h3; simp at h3; exact h3.2)⟩
  unfold idxI
  rw [List.findIdx_lt_length]
  exact ⟨_, hm, by simpa using m2⟩
def BoRel (l : List Nd) (id : Int) (w : World) (s i : Value) (wr : World) : Prop := ∃ k : Nat, k ≤ 17 ∧ i = .int .i64 k ∧ s = .int .i64 ((1 + runS l id k : Nat) : Int) ∧ Ex w wr

set_option maxRecDepth 100000 in
set_option maxHeartbeats 4000000 in
theorem bound_p (a : Option Addr) (n c : Nat) (l : List Nd) (id : Int) (w : World) (hs : Sl 3 encN w a n l) (hn : n ≤ 1000) (hc : n ≤ c) (hm : c ≤ maxLen) (hw : ∀ x ∈ l, x.word < 4294967296) (hT : TabG w) :
    Calls Tryd.prog 31 #[.slice a n c, .int .i64 id] w fun e w' => e = .returned (.int .i64 (boundN l id)) ∧ Ex w w' := by
  have HW := Lib.hid hw
  have HL := Lib.hid hs.len
  have EX := Ex.refl w
  have T3 := Lib.hid hT
  clear hw hT
  go_enter Tryd.func31, Tryd.ntmps31
  go_wp2_with fail
  (with_reducible refine (find_p _ _ _ _ _ _ hs (by omega)).mono ?_)
  rintro e w1 ⟨rfl, kk⟩
  replace hs := hs.nx kk
  replace EX := EX.nx kk
  replace T3 := Lib.hid (T3.out.nx kk)
  clear kk
  obtain ⟨F, hF⟩ : ∃ F, F = findN l id := ⟨_, rfl⟩
  have HF := Lib.hid hF
  rw [← hF]
  obtain ⟨x, ok⟩ := F
  unfold Nd.val
  simp only
  clear hF
  have B := Blk.new w1 [.int .i64 x.id, .string x.key, .int .u32 x.word] 48
  have kk := Ex.new w1 (.cells #[.int .i64 x.id, .string x.key, .int .u32 x.word] 48)
  obtain ⟨w2, hw2⟩ : ∃ w2, w2 = w1.alloc (.cells #[.int .i64 x.id, .string x.key, .int .u32 x.word] 48) := ⟨_, rfl⟩
  obtain ⟨g, hg⟩ : ∃ g, g = w1.heap.size := ⟨_, rfl⟩
  replace B : Blk w2 g [.int .i64 x.id, .string x.key, .int .u32 x.word] 48 := by rw [hw2, hg]; exact B
  rw [← hw2] at kk
  have Hw2 := Lib.hid hw2
  have Hg := Lib.hid hg
  replace hs := hs.nx kk
  replace EX := EX.nx kk
  replace T3 := Lib.hid (T3.out.nx kk)
  clear kk hw2 hg
  go_upto_region 2 with fail
  rw [← Hg.out, ← Hw2.out]
  clear Hg Hw2
  clear B
  cases ok with
  | false =>
    have RN := Lib.hid (boundN_no (l := l) (id := id) (.inl (by rw [← HF.out])))
    clear hs
    go_wp2_with fail
    go_ret
    exact ⟨by rw [RN.out]; rfl, EX⟩
  | true =>
    go_wp2_with fail
    (with_reducible refine (check_p _ _ _ _ _ hs (by omega) hc hm).mono ?_)
    rintro e w3 ⟨rfl, kk⟩
    replace hs := hs.nx kk
    replace EX := EX.nx kk
    replace T3 := Lib.hid (T3.out.nx kk)
    clear kk
    by_cases hck : checkN l = 0
    case neg =>
      have RN := Lib.hid (boundN_no (l := l) (id := id) (.inr hck))
      have d1 : (checkN l != 0) = true := by simpa using hck
      
      clear hs hck
      go_wp2_with fail
      go_ret
      exact ⟨by rw [RN.out]; rfl, EX⟩
    have d1 : (checkN l != 0) = false := by simpa using hck
    
    have RY := Lib.hid (boundN_yes (l := l) (id := id) (by rw [← HF.out]) hck)
    have E3 := Lib.hid EX
    have S3 := Lib.hid hs
    clear hck EX hs
    go_wp2_with fail
    go_loopw [7, 22] (fun s i wr => BoRel l id w3 s i wr) (fun _ i _ => 17 - (intOf i).toNat)
    case atStart => exact ⟨0, by omega, rfl, rfl, Ex.refl _⟩
    case round =>
      obtain ⟨k, hk, rfl, rfl, kw⟩ := hrel
      obtain ⟨wo, rfl⟩ : ∃ wo : World, wo = wr := ⟨_, rfl⟩
      obtain ⟨s, hs⟩ : ∃ s, s = 1 + runS l id k := ⟨_, rfl⟩
      rw [← hs]
      have hsb : s ≤ 100000 := by
        have h1 := runS_le l id k
        have h2 := HL.out
        have h3 : k * l.length ≤ 17 * 1000 := Nat.mul_le_mul hk (by omega)
        omega
      have HSE := Lib.hid hs
      clear hs
      by_cases hlt : k < 17
      · have SK := S3.out.nx kw
        have T3 := Lib.hid (T3.out.nx kw)
        have hr1 := runN_le l id k
        have hr2 : runN l id (k : Nat) ≤ 1000 := by have := HL.out; omega
        have RR : Hid (∀ w', Ex wo w' → BoRel l id w3 (.int .i64 ((s : Int) + (runN l id (k : Nat) : Nat))) (.int .i64 ((k : Int) + 1)) w') := Lib.hid (fun w' h => ⟨k + 1, by omega, by go_num, by rw [runS_succ, HSE.out]; congr 1; omega, kw.nx h⟩)
        clear kw hr1
        go_wp2_with fail
        (with_reducible refine (run_p _ _ _ _ _ _ _ SK hn hc hm HW.out T3.out).mono ?_)
        rintro e w5 ⟨rfl, kk⟩
        have RR := Lib.hid (RR.out _ kk)
        clear kk SK
        go_wp2_with fail
        exact ⟨RR.out, by simp [intOf]; omega⟩
      · obtain rfl : k = 17 := by omega
        have RZ : Hid (s = boundN l id) := Lib.hid (by rw [RY.out, HSE.out])
        have E6 := Lib.hid (E3.out.nx kw)
        clear kw
        go_wp2_with fail
        go_ret
        exact ⟨by rw [RZ.out]; rfl, E6.out⟩

set_option maxRecDepth 100000 in
set_option maxHeartbeats 4000000 in
theorem run_r (a : Option Addr) (n c : Nat) (l : List Nd) (id lev : Int) (w : World) (hs : Sl 3 encN w a n l) (hn : n ≤ 1000) (hw : ∀ x ∈ l, x.word < 4294967296) :
    Calls Tryd.prog 30 #[.slice a n c, .int .i64 id, .int .i64 lev] w fun e w' => e = .returned (.int .i64 (runN l id lev)) ∧ Ex w w' := by
  have HW := Lib.hid hw
  have HXW := findN_word hw id
  have HL := Lib.hid hs.len
  have EX := Ex.refl w
  clear hw
  go_enter Tryd.func30, Tryd.ntmps30
  go_wp2_with fail
  (with_reducible refine (through_r _ _ _ _ id lev _ hs hn HW.out).mono ?_)
  rintro e w1 ⟨aT, cT, rfl, ST, kk⟩
  replace EX := EX.nx kk
  replace hs := hs.nx kk
  clear kk
  cases hok : (throughN l id lev).2.2 with
  | false =>
    have RN : Hid (runN l id lev = 0) := Lib.hid (runN_no (by
      unfold throughN at hok
      split at hok
      · cases hok
      · rename_i hc
        by_cases h1 : checkN l = 0
        · cases h2 : (findN l id).2 with
          | false => exact .inr (.inl rfl)
          | true =>
            cases h3 : lvlN lev with
            | false => exact .inr (.inr rfl)
            | true =>
              exfalso
              obtain ⟨m1, m2⟩ := findN_mem h2
              have := (through_mem h1 h2 h3)
              exact hc ⟨h2, by rw [h1]; rfl, h3, this⟩
        · exact .inl h1))
    clear hs ST hok
    go_wp2_with fail
    go_ret
    exact ⟨by rw [RN.out]; rfl, EX⟩
  | true =>
    obtain ⟨hf, hck, hlv, hG⟩ : (findN l id).2 = true ∧ checkN l = 0 ∧ lvlN lev = true ∧ (throughN l id lev).1 = thrG l id lev := by
      unfold throughN at hok ⊢
      split at hok
      · rename_i hc
        rw [if_pos hc]
        exact ⟨hc.1, by simpa using hc.2.1, hc.2.2.1, rfl⟩
      · cases hok
    obtain ⟨x, hx⟩ : ∃ x, x = (findN l id).1 := ⟨_, rfl⟩
    have HF : Hid ((x, true) = findN l id) := Lib.hid (by rw [hx, ← hf])
    have RY := Lib.hid (runN_yes hck HF.out hlv)
    have hlv2 : 0 ≤ lev ∧ lev ≤ 16 := by unfold lvlN at hlv; simpa using hlv
    obtain ⟨G, hGe⟩ : ∃ G, G = (throughN l id lev).1 := ⟨_, rfl⟩
    rw [← hGe] at ST ⊢
    have HG : Hid (G = groupN (sortN l) lev x.word) := Lib.hid (by rw [hGe, hG]; unfold thrG; rw [hx])
    rw [← HG.out] at RY
    have hGs : G.length ≤ 1000 := by
      have : (groupN (sortN l) lev x.word).length ≤ (sortN l).length := List.length_filter_le _ _
      rw [sortN_length, HL.out] at this
      rw [HG.out]; omega
    have GW : Hid (∀ y ∈ G, y.word < 4294967296) := Lib.hid (fun y hy => HW.out y ((sortN_mem l y).1 (by rw [HG.out] at hy; exact (List.mem_filter.1 hy).1)))
    have hxid : x.id = id := by rw [hx]; exact (findN_mem hf).2
    have HXW : x.word < 4294967296 := by rw [hx]; exact HXW
    obtain ⟨n6, hn6⟩ : ∃ n6, n6 = G.length := ⟨_, rfl⟩
    rw [← hn6] at hGs
    have HGL := Lib.hid hn6
    have ST : Sl 3 encN w1 aT n6 G := by rw [hn6]; exact ST
    rw [← hn6]
    have hx' := Lib.hid hx
    have HXI := Lib.hid hxid
    clear hok hG hGe hf hck hlv hx hn6 hxid
    go_wp2_with fail
    (with_reducible refine (find_r _ _ _ _ _ _ hs (by omega)).mono ?_)
    rintro e w2 ⟨rfl, kk⟩
    replace EX := EX.nx kk
    replace ST := ST.nx kk
    rw [← HF.out]
    unfold Nd.val
    simp only
    clear kk hs
    have B := Blk.new w2 [.int .i64 x.id, .string x.key, .int .u32 x.word] 48
    have kk := Ex.new w2 (.cells #[.int .i64 x.id, .string x.key, .int .u32 x.word] 48)
    obtain ⟨w3, hw3⟩ : ∃ w3, w3 = w2.alloc (.cells #[.int .i64 x.id, .string x.key, .int .u32 x.word] 48) := ⟨_, rfl⟩
    obtain ⟨g, hg⟩ : ∃ g, g = w2.heap.size := ⟨_, rfl⟩
    replace B : Blk w3 g [.int .i64 x.id, .string x.key, .int .u32 x.word] 48 := by rw [hw3, hg]; exact B
    rw [← hw3] at kk
    have Hw3 := Lib.hid hw3
    have Hg := Lib.hid hg
    replace ST := ST.nx kk
    replace EX := EX.nx kk
    clear kk hw3 hg
    go_upto_region 5 with fail
    rw [← Hg.out, ← Hw3.out]
    clear Hg Hw3
    have SG := Lib.hid ST
    have E6 := Lib.hid EX
    have BX := Lib.hid B
    clear ST EX B
    go_wp2_with fail
    go_loopw [12, 13, 14] (fun m r i wr => RnRel x lev G g w3 m r i wr) (fun _ _ i _ => n6 - (intOf i).toNat)
    case atStart => exact ⟨0, by omega, rfl, rfl, rfl, Ex.refl _⟩
    case round =>
      obtain ⟨k, hk, rfl, rfl, rfl, kw⟩ := hrel
      obtain ⟨wo, rfl⟩ : ∃ wo : World, wo = wr := ⟨_, rfl⟩
      rw [← HGL.out] at hk
      by_cases hlt : k < n6
      · obtain ⟨x1, o1, y, rfl, hx1, hy, hc1⟩ := (SG.out.nx kw).at hlt
        have f0 : wo.cell? ⟨x1, o1 + k * 3, none⟩ = some (.int .i64 y.id) := hc1 0 _ rfl
        have f2 : wo.cell? ⟨x1, o1 + k * 3 + 2, none⟩ = some (.int .u32 y.word) := hc1 2 _ rfl
        have SN := Lib.hid (runF_snoc x lev G k y hy)
        have hyw := GW.out y (List.mem_of_getElem? hy)
        obtain ⟨s, hs⟩ : ∃ s, s = runF x lev (G.take k) := ⟨_, rfl⟩
        have hsl := run_len x lev (G.take k)
        have htl : (G.take k).length ≤ k := by simp; omega
        rw [← hs] at SN hsl ⊢
        have E6 := Lib.hid (E6.out.nx kw)
        have x2 := (BX.out.nx kw).cell 2 _ rfl
        have KW := Lib.hid kw
        obtain ⟨s1, s2⟩ := s
        have hs1 : s1 ≤ 1000 := by simp only at hsl; omega
        have hs2 : s2 ≤ 1000 := by simp only at hsl; omega
        clear hsl htl
        simp only at SN ⊢
        clear hs hc1 hy kw
        by_cases hid : y.id = id
        · have hb : (y.id == id) = true := by simpa using hid
          have RR : Hid (RnRel x lev G g w3 (.int .i64 (s1 : Nat)) (.int .i64 0) (.int .i64 ((k : Int) + 1)) wo) := Lib.hid
            ⟨k + 1, by rw [← HGL.out]; omega, by go_num, by rw [SN.out, step_brk]; unfold brkN; rw [HXI.out, hb]; rfl, by rw [SN.out, step_brk]; rfl; unfold brkN; rw [HXI.out, hb]; rfl, KW.out⟩
          have hmx : max (s1 : Int) 0 = (s1 : Int) := by omega
          clear hid
          go_wp2_with fail
          go_quiet (fail)
          go_wp2_with fail
          exact ⟨rn_drew RR.out, by simp [intOf]; omega⟩
        · have hb : (y.id == id) = false := by simpa using hid
          have e1 : max (s1 : Int) ((s2 : Int) + 1) = ((max s1 (s2 + 1) : Nat) : Int) := by omega
          have e0 : max (s1 : Int) 0 = (s1 : Int) := by omega
          clear hid
          by_cases h16 : lev < 16
          · have d16 : decide (lev < 16) = true := by simpa using h16
            cases hsm : sameN x.word y.word (lev + 1) with
            | true =>
              have hsm' : sameN y.word x.word (lev + 1) = true := sameN_symm hsm
              have RR : Hid (RnRel x lev G g w3 (.int .i64 (s1 : Nat)) (.int .i64 0) (.int .i64 ((k : Int) + 1)) wo) := Lib.hid
                ⟨k + 1, by rw [← HGL.out]; omega, by go_num, by rw [SN.out, step_brk]; unfold brkN; rw [hsm]; simp, by rw [SN.out, step_brk]; rfl; unfold brkN; rw [hsm]; simp, KW.out⟩
              go_wp2_with fail
              go_quiet ((go_at_call 76; exact quiet_of_eq (same_rv hsm' _ hyw HXW)))
              go_wp2_with fail
              exact ⟨rn_drew RR.out, by simp [intOf]; omega⟩
            | false =>
              have hsm' : sameN y.word x.word (lev + 1) = false := by cases h : sameN y.word x.word (lev + 1) with | false => rfl | true => rw [sameN_symm h] at hsm; cases hsm
              have hbk : brkN x lev y = false := by unfold brkN; rw [hsm, HXI.out, hb]; rfl
              have RR : Hid (RnRel x lev G g w3 (.int .i64 ((max s1 (s2 + 1) : Nat) : Int)) (.int .i64 ((s2 : Int) + 1)) (.int .i64 ((k : Int) + 1)) wo) := Lib.hid
                ⟨k + 1, by rw [← HGL.out]; omega, by go_num, by rw [SN.out, step_free hbk], by rw [SN.out, step_free hbk]; go_num, KW.out⟩
              have E1 := Lib.hid e1
              clear e1 e0 hbk
              go_wp2_with fail
              go_quiet ((go_at_call 76; exact quiet_of_eq (same_rv hsm' _ hyw HXW)))
              go_wp2_with fail
              rw [E1.out]
              exact ⟨rn_drew RR.out, by simp [intOf]; omega⟩
          · have d16 : decide (lev < 16) = false := by simpa using h16
            have hsm : sameN x.word y.word (lev + 1) = false := by
              have := commonN_le x.word y.word
              unfold sameN
              simp
              omega
            have hbk : brkN x lev y = false := by unfold brkN; rw [hsm, HXI.out, hb]; rfl
            have RR : Hid (RnRel x lev G g w3 (.int .i64 ((max s1 (s2 + 1) : Nat) : Int)) (.int .i64 ((s2 : Int) + 1)) (.int .i64 ((k : Int) + 1)) wo) := Lib.hid
              ⟨k + 1, by rw [← HGL.out]; omega, by go_num, by rw [SN.out, step_free hbk], by rw [SN.out, step_free hbk]; go_num, KW.out⟩
            have E1 := Lib.hid e1
            clear e1 e0 hbk hsm
            go_wp2_with fail
            go_quiet (fail)
            go_wp2_with fail
            rw [E1.out]
            exact ⟨rn_drew RR.out, by simp [intOf]; omega⟩
      · obtain rfl : k = n6 := by omega
        have RZ : Hid (((runF x lev (G.take k)).1 : Nat) = runN l id lev) := Lib.hid (by rw [RY.out, List.take_of_length_le (by rw [← HGL.out]; exact Nat.le_refl _)])
        rw [RZ.out]
        have E6 := Lib.hid (E6.out.nx kw)
        clear hk hlt kw
        go_wp2_with fail
        go_ret
        exact ⟨rfl, E6.out⟩

set_option maxRecDepth 100000 in
set_option maxHeartbeats 4000000 in
theorem bound_r (a : Option Addr) (n c : Nat) (l : List Nd) (id : Int) (w : World) (hs : Sl 3 encN w a n l) (hn : n ≤ 1000) (hw : ∀ x ∈ l, x.word < 4294967296) :
    Calls Tryd.prog 32 #[.slice a n c, .int .i64 id] w fun e w' => e = .returned (.int .i64 (boundN l id)) ∧ Ex w w' := by
  have HW := Lib.hid hw
  have HL := Lib.hid hs.len
  have EX := Ex.refl w
  
  clear hw 
  go_enter Tryd.func32, Tryd.ntmps32
  go_wp2_with fail
  (with_reducible refine (find_r _ _ _ _ _ _ hs (by omega)).mono ?_)
  rintro e w1 ⟨rfl, kk⟩
  replace hs := hs.nx kk
  replace EX := EX.nx kk
  clear kk
  obtain ⟨F, hF⟩ : ∃ F, F = findN l id := ⟨_, rfl⟩
  have HF := Lib.hid hF
  rw [← hF]
  obtain ⟨x, ok⟩ := F
  unfold Nd.val
  simp only
  clear hF
  have B := Blk.new w1 [.int .i64 x.id, .string x.key, .int .u32 x.word] 48
  have kk := Ex.new w1 (.cells #[.int .i64 x.id, .string x.key, .int .u32 x.word] 48)
  obtain ⟨w2, hw2⟩ : ∃ w2, w2 = w1.alloc (.cells #[.int .i64 x.id, .string x.key, .int .u32 x.word] 48) := ⟨_, rfl⟩
  obtain ⟨g, hg⟩ : ∃ g, g = w1.heap.size := ⟨_, rfl⟩
  replace B : Blk w2 g [.int .i64 x.id, .string x.key, .int .u32 x.word] 48 := by rw [hw2, hg]; exact B
  rw [← hw2] at kk
  have Hw2 := Lib.hid hw2
  have Hg := Lib.hid hg
  replace hs := hs.nx kk
  replace EX := EX.nx kk
  clear kk hw2 hg
  go_upto_region 2 with fail
  rw [← Hg.out, ← Hw2.out]
  clear Hg Hw2
  clear B
  cases ok with
  | false =>
    have RN := Lib.hid (boundN_no (l := l) (id := id) (.inl (by rw [← HF.out])))
    clear hs
    go_wp2_with fail
    go_ret
    exact ⟨by rw [RN.out]; rfl, EX⟩
  | true =>
    go_wp2_with fail
    (with_reducible refine (is_r _ _ _ _ _ hs (by omega)).mono ?_)
    rintro e w3 ⟨rfl, kk⟩
    replace hs := hs.nx kk
    replace EX := EX.nx kk
    clear kk
    by_cases hck : checkN l = 0
    case neg =>
      have RN := Lib.hid (boundN_no (l := l) (id := id) (.inr hck))
      have d1 : (checkN l == 0) = false := by simpa using hck
      rw [d1]
      clear hs hck
      go_wp2_with fail
      go_ret
      exact ⟨by rw [RN.out]; rfl, EX⟩
    have d1 : (checkN l == 0) = true := by simpa using hck
    rw [d1]
    have RY := Lib.hid (boundN_yes (l := l) (id := id) (by rw [← HF.out]) hck)
    have E3 := Lib.hid EX
    have S3 := Lib.hid hs
    clear hck EX hs
    go_wp2_with fail
    go_loopw [7, 8] (fun s i wr => BoRel l id w3 s i wr) (fun _ i _ => 17 - (intOf i).toNat)
    case atStart => exact ⟨0, by omega, rfl, rfl, Ex.refl _⟩
    case round =>
      obtain ⟨k, hk, rfl, rfl, kw⟩ := hrel
      obtain ⟨wo, rfl⟩ : ∃ wo : World, wo = wr := ⟨_, rfl⟩
      obtain ⟨s, hs⟩ : ∃ s, s = 1 + runS l id k := ⟨_, rfl⟩
      rw [← hs]
      have hsb : s ≤ 100000 := by
        have h1 := runS_le l id k
        have h2 := HL.out
        have h3 : k * l.length ≤ 17 * 1000 := Nat.mul_le_mul hk (by omega)
        omega
      have HSE := Lib.hid hs
      clear hs
      by_cases hlt : k < 17
      · have SK := S3.out.nx kw
        
        have hr1 := runN_le l id k
        have hr2 : runN l id (k : Nat) ≤ 1000 := by have := HL.out; omega
        have RR : Hid (∀ w', Ex wo w' → BoRel l id w3 (.int .i64 ((s : Int) + (runN l id (k : Nat) : Nat))) (.int .i64 ((k : Int) + 1)) w') := Lib.hid (fun w' h => ⟨k + 1, by omega, by go_num, by rw [runS_succ, HSE.out]; congr 1; omega, kw.nx h⟩)
        clear kw hr1
        go_wp2_with fail
        (with_reducible refine (run_r _ _ _ _ _ _ _ SK hn HW.out).mono ?_)
        rintro e w5 ⟨rfl, kk⟩
        have RR := Lib.hid (RR.out _ kk)
        clear kk SK
        go_wp2_with fail
        exact ⟨RR.out, by simp [intOf]; omega⟩
      · obtain rfl : k = 17 := by omega
        have RZ : Hid (s = boundN l id) := Lib.hid (by rw [RY.out, HSE.out])
        have E6 := Lib.hid (E3.out.nx kw)
        clear kw
        go_wp2_with fail
        go_ret
        exact ⟨by rw [RZ.out]; rfl, E6.out⟩

/-- the place of a node in the ascending roster -/
def placeI (l : List Nd) (id : Int) : Int := if checkN l = 0 then idxB (fun x => x.id == id) (sortN l) else -1
end Go.Proofs.YtkjlhcfocefhpaaDoor

/- place, Rank and Owner of the package roster. -/
namespace Go.Proofs.YtkjlhcfocefhpaaDoor
open Go.RowKit

theorem place1_p (gx : Nat) (id : Int) (w : World) (hx : Blk w gx [.int .i64 id] 3) : PredG 119 #[.pointer (some ⟨gx, 0, none⟩)] (fun x => x.id == id) w := by
  intro x w' k
  have b0 := (hx.nx k).cell 0 _ rfl
  have B3 := Blk.new w' [.int .i64 x.id, .string x.key, .int .u32 x.word] 48
  have kn := Ex.new w' (.cells #[.int .i64 x.id, .string x.key, .int .u32 x.word] 48)
  obtain ⟨w3, hw3⟩ : ∃ w3, w3 = w'.alloc (.cells #[.int .i64 x.id, .string x.key, .int .u32 x.word] 48) := ⟨_, rfl⟩
  obtain ⟨g3, hg3⟩ : ∃ g3, g3 = w'.heap.size := ⟨_, rfl⟩
  have B3 : Blk w3 g3 [.int .i64 x.id, .string x.key, .int .u32 x.word] 48 := by rw [hw3, hg3]; exact B3
  rw [← hw3] at kn
  have b0 := ((hx.nx k).nx kn).cell 0 _ rfl
  have y0 := B3.cell 0 _ rfl
  have HW3 := Lib.hid hw3
  have HG3 := Lib.hid hg3
  clear hw3 hg3 hx k B3
  unfold Nd.val
  go_enter Tryd.func119, Tryd.ntmps119
  go_upto_region 1 with fail
  rw [← HG3.out, ← HW3.out]
  go_wp2_with fail
  go_ret
  exact ⟨rfl, kn⟩
def PlPost (l : List Nd) (id : Int) (w : World) (e : Ending) (w' : World) : Prop :=
  ∃ (v : Value) (S : List Nd), e = .returned (.tuple #[v, .int .i64 (placeI l id)]) ∧ OwnL 3 encN 48 w.heap.size w' v S ∧ (checkN l = 0 → S = sortN l) ∧ Ex w w'
set_option maxHeartbeats 1000000 in
theorem place_p (a : Option Addr) (n c : Nat) (l : List Nd) (id : Int) (w : World) (hs : Sl 3 encN w a n l) (hn : n ≤ 1000) (hc : n ≤ c) (hm : c ≤ maxLen) :
    Calls Tryd.prog 81 #[.slice a n c, .int .i64 id] w (PlPost l id w) := by
  have HL := Lib.hid hs.len
  have EX := Ex.refl w
  have B := Blk.new w [.int .i64 id] 3
  have kk := Ex.new w (.cells #[.int .i64 id] 3)
  obtain ⟨w1, hw1⟩ : ∃ w1, w1 = w.alloc (.cells #[.int .i64 id] 3) := ⟨_, rfl⟩
  obtain ⟨g, hg⟩ : ∃ g, g = w.heap.size := ⟨_, rfl⟩
  replace B : Blk w1 g [.int .i64 id] 3 := by rw [hw1, hg]; exact B
  rw [← hw1] at kk
  have Hw1 := Lib.hid hw1
  have Hg := Lib.hid hg
  replace hs := hs.nx kk
  replace EX := EX.nx kk
  have hgw : w.heap.size ≤ g := by omega
  have eg : ∀ args w, (callFunc 119 args).run Tryd.prog w = .ok (.enter 119 args) w := enters_of Tryd.func119 (by kernel_rfl) rfl
  have EG := Lib.hid eg
  clear kk hw1 hg eg
  go_enter Tryd.func81, Tryd.ntmps81
  go_upto_region 1 with fail
  rw [← Hg.out, ← Hw1.out]
  clear Hg Hw1
  go_wp2_with fail
  (with_reducible refine (check_p _ _ _ _ _ hs (by omega) hc hm).mono ?_)
  rintro e w2 ⟨rfl, kk⟩
  replace hs := hs.nx kk
  replace EX := EX.nx kk
  replace B := B.nx kk
  clear kk
  by_cases hck : checkN l = 0
  case neg =>
    have d1 : (checkN l != 0) = true := by simpa using hck
    have PL : Hid (placeI l id = -1) := Lib.hid (by unfold placeI; rw [if_neg hck])
    have HC := Lib.hid hck
    clear hs hck B
    go_wp2_with fail
    go_ret2
    exact ⟨_, [], by rw [PL.out]; rfl, OwnL.nil _ _ _ _ _, fun h => absurd h HC.out, EX⟩
  have d1 : (checkN l != 0) = false := by simpa using hck
  have HC := Lib.hid hck
  have PL : Hid (placeI l id = idxB (fun x => x.id == id) (sortN l)) := Lib.hid (by unfold placeI; rw [if_pos hck])
  clear hck
  have hz2 : w.heap.size ≤ w2.heap.size := EX.size
  go_wp2_with fail
  (with_reducible refine (sort_p _ _ _ _ _ hs hn).mono ?_)
  rintro e w3 ⟨v, S, rfl, OS, ⟨hp, hsrt⟩, kk⟩
  replace EX := EX.nx kk
  replace B := B.nx kk
  have hSe : S = sortN l := sortN_unique (check_keys HC.out) hp hsrt
  subst hSe
  obtain ⟨a5, c5, rfl, r5, hc5, hm5⟩ := OS.sl3 (fun _ => rfl)
  have OS := Lib.hid (OwnL.base OS hz2)
  rw [sortN_length] at r5 hc5 ⊢
  rw [HL.out] at r5 hc5 ⊢
  clear kk hs hp hsrt
  go_wp2_with fail
  (with_reducible refine (idxf_n 119 #[.pointer (some ⟨g, 0, none⟩)] (fun x => x.id == id) EG.out _ _ _ _ _ r5 (by omega) (place1_p g id w3 B)).mono ?_)
  rintro e w4 ⟨rfl, kk⟩
  have OS := Lib.hid (OS.out.nx kk)
  replace EX := EX.nx kk
  have HS := Lib.hid (sortN_length l)
  clear kk r5 B hc5 hm5
  go_wp2_with fail
  go_ret2
  refine ⟨_, _, by rw [PL.out]; rfl, ?_, fun _ => rfl, EX⟩
  have := OS.out
  rw [HS.out, HL.out] at this
  exact this
def rankN (l : List Nd) (id : Int) : Int × Bool := (max (placeI l id) 0, decide (0 ≤ placeI l id))
theorem placeI_b (l : List Nd) (id : Int) : -1 ≤ placeI l id ∧ placeI l id ≤ l.length := by
  unfold placeI idxB
  split
  · split
    · have := sortN_length l; omega
    · omega
  · omega
set_option maxHeartbeats 1000000 in
theorem rank_p (a : Option Addr) (n c : Nat) (l : List Nd) (id : Int) (w : World) (hs : Sl 3 encN w a n l) (hn : n ≤ 1000) (hc : n ≤ c) (hm : c ≤ maxLen) :
    Calls Tryd.prog 38 #[.slice a n c, .int .i64 id] w fun e w' => e = .returned (.tuple #[.int .i64 (rankN l id).1, .bool (rankN l id).2]) ∧ Ex w w' := by
  have HL := Lib.hid hs.len
  go_enter Tryd.func38, Tryd.ntmps38
  go_wp2_with fail
  (with_reducible refine (place_p _ _ _ _ id _ hs hn hc hm).mono ?_)
  rintro e w1 ⟨v, S, rfl, _, _, kk⟩
  have hb := placeI_b l id
  have RK : Hid (rankN l id = (max (placeI l id) 0, decide (0 ≤ placeI l id))) := Lib.hid rfl
  have hl := HL.out
  clear hs
  go_wp2_with fail
  go_ret2
  exact ⟨by rw [RK.out]; rfl, kk⟩
theorem placeI_at {l : List Nd} (h0 : checkN l = 0) {A B : List Nd} {x : Nd} (e : sortN l = A ++ x :: B) : placeI l x.id = A.length := by
  have hs := sortN_str h0
  unfold placeI
  rw [if_pos h0, e]
  rw [e] at hs
  refine (idxB_of (y := x) (k := A.length) (by simp) (by simp) fun j z hj hz => ?_).1
  rw [List.getElem?_append_left hj] at hz
  have := ((List.pairwise_append.1 hs).2.2 z (List.mem_of_getElem? hz) x (by simp)).2
  simpa using this
def OwRel (key : List UInt8) (S : List Nd) (x0 : Nd) (g : Nat) (w : World) (i : Value) (wr : World) : Prop :=
  ∃ (k : Nat) (y : Nd), k ≤ S.length ∧ i = .int .i64 k ∧ y = (S.take k).foldl (ownF key) x0 ∧ Blk wr g [.int .i64 y.id, .string y.key, .int .u32 y.word] 48 ∧ Exb g w wr
def OnPost (r : Nd × Bool) (w : World) (e : Ending) (w' : World) : Prop := e = .returned (.tuple #[.agg #[.int .i64 r.1.id, .string r.1.key, .int .u32 r.1.word], .bool r.2]) ∧ Ex w w'
theorem ownN_no {l : List Nd} {s : ByteArray} (h : checkN l ≠ 0 ∨ l.length = 0 ∨ 64 < s.size) : ownN l s = (Nd.zero, false) := by
  unfold ownN
  rw [if_neg]
  rintro ⟨h1, h2, h3⟩
  rcases h with h | h | h
  · exact h h1
  · exact h2 h
  · omega
theorem ownF_snoc (key : List UInt8) (x0 : Nd) (S : List Nd) (k : Nat) (y : Nd) (hy : S[k]? = some y) : (S.take (k + 1)).foldl (ownF key) x0 = ownF key ((S.take k).foldl (ownF key) x0) y := by
  rw [take_snocN S k y hy, List.foldl_append]; rfl
set_option maxRecDepth 100000 in
set_option maxHeartbeats 4000000 in
theorem owner_p (a : Option Addr) (n c : Nat) (l : List Nd) (s : ByteArray) (w : World) (hs : Sl 3 encN w a n l) (hn : n ≤ 1000) (hc : n ≤ c) (hm : c ≤ maxLen) :
    Calls Tryd.prog 52 #[.slice a n c, .string s] w (OnPost (ownN l s) w) := by
  have HL := Lib.hid hs.len
  have EX := Ex.refl w
  have B4 := Blk.new w [.int .i64 0, .string ⟨#[]⟩, .int .u32 0] 48
  have kk := Ex.new w (.cells #[.int .i64 0, .string ⟨#[]⟩, .int .u32 0] 48)
  obtain ⟨w1, hw1⟩ : ∃ w1, w1 = w.alloc (.cells #[.int .i64 0, .string ⟨#[]⟩, .int .u32 0] 48) := ⟨_, rfl⟩
  obtain ⟨g4, hg4⟩ : ∃ g4, g4 = w.heap.size := ⟨_, rfl⟩
  replace B4 : Blk w1 g4 [.int .i64 0, .string ⟨#[]⟩, .int .u32 0] 48 := by rw [hw1, hg4]; exact B4
  rw [← hw1] at kk
  have Hw1 := Lib.hid hw1
  have Hg4 := Lib.hid hg4
  replace hs := hs.nx kk
  replace EX := EX.nx kk
  have hgw : w.heap.size ≤ g4 := by omega
  have HGW := Lib.hid hgw
  clear kk hw1 hg4
  go_enter Tryd.func52, Tryd.ntmps52
  go_upto_region 1 with fail
  rw [← Hg4.out, ← Hw1.out]
  clear Hg4 Hw1
  go_wp2_with fail
  (with_reducible refine (check_p _ _ _ _ _ hs (by omega) hc hm).mono ?_)
  rintro e w2 ⟨rfl, kk⟩
  replace hs := hs.nx kk
  replace EX := EX.nx kk
  replace B4 := B4.nx kk
  clear kk
  have KE : Hid (∀ v0 v1 v2, Ex w (((w2.setCell ⟨g4, 0, none⟩ v0).setCell ⟨g4, 1, none⟩ v1).setCell ⟨g4, 2, none⟩ v2)) := Lib.hid (fun v0 v1 v2 => ((EX.setNew (p := ⟨g4, 0, none⟩) _ hgw).setNew (p := ⟨g4, 1, none⟩) _ hgw).setNew (p := ⟨g4, 2, none⟩) _ hgw)
  have NO : Hid (ownN l s = (Nd.zero, false) → ∀ a, OnPost (ownN l s) w (.returned (.tuple #[.agg #[.int .i64 0, .string ⟨#[]⟩, .int .u32 0], .bool false])) (((w2.setCell ⟨g4, 0, none⟩ (.int .i64 0)).setCell ⟨g4, 1, none⟩ (.string ⟨#[]⟩)).setCell ⟨g4, 2, none⟩ a)) := Lib.hid (fun h a => by rw [h]; exact ⟨rfl, KE.out _ _ _⟩)
  by_cases hck : checkN l = 0
  case neg =>
    have d1 : (checkN l != 0) = true := by simpa using hck
    have RN := Lib.hid (ownN_no (s := s) (.inl hck))
    have q0 := B4.cell 0 _ rfl
    have q1 := B4.cell 1 _ rfl
    have q2 := B4.cell 2 _ rfl
    have z0 := B4.free 0
    have z1 := B4.free 1
    have z2 := B4.free 2
    clear hs hck B4
    go_wp2_with fail
    refine bodyPost_ret (v := .tuple #[.agg #[.int .i64 0, .string ⟨#[]⟩, .int .u32 0], .bool false]) (by simp [results, Tryd.results52, go_sem, *]) rfl (NO.out RN.out _)
  have d1 : (checkN l != 0) = false := by simpa using hck
  have HC := Lib.hid hck
  clear hck
  by_cases h0 : n = 0
  · have RN := Lib.hid (ownN_no (s := s) (.inr (.inl (by rw [HL.out]; exact h0))))
    have q0 := B4.cell 0 _ rfl
    have q1 := B4.cell 1 _ rfl
    have q2 := B4.cell 2 _ rfl
    have z0 := B4.free 0
    have z1 := B4.free 1
    have z2 := B4.free 2
    subst h0
    clear hs B4
    go_wp2_with fail
    refine bodyPost_ret (v := .tuple #[.agg #[.int .i64 0, .string ⟨#[]⟩, .int .u32 0], .bool false]) (by simp [results, Tryd.results52, go_sem, *]) rfl (NO.out RN.out _)
  have hn0 : ¬ (n : Int) = 0 := by omega
  go_wp2_with fail
  (with_reducible refine (vkey_p _ _).mono ?_)
  rintro e w2' ⟨rfl, rfl⟩
  by_cases hsz : (s.size : Int) ≤ 64
  case neg =>
    have RN := Lib.hid (ownN_no (l := l) (s := s) (.inr (.inr (by omega))))
    have q0 := B4.cell 0 _ rfl
    have q1 := B4.cell 1 _ rfl
    have q2 := B4.cell 2 _ rfl
    have z0 := B4.free 0
    have z1 := B4.free 1
    have z2 := B4.free 2
    rw [decide_eq_false hsz]
    clear hs hsz B4
    go_wp2_with fail
    refine bodyPost_ret (v := .tuple #[.agg #[.int .i64 0, .string ⟨#[]⟩, .int .u32 0], .bool false]) (by simp [results, Tryd.results52, go_sem, *]) rfl (NO.out RN.out _)
  rw [decide_eq_true hsz]
  have RY : Hid (ownN l s = ((sortN l).foldl (ownF s.toList) ((sortN l).head?.getD Nd.zero), true)) := Lib.hid (by
    unfold ownN
    rw [if_pos ⟨HC.out, by rw [HL.out]; exact h0, by omega⟩])
  clear hsz NO KE
  go_wp2_with fail
  (with_reducible refine (sort_p _ _ _ _ _ hs hn).mono ?_)
  rintro e w3 ⟨v, S, rfl, OS, ⟨hp, hsrt⟩, kk⟩
  replace EX := EX.nx kk
  replace B4 := B4.nx kk
  have hSe : S = sortN l := sortN_unique (check_keys HC.out) hp hsrt
  subst hSe
  obtain ⟨a5, c5, rfl, r5, hc5, hm5⟩ := OS.sl3 (fun _ => rfl)
  rw [sortN_length] at r5 hc5 ⊢
  rw [HL.out] at r5 hc5 ⊢
  obtain ⟨S, hS⟩ : ∃ S, S = sortN l := ⟨_, rfl⟩
  rw [← hS] at r5 RY
  have HSL := Lib.hid r5.len
  clear kk hs hp hsrt OS hS
  obtain ⟨x1, o1, x0, rfl, hx1, hx0, hc0⟩ := r5.at (j := 0) (by omega)
  have e0 : w3.cell? ⟨x1, o1, none⟩ = some (.int .i64 x0.id) := by simpa using hc0 0 _ rfl
  have e1 : w3.cell? ⟨x1, o1 + 1, none⟩ = some (.string x0.key) := by simpa using hc0 1 _ rfl
  have e2 : w3.cell? ⟨x1, o1 + 1 + 1, none⟩ = some (.int .u32 x0.word) := by simpa [Nat.add_assoc] using hc0 2 _ rfl
  have hx : (S.head?.getD Nd.zero) = x0 := by rw [List.head?_eq_getElem?, hx0]; rfl
  rw [hx] at RY
  have hn00 : 0 < n := by omega
  clear hc0 hx0 hx
  have hg4l := B4.lt
  have B7 := Blk.new w3 [.int .i64 x0.id, .string x0.key, .int .u32 x0.word] 48
  have kk := Ex.new w3 (.cells #[.int .i64 x0.id, .string x0.key, .int .u32 x0.word] 48)
  obtain ⟨w4, hw4⟩ : ∃ w4, w4 = w3.alloc (.cells #[.int .i64 x0.id, .string x0.key, .int .u32 x0.word] 48) := ⟨_, rfl⟩
  obtain ⟨g7, hg7⟩ : ∃ g7, g7 = w3.heap.size := ⟨_, rfl⟩
  replace B7 : Blk w4 g7 [.int .i64 x0.id, .string x0.key, .int .u32 x0.word] 48 := by rw [hw4, hg7]; exact B7
  rw [← hw4] at kk
  have Hw4 := Lib.hid hw4
  have Hg7 := Lib.hid hg7
  replace B4 := B4.nx kk
  replace EX := EX.nx kk
  have hg47 : g4 ≠ g7 := by omega
  have RS := Lib.hid ((r5.slb (show w3.heap.size ≤ g7 by omega)).nxb (kk.b g7))
  have hwg7 : w.heap.size ≤ g7 := by have := HGW.out; omega
  clear kk hw4 hg7 r5 hg4l
  go_upto_region 5 with fail
  rw [← Hg7.out, ← Hw4.out]
  clear Hg7 Hw4
  clear e0 e1 e2
  have B4 := Lib.hid B4
  have EX := Lib.hid EX
  go_wp2_with fail
  go_loopw [31] (fun i wr => OwRel s.toList S x0 g7 w4 i wr) (fun i _ => n - (intOf i).toNat)
  case atStart => exact ⟨0, x0, by omega, rfl, rfl, B7, Exb.refl _ _⟩
  case round =>
    clear B7
    obtain ⟨k, z, hk, rfl, hz, B7, kw⟩ := hrel
    obtain ⟨wo, rfl⟩ : ∃ wo : World, wo = wr := ⟨_, rfl⟩
    rw [HSL.out] at hk
    have HZ := Lib.hid hz
    clear hz
    by_cases hlt : k < n
    · obtain ⟨x2, o2, y, hxo, hx2, hy, hc1⟩ := (RS.out.nxb kw).sl.at hlt
      cases hxo
      have f0 : wo.cell? ⟨x1, o1 + k * 3, none⟩ = some (.int .i64 y.id) := hc1 0 _ rfl
      have f1 : wo.cell? ⟨x1, o1 + k * 3 + 1, none⟩ = some (.string y.key) := hc1 1 _ rfl
      have f2 : wo.cell? ⟨x1, o1 + k * 3 + 1 + 1, none⟩ = some (.int .u32 y.word) := by simpa [Nat.add_assoc] using hc1 2 _ rfl
      have SN := Lib.hid (ownF_snoc s.toList x0 S k y hy)
      have hg7w := B7.lt
      have KW := Lib.hid kw
      clear hc1 hy kw
      have B9 := Blk.new wo [.int .i64 y.id, .string y.key, .int .u32 y.word] 48
      have kk := Ex.new wo (.cells #[.int .i64 y.id, .string y.key, .int .u32 y.word] 48)
      obtain ⟨w7, hw7⟩ : ∃ w7, w7 = wo.alloc (.cells #[.int .i64 y.id, .string y.key, .int .u32 y.word] 48) := ⟨_, rfl⟩
      obtain ⟨g9, hg9⟩ : ∃ g9, g9 = wo.heap.size := ⟨_, rfl⟩
      replace B9 : Blk w7 g9 [.int .i64 y.id, .string y.key, .int .u32 y.word] 48 := by rw [hw7, hg9]; exact B9
      rw [← hw7] at kk
      have Hw7 := Lib.hid hw7
      have Hg9 := Lib.hid hg9
      replace B7 := B7.nx kk
      have KW := Lib.hid (KW.out.nxb (kk.b g7))
      have hg97 : ¬ g9 = g7 := by omega
      clear kk hw7 hg9
      go_upto_region 8 with fail
      rw [← Hg9.out, ← Hw7.out]
      clear Hg9 Hw7
      have y0 := B9.cell 0 _ rfl
      have y1 := B9.cell 1 _ rfl
      have y2 := B9.cell 2 _ rfl
      have z0 := B7.cell 0 _ rfl
      have z1 := B7.cell 1 _ rfl
      have z2 := B7.cell 2 _ rfl
      have r0 := B7.free 0
      have r1 := B7.free 1
      have r2 := B7.free 2
      have LE : (Op.bytesLess y.key.toList s.toList || y.key.toList == s.toList) = !Op.bytesLess s.toList y.key.toList := le_not _ _
      have HB := Lib.hid B7
      clear f0 f1 f2 B7 B9
      cases hle : Op.bytesLess s.toList y.key.toList with
      | true =>
        have RR := Lib.hid (show OwRel s.toList S x0 g7 w4 (.int .i64 ((k : Int) + 1)) w7 from ⟨k + 1, z, by rw [HSL.out]; omega, by go_num, by rw [SN.out, ← HZ.out]; unfold ownF; rw [hle]; rfl, HB.out, KW.out⟩)
        clear y0 y2 z0 z2 r0 r1 r2
        go_wp2_with fail
        exact ⟨RR.out, by simp [intOf]; omega⟩
      | false =>
        have RR := Lib.hid (show OwRel s.toList S x0 g7 w4 (.int .i64 ((k : Int) + 1)) (((w7.setCell ⟨g7, 0, none⟩ (.int .i64 y.id)).setCell ⟨g7, 1, none⟩ (.string y.key)).setCell ⟨g7, 2, none⟩ (.int .u32 y.word)) from
          ⟨k + 1, y, by rw [HSL.out]; omega, by go_num, by rw [SN.out]; unfold ownF; rw [hle]; rfl, ((HB.out.set 0 _).set 1 _).set 2 _, ((KW.out.setB (p := ⟨g7, 0, none⟩) _ rfl).setB (p := ⟨g7, 1, none⟩) _ rfl).setB (p := ⟨g7, 2, none⟩) _ rfl⟩)
        go_wp2_with fail
        exact ⟨RR.out, by simp [intOf]; omega⟩
    · obtain rfl : k = n := by omega
      have hzz : (z, true) = ownN l s := by rw [RY.out, HZ.out, List.take_of_length_le (by rw [HSL.out]; exact Nat.le_refl _)]
      have HZZ := Lib.hid hzz
      have B4o := B4.out.nxb hg47 kw
      have q0 := B4o.cell 0 _ rfl
      have q1 := B4o.cell 1 _ rfl
      have q2 := B4o.cell 2 _ rfl
      have z0 := B4o.free 0
      have z1 := B4o.free 1
      have z2 := B4o.free 2
      have y0 := B7.cell 0 _ rfl
      have y1 := B7.cell 1 _ rfl
      have y2 := B7.cell 2 _ rfl
      have EF : Ex w wo := (Exl.nxb (b := g7) (w := w) ⟨EX.out, hwg7⟩ kw).1
      have KE := Lib.hid (((EF.setNew (p := ⟨g4, 0, none⟩) (.int .i64 z.id) HGW.out).setNew (p := ⟨g4, 1, none⟩) (.string z.key) HGW.out).setNew (p := ⟨g4, 2, none⟩) (.int .u32 z.word) HGW.out)
      have hne : ¬ g7 = g4 := fun h => hg47 h.symm
      have hne2 : ¬ g4 = g7 := hg47
      clear hk hlt kw hzz B4o B7 EF
      go_wp2_with fail
      refine bodyPost_ret (v := .tuple #[.agg #[.int .i64 z.id, .string z.key, .int .u32 z.word], .bool true]) (by simp [results, Tryd.results52, go_sem, *]) rfl ⟨by rw [← HZZ.out], KE.out⟩
end Go.Proofs.YtkjlhcfocefhpaaDoor

/- The sanity check of chapter 8 (printed by gen_l8.py). -/
namespace Go.Proofs.YtkjlhcfocefhpaaDoor
open Go.RowKit

def fourN : List Nd := [⟨1, ⟨#[97]⟩, 0⟩, ⟨2, ⟨#[98]⟩, 1⟩, ⟨3, ⟨#[99]⟩, 2⟩, ⟨4, ⟨#[100]⟩, 3⟩]
def fourL : List Lkd := [(1, [(0, 2), (0, 3), (0, 0)]), (2, [(1, 3), (0, 4), (0, 0)]), (3, [(2, 4), (1, 0), (0, 0)]), (4, [(3, 0), (2, 0), (0, 0)])]
theorem four_build : buildN fourN 2 = (fourL, 0) := by decide +kernel
theorem four_route : routeN fourN fourL 1 ⟨#[100]⟩ = ([(1, 3, 1), (3, 4, 0)], 0) := by decide +kernel
theorem four_bound : boundN fourN 1 = 3 := by decide +kernel
theorem four_run : runN fourN 1 0 = 1 := by decide +kernel
theorem fourW : ∀ x ∈ fourN, x.word < 4294967296 := by decide +kernel
def ThPost4 (w : World) (e : Ending) (w' : World) : Prop := ∃ a, e = .returned (.slice a 4 4) ∧ Sl 3 encN w' a 4 fourN ∧ Ex w w'
theorem four_x (w : World) : Calls Tryd.prog 71 #[] w (ThPost4 w) := by
  go_enter Tryd.func71, Tryd.ntmps71
  go_wp2_with fail
  go_ret
  exact ⟨_, rfl, Sl.lit fourN rfl rfl (fun _ => rfl) rfl, Ex.new _ _⟩
set_option maxRecDepth 100000 in
set_option maxHeartbeats 4000000 in
theorem sane8_x (w : World) (hT : TabG w) : Calls Tryd.prog 27 #[] w fun e w' => e = .returned (.bool true) ∧ Ex w w' := by
  go_enter Tryd.func27, Tryd.ntmps27
  have k := Ex.refl w
  have T := hT
  clear hT
  go_wp2_with fail
  (with_reducible refine (four_x _).mono ?_)
  rintro e w1 ⟨a1, rfl, s1, kk⟩
  replace k := k.nx kk
  replace T := T.nx kk
  clear kk
  go_wp2_with fail
  (with_reducible refine (build_p _ _ _ _ _ _ s1 (by omega) (by omega) (by unfold maxLen; omega) fourW T).mono ?_)
  rintro e w2 ⟨v, qs, rfl, own, kk⟩
  replace k := k.nx kk
  replace T := T.nx kk
  replace s1 := s1.nx kk
  clear kk
  rw [four_build] at own ⊢
  obtain ⟨aL, cL, rfl, L, _, _, _, _⟩ := OwnN.nl (encA := encI) (encB := encS) (s1 := 2) (s2 := 2) (fun _ => rfl) (fun _ => rfl) own
  simp only [List.length_cons, List.length_nil, List.length_map, Nat.zero_add, Nat.reduceAdd] at L ⊢
  clear s1 own
  replace L := Lib.hid L
  go_wp2_with fail
  (with_reducible refine (four_x _).mono ?_)
  rintro e w3 ⟨a1, rfl, s1, kk⟩
  replace k := k.nx kk
  replace T := T.nx kk
  replace L := Lib.hid (L.out.nx kk)
  clear kk
  go_wp2_with fail
  (with_reducible refine (route_p _ _ _ _ _ _ _ _ 1 _ _ s1 (by omega) (by omega) (by unfold maxLen; omega) L.out (by decide) (by decide)).mono ?_)
  rintro e w4 ⟨v, rfl, own, kk⟩
  replace k := k.nx kk
  replace T := T.nx kk
  replace L := Lib.hid (L.out.nx kk)
  replace s1 := s1.nx kk
  clear kk
  rw [four_route] at own ⊢
  obtain ⟨aH, cH, rfl, H, _, _, _⟩ := own.slf (fun _ => rfl)
  have H := H.sl
  simp only [List.length_cons, List.length_nil, Nat.zero_add, Nat.reduceAdd] at H ⊢
  clear own s1 L
  obtain ⟨x1, o1, y1, rfl, _, hy1, hc1⟩ := H.at (j := 0) (by omega)
  obtain ⟨x2, o2, y2, he, _, hy2, hc2⟩ := H.at (j := 1) (by omega)
  cases he
  cases hy1
  cases hy2
  have e0 : w4.cell? ⟨x1, o1, none⟩ = some (.int .i64 1) := by simpa using hc1 0 _ rfl
  have e1 : w4.cell? ⟨x1, o1 + 1, none⟩ = some (.int .i64 3) := by simpa using hc1 1 _ rfl
  have e2 : w4.cell? ⟨x1, o1 + 1 + 1, none⟩ = some (.int .i64 1) := by simpa [Nat.add_assoc] using hc1 2 _ rfl
  have f0 : w4.cell? ⟨x1, o1 + 3, none⟩ = some (.int .i64 3) := by simpa using hc2 0 _ rfl
  have f1 : w4.cell? ⟨x1, o1 + 3 + 1, none⟩ = some (.int .i64 4) := by simpa using hc2 1 _ rfl
  have f2 : w4.cell? ⟨x1, o1 + 3 + 1 + 1, none⟩ = some (.int .i64 0) := by simpa [Nat.add_assoc] using hc2 2 _ rfl
  clear hc1 hc2
  go_wp2_with fail
  (with_reducible refine (end_p 1 _ _ _ _ _ H (by omega)).mono ?_)
  rintro e w5 ⟨rfl, kk⟩
  replace k := k.nx kk
  replace T := T.nx kk
  replace H := H.nx kk
  clear kk
  clear H e0 e1 e2 f0 f1 f2
  go_wp2_with fail
  (with_reducible refine (four_x _).mono ?_)
  rintro e w6 ⟨a1, rfl, s1, kk⟩
  replace k := k.nx kk
  replace T := T.nx kk
  clear kk
  go_wp2_with fail
  (with_reducible refine (bound_p _ _ _ _ 1 _ s1 (by omega) (by omega) (by unfold maxLen; omega) fourW T).mono ?_)
  rintro e w7 ⟨rfl, kk⟩
  replace k := k.nx kk
  replace T := T.nx kk
  replace s1 := s1.nx kk
  clear kk
  rw [four_bound]
  clear s1
  go_wp2_with fail
  (with_reducible refine (four_x _).mono ?_)
  rintro e w8 ⟨a1, rfl, s1, kk⟩
  replace k := k.nx kk
  replace T := T.nx kk
  clear kk
  go_wp2_with fail
  (with_reducible refine (run_p _ _ _ _ 1 0 _ s1 (by omega) (by omega) (by unfold maxLen; omega) fourW T).mono ?_)
  rintro e w9 ⟨rfl, kk⟩
  replace k := k.nx kk
  replace T := T.nx kk
  replace s1 := s1.nx kk
  clear kk
  rw [four_run]
  clear s1
  go_wp2_with fail
  go_ret
  exact ⟨rfl, k⟩
end Go.Proofs.YtkjlhcfocefhpaaDoor

/- What a loop of a law keeps. -/
namespace Go.Proofs.YtkjlhcfocefhpaaDoor
open Go.RowKit

theorem TabG.nxb {b : Nat} {w w' : World} (h : TabG w) (hb : ¬ 1 = b) (k : Exb b w w') : TabG w' := h.chg k ⟨h.lt, hb⟩
/-- a loop that counts to n and reads the tape -/
def CtRel (b n : Nat) (w : World) (i : Value) (wr : World) : Prop := ∃ k : Nat, k ≤ n ∧ i = .int .i64 k ∧ Exb b w wr ∧ TK wr b
end Go.Proofs.YtkjlhcfocefhpaaDoor

/- Numbers as bytes, in plain Lean. -/
namespace Go.Proofs.YtkjlhcfocefhpaaDoor
open Go.RowKit

def byt (n : Nat) : UInt8 := UInt8.ofNat n
theorem byt_toNat (n : Nat) : (byt n).toNat = n % 256 := by simp [byt]
def encF : Nat → Nat → List UInt8
  | 0, n => [byt n]
  | f + 1, n => if n < 128 then [byt n] else byt (n % 128 + 128) :: encF f (n / 128)
/-- the bytes of a number below 2^64 -/
def encU (n : Nat) : List UInt8 := encF 9 n
theorem encF_lt (f n : Nat) (h : n < 128) : encF f n = [byt n] := by cases f <;> simp [encF, h]
theorem encF_length : ∀ f n, (encF f n).length ≤ f + 1
  | 0, n => by simp [encF]
  | f + 1, n => by
    unfold encF
    split
    · simp
    · have := encF_length f (n / 128); simp; omega
theorem encU_length (n : Nat) : (encU n).length ≤ 10 := encF_length 9 n
theorem encF_pos (f n : Nat) : 0 < (encF f n).length := by
  cases f <;> simp only [encF] <;> (try split) <;> simp
theorem encU_pos (n : Nat) : 0 < (encU n).length := encF_pos 9 n
theorem wrap_u8n (n : Int) : IntKind.u8.wrap n = n % 256 := by simp [IntKind.wrap, IntKind.signed, IntKind.bits]
theorem wrap_u64n (n : Int) : IntKind.u64.wrap n = n % 18446744073709551616 := by rw [IntKind.wrap_u64]
/-- the byte that goes on -/
theorem byte_or (n : Nat) : bits BinOp.or IntKind.u8 ((n : Int) % 256) 128 = ((byt (n % 128 + 128)).toNat : Int) := by
  have h0 : (n : Int) % 256 = ((n % 256 : Nat) : Int) := by omega
  rw [h0]
  have h1 : (BitVec.ofInt 8 ((n % 256 : Nat) : Int)).toNat = n % 256 := by
    rw [BitVec.ofInt_natCast, BitVec.toNat_ofNat]; omega
  have h2 : (BitVec.ofInt 8 (128 : Int)).toNat = 128 := by decide
  show IntKind.u8.wrap ((BitVec.ofInt 8 ((n % 256 : Nat) : Int) ||| BitVec.ofInt 8 (128 : Int)).toNat : Int) = _
  rw [BitVec.toNat_or, h1, h2, wrap_u8n, byt_toNat]
  have key : ∀ m, m < 256 → m ||| 128 = m % 128 + 128 := by decide +kernel
  rw [key (n % 256) (by omega)]
  omega
theorem byte_add (n : Nat) : (n : Int) % 128 + 128 = ((byt (n % 128 + 128)).toNat : Int) := by
  rw [byt_toNat]; omega
theorem byte_last (n : Nat) (h : n < 128) : IntKind.u8.wrap (n : Int) = ((byt n).toNat : Int) := by rw [wrap_u8n, byt_toNat]; omega

/-- the number at the head of some bytes, and how many bytes it takes -/
def decA : List UInt8 → Nat → Nat → Option (Nat × Nat)
  | [], _, _ => none
  | c :: r, i, n =>
    if (i = 9 ∧ 1 < c.toNat) ∨ (0 < i ∧ c.toNat = 0) then none
    else if c.toNat < 128 then some (n + c.toNat * 2 ^ (7 * i), i + 1)
    else decA r (i + 1) (n + c.toNat % 128 * 2 ^ (7 * i))
def decU (b : List UInt8) : Option (Nat × Nat) := decA b 0 0

theorem pow_lt64 {c i : Nat} (h : c < 128) (hi : i ≤ 9) (h9 : i = 9 → c ≤ 1) : c * 2 ^ (7 * i) < 18446744073709551616 := by
  rcases Nat.lt_or_ge i 9 with h8 | h8
  · have : 2 ^ (7 * i) ≤ 2 ^ 56 := Nat.pow_le_pow_right (by omega) (by omega)
    have : c * 2 ^ (7 * i) ≤ 127 * 2 ^ 56 := Nat.mul_le_mul (by omega) this
    omega
  · have : i = 9 := by omega
    subst this
    have := h9 rfl
    have : c * 2 ^ (7 * 9) ≤ 1 * 2 ^ 63 := Nat.mul_le_mul this (by omega)
    omega
theorem or_add {n c i : Nat} (h : n < 2 ^ (7 * i)) : n ||| c * 2 ^ (7 * i) = n + c * 2 ^ (7 * i) := by
  have := Nat.two_pow_add_eq_or_of_lt h c
  rw [Nat.or_comm, Nat.mul_comm c, ← this, Nat.add_comm]
theorem next_lt {n c i : Nat} (h : n < 2 ^ (7 * i)) (hc : c < 128) : n + c * 2 ^ (7 * i) < 2 ^ (7 * (i + 1)) := by
  have : 2 ^ (7 * (i + 1)) = 128 * 2 ^ (7 * i) := by rw [show 7 * (i + 1) = 7 * i + 7 by omega, Nat.pow_add]; omega
  rw [this]
  have : c * 2 ^ (7 * i) ≤ 127 * 2 ^ (7 * i) := Nat.mul_le_mul (by omega) (Nat.le_refl _)
  omega
theorem decA_take {b : List UInt8} {i n N K : Nat} (h : decA b i n = some (N, K)) : i < K ∧ K ≤ i + b.length := by
  induction b generalizing i n with
  | nil => simp [decA] at h
  | cons c r ih =>
    unfold decA at h
    split at h
    · cases h
    · split at h
      · cases h; simp
      · have := ih h; simp; omega
theorem decU_take {b : List UInt8} {N K : Nat} (h : decU b = some (N, K)) : 0 < K ∧ K ≤ b.length := by
  have := decA_take h; omega
theorem decA_lt {b : List UInt8} {i n N K : Nat} (h : decA b i n = some (N, K)) (hi : i ≤ 9) (hn : n < 2 ^ (7 * i)) : N < 18446744073709551616 ∧ K ≤ 10 := by
  induction b generalizing i n with
  | nil => simp [decA] at h
  | cons c r ih =>
    unfold decA at h
    split at h
    · cases h
    · rename_i hg
      split at h
      · rename_i hc
        cases h
        refine ⟨?_, by omega⟩
        rcases Nat.lt_or_ge i 9 with h8 | h8
        · have := next_lt hn hc
          have : 2 ^ (7 * (i + 1)) ≤ 2 ^ 63 := Nat.pow_le_pow_right (by omega) (by omega)
          omega
        · have : i = 9 := by omega
          subst this
          have hc1 : c.toNat ≤ 1 := by omega
          have : c.toNat * 2 ^ (7 * 9) ≤ 1 * 2 ^ 63 := Nat.mul_le_mul hc1 (by omega)
          omega
      · rename_i hc
        have hi9 : i ≠ 9 := by omega
        exact ih h (by omega) (next_lt hn (by omega))
theorem decU_lt {b : List UInt8} {N K : Nat} (h : decU b = some (N, K)) : N < 18446744073709551616 ∧ K ≤ 10 := decA_lt h (by omega) (by simp)

/-- what was written is read back -/
theorem decA_encF : ∀ (f m i n : Nat) (r : List UInt8), m < 128 * 128 ^ f → f + i = 9 → (0 < i → 0 < m) → (i = 9 → m ≤ 1) → (f = 9 - i → m * 2 ^ (7 * i) < 18446744073709551616) → decA (encF f m ++ r) i n = some (n + m * 2 ^ (7 * i), i + (encF f m).length)
  | 0, m, i, n, r, hm, hfi, h0, h9, hb => by
    have hm1 : m ≤ 1 := h9 (by omega)
    simp only [encF, List.cons_append, List.nil_append, decA]
    rw [byt_toNat, Nat.mod_eq_of_lt (by omega), if_neg (by omega), if_pos (by omega)]
    simp
  | f + 1, m, i, n, r, hm, hfi, h0, h9, hb => by
    unfold encF
    by_cases h : m < 128
    · rw [if_pos h]
      simp only [List.cons_append, List.nil_append, decA]
      rw [byt_toNat, Nat.mod_eq_of_lt (by omega), if_neg (by omega), if_pos (by omega)]
      simp
    · rw [if_neg h]
      simp only [List.cons_append, decA]
      rw [byt_toNat, Nat.mod_eq_of_lt (by omega), if_neg (by omega), if_neg (by omega)]
      have e1 : 2 ^ (7 * (i + 1)) = 128 * 2 ^ (7 * i) := by rw [show 7 * (i + 1) = 7 * i + 7 by omega, Nat.pow_add]; omega
      have hsum : m / 128 * 2 ^ (7 * (i + 1)) + m % 128 * 2 ^ (7 * i) = m * 2 ^ (7 * i) := by
        rw [e1, ← Nat.mul_assoc, ← Nat.add_mul]
        congr 1
        omega
      have hb' : m / 128 * 2 ^ (7 * (i + 1)) < 18446744073709551616 := by
        have := hb (by omega)
        omega
      rw [decA_encF f (m / 128) (i + 1) _ r (by rw [Nat.pow_succ] at hm; omega) (by omega) (by omega) ?_ (fun _ => hb')]
      · rw [List.length_cons]
        have : (m % 128 + 128) % 128 = m % 128 := by omega
        rw [this]
        congr 2
        · omega
        · omega
      · intro h9'
        rw [show (7 * (i + 1)) = 63 by omega] at hb'
        omega
theorem decU_encU (n : Nat) (r : List UInt8) (h : n < 18446744073709551616) : decU (encU n ++ r) = some (n, (encU n).length) := by
  unfold decU encU
  rw [decA_encF 9 n 0 0 r (by omega) (by omega) (by omega) (by omega) (by intro _; simpa using h)]
  simp
end Go.Proofs.YtkjlhcfocefhpaaDoor

/- Walks over AppendUint of the package wire and of its reference. -/
namespace Go.Proofs.YtkjlhcfocefhpaaDoor
open Go.RowKit

def encB (x : UInt8) : List Value := [.int .u8 x.toNat]
theorem encB_len (y : UInt8) : (encB y).length = 1 := rfl
theorem Tryd.infoB : (Tryd.prog.info? 5).map (fun i => (i.zero, i.size, i.bytes)) = some (some (.int .u8 0), 1, 1) := by kernel_rfl
/-- bytes of the call's own -/
def BytesPost (l : List UInt8) (w : World) (e : Ending) (w' : World) : Prop :=
  ∃ v, e = .returned v ∧ OwnL 1 encB 5 w.heap.size w' v l ∧ Ex w w'

/-- at the head of the loop: what is written, and what is left of the number -/
def AppRel (b : List UInt8) (N : Nat) (w : World) (nv o : Value) (wr : World) : Prop :=
  ∃ (pre : List UInt8) (m f : Nat), nv = .int .u64 m ∧ m < 128 * 128 ^ f ∧ m < 18446744073709551616 ∧ f ≤ 9 ∧ encU N = pre ++ encF f m ∧ OwnL 1 encB 5 w.heap.size wr o (b ++ pre) ∧ Ex w wr

theorem app_next {pre : List UInt8} {N f m : Nat} (h : encU N = pre ++ encF f m) (hm : 128 ≤ m) (hf : m < 128 * 128 ^ f) : ∃ f', f = f' + 1 ∧ m / 128 < 128 * 128 ^ f' ∧ encU N = (pre ++ [byt (m % 128 + 128)]) ++ encF f' (m / 128) := by
  cases f with
  | zero => omega
  | succ f =>
    refine ⟨f, rfl, by rw [Nat.pow_succ] at hf; omega, ?_⟩
    rw [h, List.append_assoc]
    congr 1
    simp only [encF]
    rw [if_neg (by omega)]
    rfl

end Go.Proofs.YtkjlhcfocefhpaaDoor

/- Walks over Uint of the package wire and of its reference. -/
namespace Go.Proofs.YtkjlhcfocefhpaaDoor
open Go.RowKit

/-- a number, how many bytes it takes, and an error number -/
def numR (r : Option (Nat × Nat)) : Nat × Nat × Nat := match r with | some (n, k) => (n, k, 0) | none => (0, 0, 4)
def decR (b : List UInt8) : Nat × Nat × Nat := numR (decU b)

def DecRel (b : List UInt8) (nv iv : Value) : Prop :=
  ∃ (i m : Nat), nv = .int .u64 m ∧ iv = .int .i64 i ∧ i ≤ b.length ∧ i ≤ 9 ∧ m < 2 ^ (7 * i) ∧ decU b = decA (b.drop i) i m

theorem dec_bad {b r : List UInt8} {c : UInt8} {i m : Nat} (hd : decU b = decA (c :: r) i m) (h : (i = 9 ∧ 1 < c.toNat) ∨ (0 < i ∧ c.toNat = 0)) : decR b = (0, 0, 4) := by
  unfold decR; rw [hd]; unfold decA; rw [if_pos h]; rfl
theorem dec_end {b r : List UInt8} {c : UInt8} {i m : Nat} (hd : decU b = decA (c :: r) i m) (h : ¬ ((i = 9 ∧ 1 < c.toNat) ∨ (0 < i ∧ c.toNat = 0))) (hc : c.toNat < 128) : decR b = (m + c.toNat % 128 * 2 ^ (7 * i), i + 1, 0) := by
  unfold decR; rw [hd]; unfold decA; rw [if_neg h, if_pos hc, Nat.mod_eq_of_lt hc]; rfl
theorem dec_on {b r : List UInt8} {c : UInt8} {i m : Nat} (hd : decU b = decA (c :: r) i m) (h : ¬ ((i = 9 ∧ 1 < c.toNat) ∨ (0 < i ∧ c.toNat = 0))) (hc : ¬ c.toNat < 128) : decU b = decA r (i + 1) (m + c.toNat % 128 * 2 ^ (7 * i)) := by
  rw [hd]; conv => lhs; unfold decA
  rw [if_neg h, if_neg hc]
theorem bits_or_u64n (a b : Nat) (ha : a < 18446744073709551616) (hb : b < 18446744073709551616) : bits .or .u64 (a : Int) (b : Int) = ((a ||| b : Nat) : Int) := by
  have h1 : ∀ a : Nat, a < 18446744073709551616 → (BitVec.ofInt 64 (a : Int)).toNat = a := fun a ha => by
    rw [BitVec.ofInt_natCast, BitVec.toNat_ofNat]; exact Nat.mod_eq_of_lt (by omega)
  have h2 := Nat.or_lt_two_pow (n := 64) (x := a) (y := b) (by omega) (by omega)
  show IntKind.u64.wrap ((BitVec.ofInt 64 (a : Int) ||| BitVec.ofInt 64 (b : Int)).toNat : Int) = _
  rw [BitVec.toNat_or, h1 a ha, h1 b hb, wrap_u64n]
  omega
theorem bits_and127 (c : Nat) (hc : c < 256) : bits BinOp.and IntKind.u8 (c : Int) 127 = ((c % 128 : Nat) : Int) := by
  have h1 : (BitVec.ofInt 8 (c : Int)).toNat = c := by
    rw [BitVec.ofInt_natCast, BitVec.toNat_ofNat]; omega
  have h2 : (BitVec.ofInt 8 (127 : Int)).toNat = 127 := by decide
  show IntKind.u8.wrap ((BitVec.ofInt 8 (c : Int) &&& BitVec.ofInt 8 (127 : Int)).toNat : Int) = _
  rw [BitVec.toNat_and, h1, h2, wrap_u8n]
  rw [show (127 : Nat) = 2 ^ 7 - 1 from rfl, Nat.and_two_pow_sub_one_eq_mod]
  omega
theorem or_key {c i m : Nat} (hi : i ≤ 9) (h9 : i = 9 → c % 128 ≤ 1) (hm : m < 2 ^ (7 * i)) : bits BinOp.or IntKind.u64 (m : Int) (IntKind.u64.wrap ((c % 128 : Nat) * 2 ^ (7 * i))) = ((m + c % 128 * 2 ^ (7 * i) : Nat) : Int) := by
  have h1 := pow_lt64 (c := c % 128) (i := i) (by omega) hi (by omega)
  have h2 : 2 ^ (7 * i) ≤ 2 ^ 63 := Nat.pow_le_pow_right (by omega) (by omega)
  have h3 : ((c % 128 : Nat) : Int) * 2 ^ (7 * i) = ((c % 128 * 2 ^ (7 * i) : Nat) : Int) := by simp
  have h4 : IntKind.u64.wrap (((c % 128 * 2 ^ (7 * i) : Nat) : Int)) = ((c % 128 * 2 ^ (7 * i) : Nat) : Int) := by rw [wrap_u64n]; omega
  rw [h3, h4, bits_or_u64n _ _ (by omega) h1, or_add hm]
theorem or_key_p {c i m m' : Nat} (hi : i ≤ 9) (hc : c < 256) (h9 : i = 9 → c ≤ 1) (hm : m < 2 ^ (7 * i)) (hm' : m' = m + c % 128 * 2 ^ (7 * i)) :
    bits BinOp.or IntKind.u64 (m : Int) (IntKind.u64.wrap (IntKind.u64.wrap (bits BinOp.and IntKind.u8 (c : Int) 127) * 2 ^ (7 * i))) = (m' : Int) := by
  rw [bits_and127 c hc, show IntKind.u64.wrap ((c % 128 : Nat) : Int) = ((c % 128 : Nat) : Int) by rw [wrap_u64n]; omega, or_key hi (fun h => by have := h9 h; omega) hm, hm']

theorem or_key_r {c i m m' : Nat} (hi : i ≤ 9) (h9 : i = 9 → c % 128 ≤ 1) (hm : m < 2 ^ (7 * i)) (hm' : m' = m + c % 128 * 2 ^ (7 * i)) :
    bits BinOp.or IntKind.u64 (m : Int) (IntKind.u64.wrap ((c : Int) % 128 * 2 ^ (7 * i))) = (m' : Int) := by
  have := or_key hi h9 hm
  rw [show ((c % 128 : Nat) : Int) = (c : Int) % 128 by omega] at this
  rw [this, hm']

/-- behind the tenth byte there is nothing more to read -/
def DecRel2 (b : List UInt8) (nv iv : Value) : Prop := DecRel b nv iv ∨ ∃ m : Nat, nv = .int .u64 m ∧ iv = .int .i64 (10 : Nat) ∧ decR b = (0, 0, 4) ∧ 10 ≤ b.length
end Go.Proofs.YtkjlhcfocefhpaaDoor
