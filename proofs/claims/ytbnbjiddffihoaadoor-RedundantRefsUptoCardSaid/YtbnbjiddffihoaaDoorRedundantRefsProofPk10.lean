/- Texts for the statement RedundantRefsProof, part 10 of 10: RdRe, Laid4, LaidL, Laid2, Open, OpenN, WireP, WireU, WireD, WireI, WireS, WireT, WireO, EncN, Lnk, EncL, OpenL, OpenP, Bulk, OpenQ, RedundantRefsProof. -/
import Derived.Test.YtbnbjiddffihoaaDoorTie
import Derived.Test.YtbnbjiddffihoaaDoorCards
import Derived.Lib.LaidTab
import Derived.Lib.LaidU8
import Derived.LaidMore
import Derived.Stop.Joined
import Derived.SevenTiedAt
import Derived.ChangeArms
import Derived.LaidSub
import Derived.Test.YtbnbjiddffihoaaDoorRows
import Derived.ProofKit
import Derived.OpenShut
import Derived.ShutString
import Derived.ChangeOld
import Derived.Lib.SmallJoins
import Derived.Deep.Slices
import Derived.Deep.Fields
import Derived.ChangeSame
import Derived.WalkKit
import Derived.Laws.BytesString
import Derived.Lib.AppendStr
import Derived.Deep.RegionHeld3
import Derived.JoinedCond
import Derived.Deep.DeepHandedRow
import Derived.Deep.DeepWitnessRowRef
import Derived.Test.YtbnbjiddffihoaaDoorRedundantRefsProofPk1
import Derived.Test.YtbnbjiddffihoaaDoorRedundantRefsProofPk3
import Derived.Test.YtbnbjiddffihoaaDoorRedundantRefsProofPk4
import Derived.Test.YtbnbjiddffihoaaDoorRedundantRefsProofPk7
import Derived.Test.YtbnbjiddffihoaaDoorRedundantRefsProofPk8
import Derived.Test.YtbnbjiddffihoaaDoorRedundantRefsProofPk9

/- The walk over RedundantRefs. -/
namespace Go.Proofs.YtbnbjiddffihoaaDoor
open Go.RowKit

def RrX (b : Nat) (w1 : World) (s9 : Value) (wx : World) : Prop :=
  ∃ (a : Option Addr) (n c : Nat) (LZ : List Nd), s9 = .slice a n c ∧ Slb 3 encN b wx a n LZ ∧ n ≤ 100 ∧ n ≤ c ∧ c ≤ maxLen ∧ (∀ x ∈ LZ, x.word < 4294967296) ∧ TK wx b ∧ Exb b w1 wx
def RrB (b : Nat) (w1 : World) (v : Value) (wx : World) : Prop := ∃ β : Bool, v = .bool β ∧ TK wx b ∧ Exb b w1 wx
def RrC (p : Prop) (x5 : World) (v : Value) (wx : World) : Prop := ∃ β : Bool, v = .bool β ∧ x5 = wx ∧ (β = true → p)
def SmP (P : List Pr) : Prop := ∀ p ∈ P, p.known.length ≤ 2000000 ∧ p.near.length ≤ 2000000
def RrXY (b : Nat) (w1 : World) (s9 s11 : Value) (wx : World) : Prop :=
  ∃ (a : Option Addr) (n c : Nat) (LZ : List Nd) (a' : Option Addr) (n' c' : Nat) (PZ : List Pr), s9 = .slice a n c ∧ s11 = .slice a' n' c' ∧ Sl 3 encN wx a n LZ ∧ n ≤ 100 ∧ n ≤ c ∧ c ≤ maxLen ∧ PL wx a' n' PZ ∧ n' ≤ 100 ∧ SmP PZ ∧ TK wx b ∧ Exb b w1 wx
theorem refs_le (N : List Nd) (p : Pr) : (refsN N p).length ≤ N.length := by
  unfold refsN
  split
  · unfold ordN
    rw [List.length_map]
    exact Nat.le_trans (List.length_filter_le _ _) (Nat.le_of_eq (sortN_length N))
  · exact Nat.zero_le _
set_option maxRecDepth 100000 in
set_option maxHeartbeats 16000000 in
theorem redundantrefs_walk (a1 : Option Addr) (n1 c1 : Nat) (l1 : List Int) (a2 : Option Addr) (n2 c2 : Nat) (l2 : List Nd) (a3 : Option Addr) (n3 c3 : Nat) (P3 : List Pr) (w : World) (h1 : Sl 1 encI w a1 n1 l1) (hc1 : n1 ≤ c1) (hm1 : c1 ≤ maxLen)
    (h2 : Sl 3 encN w a2 n2 l2) (hc2 : n2 ≤ c2) (hm2 : c2 ≤ maxLen) (h3 : PL w a3 n3 P3) (hP3 : SmP P3) (hT : TabG w) (hL : LetG w) :
    Calls Tryd.prog 4 #[.slice a1 n1 c1, .slice a2 n2 c2, .slice a3 n3 c3] w fun e w' => e = .returned (.bool true) ∧ Ex w w' := by
  go_enter Tryd.func4, Tryd.ntmps4
  go_wp2_with fail
  refine (new_t _ _ _ l1 _ h1 hc1 hm1).mono ?_
  rintro e w1 ⟨rfl, T, kk, z1⟩
  obtain ⟨b, hb⟩ : ∃ b, b = w.heap.size := ⟨_, rfl⟩
  rw [← hb] at T ⊢
  have hgt : ¬ 1 = b := by have := hT.lt; omega
  have hgl : ¬ 0 = b := by have := hL.lt; omega
  have T1 : Hid (TabG w1) := Lib.hid (hT.nx kk)
  have L1 : Hid (LetG w1) := Lib.hid (hL.nx kk)
  have QL : Hid (Exl b w w1) := Lib.hid ⟨kk, by omega⟩
  have S1 : Hid (Slb 3 encN b w1 a2 n2 l2) := Lib.hid ((h2.slb (by omega)).nxb (kk.b b))
  have P1 : Hid (PLb b w1 a3 n3 P3) := Lib.hid ((h3.plb (by omega)).nxb (kk.b b))
  have HP3 := Lib.hid hP3
  clear h1 h2 h3 hT hL kk hb z1 hP3
  go_wp2_with fail
  go_loopw [8] (fun i wr => CtRel b 4 w1 i wr) (fun i _ => 4 - (intOf i).toNat)
  case atStart => exact ⟨0, by omega, rfl, Exb.refl _ _, T⟩
  case round =>
    clear T
    obtain ⟨k, hk, rfl, kw, T⟩ := hrel
    obtain ⟨wo, rfl⟩ : ∃ wo : World, wo = wr := ⟨_, rfl⟩
    by_cases hlt : k < 4
    case neg =>
      obtain rfl : k = 4 := by omega
      have TG := T1.out.nxb hgt kw
      have QX := Lib.hid (QL.out.nxb kw).1
      clear hk hlt kw T
      go_wp2_with fail
      (with_reducible refine (sane14_x _ TG).mono ?_)
      rintro e wz ⟨rfl, kk⟩
      replace QX := Lib.hid (QX.out.nx kk)
      clear kk
      go_wp2_with fail
      go_ret
      exact ⟨rfl, QX.out⟩
    have hbo := T.lt
    go_wp2_with fail
    refine (roster_t 7 _ T (L1.out.nxb hgl kw) hgl (by omega) (by omega)).mono ?_
    clear T
    rintro e x1 ⟨v1, LX, rfl, R⟩
    replace kw := kw.nxb R.k
    have T := R.tape
    obtain ⟨aX, cX, rfl, SX, hcX, hmX, hnX⟩ := R.own.slf (fun _ => rfl)
    have SX := SX.slb hbo
    have RL := R.len
    have RN := Lib.hid (roster_ok R.ok)
    have XW := Lib.hid (fun x hx => (RN.out x hx).1.2.1)
    have XI := Lib.hid (fun x hx => (RN.out x hx).1.1)
    have XO := Lib.hid (fun x hx => (RN.out x hx).1)
    clear R
    go_wp2_with fail
    refine (next_t 3 _ T (by omega) (by omega)).mono ?_
    clear T
    rintro e x2 ⟨hh, rfl, hh0, hh1, T, kk⟩
    replace kw := kw.nxb kk
    replace SX := SX.nxb kk
    clear kk
    obtain ⟨ht, rfl⟩ : ∃ t : Nat, hh = t := ⟨hh.toNat, by omega⟩
    have hb2 := T.lt
    go_wp2_with fail
    refine (peers_t ht _ _ _ _ _ T SX (by omega) XI.out (by omega)).mono ?_
    clear T
    rintro e x3 ⟨v3, qs, PX, rfl, RP⟩
    replace kw := kw.nxb RP.k
    replace SX := SX.nxb RP.k
    have T := RP.tape
    have hPl := RP.len
    have hPf := Lib.hid RP.few
    obtain ⟨aP, cP, rfl, PP, _, _, hPg, _⟩ := RP.own.pl
    have OWP := Lib.hid RP.own
    clear RP
    have KW := Lib.hid kw
    have SXH := Lib.hid SX
    clear kw SX
    go_upto_region 7 with fail
    go_cut [32] from 27 to 47 (fun v wx => RrB b x3 v wx)
    case first =>
      by_cases hk2 : k = 2
      · subst hk2
        go_wp2_with fail
        refine (bool_t 2 _ T (by omega) (by omega)).mono ?_
        clear T
        rintro e x4 ⟨rb, rfl, T, kk⟩
        have CUT := Lib.hid (show RrB b x3 (.bool rb) x4 from ⟨rb, rfl, T, kk⟩)
        clear T kk
        go_wp2_with fail
        go_meet
        exact CUT.out
      · have d1 : ((k : Int) == 2) = false := by simp; omega
        have CUT := Lib.hid (show RrB b x3 (.bool false) x3 from ⟨false, rfl, T, Exb.refl _ _⟩)
        clear T hk2
        go_wp2_with fail
        go_meet
        exact CUT.out
    case rest =>
      rename World => x4
      obtain ⟨β, rfl, T4, k4⟩ := hcut
      clear T
      have T4H := Lib.hid T4
      have K4 := Lib.hid k4
      have SX4 := SXH.out.nxb k4
      have L4 := Lib.hid (L1.out.nxb hgl (KW.out.nxb k4))
      have hb4 := T4.lt
      clear T4 k4
      go_upto_if 32 with fail
      go_cut [9] from 33 to 47 (fun s9 wx => RrX b x3 s9 wx)
      case first =>
        cases β with
        | true =>
          go_wp2_with fail
          refine (oddroster_t _ _ _ _ _ T4H.out SX4 hnX (by omega) XO.out L4.out hgl).mono ?_
          rintro e x8 ⟨v8, LO, rfl, O⟩
          obtain ⟨aO, cO, rfl, SO, hcO, hmO, _⟩ := O.own.slf (fun _ => rfl)
          have OL := O.len
          have CUT := Lib.hid (show RrX b x3 (.slice aO LO.length cO) x8 from ⟨aO, _, cO, LO, rfl, SO.slb hb4, by omega, hcO, hmO, fun x hx => (O.ok x hx).2.1, O.tape, K4.out.nxb O.k⟩)
          clear O SO SX4
          go_wp2_with fail
          go_meet
          exact CUT.out
        | false =>
          have CUT := Lib.hid (show RrX b x3 (.slice aX LX.length cX) x4 from ⟨aX, _, cX, LX, rfl, SX4, by omega, hcX, hmX, XW.out, T4H.out, K4.out⟩)
          clear SX4
          go_wp2_with fail
          go_meet
          exact CUT.out
      case rest =>
        clear SX4 T4H K4 L4
        rename World => x5
        obtain ⟨aZ, nZ, cZ, LZ, rfl, SZ, hnZ, hcZ, hmZ, ZW, T5, k5⟩ := hcut
        have SZ := Lib.hid SZ
        have T5 := Lib.hid T5
        have K5 := Lib.hid k5
        have ZW := Lib.hid ZW
        clear k5
        go_upto_region 9 with fail
        go_cut [47] from 36 to 49 (fun v wx => RrC (k = 3 ∧ n2 ≤ 12 ∧ n3 ≤ 30) x5 v wx)
        case first =>
          by_cases e3 : k = 3
          · by_cases e2 : n2 ≤ 12
            · by_cases e1 : n3 ≤ 30
              · have d1 : ((k : Int) == 3) = true := by simp; omega
                have d2 : (n2 : Int) ≤ 12 := by omega
                have d3 : (n3 : Int) ≤ 30 := by omega
                have D := Lib.hid (show RrC (k = 3 ∧ n2 ≤ 12 ∧ n3 ≤ 30) x5 (.bool true) x5 from ⟨true, rfl, rfl, fun _ => ⟨e3, e2, e1⟩⟩)
                clear e1 e2 e3
                go_wp2_with fail
                go_meet
                exact D.out
              · have d1 : ((k : Int) == 3) = true := by simp; omega
                have d2 : (n2 : Int) ≤ 12 := by omega
                have d3 : ¬ (n3 : Int) ≤ 30 := by omega
                have D := Lib.hid (show RrC (k = 3 ∧ n2 ≤ 12 ∧ n3 ≤ 30) x5 (.bool false) x5 from ⟨false, rfl, rfl, fun h => by cases h⟩)
                clear e1 e2 e3
                go_wp2_with fail
                go_meet
                exact D.out
            · have d1 : ((k : Int) == 3) = true := by simp; omega
              have d2 : ¬ (n2 : Int) ≤ 12 := by omega
              have D := Lib.hid (show RrC (k = 3 ∧ n2 ≤ 12 ∧ n3 ≤ 30) x5 (.bool false) x5 from ⟨false, rfl, rfl, fun h => by cases h⟩)
              clear e2 e3
              go_wp2_with fail
              go_meet
              exact D.out
          · have d1 : ((k : Int) == 3) = false := by simp; omega
            have D := Lib.hid (show RrC (k = 3 ∧ n2 ≤ 12 ∧ n3 ≤ 30) x5 (.bool false) x5 from ⟨false, rfl, rfl, fun h => by cases h⟩)
            clear e3
            go_wp2_with fail
            go_meet
            exact D.out
        case rest =>
          rename World => x7
          obtain ⟨β9, rfl, hw, h9⟩ := hcut
          subst hw
          replace h9 := Lib.hid h9
          go_upto_if 47 with fail
          go_cut [9, 11] from 48 to 49 (fun s9 s11 wx => RrXY b x3 s9 s11 wx)
          case first =>
            cases β9 with
            | true =>
              have h12 := Lib.hid (h9.out rfl).2
              have CUT := Lib.hid (show RrXY b x3 (.slice a2 n2 c2) (.slice a3 n3 c3) x5 from ⟨a2, n2, c2, l2, a3, n3, c3, P3, rfl, rfl, (S1.out.nxb (KW.out.nxb K5.out)).sl, by have := h12.out; omega, hc2, hm2, (P1.out.nxb (KW.out.nxb K5.out)).pl, by have := h12.out; omega, HP3.out, T5.out, K5.out⟩)
              clear h9
              go_wp2_with fail
              go_meet
              exact CUT.out
            | false =>
              have CUT := Lib.hid (show RrXY b x3 (.slice aZ nZ cZ) (.slice aP PX.length cP) x5 from by
                obtain ⟨aQ, cQ, e, PQ, _⟩ := (OWP.out.nxb hb2 K5.out).pl
                cases e
                exact ⟨aZ, nZ, cZ, LZ, aP, _, cP, PX, rfl, rfl, SZ.out.sl, hnZ, hcZ, hmZ, PQ, by omega, fun p hp => by have := hPf.out p hp; omega, T5.out, K5.out⟩)
              clear h9
              go_wp2_with fail
              go_meet
              exact CUT.out
          case rest =>
            rename World => x6
            obtain ⟨a, n, c, N, a', n', c', P, rfl, rfl, SN, hn, hc, hm, PN, hn', HS, T6, k6⟩ := hcut
            have HN := Lib.hid SN
            have HPN := Lib.hid PN
            have HSm : Hid (∀ p ∈ P, p.known.length ≤ 2000000 ∧ p.near.length ≤ 2000000) := Lib.hid HS
            have T6 := Lib.hid T6
            have KW6 := Lib.hid (KW.out.nxb k6)
            have TG := T1.out.nxb hgt (KW.out.nxb k6)
            have HPl : Hid (P.length = n') := Lib.hid PN.len
            clear SN PN HS k6 SZ K5 T5
            go_wp2_with fail
            (with_reducible refine (connected_p _ _ _ N _ _ _ P _ HN.out (by omega) hc hm HPN.out (by omega) (fun p hp => by have h : p.known.length ≤ 2000000 ∧ p.near.length ≤ 2000000 := HSm.out p hp; omega)).mono ?_)
            rintro e y1 ⟨rfl, ka⟩
            go_wp2_with fail
            (with_reducible refine (connected_r _ _ _ N _ _ _ P _ (HN.out.nx ka) (by omega) (HPN.out.nx ka) (by omega) HSm.out).mono ?_)
            rintro e y2 ⟨rfl, kb⟩
            have KB := Lib.hid (ka.nx kb)
            generalize connB N P = cb
            clear ka kb TG
            go_wp2_with fail
            go_loopw [12] (fun i wr => KtRel n' x6 i wr) (fun i _ => n' - (intOf i).toNat)
            case atStart => exact ⟨0, Nat.zero_le _, rfl, KB.out⟩
            case round =>
              clear KB
              obtain ⟨j, hj, rfl, kj⟩ := hrel
              obtain ⟨wi, rfl⟩ : ∃ wi : World, wi = wr := ⟨_, rfl⟩
              have KJ := Lib.hid kj
              clear kj
              by_cases hjn : j < n'
              · obtain ⟨xp, op, b1, m1, d1, b4, m4, d4, y, rfl, hxp, hy, p0, p1, p2, p3, p4, s1, s4⟩ := (HPN.out.nx KJ.out).rd hjn
                have A0 := Lib.hid (fun wq (k : Ex wi wq) => Chg.cellv k p0 hxp)
                have A1 := Lib.hid (fun wq (k : Ex wi wq) => Chg.cellv k p1 hxp)
                have A2 := Lib.hid (fun wq (k : Ex wi wq) => Chg.cellv k p2 hxp)
                have A3 := Lib.hid (fun wq (k : Ex wi wq) => Chg.cellv k p3 hxp)
                have A4 := Lib.hid (fun wq (k : Ex wi wq) => Chg.cellv k p4 hxp)
                have S1y := Lib.hid s1
                have S4y := Lib.hid s4
                have HRL : Hid ((refsN N y).length ≤ 100) := Lib.hid (Nat.le_trans (refs_le N y) (by have := HN.out.len; omega))
                clear p0 p1 p2 p3 p4 hxp hy s1 s4
                by_cases hA : m1 ≤ 100
                · have e1 : (m1 : Int) ≤ 100 := by omega
                  by_cases hB : m4 ≤ 100
                  · have e2 : (m4 : Int) ≤ 100 := by omega
                    go_upto_region 16 with fail
                    refine wp_region_held_drew (S := Ex wi) (by kernel_rfl) ((Ex.refl wi).drew) (fun hHeld => ?_)
                    obtain ⟨wd, hwdx⟩ : ∃ wd : World, wd = World.drew wi := ⟨_, rfl⟩
                    rw [← hwdx] at hHeld ⊢
                    have hDrew : Ex wi wd := by rw [hwdx]; exact (Ex.refl wi).drew
                    clear hwdx
                    refine wpAnyH_take (i := 0) (oi := ⟨some 63, .move (.tmp 11), 36, "law.go:64", #[], none⟩) (v := ?_) rfl (by kernel_rfl) (by kernel_rfl) (by kernel_rfl) (fun _ _ _ h => h) (Or.inl ⟨by rfl, ?hyr1x0q5⟩) (by assumption) ?restr1x0q5
                    case hyr1x0q5 => intro wq hSw; (go_simp); (try with_reducible rfl)
                    try simp only [Act.put, List.setIfInBounds_toArray, List.set_cons_zero, List.set_cons_succ]
                    refine wpAnyH_take (i := 1) (oi := ⟨some 64, .move (.tmp 12), 3, "law.go:64", #[], none⟩) (v := ?_) rfl (by kernel_rfl) (by kernel_rfl) (by kernel_rfl) (fun _ _ _ h => h) (Or.inl ⟨by rfl, ?hyr1x1q8⟩) (by assumption) ?restr1x1q8
                    case hyr1x1q8 => intro wq hSw; (go_simp); (try with_reducible rfl)
                    try simp only [Act.put, List.setIfInBounds_toArray, List.set_cons_zero, List.set_cons_succ]
                    refine wpAnyH_take (i := 2) (oi := ⟨some 65, .indexAddr 36 (.tmp 63) (.tmp 64), 0, "law.go:64", #[⟨0, .data⟩, ⟨1, .data⟩], none⟩) (v := ?_) rfl (by kernel_rfl) (by kernel_rfl) (by kernel_rfl) (fun _ _ _ h => h) (Or.inl ⟨by rfl, ?hyr1x2q11⟩) (by assumption) ?restr1x2q11
                    case hyr1x2q11 => intro wq hSw; (go_simp); (try with_reducible rfl)
                    try simp only [Act.put, List.setIfInBounds_toArray, List.set_cons_zero, List.set_cons_succ]
                    refine wpAnyH_take (i := 3) (oi := ⟨some 66, .fieldAddr 41 (.tmp 65) 1, 0, "law.go:64", #[⟨2, .data⟩], none⟩) (v := ?_) rfl (by kernel_rfl) (by kernel_rfl) (by kernel_rfl) (fun _ _ _ h => h) (Or.inl ⟨by rfl, ?hyr1x3q14⟩) (by assumption) ?restr1x3q14
                    case hyr1x3q14 => intro wq hSw; (go_simp); (try with_reducible rfl)
                    try simp only [Act.put, List.setIfInBounds_toArray, List.set_cons_zero, List.set_cons_succ]
                    refine wpAnyH_take (i := 4) (oi := ⟨some 67, .load 22 (.tmp 66), 22, "law.go:64", #[⟨3, .data⟩], none⟩) (v := ?_) rfl (by kernel_rfl) (by kernel_rfl) (by kernel_rfl) (fun _ _ _ h => h) (Or.inl ⟨by rfl, ?hyr1x4q17⟩) (by assumption) ?restr1x4q17
                    case hyr1x4q17 => intro wq hSw; (have cq := A1.out wq hSw; go_simp); (try with_reducible rfl)
                    try simp only [Act.put, List.setIfInBounds_toArray, List.set_cons_zero, List.set_cons_succ]
                    refine wpAnyH_take (i := 5) (oi := ⟨some 68, .call { callee := .builtin .len, args := #[.tmp 67], argTypes := #[22] }, 3, "law.go:64", #[⟨4, .data⟩], none⟩) (v := ?_) rfl (by kernel_rfl) (by kernel_rfl) (by kernel_rfl) (fun _ _ _ h => h) (Or.inl ⟨by rfl, ?hyr1x5q20⟩) (by assumption) ?restr1x5q20
                    case hyr1x5q20 => intro wq hSw; (go_simp); (try with_reducible rfl)
                    try simp only [Act.put, List.setIfInBounds_toArray, List.set_cons_zero, List.set_cons_succ]
                    refine wpAnyH_take (i := 6) (oi := ⟨some 69, .binOp .leq 3 (.tmp 68) (.const (.int .i64 100)) 3, 4, "law.go:64", #[⟨5, .data⟩], none⟩) (v := ?_) rfl (by kernel_rfl) (by kernel_rfl) (by kernel_rfl) (fun _ _ _ h => h) (Or.inl ⟨by rfl, ?hyr1x6q23⟩) (by assumption) ?restr1x6q23
                    case hyr1x6q23 => intro wq hSw; (go_simp); (try with_reducible rfl)
                    try simp only [Act.put, List.setIfInBounds_toArray, List.set_cons_zero, List.set_cons_succ]
                    refine wpAnyH_take (i := 7) (oi := ⟨some 70, .move (.tmp 69), 4, "law.go:64", #[⟨6, .data⟩], none⟩) (v := ?_) rfl (by kernel_rfl) (by kernel_rfl) (by kernel_rfl) (fun _ _ _ h => h) (Or.inl ⟨by rfl, ?hyr1x7q26⟩) (by assumption) ?restr1x7q26
                    case hyr1x7q26 => intro wq hSw; (go_simp); (try with_reducible rfl)
                    try simp only [Act.put, List.setIfInBounds_toArray, List.set_cons_zero, List.set_cons_succ]
                    refine wpAnyH_take (i := 8) (oi := ⟨some 71, .move (.tmp 11), 36, "law.go:64", #[⟨7, .guard⟩], some (7, true)⟩) (v := ?_) rfl (by kernel_rfl) (by kernel_rfl) (by kernel_rfl) (fun _ _ _ h => h) (Or.inl ⟨by rfl, ?hyr1x8q29⟩) (by assumption) ?restr1x8q29
                    case hyr1x8q29 => intro wq hSw; (go_simp); (try with_reducible rfl)
                    try simp only [Act.put, List.setIfInBounds_toArray, List.set_cons_zero, List.set_cons_succ]
                    refine wpAnyH_take (i := 9) (oi := ⟨some 72, .move (.tmp 12), 3, "law.go:64", #[⟨7, .guard⟩], some (7, true)⟩) (v := ?_) rfl (by kernel_rfl) (by kernel_rfl) (by kernel_rfl) (fun _ _ _ h => h) (Or.inl ⟨by rfl, ?hyr1x9q32⟩) (by assumption) ?restr1x9q32
                    case hyr1x9q32 => intro wq hSw; (go_simp); (try with_reducible rfl)
                    try simp only [Act.put, List.setIfInBounds_toArray, List.set_cons_zero, List.set_cons_succ]
                    refine wpAnyH_take (i := 10) (oi := ⟨some 73, .indexAddr 36 (.tmp 71) (.tmp 72), 0, "law.go:64", #[⟨8, .data⟩, ⟨9, .data⟩, ⟨7, .guard⟩], some (7, true)⟩) (v := ?_) rfl (by kernel_rfl) (by kernel_rfl) (by kernel_rfl) (fun _ _ _ h => h) (Or.inl ⟨by rfl, ?hyr1x10q35⟩) (by assumption) ?restr1x10q35
                    case hyr1x10q35 => intro wq hSw; (go_simp); (try with_reducible rfl)
                    try simp only [Act.put, List.setIfInBounds_toArray, List.set_cons_zero, List.set_cons_succ]
                    refine wpAnyH_take (i := 11) (oi := ⟨some 74, .fieldAddr 41 (.tmp 73) 4, 0, "law.go:64", #[⟨10, .data⟩, ⟨7, .guard⟩], some (7, true)⟩) (v := ?_) rfl (by kernel_rfl) (by kernel_rfl) (by kernel_rfl) (fun _ _ _ h => h) (Or.inl ⟨by rfl, ?hyr1x11q38⟩) (by assumption) ?restr1x11q38
                    case hyr1x11q38 => intro wq hSw; (go_simp); (try with_reducible rfl)
                    try simp only [Act.put, List.setIfInBounds_toArray, List.set_cons_zero, List.set_cons_succ]
                    refine wpAnyH_take (i := 12) (oi := ⟨some 75, .load 39 (.tmp 74), 39, "law.go:64", #[⟨11, .data⟩, ⟨7, .guard⟩], some (7, true)⟩) (v := ?_) rfl (by kernel_rfl) (by kernel_rfl) (by kernel_rfl) (fun _ _ _ h => h) (Or.inl ⟨by rfl, ?hyr1x12q41⟩) (by assumption) ?restr1x12q41
                    case hyr1x12q41 => intro wq hSw; (have cq := A4.out wq hSw; go_simp); (try with_reducible rfl)
                    try simp only [Act.put, List.setIfInBounds_toArray, List.set_cons_zero, List.set_cons_succ]
                    refine wpAnyH_take (i := 13) (oi := ⟨some 76, .call { callee := .builtin .len, args := #[.tmp 75], argTypes := #[39] }, 3, "law.go:64", #[⟨12, .data⟩, ⟨7, .guard⟩], some (7, true)⟩) (v := ?_) rfl (by kernel_rfl) (by kernel_rfl) (by kernel_rfl) (fun _ _ _ h => h) (Or.inl ⟨by rfl, ?hyr1x13q44⟩) (by assumption) ?restr1x13q44
                    case hyr1x13q44 => intro wq hSw; (go_simp); (try with_reducible rfl)
                    try simp only [Act.put, List.setIfInBounds_toArray, List.set_cons_zero, List.set_cons_succ]
                    refine wpAnyH_take (i := 14) (oi := ⟨some 77, .binOp .leq 3 (.tmp 76) (.const (.int .i64 100)) 3, 4, "law.go:64", #[⟨13, .data⟩, ⟨7, .guard⟩], some (7, true)⟩) (v := ?_) rfl (by kernel_rfl) (by kernel_rfl) (by kernel_rfl) (fun _ _ _ h => h) (Or.inl ⟨by rfl, ?hyr1x14q47⟩) (by assumption) ?restr1x14q47
                    case hyr1x14q47 => intro wq hSw; (go_simp); (try with_reducible rfl)
                    try simp only [Act.put, List.setIfInBounds_toArray, List.set_cons_zero, List.set_cons_succ]
                    refine wpAnyH_take (i := 15) (oi := ⟨some 78, .pick (.tmp 70) (.tmp 77) (.const (.bool false)), 4, "law.go:64", #[⟨7, .data⟩, ⟨14, .data⟩], none⟩) (v := ?_) rfl (by kernel_rfl) (by kernel_rfl) (by kernel_rfl) (fun _ _ _ h => h) (Or.inl ⟨by rfl, ?hyr1x15q50⟩) (by assumption) ?restr1x15q50
                    case hyr1x15q50 => intro wq hSw; (go_simp); (try with_reducible rfl)
                    try simp only [Act.put, List.setIfInBounds_toArray, List.set_cons_zero, List.set_cons_succ]
                    refine wpAnyH_take (i := 16) (oi := ⟨some 79, .move (.tmp 78), 4, "law.go:64", #[⟨15, .data⟩, ⟨7, .chain⟩], none⟩) (v := ?_) rfl (by kernel_rfl) (by kernel_rfl) (by kernel_rfl) (fun _ _ _ h => h) (Or.inl ⟨by rfl, ?hyr1x16q53⟩) (by assumption) ?restr1x16q53
                    case hyr1x16q53 => intro wq hSw; (go_simp); (try with_reducible rfl)
                    try simp only [Act.put, List.setIfInBounds_toArray, List.set_cons_zero, List.set_cons_succ]
                    refine wpAnyH_take (i := 17) (oi := ⟨some 80, .move (.tmp 9), 23, "law.go:64", #[⟨16, .guard⟩], some (16, true)⟩) (v := ?_) rfl (by kernel_rfl) (by kernel_rfl) (by kernel_rfl) (fun _ _ _ h => h) (Or.inl ⟨by rfl, ?hyr1x17q56⟩) (by assumption) ?restr1x17q56
                    case hyr1x17q56 => intro wq hSw; (go_simp); (try with_reducible rfl)
                    try simp only [Act.put, List.setIfInBounds_toArray, List.set_cons_zero, List.set_cons_succ]
                    refine wpAnyH_take (i := 18) (oi := ⟨some 81, .move (.tmp 11), 36, "law.go:64", #[⟨16, .guard⟩], some (16, true)⟩) (v := ?_) rfl (by kernel_rfl) (by kernel_rfl) (by kernel_rfl) (fun _ _ _ h => h) (Or.inl ⟨by rfl, ?hyr1x18q59⟩) (by assumption) ?restr1x18q59
                    case hyr1x18q59 => intro wq hSw; (go_simp); (try with_reducible rfl)
                    try simp only [Act.put, List.setIfInBounds_toArray, List.set_cons_zero, List.set_cons_succ]
                    refine wpAnyH_take (i := 19) (oi := ⟨some 82, .move (.tmp 12), 3, "law.go:64", #[⟨16, .guard⟩], some (16, true)⟩) (v := ?_) rfl (by kernel_rfl) (by kernel_rfl) (by kernel_rfl) (fun _ _ _ h => h) (Or.inl ⟨by rfl, ?hyr1x19q62⟩) (by assumption) ?restr1x19q62
                    case hyr1x19q62 => intro wq hSw; (go_simp); (try with_reducible rfl)
                    try simp only [Act.put, List.setIfInBounds_toArray, List.set_cons_zero, List.set_cons_succ]
                    refine wpAnyH_take (i := 20) (oi := ⟨some 83, .indexAddr 36 (.tmp 81) (.tmp 82), 0, "law.go:64", #[⟨18, .data⟩, ⟨19, .data⟩, ⟨16, .guard⟩], some (16, true)⟩) (v := ?_) rfl (by kernel_rfl) (by kernel_rfl) (by kernel_rfl) (fun _ _ _ h => h) (Or.inl ⟨by rfl, ?hyr1x20q65⟩) (by assumption) ?restr1x20q65
                    case hyr1x20q65 => intro wq hSw; (go_simp); (try with_reducible rfl)
                    try simp only [Act.put, List.setIfInBounds_toArray, List.set_cons_zero, List.set_cons_succ]
                    refine wpAnyH_take (i := 21) (oi := ⟨some 84, .load 41 (.tmp 83), 41, "law.go:64", #[⟨20, .data⟩, ⟨16, .guard⟩], some (16, true)⟩) (v := ?_) rfl (by kernel_rfl) (by kernel_rfl) (by kernel_rfl) (fun _ _ _ h => h) (Or.inl ⟨by rfl, ?hyr1x21q68⟩) (by assumption) ?restr1x21q68
                    case hyr1x21q68 => intro wq hSw; (have q0 := A0.out wq hSw; have q1 := A1.out wq hSw; have q2 := A2.out wq hSw; have q3 := A3.out wq hSw; have q4 := A4.out wq hSw; go_simp); (try with_reducible rfl)
                    try simp only [Act.put, List.setIfInBounds_toArray, List.set_cons_zero, List.set_cons_succ]
                    refine wpAnyH_take (i := 23) (oi := ⟨some 86, .move (.tmp 9), 23, "law.go:64", #[⟨16, .guard⟩], some (16, true)⟩) (v := ?_) rfl (by kernel_rfl) (by kernel_rfl) (by kernel_rfl) (fun _ _ _ h => h) (Or.inl ⟨by rfl, ?hyr1x23q71⟩) (by assumption) ?restr1x23q71
                    case hyr1x23q71 => intro wq hSw; (go_simp); (try with_reducible rfl)
                    try simp only [Act.put, List.setIfInBounds_toArray, List.set_cons_zero, List.set_cons_succ]
                    refine wpAnyH_take (i := 24) (oi := ⟨some 87, .move (.tmp 11), 36, "law.go:64", #[⟨16, .guard⟩], some (16, true)⟩) (v := ?_) rfl (by kernel_rfl) (by kernel_rfl) (by kernel_rfl) (fun _ _ _ h => h) (Or.inl ⟨by rfl, ?hyr1x24q74⟩) (by assumption) ?restr1x24q74
                    case hyr1x24q74 => intro wq hSw; (go_simp); (try with_reducible rfl)
                    try simp only [Act.put, List.setIfInBounds_toArray, List.set_cons_zero, List.set_cons_succ]
                    refine wpAnyH_take (i := 25) (oi := ⟨some 88, .move (.tmp 12), 3, "law.go:64", #[⟨16, .guard⟩], some (16, true)⟩) (v := ?_) rfl (by kernel_rfl) (by kernel_rfl) (by kernel_rfl) (fun _ _ _ h => h) (Or.inl ⟨by rfl, ?hyr1x25q77⟩) (by assumption) ?restr1x25q77
                    case hyr1x25q77 => intro wq hSw; (go_simp); (try with_reducible rfl)
                    try simp only [Act.put, List.setIfInBounds_toArray, List.set_cons_zero, List.set_cons_succ]
                    refine wpAnyH_take (i := 26) (oi := ⟨some 89, .indexAddr 36 (.tmp 87) (.tmp 88), 0, "law.go:64", #[⟨24, .data⟩, ⟨25, .data⟩, ⟨16, .guard⟩], some (16, true)⟩) (v := ?_) rfl (by kernel_rfl) (by kernel_rfl) (by kernel_rfl) (fun _ _ _ h => h) (Or.inl ⟨by rfl, ?hyr1x26q80⟩) (by assumption) ?restr1x26q80
                    case hyr1x26q80 => intro wq hSw; (go_simp); (try with_reducible rfl)
                    try simp only [Act.put, List.setIfInBounds_toArray, List.set_cons_zero, List.set_cons_succ]
                    refine wpAnyH_take (i := 27) (oi := ⟨some 90, .load 41 (.tmp 89), 41, "law.go:64", #[⟨26, .data⟩, ⟨16, .guard⟩], some (16, true)⟩) (v := ?_) rfl (by kernel_rfl) (by kernel_rfl) (by kernel_rfl) (fun _ _ _ h => h) (Or.inl ⟨by rfl, ?hyr1x27q83⟩) (by assumption) ?restr1x27q83
                    case hyr1x27q83 => intro wq hSw; (have q0 := A0.out wq hSw; have q1 := A1.out wq hSw; have q2 := A2.out wq hSw; have q3 := A3.out wq hSw; have q4 := A4.out wq hSw; go_simp); (try with_reducible rfl)
                    try simp only [Act.put, List.setIfInBounds_toArray, List.set_cons_zero, List.set_cons_succ]
                    refine wpAnyH_ready (rs := [22]) (by kernel_rfl) (by simp) ?_
                    refine AllReadyH.cons (o := ⟨some 85, .call { callee := .value (.func 25), args := #[.tmp 80, .tmp 84], argTypes := #[23, 41] }, 22, "law.go:64", #[⟨17, .data⟩, ⟨21, .data⟩, ⟨16, .chain⟩, ⟨16, .guard⟩], some (16, true)⟩) rfl (fun K hK => ?_) AllReadyH.nil
                    go_simp
                    (with_reducible refine (refs_p _ _ _ N y _ _ _ _ _ _ _ (HN.out.nx (KJ.out.nx hHeld)) (by omega) hc hm (S1y.out.nx hHeld) (S4y.out.nx hHeld) (by omega) (by omega)).mono ?_)
                    rintro e wb ⟨v, rfl, own, kk⟩
                    obtain ⟨aR, cR, rfl, R1, _, _, _⟩ := own.slf (fun _ => rfl)
                    have R1 := Lib.hid R1.sl
                    replace hHeld := hHeld.nx kk
                    clear kk own
                    refine hK.out _ _ (hHeld) (fun hHeld => ?_)
                    clear hK K
                    try simp only [Act.put, List.setIfInBounds_toArray, List.set_cons_zero, List.set_cons_succ]
                    refine wpAnyH_ready (rs := [28]) (by kernel_rfl) (by simp) ?_
                    refine AllReadyH.cons (o := ⟨some 91, .call { callee := .value (.func 26), args := #[.tmp 86, .tmp 90], argTypes := #[23, 41] }, 22, "law.go:64", #[⟨23, .data⟩, ⟨27, .data⟩, ⟨22, .chain⟩, ⟨16, .guard⟩], some (16, true)⟩) rfl (fun K hK => ?_) AllReadyH.nil
                    go_simp
                    (with_reducible refine (refs_q _ _ _ N y _ _ _ _ _ _ _ (HN.out.nx (KJ.out.nx hHeld)) (by omega) (S1y.out.nx hHeld) (S4y.out.nx hHeld) (by omega) (by omega)).mono ?_)
                    rintro e wc ⟨v, rfl, own, kk⟩
                    obtain ⟨aS, cS, rfl, R2, _, _, _⟩ := own.slf (fun _ => rfl)
                    have R2 := Lib.hid R2.sl
                    replace R1 := Lib.hid (R1.out.nx kk)
                    replace hHeld := hHeld.nx kk
                    clear kk own
                    refine hK.out _ _ (hHeld) (fun hHeld => ?_)
                    clear hK K
                    try simp only [Act.put, List.setIfInBounds_toArray, List.set_cons_zero, List.set_cons_succ]
                    refine wpAnyH_ready (rs := [29]) (by kernel_rfl) (by simp) ?_
                    refine AllReadyH.cons (o := ⟨some 92, .call { callee := .value (.func 24), args := #[.tmp 85, .tmp 91], argTypes := #[22, 22] }, 4, "law.go:64", #[⟨22, .data⟩, ⟨28, .data⟩, ⟨28, .chain⟩, ⟨16, .guard⟩], some (16, true)⟩) rfl (fun K hK => ?_) AllReadyH.nil
                    go_simp
                    (with_reducible refine (sameints_x _ _ _ _ _ (refsN N y) _ R1.out R2.out (by have := HRL.out; omega)).mono ?_)
                    rintro e we ⟨rfl, kk⟩
                    replace hHeld := hHeld.nx kk
                    clear kk R1 R2
                    refine hK.out _ _ (hHeld) (fun hHeld => ?_)
                    clear hK K
                    try simp only [Act.put, List.setIfInBounds_toArray, List.set_cons_zero, List.set_cons_succ]
                    refine wpAnyH_take (i := 30) (oi := ⟨some 93, .unOp .not 4 (.tmp 92), 4, "law.go:64", #[⟨29, .data⟩, ⟨16, .guard⟩], some (16, true)⟩) (v := ?_) rfl (by kernel_rfl) (by kernel_rfl) (by kernel_rfl) (fun _ _ _ h => h) (Or.inl ⟨by rfl, ?hyr1x30q121⟩) (by assumption) ?restr1x30q121
                    case hyr1x30q121 => intro wq hSw; (go_simp); (try with_reducible rfl)
                    try simp only [Act.put, List.setIfInBounds_toArray, List.set_cons_zero, List.set_cons_succ]
                    refine wpAnyH_take (i := 31) (oi := ⟨some 94, .pick (.tmp 79) (.tmp 93) (.const (.bool false)), 4, "law.go:64", #[⟨16, .data⟩, ⟨30, .data⟩], none⟩) (v := ?_) rfl (by kernel_rfl) (by kernel_rfl) (by kernel_rfl) (fun _ _ _ h => h) (Or.inl ⟨by rfl, ?hyr1x31q124⟩) (by assumption) ?restr1x31q124
                    case hyr1x31q124 => intro wq hSw; (go_simp); (try with_reducible rfl)
                    try simp only [Act.put, List.setIfInBounds_toArray, List.set_cons_zero, List.set_cons_succ]
                    refine wpAnyH_done (by kernel_rfl) ?_ _
                    have RR := Lib.hid (show KtRel n' x6 (.int .i64 ((j : Int) + 1)) we from ⟨j + 1, by omega, by go_num, KJ.out.nx hHeld⟩)
                    clear hHeld
                    go_wp2_with fail
                    exact ⟨RR.out, by simp [intOf]; omega⟩
                  · have e2 : ¬ (m4 : Int) ≤ 100 := by omega
                    go_upto_region 16 with fail
                    refine wp_region_held_drew (S := Ex wi) (by kernel_rfl) ((Ex.refl wi).drew) (fun hHeld => ?_)
                    obtain ⟨wd, hwdx⟩ : ∃ wd : World, wd = World.drew wi := ⟨_, rfl⟩
                    rw [← hwdx] at hHeld ⊢
                    have hDrew : Ex wi wd := by rw [hwdx]; exact (Ex.refl wi).drew
                    clear hwdx
                    refine wpAnyH_take (i := 0) (oi := ⟨some 63, .move (.tmp 11), 36, "law.go:64", #[], none⟩) (v := ?_) rfl (by kernel_rfl) (by kernel_rfl) (by kernel_rfl) (fun _ _ _ h => h) (Or.inl ⟨by rfl, ?hyr2x0q5⟩) (by assumption) ?restr2x0q5
                    case hyr2x0q5 => intro wq hSw; (go_simp); (try with_reducible rfl)
                    try simp only [Act.put, List.setIfInBounds_toArray, List.set_cons_zero, List.set_cons_succ]
                    refine wpAnyH_take (i := 1) (oi := ⟨some 64, .move (.tmp 12), 3, "law.go:64", #[], none⟩) (v := ?_) rfl (by kernel_rfl) (by kernel_rfl) (by kernel_rfl) (fun _ _ _ h => h) (Or.inl ⟨by rfl, ?hyr2x1q8⟩) (by assumption) ?restr2x1q8
                    case hyr2x1q8 => intro wq hSw; (go_simp); (try with_reducible rfl)
                    try simp only [Act.put, List.setIfInBounds_toArray, List.set_cons_zero, List.set_cons_succ]
                    refine wpAnyH_take (i := 2) (oi := ⟨some 65, .indexAddr 36 (.tmp 63) (.tmp 64), 0, "law.go:64", #[⟨0, .data⟩, ⟨1, .data⟩], none⟩) (v := ?_) rfl (by kernel_rfl) (by kernel_rfl) (by kernel_rfl) (fun _ _ _ h => h) (Or.inl ⟨by rfl, ?hyr2x2q11⟩) (by assumption) ?restr2x2q11
                    case hyr2x2q11 => intro wq hSw; (go_simp); (try with_reducible rfl)
                    try simp only [Act.put, List.setIfInBounds_toArray, List.set_cons_zero, List.set_cons_succ]
                    refine wpAnyH_take (i := 3) (oi := ⟨some 66, .fieldAddr 41 (.tmp 65) 1, 0, "law.go:64", #[⟨2, .data⟩], none⟩) (v := ?_) rfl (by kernel_rfl) (by kernel_rfl) (by kernel_rfl) (fun _ _ _ h => h) (Or.inl ⟨by rfl, ?hyr2x3q14⟩) (by assumption) ?restr2x3q14
                    case hyr2x3q14 => intro wq hSw; (go_simp); (try with_reducible rfl)
                    try simp only [Act.put, List.setIfInBounds_toArray, List.set_cons_zero, List.set_cons_succ]
                    refine wpAnyH_take (i := 4) (oi := ⟨some 67, .load 22 (.tmp 66), 22, "law.go:64", #[⟨3, .data⟩], none⟩) (v := ?_) rfl (by kernel_rfl) (by kernel_rfl) (by kernel_rfl) (fun _ _ _ h => h) (Or.inl ⟨by rfl, ?hyr2x4q17⟩) (by assumption) ?restr2x4q17
                    case hyr2x4q17 => intro wq hSw; (have cq := A1.out wq hSw; go_simp); (try with_reducible rfl)
                    try simp only [Act.put, List.setIfInBounds_toArray, List.set_cons_zero, List.set_cons_succ]
                    refine wpAnyH_take (i := 5) (oi := ⟨some 68, .call { callee := .builtin .len, args := #[.tmp 67], argTypes := #[22] }, 3, "law.go:64", #[⟨4, .data⟩], none⟩) (v := ?_) rfl (by kernel_rfl) (by kernel_rfl) (by kernel_rfl) (fun _ _ _ h => h) (Or.inl ⟨by rfl, ?hyr2x5q20⟩) (by assumption) ?restr2x5q20
                    case hyr2x5q20 => intro wq hSw; (go_simp); (try with_reducible rfl)
                    try simp only [Act.put, List.setIfInBounds_toArray, List.set_cons_zero, List.set_cons_succ]
                    refine wpAnyH_take (i := 6) (oi := ⟨some 69, .binOp .leq 3 (.tmp 68) (.const (.int .i64 100)) 3, 4, "law.go:64", #[⟨5, .data⟩], none⟩) (v := ?_) rfl (by kernel_rfl) (by kernel_rfl) (by kernel_rfl) (fun _ _ _ h => h) (Or.inl ⟨by rfl, ?hyr2x6q23⟩) (by assumption) ?restr2x6q23
                    case hyr2x6q23 => intro wq hSw; (go_simp); (try with_reducible rfl)
                    try simp only [Act.put, List.setIfInBounds_toArray, List.set_cons_zero, List.set_cons_succ]
                    refine wpAnyH_take (i := 7) (oi := ⟨some 70, .move (.tmp 69), 4, "law.go:64", #[⟨6, .data⟩], none⟩) (v := ?_) rfl (by kernel_rfl) (by kernel_rfl) (by kernel_rfl) (fun _ _ _ h => h) (Or.inl ⟨by rfl, ?hyr2x7q26⟩) (by assumption) ?restr2x7q26
                    case hyr2x7q26 => intro wq hSw; (go_simp); (try with_reducible rfl)
                    try simp only [Act.put, List.setIfInBounds_toArray, List.set_cons_zero, List.set_cons_succ]
                    refine wpAnyH_take (i := 8) (oi := ⟨some 71, .move (.tmp 11), 36, "law.go:64", #[⟨7, .guard⟩], some (7, true)⟩) (v := ?_) rfl (by kernel_rfl) (by kernel_rfl) (by kernel_rfl) (fun _ _ _ h => h) (Or.inl ⟨by rfl, ?hyr2x8q29⟩) (by assumption) ?restr2x8q29
                    case hyr2x8q29 => intro wq hSw; (go_simp); (try with_reducible rfl)
                    try simp only [Act.put, List.setIfInBounds_toArray, List.set_cons_zero, List.set_cons_succ]
                    refine wpAnyH_take (i := 9) (oi := ⟨some 72, .move (.tmp 12), 3, "law.go:64", #[⟨7, .guard⟩], some (7, true)⟩) (v := ?_) rfl (by kernel_rfl) (by kernel_rfl) (by kernel_rfl) (fun _ _ _ h => h) (Or.inl ⟨by rfl, ?hyr2x9q32⟩) (by assumption) ?restr2x9q32
                    case hyr2x9q32 => intro wq hSw; (go_simp); (try with_reducible rfl)
                    try simp only [Act.put, List.setIfInBounds_toArray, List.set_cons_zero, List.set_cons_succ]
                    refine wpAnyH_take (i := 10) (oi := ⟨some 73, .indexAddr 36 (.tmp 71) (.tmp 72), 0, "law.go:64", #[⟨8, .data⟩, ⟨9, .data⟩, ⟨7, .guard⟩], some (7, true)⟩) (v := ?_) rfl (by kernel_rfl) (by kernel_rfl) (by kernel_rfl) (fun _ _ _ h => h) (Or.inl ⟨by rfl, ?hyr2x10q35⟩) (by assumption) ?restr2x10q35
                    case hyr2x10q35 => intro wq hSw; (go_simp); (try with_reducible rfl)
                    try simp only [Act.put, List.setIfInBounds_toArray, List.set_cons_zero, List.set_cons_succ]
                    refine wpAnyH_take (i := 11) (oi := ⟨some 74, .fieldAddr 41 (.tmp 73) 4, 0, "law.go:64", #[⟨10, .data⟩, ⟨7, .guard⟩], some (7, true)⟩) (v := ?_) rfl (by kernel_rfl) (by kernel_rfl) (by kernel_rfl) (fun _ _ _ h => h) (Or.inl ⟨by rfl, ?hyr2x11q38⟩) (by assumption) ?restr2x11q38
                    case hyr2x11q38 => intro wq hSw; (go_simp); (try with_reducible rfl)
                    try simp only [Act.put, List.setIfInBounds_toArray, List.set_cons_zero, List.set_cons_succ]
                    refine wpAnyH_take (i := 12) (oi := ⟨some 75, .load 39 (.tmp 74), 39, "law.go:64", #[⟨11, .data⟩, ⟨7, .guard⟩], some (7, true)⟩) (v := ?_) rfl (by kernel_rfl) (by kernel_rfl) (by kernel_rfl) (fun _ _ _ h => h) (Or.inl ⟨by rfl, ?hyr2x12q41⟩) (by assumption) ?restr2x12q41
                    case hyr2x12q41 => intro wq hSw; (have cq := A4.out wq hSw; go_simp); (try with_reducible rfl)
                    try simp only [Act.put, List.setIfInBounds_toArray, List.set_cons_zero, List.set_cons_succ]
                    refine wpAnyH_take (i := 13) (oi := ⟨some 76, .call { callee := .builtin .len, args := #[.tmp 75], argTypes := #[39] }, 3, "law.go:64", #[⟨12, .data⟩, ⟨7, .guard⟩], some (7, true)⟩) (v := ?_) rfl (by kernel_rfl) (by kernel_rfl) (by kernel_rfl) (fun _ _ _ h => h) (Or.inl ⟨by rfl, ?hyr2x13q44⟩) (by assumption) ?restr2x13q44
                    case hyr2x13q44 => intro wq hSw; (go_simp); (try with_reducible rfl)
                    try simp only [Act.put, List.setIfInBounds_toArray, List.set_cons_zero, List.set_cons_succ]
                    refine wpAnyH_take (i := 14) (oi := ⟨some 77, .binOp .leq 3 (.tmp 76) (.const (.int .i64 100)) 3, 4, "law.go:64", #[⟨13, .data⟩, ⟨7, .guard⟩], some (7, true)⟩) (v := ?_) rfl (by kernel_rfl) (by kernel_rfl) (by kernel_rfl) (fun _ _ _ h => h) (Or.inl ⟨by rfl, ?hyr2x14q47⟩) (by assumption) ?restr2x14q47
                    case hyr2x14q47 => intro wq hSw; (go_simp); (try with_reducible rfl)
                    try simp only [Act.put, List.setIfInBounds_toArray, List.set_cons_zero, List.set_cons_succ]
                    refine wpAnyH_take (i := 15) (oi := ⟨some 78, .pick (.tmp 70) (.tmp 77) (.const (.bool false)), 4, "law.go:64", #[⟨7, .data⟩, ⟨14, .data⟩], none⟩) (v := ?_) rfl (by kernel_rfl) (by kernel_rfl) (by kernel_rfl) (fun _ _ _ h => h) (Or.inl ⟨by rfl, ?hyr2x15q50⟩) (by assumption) ?restr2x15q50
                    case hyr2x15q50 => intro wq hSw; (go_simp); (try with_reducible rfl)
                    try simp only [Act.put, List.setIfInBounds_toArray, List.set_cons_zero, List.set_cons_succ]
                    refine wpAnyH_take (i := 16) (oi := ⟨some 79, .move (.tmp 78), 4, "law.go:64", #[⟨15, .data⟩, ⟨7, .chain⟩], none⟩) (v := ?_) rfl (by kernel_rfl) (by kernel_rfl) (by kernel_rfl) (fun _ _ _ h => h) (Or.inl ⟨by rfl, ?hyr2x16q53⟩) (by assumption) ?restr2x16q53
                    case hyr2x16q53 => intro wq hSw; (go_simp); (try with_reducible rfl)
                    try simp only [Act.put, List.setIfInBounds_toArray, List.set_cons_zero, List.set_cons_succ]
                    refine wpAnyH_take (i := 17) (oi := ⟨some 80, .move (.tmp 9), 23, "law.go:64", #[⟨16, .guard⟩], some (16, true)⟩) (v := undef) rfl (by kernel_rfl) (by kernel_rfl) (by kernel_rfl) (fun _ _ _ h => h) (Or.inr ⟨by rfl, rfl⟩) (by assumption) ?_
                    try simp only [Act.put, List.setIfInBounds_toArray, List.set_cons_zero, List.set_cons_succ]
                    refine wpAnyH_take (i := 18) (oi := ⟨some 81, .move (.tmp 11), 36, "law.go:64", #[⟨16, .guard⟩], some (16, true)⟩) (v := undef) rfl (by kernel_rfl) (by kernel_rfl) (by kernel_rfl) (fun _ _ _ h => h) (Or.inr ⟨by rfl, rfl⟩) (by assumption) ?_
                    try simp only [Act.put, List.setIfInBounds_toArray, List.set_cons_zero, List.set_cons_succ]
                    refine wpAnyH_take (i := 19) (oi := ⟨some 82, .move (.tmp 12), 3, "law.go:64", #[⟨16, .guard⟩], some (16, true)⟩) (v := undef) rfl (by kernel_rfl) (by kernel_rfl) (by kernel_rfl) (fun _ _ _ h => h) (Or.inr ⟨by rfl, rfl⟩) (by assumption) ?_
                    try simp only [Act.put, List.setIfInBounds_toArray, List.set_cons_zero, List.set_cons_succ]
                    refine wpAnyH_take (i := 20) (oi := ⟨some 83, .indexAddr 36 (.tmp 81) (.tmp 82), 0, "law.go:64", #[⟨18, .data⟩, ⟨19, .data⟩, ⟨16, .guard⟩], some (16, true)⟩) (v := undef) rfl (by kernel_rfl) (by kernel_rfl) (by kernel_rfl) (fun _ _ _ h => h) (Or.inr ⟨by rfl, rfl⟩) (by assumption) ?_
                    try simp only [Act.put, List.setIfInBounds_toArray, List.set_cons_zero, List.set_cons_succ]
                    refine wpAnyH_take (i := 21) (oi := ⟨some 84, .load 41 (.tmp 83), 41, "law.go:64", #[⟨20, .data⟩, ⟨16, .guard⟩], some (16, true)⟩) (v := undef) rfl (by kernel_rfl) (by kernel_rfl) (by kernel_rfl) (fun _ _ _ h => h) (Or.inr ⟨by rfl, rfl⟩) (by assumption) ?_
                    try simp only [Act.put, List.setIfInBounds_toArray, List.set_cons_zero, List.set_cons_succ]
                    refine wpAnyH_take (i := 22) (oi := ⟨some 85, .call { callee := .value (.func 25), args := #[.tmp 80, .tmp 84], argTypes := #[23, 41] }, 22, "law.go:64", #[⟨17, .data⟩, ⟨21, .data⟩, ⟨16, .chain⟩, ⟨16, .guard⟩], some (16, true)⟩) (v := undef) rfl (by kernel_rfl) (by kernel_rfl) (by kernel_rfl) (fun _ _ _ h => h) (Or.inr ⟨by rfl, rfl⟩) (by assumption) ?_
                    try simp only [Act.put, List.setIfInBounds_toArray, List.set_cons_zero, List.set_cons_succ]
                    refine wpAnyH_take (i := 23) (oi := ⟨some 86, .move (.tmp 9), 23, "law.go:64", #[⟨16, .guard⟩], some (16, true)⟩) (v := undef) rfl (by kernel_rfl) (by kernel_rfl) (by kernel_rfl) (fun _ _ _ h => h) (Or.inr ⟨by rfl, rfl⟩) (by assumption) ?_
                    try simp only [Act.put, List.setIfInBounds_toArray, List.set_cons_zero, List.set_cons_succ]
                    refine wpAnyH_take (i := 24) (oi := ⟨some 87, .move (.tmp 11), 36, "law.go:64", #[⟨16, .guard⟩], some (16, true)⟩) (v := undef) rfl (by kernel_rfl) (by kernel_rfl) (by kernel_rfl) (fun _ _ _ h => h) (Or.inr ⟨by rfl, rfl⟩) (by assumption) ?_
                    try simp only [Act.put, List.setIfInBounds_toArray, List.set_cons_zero, List.set_cons_succ]
                    refine wpAnyH_take (i := 25) (oi := ⟨some 88, .move (.tmp 12), 3, "law.go:64", #[⟨16, .guard⟩], some (16, true)⟩) (v := undef) rfl (by kernel_rfl) (by kernel_rfl) (by kernel_rfl) (fun _ _ _ h => h) (Or.inr ⟨by rfl, rfl⟩) (by assumption) ?_
                    try simp only [Act.put, List.setIfInBounds_toArray, List.set_cons_zero, List.set_cons_succ]
                    refine wpAnyH_take (i := 26) (oi := ⟨some 89, .indexAddr 36 (.tmp 87) (.tmp 88), 0, "law.go:64", #[⟨24, .data⟩, ⟨25, .data⟩, ⟨16, .guard⟩], some (16, true)⟩) (v := undef) rfl (by kernel_rfl) (by kernel_rfl) (by kernel_rfl) (fun _ _ _ h => h) (Or.inr ⟨by rfl, rfl⟩) (by assumption) ?_
                    try simp only [Act.put, List.setIfInBounds_toArray, List.set_cons_zero, List.set_cons_succ]
                    refine wpAnyH_take (i := 27) (oi := ⟨some 90, .load 41 (.tmp 89), 41, "law.go:64", #[⟨26, .data⟩, ⟨16, .guard⟩], some (16, true)⟩) (v := undef) rfl (by kernel_rfl) (by kernel_rfl) (by kernel_rfl) (fun _ _ _ h => h) (Or.inr ⟨by rfl, rfl⟩) (by assumption) ?_
                    try simp only [Act.put, List.setIfInBounds_toArray, List.set_cons_zero, List.set_cons_succ]
                    refine wpAnyH_take (i := 28) (oi := ⟨some 91, .call { callee := .value (.func 26), args := #[.tmp 86, .tmp 90], argTypes := #[23, 41] }, 22, "law.go:64", #[⟨23, .data⟩, ⟨27, .data⟩, ⟨22, .chain⟩, ⟨16, .guard⟩], some (16, true)⟩) (v := undef) rfl (by kernel_rfl) (by kernel_rfl) (by kernel_rfl) (fun _ _ _ h => h) (Or.inr ⟨by rfl, rfl⟩) (by assumption) ?_
                    try simp only [Act.put, List.setIfInBounds_toArray, List.set_cons_zero, List.set_cons_succ]
                    refine wpAnyH_take (i := 29) (oi := ⟨some 92, .call { callee := .value (.func 24), args := #[.tmp 85, .tmp 91], argTypes := #[22, 22] }, 4, "law.go:64", #[⟨22, .data⟩, ⟨28, .data⟩, ⟨28, .chain⟩, ⟨16, .guard⟩], some (16, true)⟩) (v := undef) rfl (by kernel_rfl) (by kernel_rfl) (by kernel_rfl) (fun _ _ _ h => h) (Or.inr ⟨by rfl, rfl⟩) (by assumption) ?_
                    try simp only [Act.put, List.setIfInBounds_toArray, List.set_cons_zero, List.set_cons_succ]
                    refine wpAnyH_take (i := 30) (oi := ⟨some 93, .unOp .not 4 (.tmp 92), 4, "law.go:64", #[⟨29, .data⟩, ⟨16, .guard⟩], some (16, true)⟩) (v := undef) rfl (by kernel_rfl) (by kernel_rfl) (by kernel_rfl) (fun _ _ _ h => h) (Or.inr ⟨by rfl, rfl⟩) (by assumption) ?_
                    try simp only [Act.put, List.setIfInBounds_toArray, List.set_cons_zero, List.set_cons_succ]
                    refine wpAnyH_take (i := 31) (oi := ⟨some 94, .pick (.tmp 79) (.tmp 93) (.const (.bool false)), 4, "law.go:64", #[⟨16, .data⟩, ⟨30, .data⟩], none⟩) (v := ?_) rfl (by kernel_rfl) (by kernel_rfl) (by kernel_rfl) (fun _ _ _ h => h) (Or.inl ⟨by rfl, ?hyr2x31q84⟩) (by assumption) ?restr2x31q84
                    case hyr2x31q84 => intro wq hSw; (go_simp); (try with_reducible rfl)
                    try simp only [Act.put, List.setIfInBounds_toArray, List.set_cons_zero, List.set_cons_succ]
                    refine wpAnyH_done (by kernel_rfl) ?_ _
                    have RR := Lib.hid (show KtRel n' x6 (.int .i64 ((j : Int) + 1)) wd from ⟨j + 1, by omega, by go_num, KJ.out.nx hHeld⟩)
                    clear hHeld
                    go_wp2_with fail
                    exact ⟨RR.out, by simp [intOf]; omega⟩
                · have e1 : ¬ (m1 : Int) ≤ 100 := by omega
                  go_upto_region 16 with fail
                  refine wp_region_held_drew (S := Ex wi) (by kernel_rfl) ((Ex.refl wi).drew) (fun hHeld => ?_)
                  obtain ⟨wd, hwdx⟩ : ∃ wd : World, wd = World.drew wi := ⟨_, rfl⟩
                  rw [← hwdx] at hHeld ⊢
                  have hDrew : Ex wi wd := by rw [hwdx]; exact (Ex.refl wi).drew
                  clear hwdx
                  refine wpAnyH_take (i := 0) (oi := ⟨some 63, .move (.tmp 11), 36, "law.go:64", #[], none⟩) (v := ?_) rfl (by kernel_rfl) (by kernel_rfl) (by kernel_rfl) (fun _ _ _ h => h) (Or.inl ⟨by rfl, ?hyr3x0q5⟩) (by assumption) ?restr3x0q5
                  case hyr3x0q5 => intro wq hSw; (go_simp); (try with_reducible rfl)
                  try simp only [Act.put, List.setIfInBounds_toArray, List.set_cons_zero, List.set_cons_succ]
                  refine wpAnyH_take (i := 1) (oi := ⟨some 64, .move (.tmp 12), 3, "law.go:64", #[], none⟩) (v := ?_) rfl (by kernel_rfl) (by kernel_rfl) (by kernel_rfl) (fun _ _ _ h => h) (Or.inl ⟨by rfl, ?hyr3x1q8⟩) (by assumption) ?restr3x1q8
                  case hyr3x1q8 => intro wq hSw; (go_simp); (try with_reducible rfl)
                  try simp only [Act.put, List.setIfInBounds_toArray, List.set_cons_zero, List.set_cons_succ]
                  refine wpAnyH_take (i := 2) (oi := ⟨some 65, .indexAddr 36 (.tmp 63) (.tmp 64), 0, "law.go:64", #[⟨0, .data⟩, ⟨1, .data⟩], none⟩) (v := ?_) rfl (by kernel_rfl) (by kernel_rfl) (by kernel_rfl) (fun _ _ _ h => h) (Or.inl ⟨by rfl, ?hyr3x2q11⟩) (by assumption) ?restr3x2q11
                  case hyr3x2q11 => intro wq hSw; (go_simp); (try with_reducible rfl)
                  try simp only [Act.put, List.setIfInBounds_toArray, List.set_cons_zero, List.set_cons_succ]
                  refine wpAnyH_take (i := 3) (oi := ⟨some 66, .fieldAddr 41 (.tmp 65) 1, 0, "law.go:64", #[⟨2, .data⟩], none⟩) (v := ?_) rfl (by kernel_rfl) (by kernel_rfl) (by kernel_rfl) (fun _ _ _ h => h) (Or.inl ⟨by rfl, ?hyr3x3q14⟩) (by assumption) ?restr3x3q14
                  case hyr3x3q14 => intro wq hSw; (go_simp); (try with_reducible rfl)
                  try simp only [Act.put, List.setIfInBounds_toArray, List.set_cons_zero, List.set_cons_succ]
                  refine wpAnyH_take (i := 4) (oi := ⟨some 67, .load 22 (.tmp 66), 22, "law.go:64", #[⟨3, .data⟩], none⟩) (v := ?_) rfl (by kernel_rfl) (by kernel_rfl) (by kernel_rfl) (fun _ _ _ h => h) (Or.inl ⟨by rfl, ?hyr3x4q17⟩) (by assumption) ?restr3x4q17
                  case hyr3x4q17 => intro wq hSw; (have cq := A1.out wq hSw; go_simp); (try with_reducible rfl)
                  try simp only [Act.put, List.setIfInBounds_toArray, List.set_cons_zero, List.set_cons_succ]
                  refine wpAnyH_take (i := 5) (oi := ⟨some 68, .call { callee := .builtin .len, args := #[.tmp 67], argTypes := #[22] }, 3, "law.go:64", #[⟨4, .data⟩], none⟩) (v := ?_) rfl (by kernel_rfl) (by kernel_rfl) (by kernel_rfl) (fun _ _ _ h => h) (Or.inl ⟨by rfl, ?hyr3x5q20⟩) (by assumption) ?restr3x5q20
                  case hyr3x5q20 => intro wq hSw; (go_simp); (try with_reducible rfl)
                  try simp only [Act.put, List.setIfInBounds_toArray, List.set_cons_zero, List.set_cons_succ]
                  refine wpAnyH_take (i := 6) (oi := ⟨some 69, .binOp .leq 3 (.tmp 68) (.const (.int .i64 100)) 3, 4, "law.go:64", #[⟨5, .data⟩], none⟩) (v := ?_) rfl (by kernel_rfl) (by kernel_rfl) (by kernel_rfl) (fun _ _ _ h => h) (Or.inl ⟨by rfl, ?hyr3x6q23⟩) (by assumption) ?restr3x6q23
                  case hyr3x6q23 => intro wq hSw; (go_simp); (try with_reducible rfl)
                  try simp only [Act.put, List.setIfInBounds_toArray, List.set_cons_zero, List.set_cons_succ]
                  refine wpAnyH_take (i := 7) (oi := ⟨some 70, .move (.tmp 69), 4, "law.go:64", #[⟨6, .data⟩], none⟩) (v := ?_) rfl (by kernel_rfl) (by kernel_rfl) (by kernel_rfl) (fun _ _ _ h => h) (Or.inl ⟨by rfl, ?hyr3x7q26⟩) (by assumption) ?restr3x7q26
                  case hyr3x7q26 => intro wq hSw; (go_simp); (try with_reducible rfl)
                  try simp only [Act.put, List.setIfInBounds_toArray, List.set_cons_zero, List.set_cons_succ]
                  refine wpAnyH_take (i := 8) (oi := ⟨some 71, .move (.tmp 11), 36, "law.go:64", #[⟨7, .guard⟩], some (7, true)⟩) (v := undef) rfl (by kernel_rfl) (by kernel_rfl) (by kernel_rfl) (fun _ _ _ h => h) (Or.inr ⟨by rfl, rfl⟩) (by assumption) ?_
                  try simp only [Act.put, List.setIfInBounds_toArray, List.set_cons_zero, List.set_cons_succ]
                  refine wpAnyH_take (i := 9) (oi := ⟨some 72, .move (.tmp 12), 3, "law.go:64", #[⟨7, .guard⟩], some (7, true)⟩) (v := undef) rfl (by kernel_rfl) (by kernel_rfl) (by kernel_rfl) (fun _ _ _ h => h) (Or.inr ⟨by rfl, rfl⟩) (by assumption) ?_
                  try simp only [Act.put, List.setIfInBounds_toArray, List.set_cons_zero, List.set_cons_succ]
                  refine wpAnyH_take (i := 10) (oi := ⟨some 73, .indexAddr 36 (.tmp 71) (.tmp 72), 0, "law.go:64", #[⟨8, .data⟩, ⟨9, .data⟩, ⟨7, .guard⟩], some (7, true)⟩) (v := undef) rfl (by kernel_rfl) (by kernel_rfl) (by kernel_rfl) (fun _ _ _ h => h) (Or.inr ⟨by rfl, rfl⟩) (by assumption) ?_
                  try simp only [Act.put, List.setIfInBounds_toArray, List.set_cons_zero, List.set_cons_succ]
                  refine wpAnyH_take (i := 11) (oi := ⟨some 74, .fieldAddr 41 (.tmp 73) 4, 0, "law.go:64", #[⟨10, .data⟩, ⟨7, .guard⟩], some (7, true)⟩) (v := undef) rfl (by kernel_rfl) (by kernel_rfl) (by kernel_rfl) (fun _ _ _ h => h) (Or.inr ⟨by rfl, rfl⟩) (by assumption) ?_
                  try simp only [Act.put, List.setIfInBounds_toArray, List.set_cons_zero, List.set_cons_succ]
                  refine wpAnyH_take (i := 12) (oi := ⟨some 75, .load 39 (.tmp 74), 39, "law.go:64", #[⟨11, .data⟩, ⟨7, .guard⟩], some (7, true)⟩) (v := undef) rfl (by kernel_rfl) (by kernel_rfl) (by kernel_rfl) (fun _ _ _ h => h) (Or.inr ⟨by rfl, rfl⟩) (by assumption) ?_
                  try simp only [Act.put, List.setIfInBounds_toArray, List.set_cons_zero, List.set_cons_succ]
                  refine wpAnyH_take (i := 13) (oi := ⟨some 76, .call { callee := .builtin .len, args := #[.tmp 75], argTypes := #[39] }, 3, "law.go:64", #[⟨12, .data⟩, ⟨7, .guard⟩], some (7, true)⟩) (v := undef) rfl (by kernel_rfl) (by kernel_rfl) (by kernel_rfl) (fun _ _ _ h => h) (Or.inr ⟨by rfl, rfl⟩) (by assumption) ?_
                  try simp only [Act.put, List.setIfInBounds_toArray, List.set_cons_zero, List.set_cons_succ]
                  refine wpAnyH_take (i := 14) (oi := ⟨some 77, .binOp .leq 3 (.tmp 76) (.const (.int .i64 100)) 3, 4, "law.go:64", #[⟨13, .data⟩, ⟨7, .guard⟩], some (7, true)⟩) (v := undef) rfl (by kernel_rfl) (by kernel_rfl) (by kernel_rfl) (fun _ _ _ h => h) (Or.inr ⟨by rfl, rfl⟩) (by assumption) ?_
                  try simp only [Act.put, List.setIfInBounds_toArray, List.set_cons_zero, List.set_cons_succ]
                  refine wpAnyH_take (i := 15) (oi := ⟨some 78, .pick (.tmp 70) (.tmp 77) (.const (.bool false)), 4, "law.go:64", #[⟨7, .data⟩, ⟨14, .data⟩], none⟩) (v := ?_) rfl (by kernel_rfl) (by kernel_rfl) (by kernel_rfl) (fun _ _ _ h => h) (Or.inl ⟨by rfl, ?hyr3x15q43⟩) (by assumption) ?restr3x15q43
                  case hyr3x15q43 => intro wq hSw; (go_simp); (try with_reducible rfl)
                  try simp only [Act.put, List.setIfInBounds_toArray, List.set_cons_zero, List.set_cons_succ]
                  refine wpAnyH_take (i := 16) (oi := ⟨some 79, .move (.tmp 78), 4, "law.go:64", #[⟨15, .data⟩, ⟨7, .chain⟩], none⟩) (v := ?_) rfl (by kernel_rfl) (by kernel_rfl) (by kernel_rfl) (fun _ _ _ h => h) (Or.inl ⟨by rfl, ?hyr3x16q46⟩) (by assumption) ?restr3x16q46
                  case hyr3x16q46 => intro wq hSw; (go_simp); (try with_reducible rfl)
                  try simp only [Act.put, List.setIfInBounds_toArray, List.set_cons_zero, List.set_cons_succ]
                  refine wpAnyH_take (i := 17) (oi := ⟨some 80, .move (.tmp 9), 23, "law.go:64", #[⟨16, .guard⟩], some (16, true)⟩) (v := undef) rfl (by kernel_rfl) (by kernel_rfl) (by kernel_rfl) (fun _ _ _ h => h) (Or.inr ⟨by rfl, rfl⟩) (by assumption) ?_
                  try simp only [Act.put, List.setIfInBounds_toArray, List.set_cons_zero, List.set_cons_succ]
                  refine wpAnyH_take (i := 18) (oi := ⟨some 81, .move (.tmp 11), 36, "law.go:64", #[⟨16, .guard⟩], some (16, true)⟩) (v := undef) rfl (by kernel_rfl) (by kernel_rfl) (by kernel_rfl) (fun _ _ _ h => h) (Or.inr ⟨by rfl, rfl⟩) (by assumption) ?_
                  try simp only [Act.put, List.setIfInBounds_toArray, List.set_cons_zero, List.set_cons_succ]
                  refine wpAnyH_take (i := 19) (oi := ⟨some 82, .move (.tmp 12), 3, "law.go:64", #[⟨16, .guard⟩], some (16, true)⟩) (v := undef) rfl (by kernel_rfl) (by kernel_rfl) (by kernel_rfl) (fun _ _ _ h => h) (Or.inr ⟨by rfl, rfl⟩) (by assumption) ?_
                  try simp only [Act.put, List.setIfInBounds_toArray, List.set_cons_zero, List.set_cons_succ]
                  refine wpAnyH_take (i := 20) (oi := ⟨some 83, .indexAddr 36 (.tmp 81) (.tmp 82), 0, "law.go:64", #[⟨18, .data⟩, ⟨19, .data⟩, ⟨16, .guard⟩], some (16, true)⟩) (v := undef) rfl (by kernel_rfl) (by kernel_rfl) (by kernel_rfl) (fun _ _ _ h => h) (Or.inr ⟨by rfl, rfl⟩) (by assumption) ?_
                  try simp only [Act.put, List.setIfInBounds_toArray, List.set_cons_zero, List.set_cons_succ]
                  refine wpAnyH_take (i := 21) (oi := ⟨some 84, .load 41 (.tmp 83), 41, "law.go:64", #[⟨20, .data⟩, ⟨16, .guard⟩], some (16, true)⟩) (v := undef) rfl (by kernel_rfl) (by kernel_rfl) (by kernel_rfl) (fun _ _ _ h => h) (Or.inr ⟨by rfl, rfl⟩) (by assumption) ?_
                  try simp only [Act.put, List.setIfInBounds_toArray, List.set_cons_zero, List.set_cons_succ]
                  refine wpAnyH_take (i := 22) (oi := ⟨some 85, .call { callee := .value (.func 25), args := #[.tmp 80, .tmp 84], argTypes := #[23, 41] }, 22, "law.go:64", #[⟨17, .data⟩, ⟨21, .data⟩, ⟨16, .chain⟩, ⟨16, .guard⟩], some (16, true)⟩) (v := undef) rfl (by kernel_rfl) (by kernel_rfl) (by kernel_rfl) (fun _ _ _ h => h) (Or.inr ⟨by rfl, rfl⟩) (by assumption) ?_
                  try simp only [Act.put, List.setIfInBounds_toArray, List.set_cons_zero, List.set_cons_succ]
                  refine wpAnyH_take (i := 23) (oi := ⟨some 86, .move (.tmp 9), 23, "law.go:64", #[⟨16, .guard⟩], some (16, true)⟩) (v := undef) rfl (by kernel_rfl) (by kernel_rfl) (by kernel_rfl) (fun _ _ _ h => h) (Or.inr ⟨by rfl, rfl⟩) (by assumption) ?_
                  try simp only [Act.put, List.setIfInBounds_toArray, List.set_cons_zero, List.set_cons_succ]
                  refine wpAnyH_take (i := 24) (oi := ⟨some 87, .move (.tmp 11), 36, "law.go:64", #[⟨16, .guard⟩], some (16, true)⟩) (v := undef) rfl (by kernel_rfl) (by kernel_rfl) (by kernel_rfl) (fun _ _ _ h => h) (Or.inr ⟨by rfl, rfl⟩) (by assumption) ?_
                  try simp only [Act.put, List.setIfInBounds_toArray, List.set_cons_zero, List.set_cons_succ]
                  refine wpAnyH_take (i := 25) (oi := ⟨some 88, .move (.tmp 12), 3, "law.go:64", #[⟨16, .guard⟩], some (16, true)⟩) (v := undef) rfl (by kernel_rfl) (by kernel_rfl) (by kernel_rfl) (fun _ _ _ h => h) (Or.inr ⟨by rfl, rfl⟩) (by assumption) ?_
                  try simp only [Act.put, List.setIfInBounds_toArray, List.set_cons_zero, List.set_cons_succ]
                  refine wpAnyH_take (i := 26) (oi := ⟨some 89, .indexAddr 36 (.tmp 87) (.tmp 88), 0, "law.go:64", #[⟨24, .data⟩, ⟨25, .data⟩, ⟨16, .guard⟩], some (16, true)⟩) (v := undef) rfl (by kernel_rfl) (by kernel_rfl) (by kernel_rfl) (fun _ _ _ h => h) (Or.inr ⟨by rfl, rfl⟩) (by assumption) ?_
                  try simp only [Act.put, List.setIfInBounds_toArray, List.set_cons_zero, List.set_cons_succ]
                  refine wpAnyH_take (i := 27) (oi := ⟨some 90, .load 41 (.tmp 89), 41, "law.go:64", #[⟨26, .data⟩, ⟨16, .guard⟩], some (16, true)⟩) (v := undef) rfl (by kernel_rfl) (by kernel_rfl) (by kernel_rfl) (fun _ _ _ h => h) (Or.inr ⟨by rfl, rfl⟩) (by assumption) ?_
                  try simp only [Act.put, List.setIfInBounds_toArray, List.set_cons_zero, List.set_cons_succ]
                  refine wpAnyH_take (i := 28) (oi := ⟨some 91, .call { callee := .value (.func 26), args := #[.tmp 86, .tmp 90], argTypes := #[23, 41] }, 22, "law.go:64", #[⟨23, .data⟩, ⟨27, .data⟩, ⟨22, .chain⟩, ⟨16, .guard⟩], some (16, true)⟩) (v := undef) rfl (by kernel_rfl) (by kernel_rfl) (by kernel_rfl) (fun _ _ _ h => h) (Or.inr ⟨by rfl, rfl⟩) (by assumption) ?_
                  try simp only [Act.put, List.setIfInBounds_toArray, List.set_cons_zero, List.set_cons_succ]
                  refine wpAnyH_take (i := 29) (oi := ⟨some 92, .call { callee := .value (.func 24), args := #[.tmp 85, .tmp 91], argTypes := #[22, 22] }, 4, "law.go:64", #[⟨22, .data⟩, ⟨28, .data⟩, ⟨28, .chain⟩, ⟨16, .guard⟩], some (16, true)⟩) (v := undef) rfl (by kernel_rfl) (by kernel_rfl) (by kernel_rfl) (fun _ _ _ h => h) (Or.inr ⟨by rfl, rfl⟩) (by assumption) ?_
                  try simp only [Act.put, List.setIfInBounds_toArray, List.set_cons_zero, List.set_cons_succ]
                  refine wpAnyH_take (i := 30) (oi := ⟨some 93, .unOp .not 4 (.tmp 92), 4, "law.go:64", #[⟨29, .data⟩, ⟨16, .guard⟩], some (16, true)⟩) (v := undef) rfl (by kernel_rfl) (by kernel_rfl) (by kernel_rfl) (fun _ _ _ h => h) (Or.inr ⟨by rfl, rfl⟩) (by assumption) ?_
                  try simp only [Act.put, List.setIfInBounds_toArray, List.set_cons_zero, List.set_cons_succ]
                  refine wpAnyH_take (i := 31) (oi := ⟨some 94, .pick (.tmp 79) (.tmp 93) (.const (.bool false)), 4, "law.go:64", #[⟨16, .data⟩, ⟨30, .data⟩], none⟩) (v := ?_) rfl (by kernel_rfl) (by kernel_rfl) (by kernel_rfl) (fun _ _ _ h => h) (Or.inl ⟨by rfl, ?hyr3x31q77⟩) (by assumption) ?restr3x31q77
                  case hyr3x31q77 => intro wq hSw; (go_simp); (try with_reducible rfl)
                  try simp only [Act.put, List.setIfInBounds_toArray, List.set_cons_zero, List.set_cons_succ]
                  refine wpAnyH_done (by kernel_rfl) ?_ _
                  have RR := Lib.hid (show KtRel n' x6 (.int .i64 ((j : Int) + 1)) wd from ⟨j + 1, by omega, by go_num, KJ.out.nx hHeld⟩)
                  clear hHeld
                  go_wp2_with fail
                  exact ⟨RR.out, by simp [intOf]; omega⟩
              · obtain rfl : n' = j := by omega
                have FIN : Hid (CtRel b 4 w1 (.int .i64 ((k : Int) + 1)) wi) := Lib.hid ⟨k + 1, by omega, by go_num, KW6.out.nxb (KJ.out.b b), T6.out.nx KJ.out⟩
                clear hj hjn
                go_wp2_with fail
                exact ⟨FIN.out, by simp [intOf]; omega⟩
end Go.Proofs.YtbnbjiddffihoaaDoor

/- What the laid tables give the walks. -/
namespace Go.Proofs.YtbnbjiddffihoaaDoor
open Go.RowKit

theorem Tryd.gTab : Tryd.prog.globalNamed "math/bits.deBruijn32tab" = some 1 := by kernel_rfl
theorem Tryd.tTab : (Tryd.prog.globals[1]?).map (·.type) = some 171 := by kernel_rfl
theorem Tryd.cells32 : Tryd.prog.cellsOf 171 = 32 := by kernel_rfl
theorem Tryd.cellsU8 : Tryd.prog.cellsOf 5 = 1 := by kernel_rfl
theorem laid_tab {H : Type} : (Rows.laid_math_bits_deBruijn32tab : DataW H) = Lib.tabData .u8 (Lib.deBruijn32tab.map fun (n : Nat) => (n : Int)) := rfl

theorem tabG_of {rest : List (String × DataW Unit)} {W : World} (h : laidMetH Tryd.prog (("math/bits.deBruijn32tab", Rows.laid_math_bits_deBruijn32tab) :: rest) W)
    (hp : ((("math/bits.deBruijn32tab", Rows.laid_math_bits_deBruijn32tab) :: rest).all fun x => x.2.handleName?.isNone) = true) : TabG W := by
  rw [MakeChecks.laidMetH_plain _ _ _ hp, laid_tab] at h
  have ht := Lib.tabIs_of_head Tryd.gTab Tryd.tTab Tryd.underlying171 Tryd.underlying5 Tryd.cellsU8 Tryd.cells32 h
  intro j hj
  have := ht.cell Tryd.gTab j (by simp [Lib.deBruijn32tab]; omega)
  rw [this]
  congr 2
  simp [List.getD, List.getElem?_map]
  cases h : Lib.deBruijn32tab[j]? <;> simp
end Go.Proofs.YtbnbjiddffihoaaDoor

/- What the laid letters give the walks. -/
namespace Go.Proofs.YtbnbjiddffihoaaDoor
open Go.RowKit

theorem Tryd.gLet : Tryd.prog.globalNamed "skipgraph/skipgraphworld.letters" = some 0 := by kernel_rfl
theorem Tryd.tLet : (Tryd.prog.globals[0]?).map (·.type) = some 113 := by kernel_rfl
theorem Tryd.cells6 : Tryd.prog.cellsOf 113 = 6 := by kernel_rfl
theorem Tryd.cellsStr : Tryd.prog.cellsOf 9 = 1 := by kernel_rfl
def letL : List (List UInt8) := [[97], [98], [99], [0], [255], [109]]

/-- AN ARRAY OF STRINGS THAT READS AS A LIST OF STRINGS HOLDS THEM, CELL FOR CELL. -/
theorem cells_of_strs {H : Type} {enc : TypeId × Value → H} {P : Program} {w : World} {base : Nat} {sp : Nat → Bool} {held : Bool} {fuel : Nat} {t e : TypeId} {n : Nat} {cs : List Value} {zs : List (List UInt8)} {p : List MemPlace}
    (ht : P.underlying t = some (.array n e)) (he : P.underlying e = some .string) (hce : P.cellsOf e = 1) (hct : P.cellsOf t = n)
    (h : DataW.trod enc P w base sp held fuel t cs = some (.agg (zs.map fun z => .lit (.string z)), p)) : ∀ (i : Nat) (z : List UInt8), zs[i]? = some z → ∃ s : ByteArray, s.data.toList = z ∧ cs[i]? = some (.string s) := by
  cases fuel with
  | zero => simp [DataW.trod] at h
  | succ fuel =>
    simp only [DataW.trod, ht, hce, hct, Nat.mul_one] at h
    split at h
    · rename_i hl
      obtain ⟨xs, hm, hx⟩ := Option.map_eq_some_iff.1 h
      have hxs : xs.map (·.1) = zs.map fun z => (DataW.lit (.string z) : DataW H) := by
        have := congrArg Prod.fst hx
        simpa using this
      have hxl : xs.length = n := by simpa using Lib.mapM_length hm
      have hzl : zs.length = n := by
        have := congrArg List.length hxs
        simp at this
        omega
      intro i z hz
      have hi : i < n := by have := (List.getElem?_eq_some_iff.1 hz).1; omega
      obtain ⟨b, hb, hf⟩ := Lib.mapM_at hm i i (by simp [hi])
      obtain ⟨s, hc, rfl, _⟩ := DataW.trod_string he hf
      have h1 : cs[i]? = some (.string s) := by
        have := congrArg (·[0]?) hc
        simpa [List.getElem?_take, List.getElem?_drop] using this
      have h2 : (xs.map (·.1))[i]? = some (DataW.lit (.string s.data.toList) : DataW H) := by simp [hb]
      rw [hxs] at h2
      simp only [List.getElem?_map, Option.map_eq_some_iff, DataW.lit.injEq, Lit.string.injEq] at h2
      obtain ⟨z', hz', hzz⟩ := h2
      have : z = z' := Option.some.inj (hz.symm.trans hz')
      exact ⟨s, by rw [this, hzz], h1⟩
    · cases h

theorem laid_let {H : Type} : (Rows.laid_skipgraph_skipgraphworld_letters : DataW H) = .agg (letL.map fun z => .lit (.string z)) := rfl
theorem letG_head {rest : List (String × DataW Unit)} {W : World} (h : laidMet Tryd.prog (("skipgraph/skipgraphworld.letters", .agg (letL.map fun z => .lit (.string z))) :: rest) W) : LetG W := by
  obtain ⟨ps, ⟨g', t', cs, fuel, p, q, hg', ht', hvar, hd, _, _⟩, _⟩ := h
  obtain rfl := Option.some.inj (Tryd.gLet.symm.trans hg')
  obtain rfl := Option.some.inj (Tryd.tLet.symm.trans ht')
  intro j hj
  obtain ⟨z, hz⟩ : ∃ z, letL[j]? = some z := ⟨letL[j]'(by simp [letL]; omega), by simp⟩
  obtain ⟨s, h1, h2⟩ := cells_of_strs Tryd.underlying113 Tryd.underlying9 Tryd.cellsStr Tryd.cells6 hd j z hz
  refine ⟨s, ?_, ?_⟩
  · have hl : z.length = 1 := by
      have : ∀ j, j < 6 → (letL[j]?.getD []).length = 1 := by decide
      have := this j hj
      rw [hz] at this
      exact this
    have : s.data.toList.length = 1 := by rw [h1]; exact hl
    rw [Array.length_toList] at this
    exact this
  · rw [World.var?_cell Tryd.gLet hvar j]
    simpa using h2
end Go.Proofs.YtbnbjiddffihoaaDoor

/- The letters, where they are second on the list of what is laid. -/
namespace Go.Proofs.YtbnbjiddffihoaaDoor
open Go.RowKit

theorem letG_second {x : String × DataW Unit} {W : World} (h : laidMetH Tryd.prog [x, ("skipgraph/skipgraphworld.letters", Rows.laid_skipgraph_skipgraphworld_letters)] W)
    (hp : ([x, ("skipgraph/skipgraphworld.letters", Rows.laid_skipgraph_skipgraphworld_letters)].all fun x => x.2.handleName?.isNone) = true) (hx : decide (x.1 = "skipgraph/skipgraphworld.letters") = false) : LetG W := by
  rw [MakeChecks.laidMetH_plain _ _ _ hp, laid_let] at h
  have h2 := h.filter (fun y => decide (y.1 = "skipgraph/skipgraphworld.letters"))
  rw [List.filter_cons_of_neg (by rw [hx]; simp), List.filter_cons_of_pos (by simp), List.filter_nil] at h2
  exact letG_head h2
end Go.Proofs.YtbnbjiddffihoaaDoor

/- How the arguments of a statement are read: slices as lists. -/
namespace Go.Proofs.YtbnbjiddffihoaaDoor
open Go.ChangeShapes Go.WideShapes Go.ChangeAt Go.RowKit Go.Deep Go.Joins

theorem own : ownKnob Tryd.prog.godebug = none := by kernel_rfl
theorem laidOut : laidOutB Tryd.prog = true := by kernel_rfl

section
variable {H : Type} {enc : TypeId × Value → H} {P : Program} {w : World} {base : Nat} {spare : Nat → Bool} {held : Bool}

theorem addr_lit {a : Addr} {v : Value} {w : World} (h : w.cell? (a.add 0) = some v) : a = ⟨a.block, a.off, none⟩ := by
  obtain ⟨b, o, s⟩ := a
  have : s = none := by simpa [Addr.add] using World.cell?_spot h
  subst this; rfl

/-- a slice of ints that came in -/
theorem rd_ints {t e : TypeId} {k : IntKind} {v : Value} {d : DataW H} {p : List MemPlace} {r : Reach} {b0 : Nat} (ht : P.underlying t = some (.slice e)) (he : P.underlying e = some (.int k)) (hC : P.cellsOf e = 1)
    (hv : Value.okWide P w r b0 t v) (h : DataW.Trod enc P w base spare held t v d p) :
    ∃ a n c l, v = .slice a n c ∧ Rd 1 (fun x : Int => [Value.int k x]) (· < w.heap.size) w a n l ∧ n ≤ c ∧ c ≤ maxLen ∧ (∀ x ∈ l, (Lit.int k x).wf = true) ∧ (a = none → c = 0) := by
  obtain ⟨a0, len0, cap0, rfl⟩ := okWide_slice ht hv
  obtain ⟨fuel, hf⟩ := h
  rcases open_ints ht he hC hf with ⟨hcs, _⟩ | ⟨x, l, c, zs, hcs, _, hl, hm, hz, _, hcell, hwz⟩
  · simp [Value.cells] at hcs
    obtain ⟨rfl, rfl, rfl⟩ := hcs
    exact ⟨none, 0, 0, [], rfl, Rd.nil _ _ _ _ _, by omega, by unfold maxLen; omega, by simp, fun _ => rfl⟩
  · simp [Value.cells] at hcs
    obtain ⟨rfl, rfl, rfl⟩ := hcs
    have hz' : len0 ≤ zs.length := by rw [hz]; split <;> omega
    refine ⟨_, len0, cap0, zs.take len0, rfl, ⟨by simp; omega, ?_⟩, hl, hm, fun y hy => hwz y (List.mem_of_mem_take hy), fun h => by cases h⟩
    rcases Nat.eq_zero_or_pos len0 with h0 | h0
    · exact .inl h0
    · have hx := addr_lit (hcell 0 (by omega))
      refine .inr ⟨x.block, x.off, by rw [← hx], ?_, fun j y hj c u hu => ?_⟩
      · have := World.block_lt_of_cell? w _ (hcell 0 (by omega))
        rw [hx] at this
        simpa [Addr.add] using this
      · have hj' : j < len0 := by
          have := (List.getElem?_eq_some_iff.1 hj).1
          simp at this; omega
        have hy : zs.getD j 0 = y := by
          rw [List.getElem?_take, if_pos hj'] at hj
          simp [List.getD, hj]
        have hc := hcell j (by omega)
        rw [hx, Addr.add_lit, hy] at hc
        rcases c with _ | c
        · simp at hu; subst hu; simpa using hc
        · simp at hu

theorem open_slice_fields {t e : TypeId} {fs : Array Field} {fuel : Nat} {cs : List Value} {x : DataW H × List MemPlace} (ht : P.underlying t = some (.slice e)) (he : P.underlying e = some (.struct fs))
    (hone : oneCellFields P fs = true) (hC : P.cellsOf e = fs.size) (h : DataW.trod enc P w base spare held fuel t cs = some x) :
    (cs = [.slice none 0 0] ∧ x = (.nil, [])) ∨
    ∃ (a : Addr) (len cap m : Nat), cs = [.slice (some a) len cap] ∧ len ≤ cap ∧ cap ≤ maxLen ∧ m = (if spare a.block then cap else len) ∧
      ∀ i, i < m → ∃ (n : Nat), ∀ (j : Nat) (f : Field), fs[j]? = some f → ∃ (v : Value) (y : DataW H × List MemPlace), w.cell? (a.add (i * fs.size + j)) = some v ∧ DataW.trod enc P w base spare held n f.type [v] = some y := by
  rcases open_slice ht h with h0 | ⟨a, len, cap, m, n, D, Pl, hcs, hb, hl, hm, hmm, hx, hi⟩
  · exact .inl h0
  · refine .inr ⟨a, len, cap, m, hcs, hl, hm, hmm, fun i him => ?_⟩
    obtain ⟨cs', hc, ht'⟩ := hi i him
    rw [hC] at hc
    obtain ⟨ys, n', hn', hy, hlen, hyl, hf⟩ := DataW.trod_struct he ht'
    obtain ⟨_, hcl, hat⟩ := World.cells?_some hc
    refine ⟨n', fun j f hj => ?_⟩
    obtain ⟨ho, hk⟩ := hone_of hone j f hj
    have hjl : j < fs.size := (Array.getElem?_eq_some_iff.1 hj).1
    have hcell := hat j hjl
    have hv : cs'[j]? = some (cs'[j]'(by omega)) := List.getElem?_eq_getElem (by omega)
    have h1 := hf j f hj
    rw [ho, hk] at h1
    have hone' : (cs'.drop j).take 1 = [cs'[j]'(by omega)] := by
      rw [List.drop_eq_getElem_cons (by omega)]
      rfl
    rw [hone'] at h1
    have hys : ys[j]? = some (ys[j]'(by omega)) := List.getElem?_eq_getElem (by omega)
    refine ⟨_, _, ?_, h1.trans hys⟩
    rw [← Go.Deep.add_add, hcell, hv]

/-- a list that is given one element at a time -/
theorem list_of {α : Type} {p : Nat → α → Prop} : ∀ n, (∀ i, i < n → ∃ y, p i y) → ∃ l : List α, l.length = n ∧ ∀ (i : Nat) y, l[i]? = some y → p i y
  | 0, _ => ⟨[], rfl, by simp⟩
  | n + 1, h => by
    obtain ⟨l, hl, hp⟩ := list_of n (fun i hi => h i (by omega))
    obtain ⟨y, hy⟩ := h n (by omega)
    refine ⟨l ++ [y], by simp [hl], fun i z hz => ?_⟩
    rcases Nat.lt_or_ge i n with hi | hi
    · exact hp i z (by rwa [List.getElem?_append_left (by omega)] at hz)
    · rw [List.getElem?_append_right (by omega)] at hz
      have : i = n := by
        rcases Nat.eq_zero_or_pos (i - l.length) with h0 | h0
        · omega
        · rw [List.getElem?_eq_none (by simp; omega)] at hz; cases hz
      subst this
      simp [hl] at hz
      subst hz; exact hy

/-- a slice of structs that came in, each element read by 'rel' -/
theorem rd_structs {α : Type} {k : Nat} {encS : α → List Value} {t e : TypeId} {fs : Array Field} {v : Value} {d : DataW H} {p : List MemPlace} {r : Reach} {b0 : Nat} (ht : P.underlying t = some (.slice e)) (he : P.underlying e = some (.struct fs))
    (hone : oneCellFields P fs = true) (hC : P.cellsOf e = fs.size) (hk : fs.size = k) (hk0 : 0 < k)
    (hv : Value.okWide P w r b0 t v) (h : DataW.Trod enc P w base spare held t v d p)
    (hel : ∀ (n : Nat) (cell : Nat → Option Value), (∀ (j : Nat) (f : Field), fs[j]? = some f → ∃ (v : Value) (y : DataW H × List MemPlace), cell j = some v ∧ DataW.trod enc P w base spare held n f.type [v] = some y) → ∃ y : α, ∀ c u, (encS y)[c]? = some u → cell c = some u) :
    ∃ a n c l, v = .slice a n c ∧ Rd k encS (· < w.heap.size) w a n l ∧ n ≤ c ∧ c ≤ maxLen ∧ (a = none → c = 0) := by
  subst hk
  obtain ⟨a0, len0, cap0, rfl⟩ := okWide_slice ht hv
  obtain ⟨fuel, hf⟩ := h
  rcases open_slice_fields ht he hone hC hf with ⟨hcs, _⟩ | ⟨x, len, cap, m, hcs, hl, hm, hmm, hi⟩
  · simp [Value.cells] at hcs
    obtain ⟨rfl, rfl, rfl⟩ := hcs
    exact ⟨none, 0, 0, [], rfl, Rd.nil _ _ _ _ _, by omega, by unfold maxLen; omega, fun _ => rfl⟩
  · simp [Value.cells] at hcs
    obtain ⟨rfl, rfl, rfl⟩ := hcs
    have hlm : len0 ≤ m := by rw [hmm]; split <;> omega
    obtain ⟨l, hll, hlp⟩ := list_of (p := fun i (y : α) => ∀ c u, (encS y)[c]? = some u → w.cell? (x.add (i * fs.size + c)) = some u) len0 (fun i hi' => by
      obtain ⟨n, hn⟩ := hi i (by omega)
      exact hel n (fun j => w.cell? (x.add (i * fs.size + j))) hn)
    refine ⟨_, len0, cap0, l, rfl, ⟨hll, ?_⟩, hl, hm, fun h => by cases h⟩
    rcases Nat.eq_zero_or_pos len0 with h0 | h0
    · exact .inl h0
    · obtain ⟨n, hn⟩ := hi 0 (by omega)
      obtain ⟨v0, _, hv0, _⟩ := hn 0 (fs[0]) (by simp)
      have hv0 : w.cell? (x.add 0) = some v0 := by simpa using hv0
      have hx := addr_lit hv0
      refine .inr ⟨x.block, x.off, by rw [← hx], ?_, fun j y hj c u hu => ?_⟩
      · have := World.block_lt_of_cell? w _ hv0
        rw [hx] at this
        simpa [Addr.add] using this
      · have := hlp j y hj c u hu
        rw [hx, Addr.add_lit] at this
        simpa [Nat.add_assoc] using this
end
end Go.Proofs.YtbnbjiddffihoaaDoor

/- Slices of nodes among the arguments; the letters where they are second on the list of what is laid. -/
namespace Go.Proofs.YtbnbjiddffihoaaDoor
open Go.RowKit

abbrev Nd32 := { y : Nd // y.word < 4294967296 }
def encN32 (y : Nd32) : List Value := encN y.1
theorem nodes_of {S : Nat → Prop} {w : World} {a : Option Addr} {n : Nat} {l : List Nd32} (h : Rd 3 encN32 S w a n l) : ∃ lb : List Nd, Rd 3 encN S w a n lb ∧ ∀ x ∈ lb, x.word < 4294967296 := by
  refine ⟨l.map Subtype.val, ⟨by rw [List.length_map]; exact h.1, ?_⟩, ?_⟩
  · rcases h.2 with h2 | ⟨x, o, e1, e2, e3⟩
    · exact .inl h2
    · refine .inr ⟨x, o, e1, e2, fun j y hj c u hu => ?_⟩
      rw [List.getElem?_map] at hj
      cases hl : l[j]? with
      | none => rw [hl] at hj; cases hj
      | some z =>
        rw [hl] at hj
        simp only [Option.map_some, Option.some.injEq] at hj
        subst hj
        exact e3 j z hl c u hu
  · intro x hx
    obtain ⟨y, _, rfl⟩ := List.mem_map.1 hx
    exact y.2
end Go.Proofs.YtbnbjiddffihoaaDoor

/- Numbers as bytes, in plain Lean. -/
namespace Go.Proofs.YtbnbjiddffihoaaDoor
open Go.RowKit

end Go.Proofs.YtbnbjiddffihoaaDoor

/- Walks over AppendUint of the package wire and of its reference. -/
namespace Go.Proofs.YtbnbjiddffihoaaDoor
open Go.RowKit

def encB (x : UInt8) : List Value := [.int .u8 x.toNat]
end Go.Proofs.YtbnbjiddffihoaaDoor

/- Walks over Uint of the package wire and of its reference. -/
namespace Go.Proofs.YtbnbjiddffihoaaDoor
open Go.RowKit

end Go.Proofs.YtbnbjiddffihoaaDoor

/- Walks over the signed numbers of the package wire and of its reference. -/
namespace Go.Proofs.YtbnbjiddffihoaaDoor
open Go.RowKit

end Go.Proofs.YtbnbjiddffihoaaDoor

/- Walks over the strings of the package wire. -/
namespace Go.Proofs.YtbnbjiddffihoaaDoor
open Go.RowKit

end Go.Proofs.YtbnbjiddffihoaaDoor

/- Walks over the strings of the reference of the package wire. -/
namespace Go.Proofs.YtbnbjiddffihoaaDoor
open Go.RowKit

end Go.Proofs.YtbnbjiddffihoaaDoor

/- Bytes of the call's own as strings; a condition that is laid anew in a region that draws its order. -/
namespace Go.Proofs.YtbnbjiddffihoaaDoor
open Go.RowKit

end Go.Proofs.YtbnbjiddffihoaaDoor

/- EncodeNodes of the package wire and of its reference. -/
namespace Go.Proofs.YtbnbjiddffihoaaDoor
open Go.RowKit

end Go.Proofs.YtbnbjiddffihoaaDoor

/- Links of the tape. -/
namespace Go.Proofs.YtbnbjiddffihoaaDoor
open Go.RowKit

end Go.Proofs.YtbnbjiddffihoaaDoor

/- EncodeLinks of the package wire and of its reference. -/
namespace Go.Proofs.YtbnbjiddffihoaaDoor
open Go.RowKit

end Go.Proofs.YtbnbjiddffihoaaDoor

/- Lists of links among the arguments. -/
namespace Go.Proofs.YtbnbjiddffihoaaDoor
open Go.ChangeShapes Go.WideShapes Go.ChangeAt Go.RowKit Go.Deep Go.Joins

section
variable {H : Type} {enc : TypeId × Value → H} {P : Program} {w : World} {base : Nat} {spare : Nat → Bool} {held : Bool}
end
end Go.Proofs.YtbnbjiddffihoaaDoor

/- Lists of peers among the arguments. -/
namespace Go.Proofs.YtbnbjiddffihoaaDoor
open Go.ChangeShapes Go.WideShapes Go.ChangeAt Go.RowKit Go.Deep Go.Joins

/-- a peer as it lies in the memory that came in, with a property of it -/
def PrIn (w : World) (p : Pr → Prop) := { q : PQ × Pr // PrV w q.1 q.2 ∧ p q.2 }
def encPrIn (w : World) (p : Pr → Prop) (q : PrIn w p) : List Value := encQ q.1.1
theorem peers_of {w : World} {p : Pr → Prop} {a : Option Addr} {n : Nat} {l : List (PrIn w p)} (h : Rd 5 (encPrIn w p) (· < w.heap.size) w a n l) : ∃ P : List Pr, PL w a n P ∧ ∀ x ∈ P, p x := by
  refine ⟨l.map (fun q => q.1.2), ⟨l.map (fun q => q.1.1), ⟨by rw [List.length_map]; exact h.1, ?_⟩, by rw [List.length_map]; exact h.1, fun j q x hq hx => ?_⟩, fun c hc => ?_⟩
  · rcases h.2 with h2 | ⟨x, o, e1, e2, e3⟩
    · exact .inl h2
    · refine .inr ⟨x, o, e1, e2, fun j y hj c u hu => ?_⟩
      rw [List.getElem?_map] at hj
      cases hl : l[j]? with
      | none => rw [hl] at hj; cases hj
      | some z =>
        rw [hl] at hj
        simp only [Option.map_some, Option.some.injEq] at hj
        subst hj
        exact e3 j z hl c u hu
  · rw [List.getElem?_map] at hq hx
    cases hl : l[j]? with
    | none => rw [hl] at hq; cases hq
    | some z =>
      rw [hl] at hq hx
      simp only [Option.map_some, Option.some.injEq] at hq hx
      subst hq hx
      exact z.2.1
  · obtain ⟨z, _, rfl⟩ := List.mem_map.1 hc
    exact z.2.2
end Go.Proofs.YtbnbjiddffihoaaDoor

/- What a reading weighs (the Upto form): no list in it is longer. -/
namespace Go.Proofs.YtbnbjiddffihoaaDoor
open Go.ChangeShapes Go.WideShapes Go.ChangeAt Go.RowKit Go.Deep Go.Joins

section
variable {H : Type} {enc : TypeId × Value → H} {P : Program} {w : World} {base : Nat} {spare : Nat → Bool} {held : Bool}
theorem bulk_pos (d : DataW H) : 1 ≤ Rows.uptoBulk d := by
  cases d with
  | lit l => cases l <;> simp [Rows.uptoBulk]
  | _ => simp [Rows.uptoBulk]
theorem bulk_len : ∀ ds : List (DataW H), ds.length ≤ Rows.uptoBulkAll ds
  | [] => Nat.zero_le _
  | d :: r => by
    have h1 := bulk_pos d
    have h2 := bulk_len r
    simp only [Rows.uptoBulkAll, List.length_cons]
    omega
theorem bulk_mem : ∀ {ds : List (DataW H)} {d : DataW H}, d ∈ ds → Rows.uptoBulk d ≤ Rows.uptoBulkAll ds
  | d :: r, x, h => by
    simp only [Rows.uptoBulkAll]
    rcases List.mem_cons.1 h with rfl | h
    · omega
    · have := bulk_mem h; omega
/-- as open_slice_fields: and no field's reading weighs more than the whole, nor is the slice longer -/
theorem open_slice_fields_b {t e : TypeId} {fs : Array Field} {fuel : Nat} {cs : List Value} {x : DataW H × List MemPlace} (ht : P.underlying t = some (.slice e)) (he : P.underlying e = some (.struct fs))
    (hone : oneCellFields P fs = true) (hC : P.cellsOf e = fs.size) (h : DataW.trod enc P w base spare held fuel t cs = some x) :
    (cs = [.slice none 0 0] ∧ x = (.nil, [])) ∨
    ∃ (a : Addr) (len cap m : Nat), cs = [.slice (some a) len cap] ∧ len ≤ cap ∧ cap ≤ maxLen ∧ m = (if spare a.block then cap else len) ∧ len ≤ Rows.uptoBulk x.1 ∧
      ∀ i, i < m → ∃ (n : Nat), ∀ (j : Nat) (f : Field), fs[j]? = some f → ∃ (v : Value) (y : DataW H × List MemPlace), w.cell? (a.add (i * fs.size + j)) = some v ∧ DataW.trod enc P w base spare held n f.type [v] = some y ∧ Rows.uptoBulk y.1 ≤ Rows.uptoBulk x.1 := by
  rcases open_slice ht h with h0 | ⟨a, len, cap, m, n, D, Pl, hcs, hb, hl, hm, hmm, hx, hi⟩
  · exact .inl h0
  · have hsl : len ≤ Rows.uptoBulk x.1 := by
      rw [hx]
      simp only [Rows.uptoBulk]
      have := bulk_len ((List.range len).map D)
      rw [List.length_map, List.length_range] at this
      omega
    have hlm : len ≤ m := by rw [hmm]; split <;> omega
    have hD : ∀ i, i < m → Rows.uptoBulk (D i) ≤ Rows.uptoBulk x.1 := fun i him => by
      rw [hx]
      simp only [Rows.uptoBulk]
      by_cases hil : i < len
      · have := bulk_mem (ds := (List.range len).map D) (d := D i) (List.mem_map.2 ⟨i, List.mem_range.2 hil, rfl⟩)
        omega
      · have := bulk_mem (ds := (List.range (m - len)).map fun j => D (len + j)) (d := D i) (List.mem_map.2 ⟨i - len, List.mem_range.2 (by omega), by rw [show len + (i - len) = i by omega]⟩)
        omega
    refine .inr ⟨a, len, cap, m, hcs, hl, hm, hmm, hsl, fun i him => ?_⟩
    obtain ⟨cs', hc, ht'⟩ := hi i him
    rw [hC] at hc
    obtain ⟨ys, n', hn', hy, hlen, hyl, hf⟩ := DataW.trod_struct he ht'
    obtain ⟨_, hcl, hat⟩ := World.cells?_some hc
    refine ⟨n', fun j f hj => ?_⟩
    obtain ⟨ho, hk⟩ := hone_of hone j f hj
    have hjl : j < fs.size := (Array.getElem?_eq_some_iff.1 hj).1
    have hcell := hat j hjl
    have hv : cs'[j]? = some (cs'[j]'(by omega)) := List.getElem?_eq_getElem (by omega)
    have h1 := hf j f hj
    rw [ho, hk] at h1
    have hone' : (cs'.drop j).take 1 = [cs'[j]'(by omega)] := by
      rw [List.drop_eq_getElem_cons (by omega)]
      rfl
    rw [hone'] at h1
    have hys : ys[j]? = some (ys[j]'(by omega)) := List.getElem?_eq_getElem (by omega)
    refine ⟨_, _, ?_, h1.trans hys, ?_⟩
    · rw [← Go.Deep.add_add, hcell, hv]
    · refine Nat.le_trans ?_ (hD i him)
      have e1 : D i = .agg (ys.map (·.1)) := congrArg Prod.fst hy
      rw [e1]
      simp only [Rows.uptoBulk]
      have := bulk_mem (ds := ys.map (·.1)) (d := (ys[j]'(by omega)).1) (List.mem_map.2 ⟨_, List.getElem_mem _, rfl⟩)
      omega
theorem rd_from {α : Type} {encS : α → List Value} {fs : Array Field} {x : Addr} {len m : Nat} (hk0 : 0 < fs.size) (hlm : len ≤ m) {Q : Value → TypeId → Nat → Prop}
    (hi : ∀ i, i < m → ∃ (n : Nat), ∀ (j : Nat) (f : Field), fs[j]? = some f → ∃ (v : Value), w.cell? (x.add (i * fs.size + j)) = some v ∧ Q v f.type n)
    (hel : ∀ (n : Nat) (cell : Nat → Option Value), (∀ (j : Nat) (f : Field), fs[j]? = some f → ∃ (v : Value), cell j = some v ∧ Q v f.type n) → ∃ y : α, ∀ c u, (encS y)[c]? = some u → cell c = some u) :
    ∃ l, Rd fs.size encS (· < w.heap.size) w (some x) len l := by
  obtain ⟨l, hll, hlp⟩ := list_of (p := fun i (y : α) => ∀ c u, (encS y)[c]? = some u → w.cell? (x.add (i * fs.size + c)) = some u) len (fun i hi' => by
    obtain ⟨n, hn⟩ := hi i (by omega)
    exact hel n (fun j => w.cell? (x.add (i * fs.size + j))) hn)
  refine ⟨l, hll, ?_⟩
  rcases Nat.eq_zero_or_pos len with h0 | h0
  · exact .inl h0
  · obtain ⟨n, hn⟩ := hi 0 (by omega)
    obtain ⟨v0, hv0, _⟩ := hn 0 (fs[0]) (by simp)
    have hv0 : w.cell? (x.add 0) = some v0 := by simpa using hv0
    have hx := addr_lit hv0
    refine .inr ⟨x.block, x.off, by rw [← hx], ?_, fun j y hj c u hu => ?_⟩
    · have := World.block_lt_of_cell? w _ hv0
      rw [hx] at this
      simpa [Addr.add] using this
    · have := hlp j y hj c u hu
      rw [hx, Addr.add_lit] at this
      simpa [Nat.add_assoc] using this
/-- a slice of structs in a cell, or an argument: its length and its parts within the weight M -/
theorem rd_structs_b {α : Type} {k n0 M : Nat} {encS : α → List Value} {t e : TypeId} {fs : Array Field} {v : Value} {y0 : DataW H × List MemPlace} (ht : P.underlying t = some (.slice e)) (he : P.underlying e = some (.struct fs))
    (hone : oneCellFields P fs = true) (hC : P.cellsOf e = fs.size) (hk : fs.size = k) (hk0 : 0 < k) (hf : DataW.trod enc P w base spare held n0 t [v] = some y0) (hM : Rows.uptoBulk y0.1 ≤ M)
    (hel : ∀ (n : Nat) (cell : Nat → Option Value), (∀ (j : Nat) (f : Field), fs[j]? = some f → ∃ (v : Value), cell j = some v ∧ ∃ y : DataW H × List MemPlace, DataW.trod enc P w base spare held n f.type [v] = some y ∧ Rows.uptoBulk y.1 ≤ M) → ∃ y : α, ∀ c u, (encS y)[c]? = some u → cell c = some u) :
    ∃ a n c l, v = .slice a n c ∧ Rd k encS (· < w.heap.size) w a n l ∧ n ≤ c ∧ c ≤ maxLen ∧ n ≤ M := by
  subst hk
  rcases open_slice_fields_b ht he hone hC hf with ⟨hcs, _⟩ | ⟨x, len, cap, m, hcs, hl, hm, hmm, hsl, hi⟩
  · simp at hcs
    subst hcs
    exact ⟨none, 0, 0, [], rfl, Rd.nil _ _ _ _ _, by omega, by unfold maxLen; omega, Nat.zero_le _⟩
  · simp at hcs
    subst hcs
    have hlm : len ≤ m := by rw [hmm]; split <;> omega
    obtain ⟨l, hr⟩ := rd_from (w := w) (encS := encS) (fs := fs) (x := x) (len := len) (m := m) hk0 hlm (Q := fun v t n => ∃ y : DataW H × List MemPlace, DataW.trod enc P w base spare held n t [v] = some y ∧ Rows.uptoBulk y.1 ≤ M)
      (fun i him => by
        obtain ⟨n, hn⟩ := hi i him
        exact ⟨n, fun j f hj => by
          obtain ⟨v, y, h1, h2, h3⟩ := hn j f hj
          exact ⟨v, h1, y, h2, Nat.le_trans h3 hM⟩⟩) hel
    exact ⟨_, len, cap, l, rfl, hr, hl, hm, Nat.le_trans hsl hM⟩
/-- a slice of ints in a cell -/
theorem rd_ints_b {n0 M : Nat} {t e : TypeId} {k : IntKind} {v : Value} {y0 : DataW H × List MemPlace} (ht : P.underlying t = some (.slice e)) (he : P.underlying e = some (.int k)) (hC : P.cellsOf e = 1)
    (hf : DataW.trod enc P w base spare held n0 t [v] = some y0) (hM : Rows.uptoBulk y0.1 ≤ M) :
    ∃ a n c l, v = .slice a n c ∧ Rd 1 (fun x : Int => [Value.int k x]) (· < w.heap.size) w a n l ∧ n ≤ c ∧ c ≤ maxLen ∧ n ≤ M ∧ ∀ x ∈ l, (Lit.int k x).wf = true := by
  have hb : ∀ a len cap, v = .slice (some a) len cap → len ≤ M := by
    rcases open_slice ht hf with ⟨hcs, _⟩ | ⟨a, len, cap, m, n, D, Pl, hcs, _, hl, hm, hmm, hx, _⟩
    · intro a len cap hv
      subst hv
      simp at hcs
    · intro a' len' cap' hv
      subst hv
      simp at hcs
      obtain ⟨rfl, rfl, rfl⟩ := hcs
      refine Nat.le_trans ?_ hM
      rw [hx]
      simp only [Rows.uptoBulk]
      have := bulk_len ((List.range len').map D)
      rw [List.length_map, List.length_range] at this
      omega
  rcases open_ints ht he hC hf with ⟨hcs, _⟩ | ⟨x, l, c, zs, hcs, _, hl, hm, hz, _, hcell, hwz⟩
  · simp at hcs
    subst hcs
    exact ⟨none, 0, 0, [], rfl, Rd.nil _ _ _ _ _, by omega, by unfold maxLen; omega, Nat.zero_le _, by simp⟩
  · simp at hcs
    subst hcs
    have hz' : l ≤ zs.length := by rw [hz]; split <;> omega
    refine ⟨_, l, c, zs.take l, rfl, ⟨by simp; omega, ?_⟩, hl, hm, hb _ _ _ rfl, fun y hy => hwz y (List.mem_of_mem_take hy)⟩
    rcases Nat.eq_zero_or_pos l with h0 | h0
    · exact .inl h0
    · have hx := addr_lit (hcell 0 (by omega))
      refine .inr ⟨x.block, x.off, by rw [← hx], ?_, fun j y hj d u hu => ?_⟩
      · have := World.block_lt_of_cell? w _ (hcell 0 (by omega))
        rw [hx] at this
        simpa [Addr.add] using this
      · have hj' : j < l := by
          have := (List.getElem?_eq_some_iff.1 hj).1
          simp at this; omega
        have hy : zs.getD j 0 = y := by
          rw [List.getElem?_take, if_pos hj'] at hj
          simp [List.getD, hj]
        have hc := hcell j (by omega)
        rw [hx, Addr.add_lit, hy] at hc
        rcases d with _ | d
        · simp at hu; subst hu; simpa using hc
        · simp at hu
end
end Go.Proofs.YtbnbjiddffihoaaDoor

/- A list of peers among the arguments, within a weight. -/
namespace Go.Proofs.YtbnbjiddffihoaaDoor
open Go.ChangeShapes Go.WideShapes Go.ChangeAt Go.RowKit Go.Deep Go.Joins

theorem Tryd.cellsIntQ : Tryd.prog.cellsOf 3 = 1 := by kernel_rfl
theorem Tryd.cellsNearQ : Tryd.prog.cellsOf 77 = 4 := by kernel_rfl
theorem Tryd.cellsPeerQ : Tryd.prog.cellsOf 41 = 5 := by kernel_rfl
def WtP (M : Nat) (p : Pr) : Prop := p.known.length ≤ M ∧ p.near.length ≤ M
set_option maxHeartbeats 1000000 in
theorem rd_peers_b {H : Type} {enc : TypeId × Value → H} {w : World} {base : Nat} {spare : Nat → Bool} {held : Bool} {n0 M : Nat} {v : Value} {y0 : DataW H × List MemPlace}
    (hf : DataW.trod enc Tryd.prog w base spare held n0 36 [v] = some y0) (hM : Rows.uptoBulk y0.1 ≤ M) :
    ∃ a n c P, v = .slice a n c ∧ PL w a n P ∧ n ≤ c ∧ c ≤ maxLen ∧ ∀ p ∈ P, WtP M p := by
  obtain ⟨a, n, c, l, rfl, rd, hc, hm, _⟩ := rd_structs_b (encS := encPrIn w (WtP M)) (k := 5) (M := M) Tryd.underlying36 Tryd.underlying41 (by kernel_rfl) Tryd.cellsPeerQ rfl (by omega) hf hM
    (fun n cell hf => by
      obtain ⟨v0, c0, y0, t0, _⟩ := hf 0 _ rfl
      obtain ⟨v1, c1, y1, t1, m1⟩ := hf 1 _ rfl
      obtain ⟨v2, c2, y2, t2, _⟩ := hf 2 _ rfl
      obtain ⟨v3, c3, y3, t3, _⟩ := hf 3 _ rfl
      obtain ⟨v4, c4, y4, t4, m4⟩ := hf 4 _ rfl
      obtain ⟨i0, e0, rfl, _⟩ := DataW.trod_int Tryd.underlying3 t0
      obtain ⟨i2, e2, rfl, _⟩ := DataW.trod_int Tryd.underlying3 t2
      obtain ⟨i3, e3, rfl, _⟩ := DataW.trod_int Tryd.underlying3 t3
      simp at e0 e2 e3
      subst e0 e2 e3
      obtain ⟨a1, n1, k1, l1, rfl, r1, _, _, h1, _⟩ := rd_ints_b (M := M) Tryd.underlying22 Tryd.underlying3 Tryd.cellsIntQ t1 m1
      obtain ⟨a4, n4, k4, l4, rfl, r4, _, _, h4⟩ := rd_structs_b (encS := encNr) (k := 4) (M := M) Tryd.underlying39 Tryd.underlying77 (by kernel_rfl) Tryd.cellsNearQ rfl (by omega) t4 m4
        (fun n cell hf => by
          obtain ⟨v0, c0, y0, t0, _⟩ := hf 0 _ rfl
          obtain ⟨v1, c1, y1, t1, _⟩ := hf 1 _ rfl
          obtain ⟨v2, c2, y2, t2, _⟩ := hf 2 _ rfl
          obtain ⟨v3, c3, y3, t3, _⟩ := hf 3 _ rfl
          obtain ⟨i0, e0, rfl, _⟩ := DataW.trod_int Tryd.underlying3 t0
          obtain ⟨i1, e1, rfl, _⟩ := DataW.trod_int Tryd.underlying3 t1
          obtain ⟨i2, e2, rfl, _⟩ := DataW.trod_int Tryd.underlying3 t2
          obtain ⟨i3, e3, rfl, _⟩ := DataW.trod_int Tryd.underlying3 t3
          simp at e0 e1 e2 e3
          subst e0 e1 e2 e3
          refine ⟨((i0, i1, i2, i3) : Nr), fun c u hu => ?_⟩
          rcases c with _ | _ | _ | _ | c
          · simp [encNr] at hu; subst hu; exact c0
          · simp [encNr] at hu; subst hu; exact c1
          · simp [encNr] at hu; subst hu; exact c2
          · simp [encNr] at hu; subst hu; exact c3
          · simp [encNr] at hu)
      have q1 : l1.length = n1 := r1.1
      have q4 : l4.length = n4 := r4.1
      refine ⟨⟨(((i0, i2, i3), (a1, n1, k1), (a4, n4, k4)), ⟨i0, i2, i3, l1, l4⟩), ⟨rfl, r1, r4⟩, by show l1.length ≤ M; omega, by show l4.length ≤ M; omega⟩, fun c u hu => ?_⟩
      rcases c with _ | _ | _ | _ | _ | c
      · simp [encPrIn, encQ] at hu; subst hu; exact c0
      · simp [encPrIn, encQ, Hdr.val] at hu; subst hu; exact c1
      · simp [encPrIn, encQ] at hu; subst hu; exact c2
      · simp [encPrIn, encQ] at hu; subst hu; exact c3
      · simp [encPrIn, encQ, Hdr.val] at hu; subst hu; exact c4
      · simp [encPrIn, encQ] at hu)
  obtain ⟨P, hP, hw⟩ := peers_of rd
  exact ⟨a, n, c, P, rfl, hP, hc, hm, hw⟩
end Go.Proofs.YtbnbjiddffihoaaDoor

/-
  RedundantRefs returns true for every list of numbers, every list of nodes and every list of peers, and leaves its arguments as they were.
  Conditions: the arguments are together of bulk at most 1048576; the table of math/bits and the letters of the keys are as the program text lays them (tied by the card).
-/
namespace Go.Proofs.YtbnbjiddffihoaaDoor
open Go.ChangeShapes Go.WideShapes Go.ChangeAt Go.RowKit Go.Deep Go.Joins
open Go.ChangeMaps (open_string shut_string)
set_option linter.unusedVariables false
theorem Tryd.cellsInt : Tryd.prog.cellsOf 3 = 1 := by kernel_rfl
theorem Tryd.cellsNode : Tryd.prog.cellsOf 52 = 3 := by kernel_rfl

theorem redundantRefs_witness (os : Os) {H : Type} (enc : TypeId × Value → H) :
    (Rows.OpenSpec.upto Rows.redundantRefsSpec).preRow enc Tryd.prog Tryd.f4 [] false Rows.redundantRefsUptoRow.laid ((World.doorLaid Tryd.prog 400 os).forCall (fun _ _ => 0) ⟨#[], #[.slice none 0 0, .slice none 0 0, .slice none 0 0], []⟩).memory #[.slice none 0 0, .slice none 0 0, .slice none 0 0] := by
  have hw : (DataW.whole enc Tryd.prog ((World.doorLaid Tryd.prog 400 os).forCall (fun _ _ => 0) ⟨#[], #[.slice none 0 0, .slice none 0 0, .slice none 0 0], []⟩).memory Tryd.f4.params.toList (Rows.OpenSpec.upto Rows.redundantRefsSpec).vars false (#[.slice none 0 0, .slice none 0 0, .slice none 0 0] : Array Value).toList 8).map (fun x => (x.1, x.2.1)) =
      some ([.nil, .nil, .nil], []) := by kernel_rfl
  obtain ⟨⟨x1, x2, x3⟩, hx, hx1⟩ := Option.map_eq_some_iff.1 hw
  simp only [Prod.mk.injEq] at hx1
  obtain ⟨rfl, rfl⟩ := hx1
  exact OpenSpec.preRow_of_cond 8 hx (by kernel_rfl) (fun k hk => by cases hk; rfl) (by kernel_rfl) (laidMetH_of_parts3 (fuel := 8) (laidMet_of_run' 8 (by kernel_rfl) (by kernel_rfl)) (by kernel_rfl) (by kernel_rfl))

set_option maxRecDepth 100000 in
set_option maxHeartbeats 1000000 in
theorem redundantRefs_lifted (os : Os) (started : os.Started) (H : Type) (enc : TypeId × Value → H) (F0 : Stop.Interp) :
    ReturnsInHanded {} Tryd.checked os 4 .any ((Rows.OpenSpec.upto Rows.redundantRefsSpec).preRow enc Tryd.prog Tryd.f4 [] false Rows.redundantRefsUptoRow.laid) (((Rows.OpenSpec.upto Rows.redundantRefsSpec).at F0).post enc Tryd.prog Tryd.f4 false true false false) := by
  refine returnsInHanded_of_row (C := Tryd.checked) (s := Rows.OpenSpec.upto Rows.redundantRefsSpec) own started (by kernel_rfl) Tryd.func4
    (witness_row_atRef (enc := enc) (C := Tryd.checked) false (World.doorLaid Tryd.prog 400 os) #[.slice none 0 0, .slice none 0 0, .slice none 0 0] rfl (by kernel_rfl) (by kernel_rfl) (by kernel_rfl) (redundantRefs_witness os enc)) ?_
  intro W base args ds gs before hval0 hW _ hcond _ hL _ _
  have hup : Rows.uptoBulkAll (ds ++ gs) ≤ 1048576 := by have h := hcond _ rfl; simpa [Rows.uptoSmall] using h
  have hval : ∀ (j : Nat) t v, Tryd.f4.params[j]? = some t → args[j]? = some v → Value.okWide Tryd.prog W .any base t v := hval0
  have hW' := hW
  obtain ⟨p, q, hA0, hV, rfl, hfz, hnd⟩ := hW
  have hA : DataW.TrodAll enc Tryd.prog W 0 (fun _ => true) true Tryd.f4.params.toList args.toList ds p := hA0
  rw [Tryd.params4] at hA hval
  obtain ⟨v0, vs0, d0, ds0, p0, q0, hargs, rfl, rfl, h0, r0⟩ := trodAll_cons hA
  obtain ⟨v1, vs1, d1, ds1, p1, q1, rfl, rfl, rfl, h1, r1⟩ := trodAll_cons r0
  obtain ⟨v2, vs2, d2, ds2, p2, q2, rfl, rfl, rfl, h2, r2⟩ := trodAll_cons r1
  obtain ⟨rfl, rfl, rfl⟩ := trodAll_nil r2
  obtain rfl : args = #[v0, v1, v2] := by cases args; simp_all
  obtain ⟨rfl, rfl⟩ := trodVars_none hV
  have k0 := h0
  have lt0 : ∀ x ∈ p0, x.block < W.heap.size := by obtain ⟨m, hm⟩ := k0; exact DataW.trod_lt m _ _ _ hm
  have k1 := h1
  have lt1 : ∀ x ∈ p1, x.block < W.heap.size := by obtain ⟨m, hm⟩ := k1; exact DataW.trod_lt m _ _ _ hm
  have k2 := h2
  have lt2 : ∀ x ∈ p2, x.block < W.heap.size := by obtain ⟨m, hm⟩ := k2; exact DataW.trod_lt m _ _ _ hm
  obtain ⟨A0, n0, cap0, l0, rfl, rd0, hc0, hm0, wf0, nl0⟩ := rd_ints Tryd.underlying22 Tryd.underlying3 Tryd.cellsInt (hval 0 22 v0 rfl rfl) h0
  obtain ⟨A1, n1, cap1, l1s, rfl, rd1s, hc1, hm1, nl1⟩ := rd_structs (encS := encN32) (k := 3) Tryd.underlying23 Tryd.underlying52 (by kernel_rfl) Tryd.cellsNode rfl (by omega) (hval 1 23 v1 rfl rfl) h1
    (fun n cell hf => by
      obtain ⟨v, y, hc, ht⟩ := hf 0 _ rfl
      obtain ⟨v', y', hc', ht'⟩ := hf 1 _ rfl
      obtain ⟨v'', y'', hc'', ht''⟩ := hf 2 _ rfl
      obtain ⟨a, e0, rfl, _⟩ := DataW.trod_int Tryd.underlying3 ht
      obtain ⟨s, e1, rfl, _⟩ := DataW.trod_string Tryd.underlying9 ht'
      obtain ⟨m, e2, rfl, wf⟩ := DataW.trod_int Tryd.underlying50 ht''
      simp at e0 e1 e2
      subst e0 e1 e2
      have hb := bounds_u32 wf
      obtain ⟨m, rfl⟩ := Int.eq_ofNat_of_zero_le hb.1
      refine ⟨⟨⟨a, s, m⟩, by show m < 4294967296; omega⟩, fun c u hu => ?_⟩
      rcases c with _ | _ | _ | c
      · simp [encN32, encN] at hu; subst hu; exact hc
      · simp [encN32, encN] at hu; subst hu; exact hc'
      · simp [encN32, encN] at hu; subst hu; exact hc''
      · simp [encN32, encN] at hu)
  obtain ⟨l1, rd1, wn1⟩ := nodes_of rd1s
  obtain ⟨mp2, hp2⟩ := h2
  obtain ⟨xa2, xl2, xc2, rfl⟩ := okWide_slice Tryd.underlying36 (hval 2 36 v2 rfl rfl)
  have hp2' : DataW.trod enc Tryd.prog W 0 (fun _ => true) true mp2 36 [.slice xa2 xl2 xc2] = some (d2, p2) := hp2
  obtain ⟨A2, n2, cap2, l2, hpe2, rd2, hc2, hm2, wl2⟩ := rd_peers_b (M := 1048576) hp2' (by show Rows.uptoBulk d2 ≤ 1048576; simp only [Rows.uptoBulkAll, List.append_nil] at hup; omega)
  injection hpe2 with hpa2 hpb2 hpc2
  replace hpa2 := hpa2.symm
  replace hpb2 := hpb2.symm
  replace hpc2 := hpc2.symm
  subst hpa2 hpb2 hpc2
  clear hA0 hval0
  have hT : TabG W := tabG_of hL (by kernel_rfl)
  have hL2 : LetG W := letG_second hL (by kernel_rfl) (by kernel_rfl)
  refine (redundantrefs_walk A0 n0 cap0 l0 A1 n1 cap1 l1 A2 n2 cap2 l2 W rd0 hc0 hm0 rd1 hc1 hm1 rd2 (fun p hp => ⟨Nat.le_trans (wl2 p hp).1 (by decide), Nat.le_trans (wl2 p hp).2 (by decide)⟩) hT hL2).mono fun e W' ⟨he, hch⟩ => ?_
  have bel : Below W.heap.size W W' := hch.below (fun _ h => h)
  subst he
  exact ⟨_, rfl, _, _, _, [], _, [], hW', trodAll_mk1 (shut_bool Tryd.underlying4 _), (trodAll_cons_mk (Below.trod laidOut (by kernel_rfl) (of_decide_eq_true (by kernel_rfl)) k0 bel lt0) (trodAll_cons_mk (Below.trod laidOut (by kernel_rfl) (of_decide_eq_true (by kernel_rfl)) k1 bel lt1) (trodAll_cons_mk (Below.trod laidOut (by kernel_rfl) (of_decide_eq_true (by kernel_rfl)) k2 bel lt2) trodAll_mk0))), rfl, bel.frame _, fun h => by cases h⟩

theorem redundantRefs_over : Rows.redundantRefsUptoRow.holds Tryd.pinned (Rows.OpenSpec.upto Rows.redundantRefsSpec) :=
  OpenClaim.holds_of_cond 4 Tryd.f4 rfl rfl rfl rfl rfl rfl rfl ⟨rfl, rfl, rfl, rfl, rfl⟩ rfl rfl rfl rfl rfl (by kernel_rfl) Tryd.func4 (by kernel_rfl)
    (of_decide_eq_true (by kernel_rfl)) (by unfold Func.isWrapper; first | (rw [if_pos (by decide +kernel)]; kernel_rfl) | (rw [if_neg (by decide +kernel)]; exact ⟨rfl, rfl⟩))
    (fun os started H enc _ F0 => by rw [OpenClaim.pre_eq_preRow]; exact redundantRefs_lifted os started H enc F0)

/-- THE STATEMENT: the tied card -/
theorem RedundantRefs_holds : Rows.RedundantRefsUptoCardSaid :=
  Claim7.holds_tied_plain_at .later [] [.data, .data] true (true, "537bcba351ee7c6ecaa5297babacf7821561b6c8c2db16f64a63e42404e90020") false
    redundantRefs_over (fun _ h => by cases h) (by kernel_rfl) (fun _ h => by cases h) redundantRefsUpto_row_tie rfl ⟨rfl, rfl⟩ (by kernel_rfl) rfl
    (fun f fn hf hfn => by
      obtain rfl : f = 4 := Option.some.inj ((show Tryd.prog.funcNamed "skipgraph/skipgraphlaw14.RedundantRefs" = some 4 by kernel_rfl).symm.trans hf) |>.symm
      obtain rfl : fn = Tryd.f4 := (Option.some.inj (Tryd.func4.symm.trans hfn)).symm
      exact ⟨by kernel_rfl, fun j t ht => by
        rw [Tryd.params4] at ht
        have hm : t ∈ [22, 23, 36] := by simpa using Array.mem_of_getElem? ht
        have hall : ([22, 23, 36].all fun u => !Tryd.prog.wantsStandIn u) = true := by kernel_rfl
        exact (show Tryd.prog.wantsStandIn t = false by simpa using List.all_eq_true.1 hall t hm)⟩)
    (by kernel_rfl)
#print axioms RedundantRefs_holds
end Go.Proofs.YtbnbjiddffihoaaDoor
