/- Texts for the statement WireRoundTripProof, part 8 of 8: DlP, SameL, SameN, Dmg, WireSane, WireNds, WireRt, LaidL, Open, OpenB, OpenL, WireRoundTripProof. -/
import Derived.Test.YtjaemckdfoaopabDoorTie
import Derived.Test.YtjaemckdfoaopabDoorCards
import Derived.Lib.LaidTab
import Derived.ChangeArms
import Derived.LaidMore
import Derived.Stop.Joined
import Derived.SevenTiedAt
import Derived.Test.YtjaemckdfoaopabDoorRows
import Derived.ProofKit
import Derived.OpenShut
import Derived.ShutString
import Derived.ChangeOld
import Derived.Lib.SmallJoins
import Derived.Deep.Slices
import Derived.Deep.Fields
import Derived.ChangeSame
import Derived.Test.YtjaemckdfoaopabDoorWireRoundTripProofPk1
import Derived.Test.YtjaemckdfoaopabDoorWireRoundTripProofPk2
import Derived.Test.YtjaemckdfoaopabDoorWireRoundTripProofPk3
import Derived.Test.YtjaemckdfoaopabDoorWireRoundTripProofPk5
import Derived.Test.YtjaemckdfoaopabDoorWireRoundTripProofPk7

/- DecodeLinks of the package wire. -/
namespace Go.Proofs.YtjaemckdfoaopabDoor
open Go.RowKit

/-- a reader of the package wire in a block; the bytes lie below b0 -/
structure RdW (w : World) (g b0 : Nat) (R : List UInt8) (ok : Bool) (a : Option Addr) (n c : Nat) : Prop where
  blk : Blk w g [.slice a n c, .bool ok] 67
  sl : Sl 1 encB w a n R
  n2 : n ≤ 9223372036854775807
  nc : n ≤ c
  cm : c ≤ maxLen
  form : Form a c
  lt : ∀ x o, a = some ⟨x, o, none⟩ → 0 < n → x < b0
  lo : b0 ≤ g
theorem RdW.nx {w w' : World} {g b0 : Nat} {R : List UInt8} {ok : Bool} {a : Option Addr} {n c : Nat} (h : RdW w g b0 R ok a n c) (k : Ex w w') : RdW w' g b0 R ok a n c := ⟨h.blk.nx k, h.sl.nx k, h.n2, h.nc, h.cm, h.form, h.lt, h.lo⟩
theorem RdW.chg {w w' : World} {g b0 s : Nat} {R : List UInt8} {ok : Bool} {a : Option Addr} {n c : Nat} (h : RdW w g b0 R ok a n c) (k : Chg (fun x => x < s) w w') (hs : g < s) (hz : w.heap.size ≤ w'.heap.size) : RdW w' g b0 R ok a n c := by
  refine ⟨(k.block g hs).trans h.blk, ⟨h.sl.1, ?_⟩, h.n2, h.nc, h.cm, h.form, h.lt, h.lo⟩
  rcases h.sl.2 with h0 | ⟨x, o, e1, e2, e3⟩
  · exact .inl h0
  · rcases Nat.eq_zero_or_pos n with h0 | h0
    · exact .inl h0
    · exact .inr ⟨x, o, e1, Nat.lt_of_lt_of_le e2 hz, fun j y hj c u hu => by rw [k.cell (p := ⟨x, _, none⟩) (by have := h.lt x o e1 h0; have := h.lo; show x < s; omega)]; exact e3 j y hj c u hu⟩
theorem RdW.set {w : World} {g b0 : Nat} {R : List UInt8} {ok : Bool} {a : Option Addr} {n c : Nat} (h : RdW w g b0 R ok a n c) {p : Addr} (v : Value) (hp : b0 ≤ p.block) (hg : g ≠ p.block) : RdW (w.setCell p v) g b0 R ok a n c :=
  ⟨by have k : Chg (· ≠ p.block) w (w.setCell p v) := Chg.setCell (Chg.refl _ w) _ (fun x hx => hx)
      exact (k.block g hg).trans h.blk, sl_setF h.sl v (fun x o e h0 => by have := h.lt x o e h0; omega), h.n2, h.nc, h.cm, h.form, h.lt, h.lo⟩
/-- what a reader gives -/
structure RdO (w' : World) (b0 n : Nat) (R' : List UInt8) (a' : Option Addr) (n' c' : Nat) : Prop where
  sl : Sl 1 encB w' a' n' R'
  le : n' ≤ n
  n2 : n' ≤ 9223372036854775807
  nc : n' ≤ c'
  cm : c' ≤ maxLen
  form : Form a' c'
  lt : ∀ x o, a' = some ⟨x, o, none⟩ → 0 < n' → x < b0
theorem RdO.set {w : World} {b0 n : Nat} {R : List UInt8} {a : Option Addr} {n' c : Nat} (h : RdO w b0 n R a n' c) {p : Addr} (v : Value) (hp : b0 ≤ p.block) : RdO (w.setCell p v) b0 n R a n' c :=
  ⟨sl_setF h.sl v (fun x o e h0 => by have := h.lt x o e h0; omega), h.le, h.n2, h.nc, h.cm, h.form, h.lt⟩
theorem RdO.put {w : World} {g b0 n : Nat} {cs : List Value} (B : Blk w g cs 67) (hcs : cs.length = 2) {R : List UInt8} (ok : Bool) {a : Option Addr} {n' c : Nat} (h : RdO w b0 n R a n' c) (hb : b0 ≤ g) : RdW ((w.setCell ⟨g, 0, none⟩ (.slice a n' c)).setCell ⟨g, 1, none⟩ (.bool ok)) g b0 R ok a n' c := by
  have h2 := (h.set (p := ⟨g, 0, none⟩) (.slice a n' c) hb).set (p := ⟨g, 1, none⟩) (.bool ok) hb
  refine ⟨?_, h2.sl, h2.n2, h2.nc, h2.cm, h2.form, h2.lt, hb⟩
  match cs, hcs with
  | [x, y], _ => exact (B.set 0 (.slice a n' c)).set 1 (.bool ok)
def RWPost {α : Type} (val : α → Value) (r : Option (α × List UInt8)) (b0 n : Nat) (w : World) (e : Ending) (w' : World) : Prop :=
  ∃ (v : α) (R' : List UInt8) (ok' : Bool) (a' : Option Addr) (n' c' : Nat), e = .returned (.tuple #[val v, .agg #[.slice a' n' c', .bool ok']]) ∧ RdO w' b0 n R' a' n' c' ∧ Ex w w' ∧ (ok' = true → r = some (v, R')) ∧ (ok' = false → r = none)
theorem rw_of {α : Type} {val : α → Value} {r : Option (α × List UInt8)} {b0 : Nat} {w : World} {v : α} {k : Nat} {R : List UInt8} {ok' : Bool} {a : Option Addr} {n : Nat} (hn : n ≤ 9223372036854775807) (hl : R.length = n) (hlt : ∀ x o, a = some ⟨x, o, none⟩ → 0 < n → x < b0)
    (h1 : ok' = true → r = some (v, R.drop k)) (h2 : ok' = false → r = none) {e : Ending} {w' : World} (h : RdPost (val v) (R.drop k) ok' a w e w') : RWPost val r b0 n w e w' := by
  obtain ⟨a', n', c', rfl, s, nc, cm, f, x, kk⟩ := h
  have hn' : n' ≤ n := by have h3 := s.len; rw [List.length_drop] at h3; omega
  exact ⟨v, R.drop k, ok', a', n', c', rfl, ⟨s, hn', Nat.le_trans hn' hn, nc, cm, f, fun x' o he h0 => by obtain ⟨o', ho⟩ := x x' o he; exact hlt x' o' ho (by omega)⟩, kk, h1, h2⟩
theorem pw64 (g b0 : Nat) (R : List UInt8) (ok : Bool) (a : Option Addr) (n c : Nat) (w : World) (h : RdW w g b0 R ok a n c) :
    Calls Tryd.prog 27 #[.agg #[.slice a n c, .bool ok], .int .u64 64] w (RWPost (fun N : Nat => .int .u64 (N : Int)) (okB (!ok) (pU 64 R)) b0 n w) := by
  refine (ruint64_p a n c R ok w h.sl h.n2 h.nc h.cm h.form).mono ?_
  intro e w' hp
  refine rw_of (α := Nat) (v := (decR R).1) (k := (decR R).2.1) h.n2 h.sl.len h.lt (fun ho => ?_) (fun ho => ?_) hp
  · cases ok with
    | false => simp at ho
    | true =>
      show pU 64 R = _
      unfold pU
      rw [if_pos (by simpa using ho)]
  · cases ok with
    | false => rfl
    | true =>
      show pU 64 R = _
      unfold pU
      rw [if_neg (fun hh => by simp [hh.1] at ho; exact absurd hh.2 (by omega))]
theorem pw17 (g b0 : Nat) (R : List UInt8) (ok : Bool) (a : Option Addr) (n c : Nat) (w : World) (h : RdW w g b0 R ok a n c) :
    Calls Tryd.prog 27 #[.agg #[.slice a n c, .bool ok], .int .u64 17] w (RWPost (fun N : Nat => .int .u64 (N : Int)) (okB (!ok) (pU 17 R)) b0 n w) := by
  refine (ruint17_p a n c R ok w h.sl h.n2 h.nc h.cm h.form).mono ?_
  intro e w' hp
  refine rw_of (α := Nat) (v := (decR R).1) (k := (decR R).2.1) h.n2 h.sl.len h.lt (fun ho => ?_) (fun ho => ?_) hp
  · cases ok with
    | false => simp at ho
    | true =>
      show pU 17 R = _
      unfold pU
      rw [if_pos (by simpa using ho)]
  · cases ok with
    | false => rfl
    | true =>
      show pU 17 R = _
      unfold pU
      rw [if_neg (fun hh => by simp [hh.1] at ho; exact absurd hh.2 (by omega))]
theorem pwi (g b0 : Nat) (R : List UInt8) (ok : Bool) (a : Option Addr) (n c : Nat) (w : World) (h : RdW w g b0 R ok a n c) :
    Calls Tryd.prog 28 #[.agg #[.slice a n c, .bool ok]] w (RWPost (fun N : Int => .int .i64 N) (okB (!ok) (pI R)) b0 n w) := by
  refine (rint_p a n c R ok w h.sl h.n2 h.nc h.cm h.form).mono ?_
  intro e w' hp
  refine rw_of (α := Int) (v := (intR R).1) (k := (intR R).2.1) h.n2 h.sl.len h.lt (fun ho => ?_) (fun ho => ?_) hp
  · cases ok with
    | false => simp at ho
    | true =>
      show pI R = _
      unfold pI
      rw [if_pos (by simpa using ho)]
  · cases ok with
    | false => rfl
    | true =>
      show pI R = _
      unfold pI
      rw [if_neg (fun hh => by simp [hh] at ho)]
def DxRel (B : List UInt8) (base g b0 : Nat) (w : World) (nv o : Value) (wr : World) : Prop :=
  ∃ (N : Nat) (out : List Lkd) (qs : List (Int × Hdr)) (R : List UInt8) (ok : Bool) (a : Option Addr) (n c : Nat), nv = .int .u64 N ∧ OwnLk base wr o qs out ∧ RdW wr g b0 R ok a n c ∧ Exb g w wr ∧
    (ok = true → decL B = contK N out R ∧ N + out.length ≤ 64) ∧ (ok = false → decL B = none)
def DyRel (B : List UInt8) (m : Nat) (out : List Lkd) (id : Int) (g b0 g9 base : Nat) (w : World) (nv : Value) (wr : World) : Prop :=
  ∃ (N : Nat) (row : List (Int × Int)) (R : List UInt8) (ok : Bool) (a : Option Addr) (n c : Nat) (vv : Value), nv = .int .u64 N ∧ Blk wr g9 [.int .i64 id, vv] 59 ∧ OwnL 2 encS 56 base wr vv row ∧ RdW wr g b0 R ok a n c ∧ Exb g w wr ∧ base ≤ wr.heap.size ∧ row.length ≤ 17 ∧
    (ok = true → decL B = contVK m out id N row R ∧ N + row.length ≤ 17) ∧ (ok = false → decL B = none)

set_option maxRecDepth 100000 in
set_option maxHeartbeats 4000000 in
theorem decl_p (a : Option Addr) (n c : Nat) (B : List UInt8) (w : World) (h : Sl 1 encB w a n B) (hn : n ≤ 9223372036854775807) (hc : n ≤ c) (hm : c ≤ maxLen) (hf : Form a c) :
    Calls Tryd.prog 12 #[.slice a n c] w (LkPost (decLd B).1 (decLd B).2 w) := by
  have HLT : Hid (∀ x o, a = some ⟨x, o, none⟩ → 0 < n → x < w.heap.size) := Lib.hid (fun x o e h0 => by
    rcases h.2 with h2 | ⟨y, o2, e1, e2, _⟩
    · omega
    · rw [e] at e1; cases e1; exact e2)
  go_enter Tryd.func12, Tryd.ntmps12
  go_wp2_with fail
  (with_reducible refine (ruint64_p _ _ _ _ true _ h hn hc hm hf).mono ?_)
  intro e w1 hp
  have hp : RWPost (fun N : Nat => .int .u64 (N : Int)) (okB (!true) (pU 64 B)) w.heap.size n w e w1 :=
    rw_of (α := Nat) (v := (decR B).1) (k := (decR B).2.1) hn h.len HLT.out (fun ho => by
      show pU 64 B = _
      unfold pU
      rw [if_pos (by simpa using ho)]) (fun ho => by
      show pU 64 B = _
      unfold pU
      rw [if_neg (fun hh => by simp [hh.1] at ho; exact absurd hh.2 (by omega))]) hp
  obtain ⟨N, R, ok, a1, n1, c1, rfl, RO, k1, HP, HQ⟩ := hp
  have HP := Lib.hid HP
  have HQ := Lib.hid HQ
  have k2 := Ex.new w1 (.cells #[.slice a1 n1 c1, .bool ok] 67)
  have B2 := Blk.new w1 [.slice a1 n1 c1, .bool ok] 67
  obtain ⟨w2, hw2⟩ : ∃ w2, w2 = w1.alloc (.cells #[.slice a1 n1 c1, .bool ok] 67) := ⟨_, rfl⟩
  obtain ⟨g5, hg5⟩ : ∃ g5, g5 = w1.heap.size := ⟨_, rfl⟩
  have B2 : Blk w2 g5 [.slice a1 n1 c1, .bool ok] 67 := by rw [hw2, hg5]; exact B2
  rw [← hw2] at k2
  have hgb : w.heap.size ≤ g5 := by have := k1.size; omega
  have RD : RdW w2 g5 w.heap.size R ok a1 n1 c1 := ⟨B2, RO.sl.nx k2, RO.n2, RO.nc, RO.cm, RO.form, RO.lt, hgb⟩
  have KK := Lib.hid (k1.nx k2)
  have HW2 := Lib.hid hw2
  have HG5 := Lib.hid hg5
  have zz := KK.out.size
  have h5b : g5 < w2.heap.size := B2.lt
  clear h hf hw2 hg5 k1 k2 B2 RO hn hc hm
  go_upto_region 2 with fail
  rw [← HG5.out, ← HW2.out]
  go_wp2_with fail
  go_loopw [4, 6] (fun nv o wr => DxRel B w2.heap.size g5 w.heap.size w2 nv o wr) (fun nv _ _ => (intOf nv).toNat)
  case atStart =>
    refine ⟨N, [], [], R, ok, a1, n1, c1, rfl, OwnN.nil _ _ _ _ _ _ _ _, RD, Exb.refl _ _, fun ho => ?_, fun ho => ?_⟩
    · have := decL_ok (HP.out ho); exact ⟨this.1, by have := this.2; simp; omega⟩
    · exact decL_no (HQ.out ho)
  case round =>
    clear RD HP HQ
    obtain ⟨N, out, qs, R, ok, a, n, c, rfl, own, RD, kw, HT, HF⟩ := hrel
    obtain ⟨wo, rfl⟩ : ∃ wo : World, wo = wr := ⟨_, rfl⟩
    have q0 := RD.blk.cell 0 _ rfl
    have q1 := RD.blk.cell 1 _ rfl
    have HT := Lib.hid HT
    have HF := Lib.hid HF
    have ke : Ex w wo := Ex.of_exb ((KK.out.b g5).nxb kw) hgb
    have OQ := Lib.hid own
    cases ok with
    | false =>
      have HE : Hid (decLd B = ([], 4)) := Lib.hid (by unfold decLd; rw [HF.out rfl])
      clear RD own
      by_cases hN0 : (0 : Int) < (N : Int)
      · go_wp2_with fail
        go_ret2
        rw [HE.out]
        exact ⟨_, [], rfl, OwnN.nil _ _ _ _ _ _ _ _, ke⟩
      · go_wp2_with fail
        go_ret2
        rw [HE.out]
        exact ⟨_, [], rfl, OwnN.nil _ _ _ _ _ _ _ _, ke⟩
    | true =>
      obtain ⟨hD, hNo⟩ := HT.out rfl
      by_cases hN0 : N = 0
      · subst hN0
        have hRl := RD.sl.len
        by_cases hn0 : n = 0
        · have HE : Hid (decLd B = (out, 0)) := Lib.hid (by unfold decLd; rw [hD]; unfold contK; rw [if_pos (by omega)])
          have dn : ¬ (0 : Int) < (n : Int) := by omega
          clear RD hD hRl hn0 own
          go_wp2_with fail
          go_ret2
          rw [HE.out]
          exact ⟨_, qs, rfl, OQ.out.base zz, ke⟩
        · have HE : Hid (decLd B = ([], 4)) := Lib.hid (by unfold decLd; rw [hD]; unfold contK; rw [if_neg (by omega)])
          have dn : (0 : Int) < (n : Int) := by omega
          clear RD own hD hRl hn0
          go_wp2_with fail
          go_ret2
          rw [HE.out]
          exact ⟨_, [], rfl, OwnN.nil _ _ _ _ _ _ _ _, ke⟩
      · obtain ⟨m, rfl⟩ : ∃ m, N = m + 1 := ⟨N - 1, by omega⟩
        have hNp : (0 : Int) < ((m + 1 : Nat) : Int) := by omega
        have hol : out.length ≤ 63 := by omega
        have hmb : m ≤ 63 := by omega
        have HOL := Lib.hid hNo
        have HD := Lib.hid hD
        have hwo : w.heap.size ≤ wo.heap.size := ke.size
        have h5o := RD.blk.lt
        have hww2 := kw.size
        have KW := Lib.hid kw
        clear hN0 own hD kw hNo q0 q1
        have B7 := Blk.new wo [.int .i64 0, .slice none 0 0] 59
        have k3 := Ex.new wo (.cells #[.int .i64 0, .slice none 0 0] 59)
        obtain ⟨w3, hw3⟩ : ∃ w3, w3 = wo.alloc (.cells #[.int .i64 0, .slice none 0 0] 59) := ⟨_, rfl⟩
        obtain ⟨g7, hg7⟩ : ∃ g7, g7 = wo.heap.size := ⟨_, rfl⟩
        have B7 : Blk w3 g7 [.int .i64 0, .slice none 0 0] 59 := by rw [hw3, hg7]; exact B7
        rw [← hw3] at k3
        have h57 : g5 ≠ g7 := by omega
        have h75 : g7 ≠ g5 := fun h => h57 h.symm
        have g55 : ¬ g5 = g7 := h57
        have g75 : ¬ g7 = g5 := h75
        have h7o : wo.heap.size ≤ g7 := by omega
        have h7b : w.heap.size ≤ g7 := by omega
        have h7l := B7.lt
        have h5l3 : g5 < w3.heap.size := by have := k3.size; omega
        have RD0 := Lib.hid RD
        replace RD := RD.nx k3
        have kx := k3.b g5
        have HW3 := Lib.hid hw3
        have HG7 := Lib.hid hg7
        have y0 := RD0.out.blk.cell 0 _ rfl
        have y1 := RD0.out.blk.cell 1 _ rfl
        clear hw3 hg7 k3
        go_upto_region 6 with fail
        rw [← HG7.out, ← HW3.out]
        clear y0 y1
        have q0 := RD.blk.cell 0 _ rfl
        have q1 := RD.blk.cell 1 _ rfl
        go_wp2_with fail
        (with_reducible refine (pwi _ _ _ _ _ _ _ _ RD).mono ?_)
        rintro e w4b ⟨v4, Rb4, b4, ab4, nb4, cb4, rfl, RO, k4, HPb4, HQb4⟩
        have HPb4 := Lib.hid HPb4
        have HQb4 := Lib.hid HQb4
        have z4 := k4.size
        have B5 := RD.blk.nx k4
        replace kx := kx.nxb (k4.b g5)
        clear q0 q1
        replace B7 := B7.nx k4
        clear RD k4
        have q0 := B5.cell 0 _ rfl
        have q1 := B5.cell 1 _ rfl
        have f0 := B5.free 0
        have f1 := B5.free 1
        have p0 := B7.cell 0 _ rfl
        have p1 := B7.cell 1 _ rfl
        have z0 := B7.free 0
        have z1 := B7.free 1
        replace B5 := B5.set_ne (j := 0) (.int .i64 v4) h57
        replace RO := RO.set (p := ⟨g7, 0, none⟩) (.int .i64 v4) h7b
        replace B7 := B7.set 0 (.int .i64 v4)
        replace kx := kx.setNew (p := ⟨g7, 0, none⟩) (.int .i64 v4) h7o
        replace B7 := (B7.set_ne (j := 0) (.slice ab4 nb4 cb4) h75).set_ne (j := 1) (.bool b4) h75
        have RD := RO.put B5 rfl b4 hgb
        replace kx := (kx.setB (p := ⟨g5, 0, none⟩) (.slice ab4 nb4 cb4) rfl).setB (p := ⟨g5, 1, none⟩) (.bool b4) rfl
        have KX := Lib.hid kx
        have RDH := Lib.hid RD
        clear kx RD RO B5
        go_upto_region 8 with fail
        clear q0 q1 f0 f1 p0 p1 z0 z1
        obtain ⟨w4, hwx⟩ : ∃ w4, w4 = (((w4b.setCell ⟨g7, 0, none⟩ (.int .i64 v4)).setCell ⟨g5, 0, none⟩ (.slice ab4 nb4 cb4)).setCell ⟨g5, 1, none⟩ (.bool b4)) := ⟨_, rfl⟩
        have B7 : Blk w4 g7 [.int .i64 v4, .slice none 0 0] 59 := by rw [hwx]; exact B7
        have RD : RdW w4 g5 w.heap.size Rb4 b4 ab4 nb4 cb4 := by rw [hwx]; exact RDH.out
        have kx : Exb g5 wo w4 := by rw [hwx]; exact KX.out
        have hzw4 : w3.heap.size ≤ w4.heap.size := by rw [hwx]; simp; omega
        rw [← hwx]
        clear hwx KX RDH z4
        have q0 := RD.blk.cell 0 _ rfl
        have q1 := RD.blk.cell 1 _ rfl
        go_wp2_with fail
        (with_reducible refine (pw17 _ _ _ _ _ _ _ _ RD).mono ?_)
        rintro e w5b ⟨v5, Rb5, b5, ab5, nb5, cb5, rfl, RO, k4, HPb5, HQb5⟩
        have HPb5 := Lib.hid HPb5
        have HQb5 := Lib.hid HQb5
        have z4 := k4.size
        have B5 := RD.blk.nx k4
        replace kx := kx.nxb (k4.b g5)
        clear q0 q1
        replace B7 := B7.nx k4
        clear RD k4
        have q0 := B5.cell 0 _ rfl
        have q1 := B5.cell 1 _ rfl
        have f0 := B5.free 0
        have f1 := B5.free 1
        have RD := RO.put B5 rfl b5 hgb
        replace kx := (kx.setB (p := ⟨g5, 0, none⟩) (.slice ab5 nb5 cb5) rfl).setB (p := ⟨g5, 1, none⟩) (.bool b5) rfl
        replace B7 := (B7.set_ne (j := 0) (.slice ab5 nb5 cb5) h75).set_ne (j := 1) (.bool b5) h75
        have KX := Lib.hid kx
        have RDH := Lib.hid RD
        clear kx RD RO B5
        go_upto_region 9 with fail
        clear q0 q1 f0 f1
        obtain ⟨w5, hwx⟩ : ∃ w5, w5 = ((w5b.setCell ⟨g5, 0, none⟩ (.slice ab5 nb5 cb5)).setCell ⟨g5, 1, none⟩ (.bool b5)) := ⟨_, rfl⟩
        have B7 : Blk w5 g7 [.int .i64 v4, .slice none 0 0] 59 := by rw [hwx]; exact B7
        have RD : RdW w5 g5 w.heap.size Rb5 b5 ab5 nb5 cb5 := by rw [hwx]; exact RDH.out
        have kx : Exb g5 wo w5 := by rw [hwx]; exact KX.out
        have hzw5 : w4.heap.size ≤ w5.heap.size := by rw [hwx]; simp; omega
        rw [← hwx]
        clear hwx KX RDH z4
        have hz5 : w3.heap.size ≤ w5.heap.size := by omega
        go_wp2_with fail
        go_loopw [8] (fun nv wr => DyRel B m out v4 g5 w.heap.size g7 w3.heap.size wo nv wr) (fun nv _ => (intOf nv).toNat)
        case atStart =>
          refine ⟨v5, [], _, b5, _, _, _, _, rfl, B7, OwnL.nil _ _ _ _ _, RD, kx, hz5, by simp, fun ho => ?_, fun ho => ?_⟩
          · subst ho
            have e2 := HPb5.out rfl
            cases b4 with
            | false => cases e2
            | true =>
              have := contK_ok (m := m) (out := out) (HPb4.out rfl) e2
              rw [HD.out]
              exact ⟨this.1, by have := this.2; simp; omega⟩
          · rw [HD.out]
            exact contK_no (b1 := !b4) (fun h => HPb4.out (by simpa using h)) (fun h => HQb4.out (by simpa using h)) (HQb5.out ho)
        case round =>
          clear RD B7 HPb4 HQb4 HPb5 HQb5 kx hz5 hzw4 hzw5
          obtain ⟨N, row, R, ok, a, n, c, vv, rfl, B7, orow, RD, kv, hzr, hrl, HT2, HF2⟩ := hrel
          obtain ⟨wi, rfl⟩ : ∃ wi : World, wi = wr := ⟨_, rfl⟩
          have HT2 := Lib.hid HT2
          have HF2 := Lib.hid HF2
          by_cases hgo : ok = true ∧ 0 < N
          · obtain ⟨rfl, hNp2⟩ := hgo
            obtain ⟨j, rfl⟩ : ∃ j, N = j + 1 := ⟨N - 1, by omega⟩
            obtain ⟨hD2, hjr⟩ := HT2.out rfl
            have HD2 := Lib.hid hD2
            have LTV := Lib.hid (fun x hx => (orow.lt x hx).2)
            have hNp3 : (0 : Int) < ((j + 1 : Nat) : Int) := by omega
            have hzi := kv.size
            clear hD2 HT2 HF2
            have B9 := Blk.new wi [.int .i64 0, .int .i64 0] 56
            have k7 := Ex.new wi (.cells #[.int .i64 0, .int .i64 0] 56)
            obtain ⟨w7, hw7⟩ : ∃ w7, w7 = wi.alloc (.cells #[.int .i64 0, .int .i64 0] 56) := ⟨_, rfl⟩
            obtain ⟨g9, hg9⟩ : ∃ g9, g9 = wi.heap.size := ⟨_, rfl⟩
            have B9 : Blk w7 g9 [.int .i64 0, .int .i64 0] 56 := by rw [hw7, hg9]; exact B9
            rw [← hw7] at k7
            have hz7 := k7.size
            have h95 : g9 ≠ g5 := by omega
            have h59 : g5 ≠ g9 := fun h => h95 h.symm
            have g95 : ¬ g9 = g5 := h95
            have g59 : ¬ g5 = g9 := h59
            have h9o : wo.heap.size ≤ g9 := by omega
            have h9b : w.heap.size ≤ g9 := by omega
            have h93 : w3.heap.size ≤ g9 := by omega
            have h97 : g9 ≠ g7 := by omega
            have h79 : g7 ≠ g9 := fun h => h97 h.symm
            have g97 : ¬ g9 = g7 := h97
            have g79 : ¬ g7 = g9 := h79
            have y0 := RD.blk.cell 0 _ rfl
            have y1 := RD.blk.cell 1 _ rfl
            have RD0 := Lib.hid RD
            replace B7 := B7.nx k7
            replace orow := orow.nx k7
            have kx := kv.nxb (k7.b g5)
            have R9 : ∀ x, vv.ownBlock = some x → x ≠ g9 := fun x hx => by have := LTV.out x hx; omega
            have HW7 := Lib.hid hw7
            have HG9 := Lib.hid hg9
            have HR := Lib.hid R9
            have HB7 := Lib.hid B7
            clear hw7 hg9 kv R9 RD B7 LTV
            go_upto_region 12 with fail
            rw [← HG9.out, ← HW7.out]
            have RD := RD0.out.nx k7
            have B7 := HB7.out
            clear y0 y1 RD0 HB7 k7
            have q0 := RD.blk.cell 0 _ rfl
            have q1 := RD.blk.cell 1 _ rfl
            go_wp2_with fail
            (with_reducible refine (pwi _ _ _ _ _ _ _ _ RD).mono ?_)
            rintro e w8b ⟨v6, Rb6, b6, ab6, nb6, cb6, rfl, RO, k4, HPb6, HQb6⟩
            have HPb6 := Lib.hid HPb6
            have HQb6 := Lib.hid HQb6
            have z4 := k4.size
            have B5 := RD.blk.nx k4
            replace kx := kx.nxb (k4.b g5)
            clear q0 q1
            replace B9 := B9.nx k4
            replace B7 := B7.nx k4
            replace orow := orow.nx k4
            clear RD k4
            have q0 := B5.cell 0 _ rfl
            have q1 := B5.cell 1 _ rfl
            have f0 := B5.free 0
            have f1 := B5.free 1
            have p0 := B9.cell 0 _ rfl
            have p1 := B9.cell 1 _ rfl
            have z0 := B9.free 0
            have z1 := B9.free 1
            replace B5 := B5.set_ne (j := 0) (.int .i64 v6) h59
            replace RO := RO.set (p := ⟨g9, 0, none⟩) (.int .i64 v6) h9b
            replace B9 := B9.set 0 (.int .i64 v6)
            replace kx := kx.setNew (p := ⟨g9, 0, none⟩) (.int .i64 v6) h9o
            replace B9 := (B9.set_ne (j := 0) (.slice ab6 nb6 cb6) h95).set_ne (j := 1) (.bool b6) h95
            have RD := RO.put B5 rfl b6 hgb
            replace kx := (kx.setB (p := ⟨g5, 0, none⟩) (.slice ab6 nb6 cb6) rfl).setB (p := ⟨g5, 1, none⟩) (.bool b6) rfl
            replace B7 := ((B7.set_ne (j := 0) (.int .i64 v6) h79).set_ne (j := 0) (.slice ab6 nb6 cb6) h75).set_ne (j := 1) (.bool b6) h75
            replace orow := orow.chg ((Chg.refl (· ≠ g9) _).setCell (p := ⟨g9, 0, none⟩) (.int .i64 v6) (fun x hx => hx)) (fun x _ hv => HR.out x hv)
            replace orow := orow.chg ((Chg.refl (· ≠ g5) _).setCell (p := ⟨g5, 0, none⟩) (.slice ab6 nb6 cb6) (fun x hx => hx)) (fun x _ hv => (by have := (orow.lt x hv).1; omega))
            replace orow := orow.chg ((Chg.refl (· ≠ g5) _).setCell (p := ⟨g5, 1, none⟩) (.bool b6) (fun x hx => hx)) (fun x _ hv => (by have := (orow.lt x hv).1; omega))
            have KX := Lib.hid kx
            have RDH := Lib.hid RD
            clear kx RD RO B5
            go_upto_region 13 with fail
            clear q0 q1 f0 f1 p0 p1 z0 z1
            obtain ⟨w8, hwx⟩ : ∃ w8, w8 = (((w8b.setCell ⟨g9, 0, none⟩ (.int .i64 v6)).setCell ⟨g5, 0, none⟩ (.slice ab6 nb6 cb6)).setCell ⟨g5, 1, none⟩ (.bool b6)) := ⟨_, rfl⟩
            have B9 : Blk w8 g9 [.int .i64 v6, .int .i64 0] 56 := by rw [hwx]; exact B9
            have B7 : Blk w8 g7 [.int .i64 v4, vv] 59 := by rw [hwx]; exact B7
            have RD : RdW w8 g5 w.heap.size Rb6 b6 ab6 nb6 cb6 := by rw [hwx]; exact RDH.out
            have kx : Exb g5 wo w8 := by rw [hwx]; exact KX.out
            have hzw8 : w7.heap.size ≤ w8.heap.size := by rw [hwx]; simp; omega
            have orow : OwnL 2 encS 56 w3.heap.size w8 vv row := by rw [hwx]; exact orow
            rw [← hwx]
            clear hwx KX RDH z4
            have q0 := RD.blk.cell 0 _ rfl
            have q1 := RD.blk.cell 1 _ rfl
            go_wp2_with fail
            (with_reducible refine (pwi _ _ _ _ _ _ _ _ RD).mono ?_)
            rintro e w9b ⟨v8, Rb8, b8, ab8, nb8, cb8, rfl, RO, k4, HPb8, HQb8⟩
            have HPb8 := Lib.hid HPb8
            have HQb8 := Lib.hid HQb8
            have z4 := k4.size
            have B5 := RD.blk.nx k4
            replace kx := kx.nxb (k4.b g5)
            clear q0 q1
            replace B9 := B9.nx k4
            replace B7 := B7.nx k4
            replace orow := orow.nx k4
            clear RD k4
            have q0 := B5.cell 0 _ rfl
            have q1 := B5.cell 1 _ rfl
            have f0 := B5.free 0
            have f1 := B5.free 1
            have p0 := B9.cell 0 _ rfl
            have p1 := B9.cell 1 _ rfl
            have z0 := B9.free 0
            have z1 := B9.free 1
            replace B5 := B5.set_ne (j := 1) (.int .i64 v8) h59
            replace RO := RO.set (p := ⟨g9, 1, none⟩) (.int .i64 v8) h9b
            replace B9 := B9.set 1 (.int .i64 v8)
            replace kx := kx.setNew (p := ⟨g9, 1, none⟩) (.int .i64 v8) h9o
            replace B9 := (B9.set_ne (j := 0) (.slice ab8 nb8 cb8) h95).set_ne (j := 1) (.bool b8) h95
            have RD := RO.put B5 rfl b8 hgb
            replace kx := (kx.setB (p := ⟨g5, 0, none⟩) (.slice ab8 nb8 cb8) rfl).setB (p := ⟨g5, 1, none⟩) (.bool b8) rfl
            replace B7 := ((B7.set_ne (j := 1) (.int .i64 v8) h79).set_ne (j := 0) (.slice ab8 nb8 cb8) h75).set_ne (j := 1) (.bool b8) h75
            replace orow := orow.chg ((Chg.refl (· ≠ g9) _).setCell (p := ⟨g9, 1, none⟩) (.int .i64 v8) (fun x hx => hx)) (fun x _ hv => HR.out x hv)
            replace orow := orow.chg ((Chg.refl (· ≠ g5) _).setCell (p := ⟨g5, 0, none⟩) (.slice ab8 nb8 cb8) (fun x hx => hx)) (fun x _ hv => (by have := (orow.lt x hv).1; omega))
            replace orow := orow.chg ((Chg.refl (· ≠ g5) _).setCell (p := ⟨g5, 1, none⟩) (.bool b8) (fun x hx => hx)) (fun x _ hv => (by have := (orow.lt x hv).1; omega))
            have KX := Lib.hid kx
            have RDH := Lib.hid RD
            clear kx RD RO B5
            go_upto_region 14 with fail
            clear q0 q1 f0 f1 p0 p1 z0 z1
            obtain ⟨w9, hwx⟩ : ∃ w9, w9 = (((w9b.setCell ⟨g9, 1, none⟩ (.int .i64 v8)).setCell ⟨g5, 0, none⟩ (.slice ab8 nb8 cb8)).setCell ⟨g5, 1, none⟩ (.bool b8)) := ⟨_, rfl⟩
            have B9 : Blk w9 g9 [.int .i64 v6, .int .i64 v8] 56 := by rw [hwx]; exact B9
            have B7 : Blk w9 g7 [.int .i64 v4, vv] 59 := by rw [hwx]; exact B7
            have RD : RdW w9 g5 w.heap.size Rb8 b8 ab8 nb8 cb8 := by rw [hwx]; exact RDH.out
            have kx : Exb g5 wo w9 := by rw [hwx]; exact KX.out
            have hzw9 : w8.heap.size ≤ w9.heap.size := by rw [hwx]; simp; omega
            have orow : OwnL 2 encS 56 w3.heap.size w9 vv row := by rw [hwx]; exact orow
            rw [← hwx]
            clear hwx KX RDH z4
            have q0 := B9.cell 0 _ rfl
            have q1 := B9.cell 1 _ rfl
            have p0 := B7.cell 0 _ rfl
            have p1 := B7.cell 1 _ rfl
            have zb : w3.heap.size ≤ w9.heap.size := by omega
            go_wp2_with (at_builtin; (refine wpList_append_lit (enc := encS) w9 rfl _ _ 57 rfl w3.heap.size 56 (.agg #[.int .i64 0, .int .i64 0]) 2 16 Tryd.underlying57 Tryd.infoLk rfl (by omega) (by omega) _ _ orow rfl ((v6, v8) : Int × Int) _ rfl rfl (by simp [encS, Value.oneCell']) _ (by simp) rfl (by omega) zb _ ?_); intro v10 w10 own10 _ ch1 _; obtain ⟨a10, c10, rfl, _, _, _, _⟩ := own10.rd (fun _ => rfl); have B10 : Blk w10 g7 _ _ := (ch1.block g7 h7l).trans B7; have z10 := B10.free 1; have p10 := B10.cell 1 _ rfl)
            have hll : (row ++ [(v6, v8)]).length = row.length + 1 := by simp
            have hz10 := ch1.size
            have own11 : OwnL 2 encS 56 w3.heap.size (w10.setCell ⟨g7, 1, none⟩ (.slice a10 (row ++ [(v6, v8)]).length c10)) (.slice a10 (row ++ [(v6, v8)]).length c10) (row ++ [(v6, v8)]) :=
              own10.chg ((Chg.refl (· ≠ g7) w10).setCell _ (fun x hx => hx)) (fun x _ hv => by have := (own10.lt x hv).1; omega)
            have kv11 : Exb g5 wo (w10.setCell ⟨g7, 1, none⟩ (.slice a10 (row ++ [(v6, v8)]).length c10)) := (show Exb g5 wo w10 from Chg.trans kx (ch1.mono (fun x hx => by have := hx.1; show x < w3.heap.size; omega))).setNew _ h7o
            have RD11 := (RD.chg (ch1.mono (fun x hx => hx)) h5l3 hz10).set (p := ⟨g7, 1, none⟩) (.slice a10 (row ++ [(v6, v8)]).length c10) h7b h57
            have B11 := B10.set 1 (.slice a10 (row ++ [(v6, v8)]).length c10)
            rw [hll] at own11 kv11 B11 RD11
            refine ⟨⟨j, row ++ [(v6, v8)], _, b8, _, _, _, _, by go_num, B11, own11, RD11, kv11, by simp; omega, by rw [hll]; omega, fun ho => ?_, fun ho => ?_⟩, by simp [intOf]; try omega⟩
            · subst ho
              have e2 := HPb8.out rfl
              cases b6 with
              | false => cases e2
              | true =>
                rw [HD2.out, contVK_ok (HPb6.out rfl) e2, hll]
                exact ⟨rfl, by omega⟩
            · rw [HD2.out]
              exact contVK_no (b1 := !b6) (fun h => HPb6.out (by simpa using h)) (fun h => HQb6.out (by simpa using h)) (HQb8.out ho)
          · have q0 := B7.cell 0 _ rfl
            have q1 := B7.cell 1 _ rfl
            have y1 := RD.blk.cell 1 _ rfl
            obtain ⟨a6, c6, rfl, _, _, _, _⟩ := orow.rd (fun _ => rfl)
            have hzi := kv.size
            have OQ1 := OQ.out.nxb h5b kv
            have hkq : qs.length = out.length := OQ1.2.1
            have FR : ∀ (j : Nat) (r : Int × Hdr) (g : Nat), qs[j]? = some r → r.2.val.ownBlock = some g → ¬ (Value.slice a6 row.length c6).ownBlock = some g := by
              intro j r g hr hg hv
              have h1 := OQ.out.lt hr hg
              have h2 := (orow.lt g hv).1
              omega
            have HEX : Hid ((ok = true → decL B = contK m (out ++ [(v4, row)]) R ∧ m + (out ++ [(v4, row)]).length ≤ 64) ∧ (ok = false → decL B = none)) := Lib.hid ⟨fun ho => by
              subst ho
              obtain rfl : N = 0 := by
                rcases Nat.eq_zero_or_pos N with h | h
                · exact h
                · exact absurd ⟨rfl, h⟩ hgo
              exact ⟨(HT2.out rfl).1, by have := HOL.out; simp; omega⟩, HF2.out⟩
            have hgo' : (¬ (0 : Int) < (N : Int)) ∨ ((0 : Int) < (N : Int) ∧ ok = false) := by
              rcases Nat.eq_zero_or_pos N with h | h
              · exact .inl (by omega)
              · exact .inr ⟨by omega, by cases ok with | false => rfl | true => exact absurd ⟨rfl, h⟩ hgo⟩
            have k8 := Ex.new wi (.cells #[.int .i64 v4, .slice a6 row.length c6] 59)
            have SX : Sl 2 (encP encI) (wi.alloc (.cells #[.int .i64 v4, .slice a6 row.length c6] 59)) (some ⟨wi.heap.size, 0, none⟩) 1 [((v4, (a6, row.length, c6)) : Int × Hdr)] := Sl.lit _ rfl rfl (fun _ => rfl) rfl
            have OQ2 := OQ1.nx k8
            have own2 := orow.nx k8
            have RD8 := RD.nx k8
            have KV8 := Lib.hid (kv.nxb (k8.b g5))
            have HGO := hgo'
            clear hgo hgo' HT2 HF2
            rcases HGO with hx | ⟨hx, rfl⟩
            · go_wp2_with (at_builtin; (refine wpList_append_W (enc := encP encI) _ rfl _ _ 28 rfl w2.heap.size 59 (.agg #[.int .i64 0, .slice none 0 0]) 2 32 Tryd.underlying28 Tryd.infoLd rfl (by omega) (by omega) _ _ OQ2.1 rfl _ 1 1 [_] SX (fun _ => rfl) (by simp [encP, encI, Hdr.val, Value.oneCell']) rfl (by omega) (by omega) (by simp; omega) ?_); intro v7 w7 own7 ch0 ch1 _)
              have OQ7 := OQ2.push (by decide) own7 ch0 (own2.base (by omega)) FR
              have kw7 : Exb g5 w2 w7 := Chg.trans (KW.out.nxb KV8.out) (ch1.mono (fun x hx => hx.1))
              have RD9 := RD8.chg (ch1.mono (fun x hx => hx)) h5b ch0.size
              exact ⟨⟨m, out ++ [(v4, row)], _, R, _, a, n, c, by go_num, OQ7, RD9, kw7, HEX.out.1, HEX.out.2⟩, by simp [intOf]; try omega⟩
            · go_wp2_with (at_builtin; (refine wpList_append_W (enc := encP encI) _ rfl _ _ 28 rfl w2.heap.size 59 (.agg #[.int .i64 0, .slice none 0 0]) 2 32 Tryd.underlying28 Tryd.infoLd rfl (by omega) (by omega) _ _ OQ2.1 rfl _ 1 1 [_] SX (fun _ => rfl) (by simp [encP, encI, Hdr.val, Value.oneCell']) rfl (by omega) (by omega) (by simp; omega) ?_); intro v7 w7 own7 ch0 ch1 _)
              have OQ7 := OQ2.push (by decide) own7 ch0 (own2.base (by omega)) FR
              have kw7 : Exb g5 w2 w7 := Chg.trans (KW.out.nxb KV8.out) (ch1.mono (fun x hx => hx.1))
              have RD9 := RD8.chg (ch1.mono (fun x hx => hx)) h5b ch0.size
              exact ⟨⟨m, out ++ [(v4, row)], _, R, _, a, n, c, by go_num, OQ7, RD9, kw7, HEX.out.1, HEX.out.2⟩, by simp [intOf]; try omega⟩
end Go.Proofs.YtjaemckdfoaopabDoor

/- When two lists of links are equal. -/
namespace Go.Proofs.YtjaemckdfoaopabDoor
open Go.RowKit

def SmRel (L M : List Lkd) (n : Nat) (w : World) (i : Value) (wr : World) : Prop := ∃ k : Nat, k ≤ n ∧ i = .int .i64 k ∧ Ex w wr ∧ L.take k = M.take k
def SvRel (r s : List (Int × Int)) (n : Nat) (w : World) (i : Value) (wr : World) : Prop := ∃ k : Nat, k ≤ n ∧ i = .int .i64 k ∧ Ex w wr ∧ r.take k = s.take k
theorem take_snoc_eq {α : Type} {L M : List α} {k : Nat} {c d : α} (h : L.take k = M.take k) (hc : L[k]? = some c) (hd : M[k]? = some d) (he : c = d) : L.take (k + 1) = M.take (k + 1) := by
  rw [List.take_add_one, List.take_add_one, h, hc, hd, he]
theorem ne_at {α : Type} {L M : List α} {k : Nat} {c d : α} (hc : L[k]? = some c) (hd : M[k]? = some d) (he : c ≠ d) : ¬ L = M := by
  intro h
  rw [h, hd] at hc
  exact he (Option.some.inj hc).symm

set_option maxHeartbeats 4000000 in
theorem samelk_r (a1 a2 : Option Addr) (n m c1 c2 : Nat) (L M : List Lkd) (w : World) (h1 : LkL w a1 n L) (h2 : LkL w a2 m M) (hn : n ≤ 1000000) (hs : ∀ c ∈ L, c.2.length ≤ 1000000) :
    Calls Tryd.prog 13 #[.slice a1 n c1, .slice a2 m c2] w fun e w' => e = .returned (.bool (decide (L = M))) ∧ Ex w w' := by
  have HL := Lib.hid h1.len
  have HM := Lib.hid h2.len
  have HS := Lib.hid hs
  clear hs
  go_enter Tryd.func13, Tryd.ntmps13
  by_cases hnm : n = m
  · subst hnm
    go_wp2_with fail
    go_loopw [5] (fun i wr => SmRel L M n w i wr) (fun i _ => n - (intOf i).toNat)
    case atStart => exact ⟨0, by omega, rfl, Ex.refl _, rfl⟩
    case round =>
      obtain ⟨k, hk, rfl, kw, hT⟩ := hrel
      obtain ⟨wo, rfl⟩ : ∃ wo : World, wo = wr := ⟨_, rfl⟩
      have HT := Lib.hid hT
      clear hT
      by_cases hlt : k < n
      · obtain ⟨x1, o1, a1', n1', c1', d1, rfl, hx1, hy1, hc1, r1⟩ := (h1.nx kw).at hlt
        obtain ⟨x2, o2, a2', n2', c2', d2, rfl, hx2, hy2, hc2, r2⟩ := (h2.nx kw).at hlt
        have e0 : wo.cell? ⟨x1, o1 + k * 2, none⟩ = some (.int .i64 d1.1) := hc1 0 _ rfl
        have e1 : wo.cell? ⟨x1, o1 + k * 2 + 1, none⟩ = some (.slice a1' n1' c1') := hc1 1 _ rfl
        have f0 : wo.cell? ⟨x2, o2 + k * 2, none⟩ = some (.int .i64 d2.1) := hc2 0 _ rfl
        have f1 : wo.cell? ⟨x2, o2 + k * 2 + 1, none⟩ = some (.slice a2' n2' c2') := hc2 1 _ rfl
        have HY1 := Lib.hid hy1
        have HY2 := Lib.hid hy2
        have L1 := Lib.hid r1.len
        have L2 := Lib.hid r2.len
        have R1 := Lib.hid r1
        have R2 := Lib.hid r2
        have H1 := Lib.hid h1
        have H2 := Lib.hid h2
        have hb1 : n1' ≤ 1000000 := by rw [← r1.len]; exact HS.out _ (List.mem_of_getElem? hy1)
        have KW := Lib.hid kw
        clear hc1 hc2 hy1 hy2 r1 r2 h1 h2 kw
        by_cases hid : d1.1 = d2.1
        · by_cases hln : n1' = n2'
          · subst hln
            have g1 : decide (d1.1 = d2.1) = true := by simpa using hid
            go_wp2_with fail
            go_quiet (fail)
            go_wp2_with fail
            have KQ := KW.out.drewN 0
            go_loopw [6] (fun i wr => SvRel d1.2 d2.2 n1' wo i wr) (fun i _ => n1' - (intOf i).toNat)
            case atStart => exact ⟨0, by omega, rfl, (Ex.refl wo).drewN _, rfl⟩
            case round =>
              obtain ⟨j, hj, rfl, kv, hT2⟩ := hrel
              obtain ⟨wi, rfl⟩ : ∃ wi : World, wi = wr := ⟨_, rfl⟩
              have HT2 := Lib.hid hT2
              clear hT2
              have e1 := Chg.cellv kv e1 hx1
              have f1 := Chg.cellv kv f1 hx2
              by_cases hjl : j < n1'
              · obtain ⟨x3, o3, y1, rfl, hx3, hy1, hc3⟩ := (R1.out.nx kv).at hjl
                obtain ⟨x4, o4, y2, rfl, hx4, hy2, hc4⟩ := (R2.out.nx kv).at hjl
                have u0 : wi.cell? ⟨x3, o3 + j * 2, none⟩ = some (.int .i64 y1.1) := hc3 0 _ rfl
                have u1 : wi.cell? ⟨x3, o3 + j * 2 + 1, none⟩ = some (.int .i64 y1.2) := hc3 1 _ rfl
                have v0 : wi.cell? ⟨x4, o4 + j * 2, none⟩ = some (.int .i64 y2.1) := hc4 0 _ rfl
                have v1 : wi.cell? ⟨x4, o4 + j * 2 + 1, none⟩ = some (.int .i64 y2.2) := hc4 1 _ rfl
                have HZ1 := Lib.hid hy1
                have HZ2 := Lib.hid hy2
                have KV := Lib.hid kv
                clear hc3 hc4 hy1 hy2 kv e0 f0
                by_cases hy : y1 = y2
                · subst hy
                  go_wp2_with fail
                  go_quiet (fail)
                  go_wp2_with fail
                  exact ⟨⟨j + 1, by omega, by go_num, KV.out.drewN _, take_snoc_eq HT2.out HZ1.out HZ2.out rfl⟩, by simp [intOf]; omega⟩
                · have ND : Hid (decide (L = M) = false) := Lib.hid (decide_eq_false (ne_at HY1.out HY2.out (fun h => ne_at HZ1.out HZ2.out hy (by rw [h]))))
                  obtain ⟨p1, r1⟩ := y1
                  obtain ⟨p2, r2⟩ := y2
                  simp only at u0 u1 v0 v1
                  by_cases hp : p1 = p2
                  · subst hp
                    have hr : ¬ r1 = r2 := fun h => hy (by rw [h])
                    have hb : (r1 == r2) = false := by simpa using hr
                    clear hy HZ1 HZ2
                    go_wp2_with fail
                    go_quiet (fail)
                    go_wp2_with fail
                    go_ret
                    exact ⟨by rw [ND.out]; rfl, (KW.out.nx KV.out).drewN _⟩
                  · have hb : (p1 == p2) = false := by simpa using hp
                    clear hy HZ1 HZ2
                    go_wp2_with fail
                    go_quiet (fail)
                    go_wp2_with fail
                    go_ret
                    exact ⟨by rw [ND.out]; rfl, (KW.out.nx KV.out).drewN _⟩
              · obtain rfl : j = n1' := by omega
                have ED : d1 = d2 := Prod.ext hid (by
                  have h3 := HT2.out
                  rwa [List.take_of_length_le (by rw [L1.out]; exact Nat.le_refl _), List.take_of_length_le (by rw [L2.out]; exact Nat.le_refl _)] at h3)
                have ED := Lib.hid ED
                have KV := Lib.hid kv
                clear kv hj hjl e0 f0
                go_wp2_with fail
                exact ⟨⟨k + 1, by omega, by go_num, KW.out.nx KV.out, take_snoc_eq HT.out HY1.out HY2.out ED.out⟩, by simp [intOf]; omega⟩
          · have g1 : decide (d1.1 = d2.1) = true := by simpa using hid
            have g2 : ¬ (n1' : Int) = (n2' : Int) := by omega
            have ND : Hid (decide (L = M) = false) := Lib.hid (decide_eq_false (ne_at HY1.out HY2.out (fun h => hln (by rw [← L1.out, ← L2.out, h]))))
            go_wp2_with fail
            go_quiet (fail)
            go_wp2_with fail
            go_ret
            exact ⟨by rw [ND.out]; rfl, KW.out.drewN _⟩
        · have g1 : decide (d1.1 = d2.1) = false := by simpa using hid
          have ND : Hid (decide (L = M) = false) := Lib.hid (decide_eq_false (ne_at HY1.out HY2.out (fun h => hid (by rw [h]))))
          go_wp2_with fail
          go_quiet (fail)
          go_wp2_with fail
          go_ret
          exact ⟨by rw [ND.out]; rfl, KW.out.drewN _⟩
      · obtain rfl : k = n := by omega
        have ED : Hid (decide (L = M) = true) := Lib.hid (decide_eq_true (by
          have h3 := HT.out
          rwa [List.take_of_length_le (by rw [HL.out]; exact Nat.le_refl _), List.take_of_length_le (by rw [HM.out]; exact Nat.le_refl _)] at h3))
        clear h1 h2 hk hlt
        go_wp2_with fail
        go_ret
        exact ⟨by rw [ED.out]; rfl, kw⟩
  · have hnm' : ¬ (n : Int) = (m : Int) := by omega
    have ND : Hid (decide (L = M) = false) := Lib.hid (decide_eq_false (fun h => hnm (by rw [← HL.out, ← HM.out, h])))
    clear h1 h2
    go_wp2_with fail
    go_ret
    exact ⟨by rw [ND.out]; rfl, Ex.refl _⟩
end Go.Proofs.YtjaemckdfoaopabDoor

/- When two lists of nodes are equal. -/
namespace Go.Proofs.YtjaemckdfoaopabDoor
open Go.RowKit

set_option maxHeartbeats 1000000 in
theorem samenodes_x (a1 a2 : Option Addr) (n c1 c2 : Nat) (l : List Nd) (w : World) (h1 : Sl 3 encN w a1 n l) (h2 : Sl 3 encN w a2 n l) (hn : n ≤ 1000000) :
    Calls Tryd.prog 11 #[.slice a1 n c1, .slice a2 n c2] w fun e w' => e = .returned (.bool true) ∧ Ex w w' := by
  go_enter Tryd.func11, Tryd.ntmps11
  go_wp2_with fail
  go_loopw [5] (fun i wr => NRel n w i wr) (fun i _ => n - (intOf i).toNat)
  case atStart => exact ⟨0, by omega, rfl, Ex.refl _⟩
  case round =>
    obtain ⟨k, hk, rfl, kw⟩ := hrel
    obtain ⟨wo, rfl⟩ : ∃ wo : World, wo = wr := ⟨_, rfl⟩
    by_cases hlt : k < n
    · obtain ⟨x1, o1, y, rfl, hx1, hy, hc1⟩ := (h1.nx kw).at hlt
      obtain ⟨x2, o2, y', rfl, hx2, hy', hc2⟩ := (h2.nx kw).at hlt
      obtain rfl : y = y' := Option.some.inj (hy.symm.trans hy')
      have e0 : wo.cell? ⟨x1, o1 + k * 3, none⟩ = some (.int .i64 y.id) := hc1 0 _ rfl
      have e1 : wo.cell? ⟨x1, o1 + k * 3 + 1, none⟩ = some (.string y.key) := hc1 1 _ rfl
      have e2 : wo.cell? ⟨x1, o1 + k * 3 + 1 + 1, none⟩ = some (.int .u32 y.word) := by simpa [Nat.add_assoc] using hc1 2 _ rfl
      have f0 : wo.cell? ⟨x2, o2 + k * 3, none⟩ = some (.int .i64 y.id) := hc2 0 _ rfl
      have f1 : wo.cell? ⟨x2, o2 + k * 3 + 1, none⟩ = some (.string y.key) := hc2 1 _ rfl
      have f2 : wo.cell? ⟨x2, o2 + k * 3 + 1 + 1, none⟩ = some (.int .u32 y.word) := by simpa [Nat.add_assoc] using hc2 2 _ rfl
      clear hc1 hc2 hy hy' h1 h2
      go_wp2_with fail
      go_quiet (fail)
      go_wp2_with fail
      exact ⟨⟨k + 1, by omega, by go_num, kw.drewN _⟩, by simp [intOf]; omega⟩
    · obtain rfl : k = n := by omega
      clear h1 h2 hk hlt
      go_wp2_with fail
      go_ret
      exact ⟨rfl, kw⟩

end Go.Proofs.YtjaemckdfoaopabDoor

/- Damage to an encoding; what both decoders say about any bytes. -/
namespace Go.Proofs.YtjaemckdfoaopabDoor
open Go.RowKit

/-- some bytes -/
def BytesAt (w : World) (v : Value) (m : Nat) : Prop := ∃ (a : Option Addr) (n c : Nat) (B : List UInt8), v = .slice a n c ∧ Sl 1 encB w a n B ∧ n ≤ m ∧ n ≤ c ∧ c ≤ maxLen ∧ Form a c
theorem BytesAt.nx {w w' : World} {v : Value} {m : Nat} (h : BytesAt w v m) (k : Ex w w') : BytesAt w' v m := by
  obtain ⟨a, n, c, B, e, s, r⟩ := h
  exact ⟨a, n, c, B, e, s.nx k, r⟩
/-- some bytes that do not lie in block b -/
def BytesAb (b : Nat) (w : World) (v : Value) (m : Nat) : Prop := ∃ (a : Option Addr) (n c : Nat) (B : List UInt8), v = .slice a n c ∧ Slb 1 encB b w a n B ∧ n ≤ m ∧ n ≤ c ∧ c ≤ maxLen ∧ Form a c
theorem BytesAb.nxb {b : Nat} {w w' : World} {v : Value} {m : Nat} (h : BytesAb b w v m) (k : Exb b w w') : BytesAb b w' v m := by
  obtain ⟨a, n, c, B, e, s, r⟩ := h
  exact ⟨a, n, c, B, e, s.nxb k, r⟩
theorem BytesAb.at {b : Nat} {w : World} {v : Value} {m : Nat} (h : BytesAb b w v m) : BytesAt w v m := by
  obtain ⟨a, n, c, B, e, s, r⟩ := h
  exact ⟨a, n, c, B, e, s.sl, r⟩
theorem own_form {e : TypeId} {base : Nat} {w : World} {a : Option Addr} {n c : Nat} {l : List UInt8} (h : OwnL 1 encB e base w (.slice a n c) l) : Form a c := by
  rcases h.2 with ⟨h1, _⟩ | ⟨g', cap, cur, e1, _⟩
  · cases h1; exact .inl ⟨rfl, rfl⟩
  · cases e1; exact .inr ⟨_, _, rfl⟩
theorem own_bytes {e : TypeId} {base m : Nat} {w : World} {v : Value} {l : List UInt8} (h : OwnL 1 encB e base w v l) (hm : l.length ≤ m) : BytesAt w v m := by
  obtain ⟨a, c, rfl, r, c1, c2, c3⟩ := h.rd (fun _ => rfl)
  exact ⟨a, l.length, c, l, rfl, Rd.mono r (fun _ hk => hk.2), hm, c1, c2, own_form h⟩
theorem own_bytesb {e : TypeId} {base b m : Nat} {w : World} {v : Value} {l : List UInt8} (h : OwnL 1 encB e base w v l) (hm : l.length ≤ m) (hb : b < base) : BytesAb b w v m := by
  obtain ⟨a, c, rfl, r, c1, c2, c3⟩ := h.rd (fun _ => rfl)
  exact ⟨a, l.length, c, l, rfl, Rd.mono r (fun k hk => ⟨hk.2, by have := hk.1; omega⟩), hm, c1, c2, own_form h⟩
theorem own_cellB {e : TypeId} {base : Nat} {w : World} {g n cap j : Nat} {l : List UInt8} (h : OwnL 1 encB e base w (.slice (some ⟨g, 0, none⟩) n cap) l) (hj : j < n) :
    w.cell? ⟨g, j, none⟩ = some (.int .u8 (l[j]?.getD 0).toNat) ∧ w.frozen? ⟨g, j, none⟩ = false ∧ ∀ y : UInt8, OwnL 1 encB e base (w.setCell ⟨g, j, none⟩ (.int .u8 y.toNat)) (.slice (some ⟨g, 0, none⟩) n cap) (l.set j y) := by
  rcases h.2 with ⟨h1, _⟩ | ⟨g', cap', cur, e1, e2, e3, e4, e5, e6, e7⟩
  · cases h1
  · cases e1
    have hflat : ∀ l : List UInt8, l.flatMap encB = l.map fun c => Value.int .u8 c.toNat := by
      intro l
      induction l with
      | nil => rfl
      | cons c r ih => rw [List.flatMap_cons, ih]; rfl
    have hjc : j < cur.size := by omega
    rw [hflat] at e7
    refine ⟨?_, ?_, fun y => ⟨?_, .inr ⟨g, cap, cur.setIfInBounds j (.int .u8 y.toNat), by simp, e2, heap_set e3 j _, by simpa using e4, e5, by simpa using e6, ?_⟩⟩⟩
    · have hx : (cur.toList.take (l.length * 1))[j]? = some (.int .u8 (l[j]?.getD 0).toNat) := by
        rw [e7]
        simp [hj]
      rw [List.getElem?_take, if_pos (by omega)] at hx
      simpa [World.cell?, e3] using hx
    · simp [World.frozen?, e3]
    · rw [flatN_len (enc := encB) (sz := 1) (fun _ => rfl)]
    · rw [hflat, List.length_set, Array.toList_setIfInBounds, List.take_set, e7, List.map_set]
theorem byte_natB {p : Int} (h0 : 0 ≤ p) (h1 : p ≤ 255) : ∃ y : UInt8, p = (y.toNat : Int) := ⟨byt p.toNat, by rw [byt_toNat]; omega⟩
def DamPost (m b : Nat) (w : World) (e : Ending) (w' : World) : Prop := ∃ v, e = .returned v ∧ BytesAb b w' v m ∧ TK w' b ∧ Exb b w w'

set_option maxRecDepth 100000 in
set_option maxHeartbeats 4000000 in
theorem damage_t {b : Nat} (a : Option Addr) (n c : Nat) (B : List UInt8) (w : World) (T : TK w b) (h : Sl 1 encB w a n B) (hn : n ≤ 100000) (hnil : a = none → c = 0) :
    Calls Tryd.prog 14 #[.pointer (some ⟨b, 0, none⟩), .slice a n c] w (DamPost 100001 b w) := by
  have HBL := Lib.hid h.len
  have q0 := Ex.new w (.cells #[] 5)
  have h0 := h.nx q0
  have own0 : OwnL 1 encB 5 w.heap.size (w.alloc (.cells #[] 5)) (.slice (some ⟨w.heap.size, 0, none⟩) 0 0) [] := OwnL.empty (Nat.le_refl _) rfl
  go_enter Tryd.func14, Tryd.ntmps14
  go_upto_region 2 with (at_builtin; (refine wpList_append_rd (enc := encB) _ rfl _ _ 23 rfl w.heap.size 5 (.int .u8 0) 1 1 Tryd.underlying23 Tryd.infoB rfl (by omega) (by omega) _ [] own0 rfl _ a n c B h0 hnil (fun _ => rfl) (by simp [encB, Value.oneCell']) rfl (by simp) (by omega) (by simp) ?_); intro v1 w1 own1 hch0 hch1)
  have k1 : Ex w w1 := Chg.trans q0 hch1
  rw [List.nil_append] at own1
  have hbw := T.lt
  replace T := T.nx k1
  clear q0 h0 own0 hch0 hch1 h
  obtain ⟨A, C, rfl, s1, o1, m1, nil1⟩ := own1.slf (fun _ => rfl)
  have KB := Lib.hid (k1.b b)
  have OW := Lib.hid own1
  rw [HBL.out] at s1 o1 ⊢
  have S1 := Lib.hid (s1.slb hbw)
  have F1 : Hid (Form A C) := Lib.hid (own_form OW.out)
  clear k1 s1 own1 nil1
  by_cases hn0 : n = 0
  · subst hn0
    go_wp2_with fail
    go_ret
    exact ⟨_, rfl, ⟨A, 0, C, B, rfl, S1.out, by omega, by omega, m1, F1.out⟩, T, KB.out⟩
  obtain ⟨g, rfl⟩ : ∃ g, A = some ⟨g, 0, none⟩ := by
    rcases OW.out.2 with ⟨_, h1⟩ | ⟨g', cap, cur, e1, _⟩
    · have := HBL.out; rw [h1] at this; exact absurd this.symm hn0
    · cases e1; exact ⟨_, rfl⟩
  have hgw : w.heap.size ≤ g := (OW.out.lt g rfl).1
  have hnI : ¬ (n : Int) = 0 := by omega
  go_wp2_with fail
  refine (next_t 4 _ T (by omega) (by omega)).mono ?_
  clear T
  rintro e w2 ⟨r, rfl, r0, r1, T, k2⟩
  have own2 := OW.out.nxb hbw k2
  have kb2 := KB.out.nxb k2
  have s2 : Slb 1 encB b w2 (some ⟨g, 0, none⟩) n B := by
    obtain ⟨A', C', e1, s, _⟩ := own2.slf (fun _ => rfl)
    rw [HBL.out] at e1 s
    cases e1
    exact s.slb hbw
  clear k2
  by_cases hr0 : r = 0
  · subst hr0
    have O2 := Lib.hid own2
    clear own2 S1
    have s2 := Lib.hid s2
    go_wp2_with fail
    refine (next_t n _ T (by omega) (by omega)).mono ?_
    clear T
    rintro e w3 ⟨q, rfl, q0, q1, T, k3⟩
    obtain ⟨q, rfl⟩ := Int.eq_ofNat_of_zero_le q0
    have kb3 := kb2.nxb k3
    have own3 := O2.out.nxb hbw k3
    have s3 : Slb 1 encB b w3 (some ⟨g, 0, none⟩) n B := by
      obtain ⟨A', C', e1, s, _⟩ := own3.slf (fun _ => rfl)
      rw [HBL.out] at e1 s
      cases e1
      exact s.slb hbw
    have s4 : Hid (Slb 1 encB b w3 (some ⟨g, 0, none⟩) q (B.take q)) := Lib.hid (Rd.take s3 (m := q) (by omega))
    have KB3 := Lib.hid kb3
    have hqn : (q : Int) ≤ (C : Int) := by omega
    clear own3 s3 kb3 k3 O2 kb2
    go_wp2_with fail
    go_ret
    exact ⟨_, rfl, ⟨_, q, C, _, rfl, s4.out, by omega, by omega, m1, F1.out⟩, T, KB3.out⟩
  by_cases hr1 : r = 1
  · subst hr1
    have O2 := Lib.hid own2
    clear own2 S1 s2
    go_wp2_with fail
    refine (next_t 256 _ T (by omega) (by omega)).mono ?_
    clear T
    rintro e w3 ⟨q, rfl, q0, q1, T, k3⟩
    obtain ⟨y, rfl⟩ := byte_natB q0 (by omega)
    have hy := y.toNat_lt
    have kb3 := kb2.nxb k3
    have own3 := O2.out.nxb hbw k3
    have zz := kb3.size
    have hbl : B.length ≤ 1000000 := by rw [HBL.out]; omega
    have hbn := HBL
    have own3' : OwnL 1 encB 5 w.heap.size w3 (.slice (some ⟨g, 0, none⟩) n C) B := by rw [HBL.out] at own3; exact own3
    clear O2 own3
    go_wp2_with (at_builtin; (refine wpList_append_lit (enc := encB) w3 rfl _ _ 23 rfl w.heap.size 5 (.int .u8 0) 1 1 Tryd.underlying23 Tryd.infoB rfl (by omega) (by omega) _ _ own3' rfl y _ rfl rfl (by simp [encB, Value.oneCell']) _ (by simp) rfl (by omega) (by omega) _ ?_); intro v4 w4 own4 ch0 ch1 _)
    go_ret
    have T4 : TK w4 b := TP.chg T (ch1.mono (fun x (hx : x < b + 1) => by show x < w.heap.size; omega)) (fun _ hk => hk)
    exact ⟨_, rfl, own_bytesb own4 (by rw [List.length_append, hbn.out]; simp; omega) hbw, T4, Chg.trans kb3 (ch1.mono (fun x hx => hx.1))⟩
  · have hd0 : ¬ r = 0 := hr0
    have hd1 : ¬ r = 1 := hr1
    have O2 := Lib.hid own2
    clear own2 S1 s2
    go_wp2_with fail
    refine (next_t n _ T (by omega) (by omega)).mono ?_
    clear T
    rintro e w3 ⟨j, rfl, j0, j1, T, k3⟩
    obtain ⟨j, rfl⟩ := Int.eq_ofNat_of_zero_le j0
    have kb3 := kb2.nxb k3
    have O3 := Lib.hid (O2.out.nxb hbw k3)
    clear k3 O2 kb2
    go_wp2_with fail
    refine (next_t 256 _ T (by omega) (by omega)).mono ?_
    clear T
    rintro e w4 ⟨q, rfl, q0, q1, T, k4⟩
    have kb4 := kb3.nxb k4
    have O4 := Lib.hid (O3.out.nxb hbw k4)
    clear k4 O3 kb3
    go_wp2_with fail
    refine (pick_t (n := 5) 0 255 [0, 1, 128, 255, q] T rfl rfl rfl (by omega) (by omega) (by intro x hx; simp at hx; omega)).mono ?_
    clear T
    rintro e w5 ⟨p, rfl, p0, p1, T, k5⟩
    have kb5 := kb4.nxb k5
    have O5 := Lib.hid (O4.out.nxb hbw k5)
    obtain ⟨y, rfl⟩ := byte_natB p0 p1
    have hy := y.toNat_lt
    have own5 := O5.out
    rw [HBL.out] at own5
    obtain ⟨c0, f0, hset⟩ := own_cellB own5 (j := j) (by omega)
    have hset := Lib.hid (hset y)
    have T' := Lib.hid (T.set (p := ⟨g, j, none⟩) (.int .u8 y.toNat) (by show b < g; omega))
    have kb6 := Lib.hid (kb5.setNew (p := ⟨g, j, none⟩) (.int .u8 y.toNat) hgw)
    have hjn : (j : Int) < (n : Int) := by omega
    clear O4 O5 k5 kb4 kb5 own5 T
    go_wp2_with fail
    go_ret
    have hl : (B.set j y).length = n := by rw [List.length_set]; exact HBL.out
    have hs2 := hset.out
    exact ⟨_, rfl, own_bytesb hs2 (by omega) hbw, T'.out, kb6.out⟩

theorem contN_len : ∀ (m : Nat) (out : List Nd) (R : List UInt8) (l : List Nd), contN m out R = some l → l.length = m + out.length := by
  intro m
  induction m with
  | zero => intro out R l h; unfold contN at h; split at h <;> simp at h; subst h; simp
  | succ m ih =>
    intro out R l h
    change (pI R).bind _ = _ at h
    cases h1 : pI R with
    | none => rw [h1] at h; cases h
    | some r1 =>
      rw [h1, Option.bind_some] at h
      cases h2 : pS r1.2 with
      | none => rw [h2] at h; cases h
      | some r2 =>
        rw [h2, Option.bind_some] at h
        cases h3 : pU 4294967295 r2.2 with
        | none => rw [h3] at h; cases h
        | some r3 =>
          rw [h3, Option.bind_some] at h
          have := ih _ _ _ h
          simp at this
          omega
theorem decN_len {B : List UInt8} {l : List Nd} (h : decN B = some l) : l.length ≤ 64 := by
  unfold decN at h
  cases h1 : pU 64 B with
  | none => rw [h1] at h; cases h
  | some r =>
    rw [h1, Option.bind_some] at h
    have := contN_len _ _ _ _ h
    have := pU_le h1
    simp at *; omega
theorem decNd_len (B : List UInt8) : (decNd B).1.length ≤ 64 := by
  unfold decNd
  cases h : decN B with
  | none => simp
  | some l => exact decN_len h
theorem contV_len : ∀ (m : Nat) (row : List (Int × Int)) (R : List UInt8) (r : List (Int × Int) × List UInt8), contV m row R = some r → r.1.length = m + row.length := by
  intro m
  induction m with
  | zero => intro row R r h; unfold contV at h; cases h; simp
  | succ m ih =>
    intro row R r h
    change (pI R).bind _ = _ at h
    cases h1 : pI R with
    | none => rw [h1] at h; cases h
    | some r1 =>
      rw [h1, Option.bind_some] at h
      cases h2 : pI r1.2 with
      | none => rw [h2] at h; cases h
      | some r2 =>
        rw [h2, Option.bind_some] at h
        have := ih _ _ _ h
        simp at this
        omega
theorem contK_len : ∀ (m : Nat) (out : List Lkd) (R : List UInt8) (l : List Lkd), contK m out R = some l → (∀ c ∈ out, c.2.length ≤ 17) → l.length = m + out.length ∧ ∀ c ∈ l, c.2.length ≤ 17 := by
  intro m
  induction m with
  | zero => intro out R l h ho; unfold contK at h; split at h <;> simp at h; subst h; exact ⟨by simp, ho⟩
  | succ m ih =>
    intro out R l h ho
    change (pI R).bind _ = _ at h
    cases h1 : pI R with
    | none => rw [h1] at h; cases h
    | some r1 =>
      rw [h1, Option.bind_some] at h
      cases h2 : pU 17 r1.2 with
      | none => rw [h2] at h; cases h
      | some r2 =>
        rw [h2, Option.bind_some] at h
        cases h3 : contV r2.1 [] r2.2 with
        | none => rw [h3] at h; cases h
        | some r3 =>
          rw [h3, Option.bind_some] at h
          have hl := contV_len _ _ _ _ h3
          have hu := pU_le h2
          have := ih _ _ _ h (fun c hc => by
            rcases List.mem_append.1 hc with hc | hc
            · exact ho c hc
            · simp at hc; subst hc; simp at hl; simp; omega)
          refine ⟨?_, this.2⟩
          have := this.1
          simp at this
          omega
theorem decL_len {B : List UInt8} {l : List Lkd} (h : decL B = some l) : l.length ≤ 64 ∧ ∀ c ∈ l, c.2.length ≤ 17 := by
  unfold decL at h
  cases h1 : pU 64 B with
  | none => rw [h1] at h; cases h
  | some r =>
    rw [h1, Option.bind_some] at h
    have := contK_len _ _ _ _ h (by simp)
    have := pU_le h1
    simp at *
    exact ⟨by omega, by simpa using (contK_len _ _ _ _ h (by simp)).2⟩
theorem decLd_len (B : List UInt8) : (decLd B).1.length ≤ 64 ∧ ∀ c ∈ (decLd B).1, c.2.length ≤ 17 := by
  unfold decLd
  cases h : decL B with
  | none => simp
  | some l => exact decL_len h

end Go.Proofs.YtjaemckdfoaopabDoor

/- The sanity check of the statements on encodings, and numbers near powers of two. -/
namespace Go.Proofs.YtjaemckdfoaopabDoor
open Go.RowKit

theorem u64_nat (X : Int) : ∃ N : Nat, IntKind.u64.wrap X = (N : Int) ∧ N < 18446744073709551616 := ⟨(IntKind.u64.wrap X).toNat, by rw [wrap_u64n]; omega, by rw [wrap_u64n]; omega⟩
def EdgePost (b : Nat) (w : World) (e : Ending) (w' : World) : Prop := ∃ N : Nat, e = .returned (.int .u64 N) ∧ N < 18446744073709551616 ∧ TK w' b ∧ Exb b w w'
theorem sl_lit {w : World} {ty : TypeId} (l : List UInt8) {cs : Array Value} {n s : Nat} (hs : s = w.heap.size) (hn : l.length = n) (hc : cs = (l.flatMap encB).toArray) : Sl 1 encB (w.alloc (.cells cs ty)) (some ⟨s, 0, none⟩) n l :=
  Sl.lit l hs hn (fun _ => rfl) hc

set_option maxRecDepth 100000 in
set_option maxHeartbeats 2000000 in
theorem sane3_x (w : World) : Calls Tryd.prog 15 #[] w fun e w' => e = .returned (.bool true) ∧ Ex w w' := by
  have E1 : Hid (strB (encU 300) = ⟨#[172, 2]⟩) := (by decide +kernel : strB (encU 300) = ⟨#[172, 2]⟩)
  have E2 : Hid (strB (encU (zig (-1))) = ⟨#[1]⟩) := (by decide +kernel : strB (encU (zig (-1))) = ⟨#[1]⟩)
  have E3 : Hid (strB (encStr ⟨#[97, 98]⟩) = ⟨#[2, 97, 98]⟩) := (by decide +kernel : strB (encStr ⟨#[97, 98]⟩) = ⟨#[2, 97, 98]⟩)
  have E4 : Hid (decR [128, 0] = (0, 0, 4)) := (by decide +kernel : decR [128, 0] = (0, 0, 4))
  have E5 : Hid (strR [2, 97, 98, 99] 5 = (⟨#[97, 98]⟩, 3, 0)) := (by decide +kernel : strR [2, 97, 98, 99] 5 = (⟨#[97, 98]⟩, 3, 0))
  go_enter Tryd.func15, Tryd.ntmps15
  go_wp2_with fail
  refine (appuint_p none 0 0 [] 300 _ (Sl.nil _ _ _ _) (by omega) (fun _ => rfl) (by omega)).mono ?_
  rintro e w1 ⟨v, rfl, own1, k1⟩
  obtain ⟨A1, N1, C1, rfl, s1, _⟩ := run_own own1
  clear own1
  go_wp2_with fail
  refine (appint_p none 0 0 [] (-1) _ (Sl.nil _ _ _ _) (by omega) (fun _ => rfl) (by omega) (by omega)).mono ?_
  rintro e w2 ⟨v, rfl, own2, k2⟩
  obtain ⟨A2, N2, C2, rfl, s2, _⟩ := run_own own2
  have k := k1.nx k2
  replace s1 := s1.nx k2
  clear own2 k1 k2
  go_wp2_with fail
  refine (appstr_p none 0 0 [] ⟨#[97, 98]⟩ _ (Sl.nil _ _ _ _) (by omega) (fun _ => rfl) (by decide)).mono ?_
  rintro e w3 ⟨v, rfl, own3, k3⟩
  obtain ⟨A3, N3, C3, rfl, s3, _⟩ := run_own own3
  replace k := k.nx k3
  replace s1 := s1.nx k3
  replace s2 := s2.nx k3
  clear own3 k3
  go_wp2_with fail
  refine (uint_p _ 2 2 [128, 0] _ (sl_lit (cs := #[.int .u8 128, .int .u8 0]) _ rfl rfl rfl) (by omega)).mono ?_
  rintro e w4 ⟨rfl, rfl⟩
  rw [E4.out]
  have kk := Ex.new w3 (.cells #[.int .u8 128, .int .u8 0] 5)
  replace k := k.nx kk
  replace s1 := s1.nx kk
  replace s2 := s2.nx kk
  replace s3 := s3.nx kk
  clear kk
  go_wp2_with fail
  refine (string_p _ 4 4 [2, 97, 98, 99] 5 _ (sl_lit (cs := #[.int .u8 2, .int .u8 97, .int .u8 98, .int .u8 99]) _ (by simp) rfl rfl) (by omega) (by omega) (by unfold maxLen; omega) (by omega)).mono ?_
  rintro e w5 ⟨rfl, rfl⟩
  rw [E5.out]
  have kk := Ex.new (w3.alloc (.cells #[.int .u8 128, .int .u8 0] 5)) (.cells #[.int .u8 2, .int .u8 97, .int .u8 98, .int .u8 99] 5)
  replace k := k.nx kk
  have r1 := run_later (cap := C1) s1 kk
  have r2 := run_later (cap := C2) s2 kk
  have r3 := run_later (cap := C3) s3 kk
  rw [show ([] : List UInt8) ++ encU 300 = encU 300 from rfl, E1.out] at r1
  rw [show ([] : List UInt8) ++ encU (zig (-1)) = encU (zig (-1)) from rfl, E2.out] at r2
  rw [show ([] : List UInt8) ++ encStr ⟨#[97, 98]⟩ = encStr ⟨#[97, 98]⟩ from rfl, E3.out] at r3
  have K := Lib.hid k
  clear s1 s2 s3 k kk
  go_wp2_with fail
  go_ret
  exact ⟨rfl, K.out⟩
end Go.Proofs.YtjaemckdfoaopabDoor

/- The statement WireNodes: what it computes. -/
namespace Go.Proofs.YtjaemckdfoaopabDoor
open Go.RowKit

/-- links in memory, not in block b -/
def NLb (b : Nat) (w : World) (a : Option Addr) (n : Nat) (L : List Lkd) : Prop :=
  ∃ qs : List (Int × Hdr), Slb 2 (encP encI) b w a n qs ∧ L.length = n ∧ ∀ (j : Nat) (q : Int × Hdr) (c : Lkd), qs[j]? = some q → L[j]? = some c → q.1 = c.1 ∧ Slb 2 encS b w q.2.1 q.2.2.1 c.2
theorem NLb.nxb {b : Nat} {w w' : World} {a : Option Addr} {n : Nat} {L : List Lkd} (h : NLb b w a n L) (k : Exb b w w') : NLb b w' a n L := by
  obtain ⟨qs, h1, h2, h3⟩ := h
  exact ⟨qs, h1.nxb k, h2, fun j q c hq hc => ⟨(h3 j q c hq hc).1, (h3 j q c hq hc).2.nxb k⟩⟩
theorem NLb.nl {b : Nat} {w : World} {a : Option Addr} {n : Nat} {L : List Lkd} (h : NLb b w a n L) : LkL w a n L := by
  obtain ⟨qs, h1, h2, h3⟩ := h
  exact ⟨qs, h1.sl, h2, fun j q c hq hc => ⟨(h3 j q c hq hc).1, (h3 j q c hq hc).2.sl⟩⟩
theorem NL.nlb {b : Nat} {w : World} {a : Option Addr} {n : Nat} {L : List Lkd} (h : LkL w a n L) (hb : w.heap.size ≤ b) : NLb b w a n L := by
  obtain ⟨qs, h1, h2, h3⟩ := h
  exact ⟨qs, h1.slb hb, h2, fun j q c hq hc => ⟨(h3 j q c hq hc).1, (h3 j q c hq hc).2.slb hb⟩⟩
theorem OwnN.nlb {base b : Nat} {w : World} {v : Value} {qs : List (Int × Hdr)} {L : List Lkd} (h : OwnLk base w v qs L) (hb : b < base) :
    ∃ a cap, v = .slice a L.length cap ∧ NLb b w a L.length L ∧ L.length ≤ cap ∧ cap ≤ maxLen := by
  obtain ⟨a, cap, e, r, c1, c2, c3, c4⟩ := h.1.rd (fun _ => rfl)
  rw [h.2.1] at e r c1
  refine ⟨a, cap, e, ⟨qs, Rd.mono r (fun k hk => ⟨hk.2, by have := hk.1; omega⟩), rfl, fun j q c hq hc => ?_⟩, c1, c2⟩
  obtain ⟨r1, r2⟩ := h.2.2.1 j q c hq hc
  refine ⟨r1, ?_⟩
  obtain ⟨a', cap', e', r', _⟩ := r2.rd (fun _ => rfl)
  obtain ⟨x, q1, q2, q3⟩ := q
  simp only [Hdr.val, Value.slice.injEq] at e'
  obtain ⟨rfl, rfl, rfl⟩ := e'
  exact Rd.mono r' (fun k hk => ⟨hk.2, by have := hk.1; omega⟩)
theorem encNds_len (l : List Nd) : (encNds l).1.length ≤ 100000 := by
  unfold encNds
  split
  · simp
  · split
    · simp
    · rename_i h1 h2
      have h3 := enc_take_le l l.length (fun j z _ hz => by
        have hm := List.mem_of_getElem? hz
        by_cases hk : 64 < z.key.size
        · exact absurd (List.any_eq_true.2 ⟨z, hm, by simpa using hk⟩) h2
        · omega)
      rw [List.take_length] at h3
      have h4 := encU_length l.length
      simp only [List.length_append]
      omega
theorem encLks_len (l : List Lkd) : (encLks l).1.length ≤ 100000 := by
  unfold encLks
  split
  · simp
  · split
    · simp
    · rename_i h1 h2
      have h3 := encl_take_le l l.length (fun j z _ hz => by
        have hm := List.mem_of_getElem? hz
        by_cases hk : 17 < z.2.length
        · exact absurd (List.any_eq_true.2 ⟨z, hm, by simpa using hk⟩) h2
        · omega)
      rw [List.take_length] at h3
      have h4 := encU_length l.length
      simp only [List.length_append]
      omega
theorem links3_t {b : Nat} (a : Option Addr) (n cp : Nat) (l : List Nd) (lev : Int) (w : World) (h : TK w b) (hs : Slb 3 encN b w a n l) (hn : n ≤ 100) (hw : ∀ x ∈ l, x.word < 4294967296) (hi : ∀ x ∈ l, I64 x.id) :
    Calls Tryd.prog 6 #[.pointer (some ⟨b, 0, none⟩), .slice a n cp, .int .i64 lev, .int .i64 3] w (LinksPost n 3 b w) := links_t a n cp l lev 3 w h hs hn (by omega) hw hi
theorem roster6_t {b : Nat} (w : World) (h : TK w b) (hL : LetG w) (hgb : ¬ 0 = b) :
    Calls Tryd.prog 5 #[.pointer (some ⟨b, 0, none⟩), .int .i64 6] w fun e w' => ∃ v L, e = .returned v ∧ RosterOf 6 b w w' v L := roster_t 6 w h hL hgb (by omega) (by omega)
theorem nok_w {x : Nd} (h : NOk x) : x.word < 4294967296 := h.2.1
theorem nok_i {x : Nd} (h : NOk x) : I64 x.id := h.1
theorem nok_e {x : Nd} (h : NOk x) : NOkE x := ⟨h.1.1, h.1.2, h.2.1, by have := h.2.2; omega⟩
def WnRel (b : Nat) (w0 : World) (vn vl i : Value) (wr : World) : Prop :=
  ∃ (k : Nat) (a : Option Addr) (n c : Nat) (L : List Nd) (a' : Option Addr) (n' c' : Nat) (M : List Lkd), k ≤ 2 ∧ i = .int .i64 k ∧ vn = .slice a n c ∧ vl = .slice a' n' c' ∧ Slb 3 encN b wr a n L ∧ n ≤ 1000 ∧ (∀ x ∈ L, NOkE x) ∧ NLb b wr a' n' M ∧ n' ≤ 1000 ∧ (∀ c ∈ M, LOkE c) ∧
    Exl b w0 wr ∧ TK wr b
theorem own_run {base : Nat} {w : World} {v : Value} {l : List UInt8} (h : OwnL 1 encB 5 base w v l) (hl : l.length ≤ 100000) :
    ∃ a n cap, v = .slice a n cap ∧ (convert 23 9 (.slice a n cap)).run Tryd.prog w = .ok (.string (strB l)) w ∧ n ≤ 100000 ∧ n ≤ cap ∧ cap ≤ maxLen ∧ Form a cap ∧ (a = none → cap = 0) := by
  obtain ⟨a, c, rfl, r, c1, c2, c3⟩ := h.rd (fun _ => rfl)
  have s : Sl 1 encB w a l.length l := Rd.mono r (fun _ hk => hk.2)
  have f := own_form h
  exact ⟨a, _, c, rfl, run_str Tryd.underlying23 Tryd.underlying5 Tryd.underlying9 s, hl, c1, c2, f, fun h0 => by
    rcases f with ⟨_, h⟩ | ⟨x, o, h⟩
    · exact h
    · rw [h0] at h; cases h⟩
theorem own_slb {base b : Nat} {w : World} {a : Option Addr} {n cap : Nat} {l : List UInt8} (h : OwnL 1 encB 5 base w (.slice a n cap) l) (hb : b < base) : Slb 1 encB b w a n l := by
  obtain ⟨a', c, e, r, _⟩ := h.rd (fun _ => rfl)
  cases e
  exact Rd.mono r (fun k hk => ⟨hk.2, by have := hk.1; omega⟩)

end Go.Proofs.YtjaemckdfoaopabDoor

/- The statement WireRoundTrip: what it computes. -/
namespace Go.Proofs.YtjaemckdfoaopabDoor
open Go.RowKit

abbrev mx63 : Nat := 9223372036854775807
theorem BytesAt.mono {w : World} {v : Value} {m m' : Nat} (h : BytesAt w v m) (k : m ≤ m') : BytesAt w v m' := by
  obtain ⟨a, n, c, B, h1, h2, h3, h4⟩ := h
  exact ⟨a, n, c, B, h1, h2, Nat.le_trans h3 k, h4⟩
def encV (v : Value) : List Value := [v]
/-- three lists of bytes, one of which is looked at in each round -/
def RtRel (g b : Nat) (w0 : World) (i : Value) (wr : World) : Prop :=
  ∃ (k : Nat) (l : List Value), k ≤ 3 ∧ i = .int .i64 k ∧ Sl 1 encV wr (some ⟨g, 0, none⟩) 3 l ∧ (∀ v ∈ l, BytesAt wr v mx63) ∧ Exl b w0 wr
theorem all_nx {w w' : World} {l : List Value} (h : ∀ v ∈ l, BytesAt w v mx63) (k : Ex w w') : ∀ v ∈ l, BytesAt w' v mx63 := fun v hv => (h v hv).nx k
theorem nok_rt {x : Nd} (h : NOk x ∧ 1 ≤ x.id ∧ x.id ≤ 2147483647 ∧ x.key.size ≤ 64 ∧ x.word < 65536) : NRt x := ⟨h.1.1, by have := h.2.2.2.2; omega, h.2.2.2.1⟩
theorem nrt_e {x : Nd} (h : NRt x) : NOkE x := ⟨h.1.1, h.1.2, by have := h.2.1; omega, by have := h.2.2; omega⟩
theorem lrt_e {c : Lkd} (h : LRt c) : LOkE c := ⟨h.1, by have := h.2.1; omega, h.2.2⟩
theorem decNd_err (B : List UInt8) : (decNd B).2 = 0 ∨ (decNd B).2 = 4 := by
  unfold decNd; split
  · exact .inl rfl
  · exact .inr rfl
theorem decLd_err (B : List UInt8) : (decLd B).2 = 0 ∨ (decLd B).2 = 4 := by
  unfold decLd; split
  · exact .inl rfl
  · exact .inr rfl
theorem run_strS {w : World} {a : Option Addr} {n c : Nat} {l : List UInt8} (s : Sl 1 encB w a n l) : (convert 23 9 (.slice a n c)).run Tryd.prog w = .ok (.string (strB l)) w :=
  run_str Tryd.underlying23 Tryd.underlying5 Tryd.underlying9 s

set_option maxRecDepth 100000 in
set_option maxHeartbeats 8000000 in
theorem wirert_walk (a1 : Option Addr) (n1 c1 : Nat) (l1 : List Int) (a4 : Option Addr) (n4 c4 : Nat) (l4 : List UInt8) (w : World) (h1 : Sl 1 encI w a1 n1 l1) (hc1 : n1 ≤ c1) (hm1 : c1 ≤ maxLen)
    (h4 : Sl 1 encB w a4 n4 l4) (hc4 : n4 ≤ c4) (hm4 : c4 ≤ maxLen) (hf4 : Form a4 c4) (hL : LetG w) :
    Calls Tryd.prog 3 #[.slice a1 n1 c1, .slice a4 n4 c4] w fun e w' => e = .returned (.bool true) ∧ Ex w w' := by
  have G4 : Hid (∀ w', Sl 1 encB w' a4 n4 l4 → BytesAt w' (.slice a4 n4 c4) mx63) := Lib.hid (fun w' s => ⟨a4, n4, c4, l4, rfl, s, by unfold maxLen at hm4; show n4 ≤ 9223372036854775807; omega, hc4, hm4, hf4⟩)
  clear hc4 hm4 hf4
  go_enter Tryd.func3, Tryd.ntmps3
  go_wp2_with fail
  refine (new_t _ _ _ l1 _ h1 hc1 hm1).mono ?_
  rintro e w1 ⟨rfl, T, kk, z1⟩
  obtain ⟨b, hb⟩ : ∃ b, b = w.heap.size := ⟨_, rfl⟩
  rw [← hb] at T ⊢
  have hgl : ¬ 0 = b := by have := hL.lt; omega
  have hwb : w.heap.size ≤ b := by omega
  have S4 : Slb 1 encB b w1 a4 n4 l4 := (h4.slb hwb).nxb (kk.b b)
  have L1 := Lib.hid (hL.nx kk)
  have QL : Exl b w w1 := ⟨kk, by omega⟩
  clear h1 h4 hL kk hb z1
  have hbo := T.lt
  go_wp2_with fail
  refine (roster6_t _ T L1.out hgl).mono ?_
  rintro e x1 ⟨v1, LX, rfl, R⟩
  have k1 := R.k
  have T1 := R.tape
  have RL := R.len
  have RW := Lib.hid (roster_ok R.ok)
  obtain ⟨aX, cX, rfl, SX, oX, mX, nilX⟩ := R.own.slf (fun _ => rfl)
  have SX := SX.slb hbo
  have S4 := S4.nxb k1
  have QL := QL.nxb k1
  clear R T k1 hbo nilX L1
  have hnX : LX.length ≤ 6 := RL
  have hbo := T1.lt
  go_wp2_with fail
  refine (height_t _ _ _ _ _ T1 SX (by omega) (fun x hx => nok_w (RW.out x hx).1)).mono ?_
  rintro e x2 ⟨r, rfl, hr, T, k2⟩
  have S4 := S4.nxb k2
  have SX := SX.nxb k2
  have QL := QL.nxb k2
  clear T1 k2 hbo
  have hbo := T.lt
  go_wp2_with fail
  (with_reducible refine (links3_t _ _ _ _ _ _ T SX (by omega) (fun x hx => nok_w (RW.out x hx).1) (fun x hx => nok_i (RW.out x hx).1)).mono ?_)
  rintro e x3 ⟨vL, qL, MX, rfl, OL, LO, T2, k3⟩
  have S4 := S4.nxb k3
  have SX := SX.nxb k3
  have QL := QL.nxb k3
  obtain ⟨aL, cL, rfl, SL, oL, mL⟩ := OL.nlb hbo
  have hnL : MX.length ≤ 1000 := by have := LO.1; omega
  have LOKX : Hid (∀ c ∈ MX, LOkE c) := Lib.hid (fun c hc => by
    obtain ⟨i1, i2, i3⟩ := LO.2 c hc
    exact ⟨i1, by omega, i3⟩)
  have LSM : Hid (∀ c ∈ MX, c.2.length ≤ 1000000) := Lib.hid (fun c hc => by
    obtain ⟨i1, i2, i3⟩ := LO.2 c hc
    omega)
  have NRTX : Hid (∀ x ∈ LX, NRt x) := Lib.hid (fun x hx => nok_rt (RW.out x hx))
  clear T k3 OL LO hbo RW
  have hbo := T2.lt
  go_wp2_with fail
  (with_reducible refine (encn_p _ _ _ _ _ SX.sl (by omega) (fun x hx => nrt_e (NRTX.out x hx))).mono ?_)
  rintro e x4 ⟨v4, rfl, own4, k4⟩
  have RT := dec_enc_nodes NRTX.out (by omega)
  have RT1 := Lib.hid RT.2
  rw [RT.1]
  clear RT
  have T := T2.nx k4
  have S4 := S4.nxb (k4.b b)
  have SX := SX.nxb (k4.b b)
  have SL := SL.nxb (k4.b b)
  have QL := QL.nx k4
  have z4 := k4.size
  clear T2 k4
  go_wp2_with fail
  (with_reducible refine (encl_p _ _ _ _ _ SL.nl hnL LOKX.out).mono ?_)
  rintro e x5 ⟨v5, rfl, own5, k5⟩
  have T := T.nx k5
  have S4 := S4.nxb (k5.b b)
  have SX := SX.nxb (k5.b b)
  have SL := SL.nxb (k5.b b)
  have QL := QL.nx k5
  have own4 := own4.nx k5
  have z5 := k5.size
  have hb5 : b < x4.heap.size := by omega
  have hb4 : b < x3.heap.size := hbo
  have LN4 := encNds_len LX
  have LN5 := encLks_len MX
  have RT2 : Hid ((encLks MX).2 = 0 → decLd (encLks MX).1 = (MX, 0)) := Lib.hid (fun h0 => dec_enc_links (fun c hc => ⟨(LOKX.out c hc).1, (LOKX.out c hc).2.2⟩) h0)
  have ERR : (encLks MX).2 = 0 ∨ (encLks MX).2 = 3 := by
    unfold encLks; split
    · exact .inr rfl
    · split
      · exact .inr rfl
      · exact .inl rfl
  obtain ⟨bn, hbn⟩ : ∃ r, r = (encNds LX).1 := ⟨_, rfl⟩
  obtain ⟨⟨bl, el⟩, hbl⟩ : ∃ r, r = encLks MX := ⟨_, rfl⟩
  rw [← hbn] at own4 RT1 LN4
  rw [← hbl] at own5 RT2 LN5 ERR ⊢
  have RT2 : Hid (el = 0 → decLd bl = (MX, 0)) := Lib.hid RT2.out
  have ERR : el = 0 ∨ el = 3 := ERR
  clear hbn hbl k5 z5
  obtain ⟨ya4, yn4, yc4, rfl, _, yl4, o4, m4, f4, nil4⟩ := own_run own4 LN4
  obtain ⟨ya5, yn5, yc5, rfl, _, yl5, o5, m5, f5, nil5⟩ := own_run own5 LN5
  have s4 := own_slb own4 hb4
  have s5 := own_slb own5 hb5
  have F4 := Lib.hid f4
  have F5 := Lib.hid f5
  have NIL4 := Lib.hid nil4
  have NIL5 := Lib.hid nil5
  clear own4 own5 LN4 LN5 f4 f5 nil4 nil5
  go_wp2_with fail
  (with_reducible refine (decn_p _ _ _ _ _ s4.sl (by omega) o4 m4 F4.out).mono ?_)
  rintro e x6 ⟨v6, rfl, own6, k6⟩
  rw [RT1.out] at own6 ⊢
  obtain ⟨a6, c6, rfl, s6, _, _, _⟩ := own6.slf (fun _ => rfl)
  have T := T.nx k6
  have S4 := S4.nxb (k6.b b)
  have SX := SX.nxb (k6.b b)
  have SL := SL.nxb (k6.b b)
  have s4 := s4.nxb (k6.b b)
  have s5 := s5.nxb (k6.b b)
  have QL := QL.nx k6
  clear own6 k6
  go_wp2_with fail
  (with_reducible refine (samenodes_x _ _ _ _ _ _ _ s6.sl SX.sl (by omega)).mono ?_)
  rintro e x7 ⟨rfl, k7⟩
  have T := T.nx k7
  have S4 := S4.nxb (k7.b b)
  have SL := SL.nxb (k7.b b)
  have s4 := s4.nxb (k7.b b)
  have s5 := s5.nxb (k7.b b)
  have QL := QL.nx k7
  clear s6 SX k7
  rcases ERR with rfl | rfl
  rotate_left
  clear SL RT2
  rotate_left
  go_wp2_with fail
  (with_reducible refine (decl_p _ _ _ _ _ s5.sl (by omega) o5 m5 F5.out).mono ?_)
  rintro e x8 ⟨v8, qs8, rfl, own8, k8⟩
  rw [RT2.out (by simp)] at own8 ⊢
  have own8 : OwnLk _ _ v8 qs8 MX := own8
  obtain ⟨a8, c8, rfl, s8, _, _, _, _⟩ := OwnN.nl (encA := encI) (encB := encS) (s1 := 2) (s2 := 2) (fun _ => rfl) (fun _ => rfl) own8
  have T := T.nx k8
  have S4 := S4.nxb (k8.b b)
  have SL := SL.nxb (k8.b b)
  have s4 := s4.nxb (k8.b b)
  have s5 := s5.nxb (k8.b b)
  have QL := QL.nx k8
  clear own8 k8 RT2
  go_wp2_with fail
  (with_reducible refine (samelk_r _ _ _ _ _ _ _ _ _ s8 SL.nl (by omega) LSM.out).mono ?_)
  rintro e x7 ⟨rfl, k7⟩
  rw [decide_eq_true (rfl : MX = MX)]
  have T := T.nx k7
  have S4 := S4.nxb (k7.b b)
  have s4 := s4.nxb (k7.b b)
  have s5 := s5.nxb (k7.b b)
  have QL := QL.nx k7
  clear s8 SL k7
  all_goals
    go_wp2_with fail
    (with_reducible refine (damage_t _ _ _ _ _ T s4.sl yl4 NIL4.out).mono ?_)
    clear T
    rintro e x8 ⟨v8, rfl, B8, T, k8⟩
    have S4 := S4.nxb k8
    have s5 := s5.nxb k8
    have QL := QL.nxb k8
    clear s4 k8
    go_wp2_with fail
    (with_reducible refine (damage_t _ _ _ _ _ T s5.sl yl5 NIL5.out).mono ?_)
    clear T
    rintro e x9 ⟨v9, rfl, B9, T, k9⟩
    have S4 := S4.nxb k9
    have QL := QL.nxb k9
    have B8 := B8.nxb k9
    clear s5 k9 T
    obtain ⟨a8, n8, c8, D8, rfl, s8, m8⟩ := B8
    obtain ⟨a9, n9, c9, D9, rfl, s9, m9⟩ := B9
    have kx := Ex.new x9 (.cells #[.slice a8 n8 c8, .slice a9 n9 c9, .slice a4 n4 c4] 23)
    have QS : Sl 1 encV (x9.alloc (.cells #[.slice a8 n8 c8, .slice a9 n9 c9, .slice a4 n4 c4] 23)) (some ⟨x9.heap.size, 0, none⟩) 3 [.slice a8 n8 c8, .slice a9 n9 c9, .slice a4 n4 c4] := Sl.lit _ rfl rfl (fun _ => rfl) rfl
    have GA : ∀ v ∈ [Value.slice a8 n8 c8, .slice a9 n9 c9, .slice a4 n4 c4], BytesAt (x9.alloc (.cells #[.slice a8 n8 c8, .slice a9 n9 c9, .slice a4 n4 c4] 23)) v mx63 := by
      intro v hv
      simp only [List.mem_cons, List.not_mem_nil, or_false] at hv
      rcases hv with rfl | rfl | rfl
      · exact ((BytesAb.at ⟨a8, n8, c8, D8, rfl, s8, m8⟩).nx kx).mono (by unfold mx63; omega)
      · exact ((BytesAb.at ⟨a9, n9, c9, D9, rfl, s9, m9⟩).nx kx).mono (by unfold mx63; omega)
      · exact (G4.out _ S4.sl).nx kx
    have QX := QL.nx kx
    obtain ⟨x10, hx10⟩ : ∃ x10, x10 = x9.alloc (.cells #[.slice a8 n8 c8, .slice a9 n9 c9, .slice a4 n4 c4] 23) := ⟨_, rfl⟩
    obtain ⟨g, hg⟩ : ∃ g, g = x9.heap.size := ⟨_, rfl⟩
    rw [← hx10, ← hg] at QS
    rw [← hx10] at GA QX
    have HG := Lib.hid hg
    have HX := Lib.hid hx10
    have QQ : Hid (RtRel g b w (.int .i64 0) x10) := Lib.hid ⟨0, _, by omega, rfl, QS, GA, QX⟩
    clear QS GA QX kx s8 s9 m8 m9 S4 QL hg hx10
    go_wp2_with fail
    rw [← HG.out, ← HX.out]
    go_loopw [85] (fun i wr => RtRel g b w i wr) (fun i _ => 3 - (intOf i).toNat)
    case atStart => exact QQ.out
    case round =>
      clear QQ HX HG
      obtain ⟨k, l, hk, rfl, QS, GA, QL⟩ := hrel
      obtain ⟨wo, rfl⟩ : ∃ wo : World, wo = wr := ⟨_, rfl⟩
      have GA := Lib.hid GA
      by_cases hlt : k < 3
      · obtain ⟨x, o, v, e1, hx, hv, hc⟩ := QS.at hlt
        cases e1
        have hc : wo.cell? ⟨g, k, none⟩ = some v := by simpa using hc 0 _ rfl
        obtain ⟨az, nz, cz, B, rfl, sz, hnz, hcz, hmz, fz⟩ := GA.out v (List.mem_of_getElem? hv)
        have hnz : nz ≤ 9223372036854775807 := hnz
        have FZ := Lib.hid fz
        have QS := Lib.hid QS
        have D1 := decNd_err B
        have D2 := decLd_err B
        have E1 := Lib.hid (fun h => enc_dec_nodes (B := B) h)
        have E2 := Lib.hid (fun h => enc_dec_links (B := B) h)
        have LN := decNd_len B
        have LL := (decLd_len B).1
        have REL : Hid (∀ w', Ex wo w' → RtRel g b w (.int .i64 ((k : Int) + 1)) w') := Lib.hid (fun w' kk => ⟨k + 1, l, by omega, by rw [Int.natCast_add]; rfl, QS.out.nx kk, all_nx GA.out kk, QL.nx kk⟩)
        clear hv fz GA QL QS hx
        go_wp2_with fail
        (with_reducible refine (decn_p _ _ _ _ _ sz hnz hcz hmz FZ.out).mono ?_)
        rintro e y1 ⟨v1, rfl, own1, k1⟩
        obtain ⟨a1, c1, rfl, s1, _, _, _⟩ := own1.slf (fun _ => rfl)
        have s1 := s1.sl
        have sz := sz.nx k1
        clear own1 hc
        obtain ⟨⟨LN1, en⟩, hLN⟩ : ∃ r, r = decNd B := ⟨_, rfl⟩
        rw [← hLN] at D1 E1 LN s1 ⊢
        have D1 : en = 0 ∨ en = 4 := D1
        have E1 : Hid (en = 0 → encNds LN1 = (B, 0) ∧ ∀ x ∈ LN1, NRt x) := Lib.hid E1.out
        have LN : LN1.length ≤ 64 := LN
        clear hLN
        rcases D1 with rfl | rfl
        rotate_left
        clear E1 s1
        rotate_left
        have HB : B.length ≤ 100000 := by have := encNds_len LN1; rw [(E1.out (by simp)).1] at this; exact this
        go_wp2_with fail
        (with_reducible refine (encn_p _ _ _ _ _ s1 (by omega) (fun x hx => nrt_e ((E1.out (by simp)).2 x hx))).mono ?_)
        rintro e y2 ⟨v2, rfl, own2, k2⟩
        rw [(E1.out (by simp)).1] at own2 ⊢
        have sz := sz.nx k2
        have k1 := k1.nx k2
        obtain ⟨a2, n2, c2, rfl, r2, _⟩ := own_run own2 HB
        have rz := run_strS (c := cz) sz
        clear own2 k2 E1 HB s1
        go_wp2_with fail
        clear r2 rz
        all_goals
          go_wp2_with fail
          (with_reducible refine (decl_p _ _ _ _ _ sz hnz hcz hmz FZ.out).mono ?_)
          rintro e y3 ⟨v3, qs3, rfl, own3, k3⟩
          obtain ⟨a3, c3, rfl, s3, _, _, _, _⟩ := OwnN.nl (encA := encI) (encB := encS) (s1 := 2) (s2 := 2) (fun _ => rfl) (fun _ => rfl) own3
          have sz := sz.nx k3
          have k1 := k1.nx k3
          clear own3 k3
          obtain ⟨⟨LM1, el⟩, hLM⟩ : ∃ r, r = decLd B := ⟨_, rfl⟩
          rw [← hLM] at D2 E2 LL s3 ⊢
          have D2 : el = 0 ∨ el = 4 := D2
          have E2 : Hid (el = 0 → encLks LM1 = (B, 0) ∧ ∀ x ∈ LM1, LRt x) := Lib.hid E2.out
          have LL : LM1.length ≤ 64 := LL
          clear hLM
          rcases D2 with rfl | rfl
          · have HB : B.length ≤ 100000 := by have := encLks_len LM1; rw [(E2.out (by simp)).1] at this; exact this
            go_wp2_with fail
            (with_reducible refine (encl_p _ _ _ _ _ s3 (by omega) (fun x hx => lrt_e ((E2.out (by simp)).2 x hx))).mono ?_)
            rintro e y4 ⟨v4, rfl, own4, k4⟩
            rw [(E2.out (by simp)).1] at own4 ⊢
            have sz := sz.nx k4
            have k1 := k1.nx k4
            obtain ⟨a4, n4, c4, rfl, r4, _⟩ := own_run own4 HB
            have rz := run_strS (c := cz) sz
            clear own4 k4 E2 HB s3
            go_wp2_with fail
            exact ⟨REL.out _ k1, by simp [intOf]; omega⟩
          · clear s3 E2
            go_wp2_with fail
            exact ⟨REL.out _ k1, by simp [intOf]; omega⟩
      · obtain rfl : k = 3 := by omega
        have Q1 := Lib.hid QL.1
        clear QS GA hlt hk QL
        go_wp2_with fail
        refine (sane3_x _).mono ?_
        rintro e y2 ⟨rfl, k2⟩
        go_wp2_with fail
        go_ret
        exact ⟨rfl, Q1.out.nx k2⟩
end Go.Proofs.YtjaemckdfoaopabDoor

/- What the laid letters give the walks. -/
namespace Go.Proofs.YtjaemckdfoaopabDoor
open Go.RowKit

theorem Tryd.gLet : Tryd.prog.globalNamed "skipgraph/skipgraphworld.letters" = some 0 := by kernel_rfl
theorem Tryd.tLet : (Tryd.prog.globals[0]?).map (·.type) = some 81 := by kernel_rfl
theorem Tryd.cells6 : Tryd.prog.cellsOf 81 = 6 := by kernel_rfl
theorem Tryd.cellsStr : Tryd.prog.cellsOf 9 = 1 := by kernel_rfl
def letL : List (List UInt8) := [[97], [98], [99], [0], [255], [109]]

/-- AN ARRAY OF STRINGS THAT READS AS A LIST OF STRINGS HOLDS THEM, CELL FOR CELL. -/
theorem cells_of_strs {H : Type} {enc : TypeId × Value → H} {P : Program} {w : World} {base : Nat} {sp : Nat → Bool} {held : Bool} {fuel : Nat} {t e : TypeId} {n : Nat} {cs : List Value} {zs : List (List UInt8)} {p : List MemPlace}
    (ht : P.underlying t = some (.array n e)) (he : P.underlying e = some .string) (hce : P.cellsOf e = 1) (hct : P.cellsOf t = n)
    (h : DataW.trod enc P w base sp held fuel t cs = some (.agg (zs.map fun z => .lit (.string z)), p)) : ∀ (i : Nat) (z : List UInt8), zs[i]? = some z → ∃ s : ByteArray, s.data.toList = z ∧ cs[i]? = some (.string s) := by
  cases fuel with
  | zero => simp [DataW.trod] at h
  | succ fuel =>
    simp only [DataW.trod, ht, hce, hct, Nat.mul_one] at h
    split at h
    · rename_i hl
      obtain ⟨xs, hm, hx⟩ := Option.map_eq_some_iff.1 h
      have hxs : xs.map (·.1) = zs.map fun z => (DataW.lit (.string z) : DataW H) := by
        have := congrArg Prod.fst hx
        simpa using this
      have hxl : xs.length = n := by simpa using Lib.mapM_length hm
      have hzl : zs.length = n := by
        have := congrArg List.length hxs
        simp at this
        omega
      intro i z hz
      have hi : i < n := by have := (List.getElem?_eq_some_iff.1 hz).1; omega
      obtain ⟨b, hb, hf⟩ := Lib.mapM_at hm i i (by simp [hi])
      obtain ⟨s, hc, rfl, _⟩ := DataW.trod_string he hf
      have h1 : cs[i]? = some (.string s) := by
        have := congrArg (·[0]?) hc
        simpa [List.getElem?_take, List.getElem?_drop] using this
      have h2 : (xs.map (·.1))[i]? = some (DataW.lit (.string s.data.toList) : DataW H) := by simp [hb]
      rw [hxs] at h2
      simp only [List.getElem?_map, Option.map_eq_some_iff, DataW.lit.injEq, Lit.string.injEq] at h2
      obtain ⟨z', hz', hzz⟩ := h2
      have : z = z' := Option.some.inj (hz.symm.trans hz')
      exact ⟨s, by rw [this, hzz], h1⟩
    · cases h

theorem laid_let {H : Type} : (Rows.laid_skipgraph_skipgraphworld_letters : DataW H) = .agg (letL.map fun z => .lit (.string z)) := rfl
theorem letG_head {rest : List (String × DataW Unit)} {W : World} (h : laidMet Tryd.prog (("skipgraph/skipgraphworld.letters", .agg (letL.map fun z => .lit (.string z))) :: rest) W) : LetG W := by
  obtain ⟨ps, ⟨g', t', cs, fuel, p, q, hg', ht', hvar, hd, _, _⟩, _⟩ := h
  obtain rfl := Option.some.inj (Tryd.gLet.symm.trans hg')
  obtain rfl := Option.some.inj (Tryd.tLet.symm.trans ht')
  intro j hj
  obtain ⟨z, hz⟩ : ∃ z, letL[j]? = some z := ⟨letL[j]'(by simp [letL]; omega), by simp⟩
  obtain ⟨s, h1, h2⟩ := cells_of_strs Tryd.underlying81 Tryd.underlying9 Tryd.cellsStr Tryd.cells6 hd j z hz
  refine ⟨s, ?_, ?_⟩
  · have hl : z.length = 1 := by
      have : ∀ j, j < 6 → (letL[j]?.getD []).length = 1 := by decide
      have := this j hj
      rw [hz] at this
      exact this
    have : s.data.toList.length = 1 := by rw [h1]; exact hl
    rw [Array.length_toList] at this
    exact this
  · rw [World.var?_cell Tryd.gLet hvar j]
    simpa using h2
theorem letG_of {rest : List (String × DataW Unit)} {W : World} (h : laidMetH Tryd.prog (("skipgraph/skipgraphworld.letters", Rows.laid_skipgraph_skipgraphworld_letters) :: rest) W)
    (hp : ((("skipgraph/skipgraphworld.letters", Rows.laid_skipgraph_skipgraphworld_letters) :: rest).all fun x => x.2.handleName?.isNone) = true) : LetG W := by
  rw [MakeChecks.laidMetH_plain _ _ _ hp, laid_let] at h
  exact letG_head h
end Go.Proofs.YtjaemckdfoaopabDoor

/- How the arguments of a statement are read: slices as lists. -/
namespace Go.Proofs.YtjaemckdfoaopabDoor
open Go.ChangeShapes Go.WideShapes Go.ChangeAt Go.RowKit Go.Deep Go.Joins

theorem own : ownKnob Tryd.prog.godebug = none := by kernel_rfl
theorem laidOut : laidOutB Tryd.prog = true := by kernel_rfl

section
variable {H : Type} {enc : TypeId × Value → H} {P : Program} {w : World} {base : Nat} {spare : Nat → Bool} {held : Bool}

theorem addr_lit {a : Addr} {v : Value} {w : World} (h : w.cell? (a.add 0) = some v) : a = ⟨a.block, a.off, none⟩ := by
  obtain ⟨b, o, s⟩ := a
  have : s = none := by simpa [Addr.add] using World.cell?_spot h
  subst this; rfl

/-- a slice of ints that came in -/
theorem rd_ints {t e : TypeId} {k : IntKind} {v : Value} {d : DataW H} {p : List MemPlace} {r : Reach} {b0 : Nat} (ht : P.underlying t = some (.slice e)) (he : P.underlying e = some (.int k)) (hC : P.cellsOf e = 1)
    (hv : Value.okWide P w r b0 t v) (h : DataW.Trod enc P w base spare held t v d p) :
    ∃ a n c l, v = .slice a n c ∧ Rd 1 (fun x : Int => [Value.int k x]) (· < w.heap.size) w a n l ∧ n ≤ c ∧ c ≤ maxLen ∧ (∀ x ∈ l, (Lit.int k x).wf = true) ∧ (a = none → c = 0) := by
  obtain ⟨a0, len0, cap0, rfl⟩ := okWide_slice ht hv
  obtain ⟨fuel, hf⟩ := h
  rcases open_ints ht he hC hf with ⟨hcs, _⟩ | ⟨x, l, c, zs, hcs, _, hl, hm, hz, _, hcell, hwz⟩
  · simp [Value.cells] at hcs
    obtain ⟨rfl, rfl, rfl⟩ := hcs
    exact ⟨none, 0, 0, [], rfl, Rd.nil _ _ _ _ _, by omega, by unfold maxLen; omega, by simp, fun _ => rfl⟩
  · simp [Value.cells] at hcs
    obtain ⟨rfl, rfl, rfl⟩ := hcs
    have hz' : len0 ≤ zs.length := by rw [hz]; split <;> omega
    refine ⟨_, len0, cap0, zs.take len0, rfl, ⟨by simp; omega, ?_⟩, hl, hm, fun y hy => hwz y (List.mem_of_mem_take hy), fun h => by cases h⟩
    rcases Nat.eq_zero_or_pos len0 with h0 | h0
    · exact .inl h0
    · have hx := addr_lit (hcell 0 (by omega))
      refine .inr ⟨x.block, x.off, by rw [← hx], ?_, fun j y hj c u hu => ?_⟩
      · have := World.block_lt_of_cell? w _ (hcell 0 (by omega))
        rw [hx] at this
        simpa [Addr.add] using this
      · have hj' : j < len0 := by
          have := (List.getElem?_eq_some_iff.1 hj).1
          simp at this; omega
        have hy : zs.getD j 0 = y := by
          rw [List.getElem?_take, if_pos hj'] at hj
          simp [List.getD, hj]
        have hc := hcell j (by omega)
        rw [hx, Addr.add_lit, hy] at hc
        rcases c with _ | c
        · simp at hu; subst hu; simpa using hc
        · simp at hu

theorem open_slice_fields {t e : TypeId} {fs : Array Field} {fuel : Nat} {cs : List Value} {x : DataW H × List MemPlace} (ht : P.underlying t = some (.slice e)) (he : P.underlying e = some (.struct fs))
    (hone : oneCellFields P fs = true) (hC : P.cellsOf e = fs.size) (h : DataW.trod enc P w base spare held fuel t cs = some x) :
    (cs = [.slice none 0 0] ∧ x = (.nil, [])) ∨
    ∃ (a : Addr) (len cap m : Nat), cs = [.slice (some a) len cap] ∧ len ≤ cap ∧ cap ≤ maxLen ∧ m = (if spare a.block then cap else len) ∧
      ∀ i, i < m → ∃ (n : Nat), ∀ (j : Nat) (f : Field), fs[j]? = some f → ∃ (v : Value) (y : DataW H × List MemPlace), w.cell? (a.add (i * fs.size + j)) = some v ∧ DataW.trod enc P w base spare held n f.type [v] = some y := by
  rcases open_slice ht h with h0 | ⟨a, len, cap, m, n, D, Pl, hcs, hb, hl, hm, hmm, hx, hi⟩
  · exact .inl h0
  · refine .inr ⟨a, len, cap, m, hcs, hl, hm, hmm, fun i him => ?_⟩
    obtain ⟨cs', hc, ht'⟩ := hi i him
    rw [hC] at hc
    obtain ⟨ys, n', hn', hy, hlen, hyl, hf⟩ := DataW.trod_struct he ht'
    obtain ⟨_, hcl, hat⟩ := World.cells?_some hc
    refine ⟨n', fun j f hj => ?_⟩
    obtain ⟨ho, hk⟩ := hone_of hone j f hj
    have hjl : j < fs.size := (Array.getElem?_eq_some_iff.1 hj).1
    have hcell := hat j hjl
    have hv : cs'[j]? = some (cs'[j]'(by omega)) := List.getElem?_eq_getElem (by omega)
    have h1 := hf j f hj
    rw [ho, hk] at h1
    have hone' : (cs'.drop j).take 1 = [cs'[j]'(by omega)] := by
      rw [List.drop_eq_getElem_cons (by omega)]
      rfl
    rw [hone'] at h1
    have hys : ys[j]? = some (ys[j]'(by omega)) := List.getElem?_eq_getElem (by omega)
    refine ⟨_, _, ?_, h1.trans hys⟩
    rw [← Go.Deep.add_add, hcell, hv]

/-- a list that is given one element at a time -/
theorem list_of {α : Type} {p : Nat → α → Prop} : ∀ n, (∀ i, i < n → ∃ y, p i y) → ∃ l : List α, l.length = n ∧ ∀ (i : Nat) y, l[i]? = some y → p i y
  | 0, _ => ⟨[], rfl, by simp⟩
  | n + 1, h => by
    obtain ⟨l, hl, hp⟩ := list_of n (fun i hi => h i (by omega))
    obtain ⟨y, hy⟩ := h n (by omega)
    refine ⟨l ++ [y], by simp [hl], fun i z hz => ?_⟩
    rcases Nat.lt_or_ge i n with hi | hi
    · exact hp i z (by rwa [List.getElem?_append_left (by omega)] at hz)
    · rw [List.getElem?_append_right (by omega)] at hz
      have : i = n := by
        rcases Nat.eq_zero_or_pos (i - l.length) with h0 | h0
        · omega
        · rw [List.getElem?_eq_none (by simp; omega)] at hz; cases hz
      subst this
      simp [hl] at hz
      subst hz; exact hy

/-- a slice of structs that came in, each element read by 'rel' -/
theorem rd_structs {α : Type} {k : Nat} {encS : α → List Value} {t e : TypeId} {fs : Array Field} {v : Value} {d : DataW H} {p : List MemPlace} {r : Reach} {b0 : Nat} (ht : P.underlying t = some (.slice e)) (he : P.underlying e = some (.struct fs))
    (hone : oneCellFields P fs = true) (hC : P.cellsOf e = fs.size) (hk : fs.size = k) (hk0 : 0 < k)
    (hv : Value.okWide P w r b0 t v) (h : DataW.Trod enc P w base spare held t v d p)
    (hel : ∀ (n : Nat) (cell : Nat → Option Value), (∀ (j : Nat) (f : Field), fs[j]? = some f → ∃ (v : Value) (y : DataW H × List MemPlace), cell j = some v ∧ DataW.trod enc P w base spare held n f.type [v] = some y) → ∃ y : α, ∀ c u, (encS y)[c]? = some u → cell c = some u) :
    ∃ a n c l, v = .slice a n c ∧ Rd k encS (· < w.heap.size) w a n l ∧ n ≤ c ∧ c ≤ maxLen ∧ (a = none → c = 0) := by
  subst hk
  obtain ⟨a0, len0, cap0, rfl⟩ := okWide_slice ht hv
  obtain ⟨fuel, hf⟩ := h
  rcases open_slice_fields ht he hone hC hf with ⟨hcs, _⟩ | ⟨x, len, cap, m, hcs, hl, hm, hmm, hi⟩
  · simp [Value.cells] at hcs
    obtain ⟨rfl, rfl, rfl⟩ := hcs
    exact ⟨none, 0, 0, [], rfl, Rd.nil _ _ _ _ _, by omega, by unfold maxLen; omega, fun _ => rfl⟩
  · simp [Value.cells] at hcs
    obtain ⟨rfl, rfl, rfl⟩ := hcs
    have hlm : len0 ≤ m := by rw [hmm]; split <;> omega
    obtain ⟨l, hll, hlp⟩ := list_of (p := fun i (y : α) => ∀ c u, (encS y)[c]? = some u → w.cell? (x.add (i * fs.size + c)) = some u) len0 (fun i hi' => by
      obtain ⟨n, hn⟩ := hi i (by omega)
      exact hel n (fun j => w.cell? (x.add (i * fs.size + j))) hn)
    refine ⟨_, len0, cap0, l, rfl, ⟨hll, ?_⟩, hl, hm, fun h => by cases h⟩
    rcases Nat.eq_zero_or_pos len0 with h0 | h0
    · exact .inl h0
    · obtain ⟨n, hn⟩ := hi 0 (by omega)
      obtain ⟨v0, _, hv0, _⟩ := hn 0 (fs[0]) (by simp)
      have hv0 : w.cell? (x.add 0) = some v0 := by simpa using hv0
      have hx := addr_lit hv0
      refine .inr ⟨x.block, x.off, by rw [← hx], ?_, fun j y hj c u hu => ?_⟩
      · have := World.block_lt_of_cell? w _ hv0
        rw [hx] at this
        simpa [Addr.add] using this
      · have := hlp j y hj c u hu
        rw [hx, Addr.add_lit] at this
        simpa [Nat.add_assoc] using this
end
end Go.Proofs.YtjaemckdfoaopabDoor

/- How bytes that came in are read. -/
namespace Go.Proofs.YtjaemckdfoaopabDoor
open Go.ChangeShapes Go.WideShapes Go.ChangeAt Go.RowKit Go.Deep Go.Joins
theorem bytes_of {S : Nat → Prop} {w : World} {a : Option Addr} {n : Nat} {l : List Int} (h : Rd 1 (fun x : Int => [Value.int .u8 x]) S w a n l) (wf : ∀ x ∈ l, (Lit.int .u8 x).wf = true) :
    ∃ lb : List UInt8, Rd 1 encB S w a n lb := by
  refine ⟨l.map (fun x => byt x.toNat), by rw [List.length_map]; exact h.1, ?_⟩
  rcases h.2 with h2 | ⟨x, o, e1, e2, e3⟩
  · exact .inl h2
  · refine .inr ⟨x, o, e1, e2, fun j y hj c u hu => ?_⟩
    rw [List.getElem?_map] at hj
    cases hl : l[j]? with
    | none => rw [hl] at hj; cases hj
    | some z =>
      rw [hl] at hj
      simp only [Option.map_some, Option.some.injEq] at hj
      subst hj
      have hz := bounds_u8 (wf z (List.mem_of_getElem? hl))
      refine e3 j z hl c u ?_
      rcases c with _ | c
      · simp only [encB, byt_toNat] at hu
        rw [← hu]
        simp
        omega
      · simp [encB] at hu
end Go.Proofs.YtjaemckdfoaopabDoor

/- Lists of links among the arguments. -/
namespace Go.Proofs.YtjaemckdfoaopabDoor
open Go.ChangeShapes Go.WideShapes Go.ChangeAt Go.RowKit Go.Deep Go.Joins

section
variable {H : Type} {enc : TypeId × Value → H} {P : Program} {w : World} {base : Nat} {spare : Nat → Bool} {held : Bool}
/-- a slice of structs in a cell -/
theorem rd_structs_in {α : Type} {k n0 : Nat} {encS : α → List Value} {t e : TypeId} {fs : Array Field} {v : Value} {y0 : DataW H × List MemPlace} (ht : P.underlying t = some (.slice e)) (he : P.underlying e = some (.struct fs))
    (hone : oneCellFields P fs = true) (hC : P.cellsOf e = fs.size) (hk : fs.size = k) (hk0 : 0 < k) (hf : DataW.trod enc P w base spare held n0 t [v] = some y0)
    (hel : ∀ (n : Nat) (cell : Nat → Option Value), (∀ (j : Nat) (f : Field), fs[j]? = some f → ∃ (v : Value) (y : DataW H × List MemPlace), cell j = some v ∧ DataW.trod enc P w base spare held n f.type [v] = some y) → ∃ y : α, ∀ c u, (encS y)[c]? = some u → cell c = some u) :
    ∃ a n c l, v = .slice a n c ∧ Rd k encS (· < w.heap.size) w a n l ∧ n ≤ c ∧ c ≤ maxLen := by
  subst hk
  rcases open_slice_fields ht he hone hC hf with ⟨hcs, _⟩ | ⟨x, len, cap, m, hcs, hl, hm, hmm, hi⟩
  · simp at hcs
    subst hcs
    exact ⟨none, 0, 0, [], rfl, Rd.nil _ _ _ _ _, by omega, by unfold maxLen; omega⟩
  · simp at hcs
    subst hcs
    have hlm : len ≤ m := by rw [hmm]; split <;> omega
    obtain ⟨l, hll, hlp⟩ := list_of (p := fun i (y : α) => ∀ c u, (encS y)[c]? = some u → w.cell? (x.add (i * fs.size + c)) = some u) len (fun i hi' => by
      obtain ⟨n, hn⟩ := hi i (by omega)
      exact hel n (fun j => w.cell? (x.add (i * fs.size + j))) hn)
    refine ⟨_, len, cap, l, rfl, ⟨hll, ?_⟩, hl, hm⟩
    rcases Nat.eq_zero_or_pos len with h0 | h0
    · exact .inl h0
    · obtain ⟨n, hn⟩ := hi 0 (by omega)
      obtain ⟨v0, _, hv0, _⟩ := hn 0 (fs[0]) (by simp)
      have hv0 : w.cell? (x.add 0) = some v0 := by simpa using hv0
      have hx := addr_lit hv0
      refine .inr ⟨x.block, x.off, by rw [← hx], ?_, fun j y hj c u hu => ?_⟩
      · have := World.block_lt_of_cell? w _ hv0
        rw [hx] at this
        simpa [Addr.add] using this
      · have := hlp j y hj c u hu
        rw [hx, Addr.add_lit] at this
        simpa [Nat.add_assoc] using this
end
abbrev Lv64 := { y : Int × Int // I64 y.1 ∧ I64 y.2 }
def encS64 (y : Lv64) : List Value := encS y.1
def LdIn (w : World) := { q : (Int × Hdr) × List (Int × Int) // Sl 2 encS w q.1.2.1 q.1.2.2.1 q.2 ∧ LOkE (q.1.1, q.2) }
def encLdIn (w : World) (q : LdIn w) : List Value := encP encI q.1.1
theorem lvs_of {w : World} {a : Option Addr} {n : Nat} {l : List Lv64} (h : Rd 2 encS64 (· < w.heap.size) w a n l) : Sl 2 encS w a n (l.map Subtype.val) ∧ ∀ y ∈ l.map Subtype.val, I64 y.1 ∧ I64 y.2 := by
  refine ⟨⟨by rw [List.length_map]; exact h.1, ?_⟩, ?_⟩
  · rcases h.2 with h2 | ⟨x, o, e1, e2, e3⟩
    · exact .inl h2
    · refine .inr ⟨x, o, e1, e2, fun j y hj c u hu => ?_⟩
      rw [List.getElem?_map] at hj
      cases hl : l[j]? with
      | none => rw [hl] at hj; cases hj
      | some z =>
        rw [hl] at hj
        simp only [Option.map_some, Option.some.injEq] at hj
        subst hj
        exact e3 j z hl c u hu
  · intro x hx
    obtain ⟨y, _, rfl⟩ := List.mem_map.1 hx
    exact y.2
theorem links_of {w : World} {a : Option Addr} {n : Nat} {l : List (LdIn w)} (h : Rd 2 (encLdIn w) (· < w.heap.size) w a n l) : ∃ L : List Lkd, LkL w a n L ∧ ∀ c ∈ L, LOkE c := by
  refine ⟨l.map (fun q => (q.1.1.1, q.1.2)), ⟨l.map (fun q => q.1.1), ⟨by rw [List.length_map]; exact h.1, ?_⟩, by rw [List.length_map]; exact h.1, fun j q c hq hc => ?_⟩, fun c hc => ?_⟩
  · rcases h.2 with h2 | ⟨x, o, e1, e2, e3⟩
    · exact .inl h2
    · refine .inr ⟨x, o, e1, e2, fun j y hj c u hu => ?_⟩
      rw [List.getElem?_map] at hj
      cases hl : l[j]? with
      | none => rw [hl] at hj; cases hj
      | some z =>
        rw [hl] at hj
        simp only [Option.map_some, Option.some.injEq] at hj
        subst hj
        exact e3 j z hl c u hu
  · rw [List.getElem?_map] at hq hc
    cases hl : l[j]? with
    | none => rw [hl] at hq; cases hq
    | some z =>
      rw [hl] at hq hc
      simp only [Option.map_some, Option.some.injEq] at hq hc
      subst hq hc
      exact ⟨rfl, z.2.1⟩
  · obtain ⟨z, _, rfl⟩ := List.mem_map.1 hc
    exact z.2.2
abbrev NdE := { y : Nd // NOkE y }
def encNE (y : NdE) : List Value := encN y.1
theorem nodesE_of {S : Nat → Prop} {w : World} {a : Option Addr} {n : Nat} {l : List NdE} (h : Rd 3 encNE S w a n l) : ∃ lb : List Nd, Rd 3 encN S w a n lb ∧ ∀ x ∈ lb, NOkE x := by
  refine ⟨l.map Subtype.val, ⟨by rw [List.length_map]; exact h.1, ?_⟩, ?_⟩
  · rcases h.2 with h2 | ⟨x, o, e1, e2, e3⟩
    · exact .inl h2
    · refine .inr ⟨x, o, e1, e2, fun j y hj c u hu => ?_⟩
      rw [List.getElem?_map] at hj
      cases hl : l[j]? with
      | none => rw [hl] at hj; cases hj
      | some z =>
        rw [hl] at hj
        simp only [Option.map_some, Option.some.injEq] at hj
        subst hj
        exact e3 j z hl c u hu
  · intro x hx
    obtain ⟨y, _, rfl⟩ := List.mem_map.1 hx
    exact y.2
/-- where a slice that came in may lie -/
theorem form_ok {P : Program} {w : World} {r : Reach} {b0 : Nat} {t e : TypeId} {a : Option Addr} {n c : Nat} (ht : P.underlying t = some (.slice e)) (hv : Value.okWide P w r b0 t (.slice a n c)) : (a = none ∧ c = 0) ∨ ∃ x o, a = some ⟨x, o, none⟩ := by
  unfold Value.okWide at hv
  rw [ht] at hv
  unfold Cell.okWide at hv
  rw [ht] at hv
  unfold Cell.ok at hv
  rw [ht] at hv
  cases a with
  | none =>
    rcases n with _ | n <;> rcases c with _ | c
    · exact .inl ⟨rfl, rfl⟩
    · exact absurd hv (by simp)
    · exact absurd hv (by simp)
    · exact absurd hv (by simp)
  | some a =>
    obtain ⟨x, o, s⟩ := a
    have : s = none := by simpa using hv.2.2.2.1
    subst this
    exact .inr ⟨x, o, rfl⟩
end Go.Proofs.YtjaemckdfoaopabDoor

/-
  WireRoundTrip returns true for every list of numbers and every list of bytes, and leaves its arguments as they were.
  Condition: the letters of the keys are as the program text lays them (tied by the card).
-/
namespace Go.Proofs.YtjaemckdfoaopabDoor
open Go.ChangeShapes Go.WideShapes Go.ChangeAt Go.RowKit Go.Deep Go.Joins
open Go.ChangeMaps (open_string shut_string)
set_option linter.unusedVariables false
theorem Tryd.cellsInt : Tryd.prog.cellsOf 3 = 1 := by kernel_rfl
theorem Tryd.cellsByte : Tryd.prog.cellsOf 5 = 1 := by kernel_rfl

set_option maxRecDepth 100000 in
set_option maxHeartbeats 1000000 in
theorem wireRoundTrip_lifted (os : Os) (started : os.Started) (H : Type) (enc : TypeId × Value → H) :
    ReturnsInHanded {} Tryd.checked os 3 .any (fun w args => (Rows.wireRoundTripSpec.pre enc Tryd.prog Tryd.f3 [] false w args ∧ laidMetH Tryd.prog Rows.wireRoundTripRow.laid w) ∧ sizedMet enc Tryd.prog Tryd.f3 (OpenSpec.ofChange Rows.wireRoundTripSpec) false w args)
      (Rows.wireRoundTripSpec.post enc Tryd.prog Tryd.f3 false true false false) := by
  refine returnsInHanded_of_change_and (C := Tryd.checked) (X := fun w _ => laidMetH Tryd.prog Rows.wireRoundTripRow.laid w) (fun _ _ _ hh h => h.of_heap hh) own started (by kernel_rfl) Tryd.func3
    (ChangeSpec.witness_shaped (enc := enc) (C := Tryd.checked) (os := os) (X := fun w _ => laidMetH Tryd.prog Rows.wireRoundTripRow.laid w) false (World.doorLaid Tryd.prog 400 os) #[.slice none 0 0, .slice none 0 0] 8 rfl (World.shaped_of_RefB (by kernel_rfl) (by kernel_rfl)) (by kernel_rfl) (by kernel_rfl) (by kernel_rfl) (laidMetH_of_parts3 (fuel := 8) (laidMet_of_run' 8 (by kernel_rfl) (by kernel_rfl)) (by kernel_rfl) (by kernel_rfl))) ?_
  intro W base args ds gs before hval0 hW _ _ hL _
  have hval : ∀ (j : Nat) t v, Tryd.f3.params[j]? = some t → args[j]? = some v → Value.okWide Tryd.prog W .any base t v := hval0
  have hW' := hW
  obtain ⟨p, q, hA0, hV, rfl, hfz, hnd⟩ := hW
  have hA : DataW.TrodAll enc Tryd.prog W 0 (fun _ => true) true Tryd.f3.params.toList args.toList ds p := hA0
  rw [Tryd.params3] at hA hval
  obtain ⟨v0, vs0, d0, ds0, p0, q0, hargs, rfl, rfl, h0, r0⟩ := trodAll_cons hA
  obtain ⟨v1, vs1, d1, ds1, p1, q1, rfl, rfl, rfl, h1, r1⟩ := trodAll_cons r0
  obtain ⟨rfl, rfl, rfl⟩ := trodAll_nil r1
  obtain rfl : args = #[v0, v1] := by cases args; simp_all
  obtain ⟨rfl, rfl⟩ := trodVars_none hV
  have k0 := h0
  have lt0 : ∀ x ∈ p0, x.block < W.heap.size := by obtain ⟨m, hm⟩ := k0; exact DataW.trod_lt m _ _ _ hm
  have k1 := h1
  have lt1 : ∀ x ∈ p1, x.block < W.heap.size := by obtain ⟨m, hm⟩ := k1; exact DataW.trod_lt m _ _ _ hm
  obtain ⟨A0, n0, cap0, l0, rfl, rd0, hc0, hm0, wf0, nl0⟩ := rd_ints Tryd.underlying22 Tryd.underlying3 Tryd.cellsInt (hval 0 22 v0 rfl rfl) h0
  obtain ⟨A1, n1, cap1, l1i, rfl, rd1i, hc1, hm1, wf1, nl1⟩ := rd_ints Tryd.underlying23 Tryd.underlying5 Tryd.cellsByte (hval 1 23 v1 rfl rfl) h1
  obtain ⟨l1, rd1⟩ := bytes_of rd1i wf1
  clear hA0 hval0
  have hLL : LetG W := letG_of hL (by kernel_rfl)
  have hf1 : Form A1 cap1 := form_ok Tryd.underlying23 (hval 1 23 _ rfl rfl)
  refine (wirert_walk A0 n0 cap0 l0 A1 n1 cap1 l1 W rd0 hc0 hm0 rd1 hc1 hm1 hf1 hLL).mono fun e W' ⟨he, hch⟩ => ?_
  have bel : Below W.heap.size W W' := hch.below (fun _ h => h)
  subst he
  exact ⟨_, rfl, _, _, _, [], _, [], hW', trodAll_mk1 (shut_bool Tryd.underlying4 _), (trodAll_cons_mk (Below.trod laidOut (by kernel_rfl) (of_decide_eq_true (by kernel_rfl)) k0 bel lt0) (trodAll_cons_mk (Below.trod laidOut (by kernel_rfl) (of_decide_eq_true (by kernel_rfl)) k1 bel lt1) trodAll_mk0)), rfl, bel.frame _, fun h => by cases h⟩

theorem wireRoundTrip_over : Rows.wireRoundTripRow.holds Tryd.pinned (OpenSpec.ofChange Rows.wireRoundTripSpec) :=
  OpenClaim.holds_of_wide 3 Tryd.f3 rfl rfl rfl rfl rfl rfl rfl ⟨rfl, rfl, rfl, rfl, rfl⟩ rfl rfl rfl rfl rfl (by kernel_rfl) Tryd.func3 (by kernel_rfl)
    (of_decide_eq_true (by kernel_rfl)) (by unfold Func.isWrapper; first | (rw [if_pos (by decide +kernel)]; kernel_rfl) | (rw [if_neg (by decide +kernel)]; exact ⟨rfl, rfl⟩))
    (fun os started H enc _ => wireRoundTrip_lifted os started H enc)

/-- THE STATEMENT: the tied card -/
theorem WireRoundTrip_holds : Rows.WireRoundTripCardSaid :=
  Claim7.holds_tied_plain_at .later [] [.data] true (true, "77077c7e0a592cd6d7e6df75b28e6caa7a5ec11abddca6363ba5420a404a7f5e") false
    wireRoundTrip_over (fun _ h => by cases h) (by kernel_rfl) (fun _ h => by cases h) wireRoundTrip_row_tie rfl ⟨rfl, rfl⟩ (by kernel_rfl) rfl
    (fun f fn hf hfn => by
      obtain rfl : f = 3 := Option.some.inj ((show Tryd.prog.funcNamed "skipgraph/skipgraphlaw3.WireRoundTrip" = some 3 by kernel_rfl).symm.trans hf) |>.symm
      obtain rfl : fn = Tryd.f3 := (Option.some.inj (Tryd.func3.symm.trans hfn)).symm
      exact ⟨by kernel_rfl, fun j t ht => by
        rw [Tryd.params3] at ht
        have hm : t ∈ [22, 23] := by simpa using Array.mem_of_getElem? ht
        have hall : ([22, 23].all fun u => !Tryd.prog.wantsStandIn u) = true := by kernel_rfl
        exact (show Tryd.prog.wantsStandIn t = false by simpa using List.all_eq_true.1 hall t hm)⟩)
    (by kernel_rfl)
#print axioms WireRoundTrip_holds
end Go.Proofs.YtjaemckdfoaopabDoor
