/- Texts for RepairReachesProof, RepairCrashesProof, RepairJoinsProof, RepairCleansProof, RepairRejoinsProof. -/
import Derived.Test.YtofmcalfbpjoeaaGreatDoorRpAll1
import Derived.Test.YtofmcalfbpjoeaaGreatDoorRpAll5
import Derived.Test.YtofmcalfbpjoeaaGreatDoorRpAll6

namespace Go.Proofs.YtofmcalfbpjoeaaGreatDoor
open Go.RowKit Go.Sort Go.Lib
section
variable {α : Type} [Inhabited α] {enc : α → List Value} {kk : Nat} {lt : α → α → Bool}
variable (hk : ∀ x, (enc x).length = kk) (hS : SWO lt) (g : Nat) (lb : Array Value) (sf : Nat) (sb : Array Value)
set_option maxHeartbeats 8000000 in
set_option maxRecDepth 100000 in
include hk hS in
theorem sym_le (eg : ∀ args w, (callFunc g args).run Tryz.prog w = .ok (.enter g args) w) (blk off N a m b : Nat) (d : Array α) (w : World) (hN : b - a ≤ N + 1) (hih : ∀ (a m b : Nat) (d : Array α) (w : World), b - a ≤ N →
  LessG Tryz.prog g lb enc kk lt blk off d.size w → SwapSwapsK Tryz.prog sf sb enc kk blk off d.size → HoldsK enc kk w blk off d → blk < w.heap.size → a < m → m < b → b ≤ d.size → d.size < 4611686018427387904 →
  SortedIn lt a m d → SortedIn lt m b d →
  Calls Tryz.prog 199 #[dta g lb sf sb, .int .i64 a, .int .i64 m, .int .i64 b] w (SrtPost enc kk w blk off fun d' => PermIn a b d d' ∧ SortedIn lt a b d'))
  (hless : LessG Tryz.prog g lb enc kk lt blk off d.size w) (hswap : SwapSwapsK Tryz.prog sf sb enc kk blk off d.size) (hH : HoldsK enc kk w blk off d) (hblk : blk < w.heap.size) (ham : a + 1 < m) (hmb : m + 1 < b) (hb : b ≤ d.size) (hsz : d.size < 4611686018427387904)
  (hl : SortedIn lt a m d) (hr : SortedIn lt m b d) (hgt : m ≤ (a + b) / 2) :
  Calls Tryz.prog 199 #[dta g lb sf sb, .int .i64 a, .int .i64 m, .int .i64 b] w (SrtPost enc kk w blk off fun d' => PermIn a b d d' ∧ SortedIn lt a b d') := by
 have IH := Lib.hid hih
 have H0 := Lib.hid (InS.start (g := g) (lb := lb) (sf := sf) (sb := sb) hH hblk)
 have HLESS := Lib.hid hless
 have HSWP := Lib.hid hswap
 have HL := Lib.hid hl
 have HR := Lib.hid hr
 have t1 : ((m : Int) - (a : Int) == 1) = false := by rw [beq_eq_false_iff_ne]; omega
 have t2 : ((b : Int) - (m : Int) == 1) = false := by rw [beq_eq_false_iff_ne]; omega
 obtain ⟨M, hM⟩ : ∃ M : Nat, M = (a + b) / 2 := ⟨_, rfl⟩
 have HM := Lib.hid hM
 have hME : ((a : Int) + (b : Int)) / 2 = (M : Int) := by omega
 have hM1 : 2 * M ≤ a + b := by omega
 have hM2 : a + b ≤ 2 * M + 1 := by omega
 have hbs : b < 4611686018427387904 := by omega
 have hgt2 : m ≤ M := by omega
 have hgtI : ¬ (M : Int) < (m : Int) := by omega
 clear hless hswap hH hl hr hM hih hgt
 have FIN : Hid (∀ s s0 r0, ((m > M ∧ s0 = M + m - b ∧ r0 = M) ∨ (m ≤ M ∧ s0 = a ∧ r0 = m)) → s0 ≤ s → s ≤ r0 → (s = s0 ∨ lt d[M + m - 1 - (s - 1)]! d[s - 1]! = false) → (s = r0 ∨ lt d[M + m - 1 - s]! d[s]! = true) → ∀ r, Rot d s m (M + m - s) r →
  Cross lt a M b r ∧ SortedIn lt a s r ∧ SortedIn lt s M r ∧ SortedIn lt M (M + m - s) r ∧ SortedIn lt (M + m - s) b r) := Lib.hid (fun s s0 r0 h0 h1 h2 h3 h4 r h => by
  have hM := HM.out
  subst hM
  exact sym_cross hS (by omega) (by omega) HL.out HR.out h0 h1 h2 h3 h4 h)
 obtain ⟨s0, hs0⟩ : ∃ s0 : Nat, s0 = a := ⟨_, rfl⟩
 obtain ⟨r0, hr0⟩ : ∃ r0 : Nat, r0 = m := ⟨_, rfl⟩
 have h00 : (m > M ∧ s0 = M + m - b ∧ r0 = M) ∨ (m ≤ M ∧ s0 = a ∧ r0 = m) := by omega
 have hsr : s0 ≤ r0 ∧ r0 ≤ M ∧ r0 ≤ m ∧ a ≤ s0 ∧ M + m ≤ s0 + b := by omega
 obtain ⟨q1, q2, q3, q4, q5⟩ := hsr
 have HFIN := Lib.hid (fun s => FIN.out s s0 r0 h00)
 have E1 : Hid (Value.int .i64 ((a : Int)) = .int .i64 (s0 : Int)) := Lib.hid (by rw [hs0])
 have E2 : Hid (Value.int .i64 (m : Int) = .int .i64 (r0 : Int)) := Lib.hid (by rw [hr0])
 clear FIN h00 hs0 hr0
 go_enter Tryz.func199, Tryz.ntmps199
 go_wp2
 go_loopw [18, 19] (fun vs vr wr => ∃ (s r : Nat), vs = .int .i64 s ∧ vr = .int .i64 r ∧ s0 ≤ s ∧ s ≤ r ∧ r ≤ r0 ∧ (s = s0 ∨ lt d[M + m - 1 - (s - 1)]! d[s - 1]! = false) ∧ (r = r0 ∨ lt d[M + m - 1 - r]! d[r]! = true) ∧ InS enc kk w blk off d.size w.heap.size (.func (.func g) #[] lb) (.func (.func sf) #[] sb) d wr) (fun vs vr _ => (intOf vr).toNat - (intOf vs).toNat)
 case atStart => exact ⟨s0, r0, E1.out, E2.out, Nat.le_refl _, q1, Nat.le_refl _, .inl rfl, .inl rfl, H0.out⟩
 case round =>
  clear E1 E2
  obtain ⟨s, r, rfl, rfl, hs, hsr, hr, hP, hQ, hI⟩ := hrel
  have HP := Lib.hid hP
  have HQ := Lib.hid hQ
  have HIS := Lib.hid hI
  have c0 := hI.c0
  have c1 := hI.c1
  clear hP hQ
  by_cases hlt : s < r
  ·have hlti : (s : Int) < (r : Int) := by omega
   cases hlv : lt d[M + m - 1 - (s + r) / 2]! d[(s + r) / 2]! with
   | false =>
    have HLV := Lib.hid hlv
    have hl := hI.less HLESS.out (i := M + m - 1 - (s + r) / 2) (j := (s + r) / 2) (by omega) (by omega) false hlv
    rw [show (((M + m - 1 - (s + r) / 2 : Nat) : Int)) = (M : Int) + (m : Int) - 1 - ((s : Int) + (r : Int)) / 2 by omega, show ((((s + r) / 2 : Nat) : Int)) = ((s : Int) + (r : Int)) / 2 by omega] at hl
    clear hI hlv
    go_wp2_with (go_at_fn g; refine hl.mono ?_; rintro e w1 ⟨rfl, hI1⟩)
    go_roundw
    case rel => exact ⟨(s + r) / 2 + 1, r, by rw [show ((s : Int) + (r : Int)) / 2 + 1 = (((s + r) / 2 + 1 : Nat) : Int) by omega], rfl, by omega, by omega, hr, .inr (by rw [Nat.add_sub_cancel]; exact HLV.out), HQ.out, hI1⟩
    case measure => simp [intOf]; omega
   | true =>
    have HLV := Lib.hid hlv
    have hl := hI.less HLESS.out (i := M + m - 1 - (s + r) / 2) (j := (s + r) / 2) (by omega) (by omega) true hlv
    rw [show (((M + m - 1 - (s + r) / 2 : Nat) : Int)) = (M : Int) + (m : Int) - 1 - ((s : Int) + (r : Int)) / 2 by omega, show ((((s + r) / 2 : Nat) : Int)) = ((s : Int) + (r : Int)) / 2 by omega] at hl
    clear hI hlv
    go_wp2_with (go_at_fn g; refine hl.mono ?_; rintro e w1 ⟨rfl, hI1⟩)
    go_roundw
    case rel => exact ⟨s, (s + r) / 2, rfl, by rw [show ((s : Int) + (r : Int)) / 2 = (((s + r) / 2 : Nat) : Int) by omega], hs, by omega, by omega, HP.out, .inr HLV.out, hI1⟩
    case measure => simp [intOf]; omega
  ·have hge : ¬ (s : Int) < (r : Int) := by omega
   obtain ⟨en, hen⟩ : ∃ en : Nat, en = M + m - s := ⟨_, rfl⟩
   have hEE : (M : Int) + (m : Int) - (s : Int) = (en : Int) := by omega
   have hES : s + en = M + m := by omega
   have z1 : s ≤ M := by omega
   have z2 : s ≤ m := by omega
   have z3 : m ≤ en := by omega
   have z4 : en ≤ b := by omega
   have z5 : a ≤ s := by omega
   have z6 : M ≤ en := by omega
   have FIN : Hid (∀ x, Rot d s m en x → Cross lt a M b x ∧ SortedIn lt a s x ∧ SortedIn lt s M x ∧ SortedIn lt M en x ∧ SortedIn lt en b x) := Lib.hid (by
    rw [hen]
    exact HFIN.out s hs (by omega) HP.out (by have := HQ.out; rwa [show r = s by omega] at this))
   have hM3 : a < M := by omega
   have hM4 : M < b := by omega
   clear hI hen HP HQ hr hsr
   have hc : (s < m ∧ m < en ∧ a < s ∧ en < b) ∨ (s < m ∧ m < en ∧ a < s ∧ ¬ en < b) ∨ (s < m ∧ m < en ∧ ¬ a < s ∧ en < b) ∨ (s < m ∧ m < en ∧ ¬ a < s ∧ ¬ en < b) ∨ (¬ s < m ∧ s < M) ∨ (¬ s < m ∧ ¬ s < M) ∨ (s < m ∧ ¬ m < en) := by omega
   rcases hc with ⟨v1, v2, v3, v4⟩ | ⟨v1, v2, v3, v4⟩ | ⟨v1, v2, v3, v4⟩ | ⟨v1, v2, v3, v4⟩ | ⟨v1, v2⟩ | ⟨v1, v2⟩ | ⟨v1, v2⟩
   ·have i1 : (s : Int) < (m : Int) := by omega
    have i2 : (m : Int) < (en : Int) := by omega
    have i3 : (a : Int) < (s : Int) := by omega
    have i4 : (s : Int) < (M : Int) := by omega
    have i5 : (M : Int) < (en : Int) := by omega
    have i6 : (en : Int) < (b : Int) := by omega
    have rc := rotate_s hk g lb sf sb blk off s m en d wr HSWP.out HIS.out.holds HIS.out.hlt (by omega) (by omega) (by omega) hsz
    go_wp2_with fail
    refine rc.mono ?_
    rintro e w1 ⟨rfl, n1, os1, d1, ⟨rot1, p1⟩, hw1⟩
    have hI1 : InS enc kk w blk off d.size w.heap.size (.func (.func g) #[] lb) (.func (.func sf) #[] sb) d1 w1 := by rw [hw1]; exact HIS.out.on p1.1
    have P1 : Hid (PermIn a b d d1) := Lib.hid (permIn_mono _ _ _ _ _ _ (by omega) (by omega) hb p1)
    clear hw1 rc c0 c1 p1
    obtain ⟨X1, X2, X3, X4, X5⟩ := FIN.out d1 rot1
    have hz1 : d1.size = d.size := hI1.sz
    have c0 := hI1.c0
    have c1 := hI1.c1
    have H1 := Lib.hid hI1
    have X1 := Lib.hid X1
    have X2 := Lib.hid X2
    have X3 := Lib.hid X3
    have X4 := Lib.hid X4
    have X5 := Lib.hid X5
    have hb1 : b ≤ d1.size := by omega
    clear rot1 hI1 FIN
    have rc := IH.out a s M d1 w1 (by omega) (H1.out.lessReads HLESS.out) (by rw [hz1]; exact HSWP.out) H1.out.holds H1.out.hlt (by omega) (by omega) (by omega) (by omega) X2.out X3.out
    go_wp2_with fail
    refine rc.mono ?_
    rintro e w2 ⟨rfl, n2, os2, d2, ⟨p2, s2⟩, hw2⟩
    have hI2 : InS enc kk w blk off d.size w.heap.size (.func (.func g) #[] lb) (.func (.func sf) #[] sb) d2 w2 := by rw [hw2]; exact H1.out.on p2.1
    clear hw2 rc c0 c1
    have hz2 : d2.size = d.size := hI2.sz
    have c0 := hI2.c0
    have c1 := hI2.c1
    have Y4 := Lib.hid (sorted_other X4.out p2 (Or.inr (Nat.le_refl _)))
    have Y5 := Lib.hid (sorted_other X5.out p2 (Or.inr z6))
    have H2 := Lib.hid hI2
    have S2 := Lib.hid s2
    have P2 := Lib.hid p2
    clear hI2 s2 p2 X2 X3 X4 X5
    have rc := IH.out M en b d2 w2 (by omega) (H2.out.lessReads HLESS.out) (by rw [hz2]; exact HSWP.out) H2.out.holds H2.out.hlt (by omega) (by omega) (by omega) (by omega) Y4.out Y5.out
    go_wp2_with fail
    refine rc.mono ?_
    rintro e w3 ⟨rfl, n3, os3, d3, ⟨p3, s3⟩, hw3⟩
    have hI3 : InS enc kk w blk off d.size w.heap.size (.func (.func g) #[] lb) (.func (.func sf) #[] sb) d3 w3 := by rw [hw3]; exact H2.out.on p3.1
    have R := Lib.hid (halves_done (by omega) (by omega) hb1 X1.out P2.out S2.out p3 s3)
    have H3 := Lib.hid hI3
    clear hw3 rc c0 c1 H2 hI3 p3 s3
    go_wp2
    go_end0
    exact H3.out.post ⟨permIn_trans _ _ _ _ _ P1.out R.out.2, R.out.1⟩
   ·have i1 : (s : Int) < (m : Int) := by omega
    have i2 : (m : Int) < (en : Int) := by omega
    have i3 : (a : Int) < (s : Int) := by omega
    have i4 : (s : Int) < (M : Int) := by omega
    have i5 : (M : Int) < (en : Int) := by omega
    have i6 : ¬ (en : Int) < (b : Int) := by omega
    have rc := rotate_s hk g lb sf sb blk off s m en d wr HSWP.out HIS.out.holds HIS.out.hlt (by omega) (by omega) (by omega) hsz
    go_wp2_with fail
    refine rc.mono ?_
    rintro e w1 ⟨rfl, n1, os1, d1, ⟨rot1, p1⟩, hw1⟩
    have hI1 : InS enc kk w blk off d.size w.heap.size (.func (.func g) #[] lb) (.func (.func sf) #[] sb) d1 w1 := by rw [hw1]; exact HIS.out.on p1.1
    have P1 : Hid (PermIn a b d d1) := Lib.hid (permIn_mono _ _ _ _ _ _ (by omega) (by omega) hb p1)
    clear hw1 rc c0 c1 p1
    obtain ⟨X1, X2, X3, X4, X5⟩ := FIN.out d1 rot1
    have hz1 : d1.size = d.size := hI1.sz
    have c0 := hI1.c0
    have c1 := hI1.c1
    have H1 := Lib.hid hI1
    have X1 := Lib.hid X1
    have X2 := Lib.hid X2
    have X3 := Lib.hid X3
    have X4 := Lib.hid X4
    have X5 := Lib.hid X5
    have hb1 : b ≤ d1.size := by omega
    clear rot1 hI1 FIN
    have rc := IH.out a s M d1 w1 (by omega) (H1.out.lessReads HLESS.out) (by rw [hz1]; exact HSWP.out) H1.out.holds H1.out.hlt (by omega) (by omega) (by omega) (by omega) X2.out X3.out
    go_wp2_with fail
    refine rc.mono ?_
    rintro e w2 ⟨rfl, n2, os2, d2, ⟨p2, s2⟩, hw2⟩
    have hI2 : InS enc kk w blk off d.size w.heap.size (.func (.func g) #[] lb) (.func (.func sf) #[] sb) d2 w2 := by rw [hw2]; exact H1.out.on p2.1
    clear hw2 rc c0 c1
    have hz2 : d2.size = d.size := hI2.sz
    have c0 := hI2.c0
    have c1 := hI2.c1
    have Y4 := Lib.hid (sorted_other X4.out p2 (Or.inr (Nat.le_refl _)))
    have Y5 := Lib.hid (sorted_other X5.out p2 (Or.inr z6))
    have H2 := Lib.hid hI2
    have S2 := Lib.hid s2
    have P2 := Lib.hid p2
    clear hI2 s2 p2 X2 X3 X4 X5
    have s3 : SortedIn lt M b d2 := by have := Y4.out; rwa [show en = b by omega] at this
    have R := Lib.hid (halves_done (by omega) (by omega) hb1 X1.out P2.out S2.out (permIn_refl d2 M b) s3)
    clear c0 c1 s3
    go_wp2
    go_end0
    exact H2.out.post ⟨permIn_trans _ _ _ _ _ P1.out R.out.2, R.out.1⟩
   ·have i1 : (s : Int) < (m : Int) := by omega
    have i2 : (m : Int) < (en : Int) := by omega
    have i3 : ¬ (a : Int) < (s : Int) := by omega
    have i5 : (M : Int) < (en : Int) := by omega
    have i6 : (en : Int) < (b : Int) := by omega
    have rc := rotate_s hk g lb sf sb blk off s m en d wr HSWP.out HIS.out.holds HIS.out.hlt (by omega) (by omega) (by omega) hsz
    go_wp2_with fail
    refine rc.mono ?_
    rintro e w1 ⟨rfl, n1, os1, d1, ⟨rot1, p1⟩, hw1⟩
    have hI1 : InS enc kk w blk off d.size w.heap.size (.func (.func g) #[] lb) (.func (.func sf) #[] sb) d1 w1 := by rw [hw1]; exact HIS.out.on p1.1
    have P1 : Hid (PermIn a b d d1) := Lib.hid (permIn_mono _ _ _ _ _ _ (by omega) (by omega) hb p1)
    clear hw1 rc c0 c1 p1
    obtain ⟨X1, X2, X3, X4, X5⟩ := FIN.out d1 rot1
    have hz1 : d1.size = d.size := hI1.sz
    have c0 := hI1.c0
    have c1 := hI1.c1
    have H1 := Lib.hid hI1
    have X1 := Lib.hid X1
    have X2 := Lib.hid X2
    have X3 := Lib.hid X3
    have X4 := Lib.hid X4
    have X5 := Lib.hid X5
    have hb1 : b ≤ d1.size := by omega
    clear rot1 hI1 FIN
    obtain ⟨w2, rfl⟩ : ∃ w2, w2 = w1 := ⟨_, rfl⟩
    obtain ⟨d2, hd2⟩ : ∃ d2, d2 = d1 := ⟨_, rfl⟩
    have s2 : SortedIn lt a M d2 := by rw [hd2]; have := X3.out; rwa [show s = a by omega] at this
    have p2 : PermIn a M d1 d2 := by rw [hd2]; exact permIn_refl _ _ _
    have hI2 : InS enc kk w blk off d.size w.heap.size (.func (.func g) #[] lb) (.func (.func sf) #[] sb) d2 w2 := by rw [hd2]; exact H1.out
    clear hd2 c0 c1
    have hz2 : d2.size = d.size := hI2.sz
    have c0 := hI2.c0
    have c1 := hI2.c1
    have Y4 := Lib.hid (sorted_other X4.out p2 (Or.inr (Nat.le_refl _)))
    have Y5 := Lib.hid (sorted_other X5.out p2 (Or.inr z6))
    have H2 := Lib.hid hI2
    have S2 := Lib.hid s2
    have P2 := Lib.hid p2
    clear hI2 s2 p2 X2 X3 X4 X5
    have rc := IH.out M en b d2 w2 (by omega) (H2.out.lessReads HLESS.out) (by rw [hz2]; exact HSWP.out) H2.out.holds H2.out.hlt (by omega) (by omega) (by omega) (by omega) Y4.out Y5.out
    go_wp2_with fail
    refine rc.mono ?_
    rintro e w3 ⟨rfl, n3, os3, d3, ⟨p3, s3⟩, hw3⟩
    have hI3 : InS enc kk w blk off d.size w.heap.size (.func (.func g) #[] lb) (.func (.func sf) #[] sb) d3 w3 := by rw [hw3]; exact H2.out.on p3.1
    have R := Lib.hid (halves_done (by omega) (by omega) hb1 X1.out P2.out S2.out p3 s3)
    have H3 := Lib.hid hI3
    clear hw3 rc c0 c1 H2 hI3 p3 s3
    go_wp2
    go_end0
    exact H3.out.post ⟨permIn_trans _ _ _ _ _ P1.out R.out.2, R.out.1⟩
   ·have i1 : (s : Int) < (m : Int) := by omega
    have i2 : (m : Int) < (en : Int) := by omega
    have i3 : ¬ (a : Int) < (s : Int) := by omega
    have i5 : (M : Int) < (en : Int) := by omega
    have i6 : ¬ (en : Int) < (b : Int) := by omega
    have rc := rotate_s hk g lb sf sb blk off s m en d wr HSWP.out HIS.out.holds HIS.out.hlt (by omega) (by omega) (by omega) hsz
    go_wp2_with fail
    refine rc.mono ?_
    rintro e w1 ⟨rfl, n1, os1, d1, ⟨rot1, p1⟩, hw1⟩
    have hI1 : InS enc kk w blk off d.size w.heap.size (.func (.func g) #[] lb) (.func (.func sf) #[] sb) d1 w1 := by rw [hw1]; exact HIS.out.on p1.1
    have P1 : Hid (PermIn a b d d1) := Lib.hid (permIn_mono _ _ _ _ _ _ (by omega) (by omega) hb p1)
    clear hw1 rc c0 c1 p1
    obtain ⟨X1, X2, X3, X4, X5⟩ := FIN.out d1 rot1
    have hz1 : d1.size = d.size := hI1.sz
    have c0 := hI1.c0
    have c1 := hI1.c1
    have H1 := Lib.hid hI1
    have X1 := Lib.hid X1
    have X2 := Lib.hid X2
    have X3 := Lib.hid X3
    have X4 := Lib.hid X4
    have X5 := Lib.hid X5
    have hb1 : b ≤ d1.size := by omega
    clear rot1 hI1 FIN
    obtain ⟨w2, rfl⟩ : ∃ w2, w2 = w1 := ⟨_, rfl⟩
    obtain ⟨d2, hd2⟩ : ∃ d2, d2 = d1 := ⟨_, rfl⟩
    have s2 : SortedIn lt a M d2 := by rw [hd2]; have := X3.out; rwa [show s = a by omega] at this
    have p2 : PermIn a M d1 d2 := by rw [hd2]; exact permIn_refl _ _ _
    have hI2 : InS enc kk w blk off d.size w.heap.size (.func (.func g) #[] lb) (.func (.func sf) #[] sb) d2 w2 := by rw [hd2]; exact H1.out
    clear hd2 c0 c1
    have hz2 : d2.size = d.size := hI2.sz
    have c0 := hI2.c0
    have c1 := hI2.c1
    have Y4 := Lib.hid (sorted_other X4.out p2 (Or.inr (Nat.le_refl _)))
    have Y5 := Lib.hid (sorted_other X5.out p2 (Or.inr z6))
    have H2 := Lib.hid hI2
    have S2 := Lib.hid s2
    have P2 := Lib.hid p2
    clear hI2 s2 p2 X2 X3 X4 X5
    have s3 : SortedIn lt M b d2 := by have := Y4.out; rwa [show en = b by omega] at this
    have R := Lib.hid (halves_done (by omega) (by omega) hb1 X1.out P2.out S2.out (permIn_refl d2 M b) s3)
    clear c0 c1 s3
    go_wp2
    go_end0
    exact H2.out.post ⟨permIn_trans _ _ _ _ _ P1.out R.out.2, R.out.1⟩
   ·have i1 : ¬ (s : Int) < (m : Int) := by omega
    have i3 : (a : Int) < (s : Int) := by omega
    have i4 : (s : Int) < (M : Int) := by omega
    have i5 : ¬ (M : Int) < (en : Int) := by omega
    obtain ⟨w1, rfl⟩ : ∃ w1, w1 = wr := ⟨_, rfl⟩
    obtain ⟨d1, hd1⟩ : ∃ d1, d1 = d := ⟨_, rfl⟩
    have rot1 : Rot d s m en d1 := by rw [hd1]; exact (by rw [show s = m by omega]; exact rot_refl_l d m en z3)
    have P1 : Hid (PermIn a b d d1) := Lib.hid (by rw [hd1]; exact permIn_refl _ _ _)
    have hI1 : InS enc kk w blk off d.size w.heap.size (.func (.func g) #[] lb) (.func (.func sf) #[] sb) d1 w1 := by rw [hd1]; exact HIS.out
    clear hd1 c0 c1
    obtain ⟨X1, X2, X3, X4, X5⟩ := FIN.out d1 rot1
    have hz1 : d1.size = d.size := hI1.sz
    have c0 := hI1.c0
    have c1 := hI1.c1
    have H1 := Lib.hid hI1
    have X1 := Lib.hid X1
    have X2 := Lib.hid X2
    have X3 := Lib.hid X3
    have X4 := Lib.hid X4
    have X5 := Lib.hid X5
    have hb1 : b ≤ d1.size := by omega
    clear rot1 hI1 FIN
    have rc := IH.out a s M d1 w1 (by omega) (H1.out.lessReads HLESS.out) (by rw [hz1]; exact HSWP.out) H1.out.holds H1.out.hlt (by omega) (by omega) (by omega) (by omega) X2.out X3.out
    go_wp2_with fail
    refine rc.mono ?_
    rintro e w2 ⟨rfl, n2, os2, d2, ⟨p2, s2⟩, hw2⟩
    have hI2 : InS enc kk w blk off d.size w.heap.size (.func (.func g) #[] lb) (.func (.func sf) #[] sb) d2 w2 := by rw [hw2]; exact H1.out.on p2.1
    clear hw2 rc c0 c1
    have hz2 : d2.size = d.size := hI2.sz
    have c0 := hI2.c0
    have c1 := hI2.c1
    have Y4 := Lib.hid (sorted_other X4.out p2 (Or.inr (Nat.le_refl _)))
    have Y5 := Lib.hid (sorted_other X5.out p2 (Or.inr z6))
    have H2 := Lib.hid hI2
    have S2 := Lib.hid s2
    have P2 := Lib.hid p2
    clear hI2 s2 p2 X2 X3 X4 X5
    have s3 : SortedIn lt M b d2 := by have := Y5.out; rwa [show en = M by omega] at this
    have R := Lib.hid (halves_done (by omega) (by omega) hb1 X1.out P2.out S2.out (permIn_refl d2 M b) s3)
    clear c0 c1 s3
    go_wp2
    go_end0
    exact H2.out.post ⟨permIn_trans _ _ _ _ _ P1.out R.out.2, R.out.1⟩
   ·have i1 : ¬ (s : Int) < (m : Int) := by omega
    have i3 : (a : Int) < (s : Int) := by omega
    have i4 : ¬ (s : Int) < (M : Int) := by omega
    have i5 : ¬ (M : Int) < (en : Int) := by omega
    obtain ⟨w1, rfl⟩ : ∃ w1, w1 = wr := ⟨_, rfl⟩
    obtain ⟨d1, hd1⟩ : ∃ d1, d1 = d := ⟨_, rfl⟩
    have rot1 : Rot d s m en d1 := by rw [hd1]; exact (by rw [show s = m by omega]; exact rot_refl_l d m en z3)
    have P1 : Hid (PermIn a b d d1) := Lib.hid (by rw [hd1]; exact permIn_refl _ _ _)
    have hI1 : InS enc kk w blk off d.size w.heap.size (.func (.func g) #[] lb) (.func (.func sf) #[] sb) d1 w1 := by rw [hd1]; exact HIS.out
    clear hd1 c0 c1
    obtain ⟨X1, X2, X3, X4, X5⟩ := FIN.out d1 rot1
    have hz1 : d1.size = d.size := hI1.sz
    have c0 := hI1.c0
    have c1 := hI1.c1
    have H1 := Lib.hid hI1
    have X1 := Lib.hid X1
    have X2 := Lib.hid X2
    have X3 := Lib.hid X3
    have X4 := Lib.hid X4
    have X5 := Lib.hid X5
    have hb1 : b ≤ d1.size := by omega
    clear rot1 hI1 FIN
    obtain ⟨w2, rfl⟩ : ∃ w2, w2 = w1 := ⟨_, rfl⟩
    obtain ⟨d2, hd2⟩ : ∃ d2, d2 = d1 := ⟨_, rfl⟩
    have s2 : SortedIn lt a M d2 := by rw [hd2]; have := X2.out; rwa [show s = M by omega] at this
    have p2 : PermIn a M d1 d2 := by rw [hd2]; exact permIn_refl _ _ _
    have hI2 : InS enc kk w blk off d.size w.heap.size (.func (.func g) #[] lb) (.func (.func sf) #[] sb) d2 w2 := by rw [hd2]; exact H1.out
    clear hd2 c0 c1
    have hz2 : d2.size = d.size := hI2.sz
    have c0 := hI2.c0
    have c1 := hI2.c1
    have Y4 := Lib.hid (sorted_other X4.out p2 (Or.inr (Nat.le_refl _)))
    have Y5 := Lib.hid (sorted_other X5.out p2 (Or.inr z6))
    have H2 := Lib.hid hI2
    have S2 := Lib.hid s2
    have P2 := Lib.hid p2
    clear hI2 s2 p2 X2 X3 X4 X5
    have s3 : SortedIn lt M b d2 := by have := Y5.out; rwa [show en = M by omega] at this
    have R := Lib.hid (halves_done (by omega) (by omega) hb1 X1.out P2.out S2.out (permIn_refl d2 M b) s3)
    clear c0 c1 s3
    go_wp2
    go_end0
    exact H2.out.post ⟨permIn_trans _ _ _ _ _ P1.out R.out.2, R.out.1⟩
   ·have i1 : (s : Int) < (m : Int) := by omega
    have i2 : ¬ (m : Int) < (en : Int) := by omega
    have i3 : (a : Int) < (s : Int) := by omega
    have i4 : ¬ (s : Int) < (M : Int) := by omega
    have i5 : (M : Int) < (en : Int) := by omega
    have i6 : (en : Int) < (b : Int) := by omega
    obtain ⟨w1, rfl⟩ : ∃ w1, w1 = wr := ⟨_, rfl⟩
    obtain ⟨d1, hd1⟩ : ∃ d1, d1 = d := ⟨_, rfl⟩
    have rot1 : Rot d s m en d1 := by rw [hd1]; exact (by rw [show en = m by omega]; exact rot_refl_r d s m z2)
    have P1 : Hid (PermIn a b d d1) := Lib.hid (by rw [hd1]; exact permIn_refl _ _ _)
    have hI1 : InS enc kk w blk off d.size w.heap.size (.func (.func g) #[] lb) (.func (.func sf) #[] sb) d1 w1 := by rw [hd1]; exact HIS.out
    clear hd1 c0 c1
    obtain ⟨X1, X2, X3, X4, X5⟩ := FIN.out d1 rot1
    have hz1 : d1.size = d.size := hI1.sz
    have c0 := hI1.c0
    have c1 := hI1.c1
    have H1 := Lib.hid hI1
    have X1 := Lib.hid X1
    have X2 := Lib.hid X2
    have X3 := Lib.hid X3
    have X4 := Lib.hid X4
    have X5 := Lib.hid X5
    have hb1 : b ≤ d1.size := by omega
    clear rot1 hI1 FIN
    obtain ⟨w2, rfl⟩ : ∃ w2, w2 = w1 := ⟨_, rfl⟩
    obtain ⟨d2, hd2⟩ : ∃ d2, d2 = d1 := ⟨_, rfl⟩
    have s2 : SortedIn lt a M d2 := by rw [hd2]; have := X2.out; rwa [show s = M by omega] at this
    have p2 : PermIn a M d1 d2 := by rw [hd2]; exact permIn_refl _ _ _
    have hI2 : InS enc kk w blk off d.size w.heap.size (.func (.func g) #[] lb) (.func (.func sf) #[] sb) d2 w2 := by rw [hd2]; exact H1.out
    clear hd2 c0 c1
    have hz2 : d2.size = d.size := hI2.sz
    have c0 := hI2.c0
    have c1 := hI2.c1
    have Y4 := Lib.hid (sorted_other X4.out p2 (Or.inr (Nat.le_refl _)))
    have Y5 := Lib.hid (sorted_other X5.out p2 (Or.inr z6))
    have H2 := Lib.hid hI2
    have S2 := Lib.hid s2
    have P2 := Lib.hid p2
    clear hI2 s2 p2 X2 X3 X4 X5
    have rc := IH.out M en b d2 w2 (by omega) (H2.out.lessReads HLESS.out) (by rw [hz2]; exact HSWP.out) H2.out.holds H2.out.hlt (by omega) (by omega) (by omega) (by omega) Y4.out Y5.out
    go_wp2_with fail
    refine rc.mono ?_
    rintro e w3 ⟨rfl, n3, os3, d3, ⟨p3, s3⟩, hw3⟩
    have hI3 : InS enc kk w blk off d.size w.heap.size (.func (.func g) #[] lb) (.func (.func sf) #[] sb) d3 w3 := by rw [hw3]; exact H2.out.on p3.1
    have R := Lib.hid (halves_done (by omega) (by omega) hb1 X1.out P2.out S2.out p3 s3)
    have H3 := Lib.hid hI3
    clear hw3 rc c0 c1 H2 hI3 p3 s3
    go_wp2
    go_end0
    exact H3.out.post ⟨permIn_trans _ _ _ _ _ P1.out R.out.2, R.out.1⟩
end
end Go.Proofs.YtofmcalfbpjoeaaGreatDoor
namespace Go.Proofs.YtofmcalfbpjoeaaGreatDoor
open Go.RowKit Go.Sort Go.Lib
section
variable {α : Type} [Inhabited α] {enc : α → List Value} {kk : Nat} {lt : α → α → Bool}
variable (hk : ∀ x, (enc x).length = kk) (hS : SWO lt) (g : Nat) (lb : Array Value) (sf : Nat) (sb : Array Value)
include hk hS in
theorem symmerge_s (eg : ∀ args w, (callFunc g args).run Tryz.prog w = .ok (.enter g args) w) (blk off : Nat) : ∀ (N a m b : Nat) (d : Array α) (w : World), b - a ≤ N →
  LessG Tryz.prog g lb enc kk lt blk off d.size w → SwapSwapsK Tryz.prog sf sb enc kk blk off d.size → HoldsK enc kk w blk off d → blk < w.heap.size → a < m → m < b → b ≤ d.size → d.size < 4611686018427387904 →
  SortedIn lt a m d → SortedIn lt m b d →
  Calls Tryz.prog 199 #[dta g lb sf sb, .int .i64 a, .int .i64 m, .int .i64 b] w (SrtPost enc kk w blk off fun d' => PermIn a b d d' ∧ SortedIn lt a b d')
 | 0, a, m, b, d, w, hN, hless, hswap, hH, hblk, ham, hmb, hb, hsz, hl, hr => by omega
 | N + 1, a, m, b, d, w, hN, hless, hswap, hH, hblk, ham, hmb, hb, hsz, hl, hr => by
  by_cases c1 : m = a + 1
  ·exact sym_left hk hS g lb sf sb eg blk off a m b d w hless hswap hH hblk c1 hmb hb hsz hr
  by_cases c2 : b = m + 1
  ·exact sym_right hk hS g lb sf sb eg blk off a m b d w hless hswap hH hblk (by omega) c2 hb hsz hl
  by_cases c3 : m > (a + b) / 2
  ·exact sym_gt hk hS g lb sf sb eg blk off N a m b d w hN (symmerge_s eg blk off N) hless hswap hH hblk (by omega) (by omega) hb hsz hl hr c3
  ·exact sym_le hk hS g lb sf sb eg blk off N a m b d w hN (symmerge_s eg blk off N) hless hswap hH hblk (by omega) (by omega) hb hsz hl hr (by omega)
theorem mul_lt_step {p q C : Nat} (h : p < q) : p * C + C ≤ q * C := by
 have : (p + 1) * C ≤ q * C := Nat.mul_le_mul_right _ h
 rwa [Nat.succ_mul] at this
def HalfS (lt : α → α → Bool) (B n q : Nat) (d : Array α) : Prop := (∀ p, p < q → SortedIn lt (p * (2 * B)) (p * (2 * B) + 2 * B) d) ∧ ∀ p, 2 * q ≤ p → p * B ≤ n → SortedIn lt (p * B) (min (p * B + B) n) d
theorem half_two {B q A : Nat} (hA : A = q * (2 * B)) : (2 * q) * B = A ∧ (2 * q + 1) * B = A + B := by
 have h : (2 * q) * B = A := by rw [hA, Nat.mul_comm 2 q, Nat.mul_assoc]
 exact ⟨h, by rw [Nat.succ_mul, h]⟩
theorem half_first {B n q A : Nat} {d : Array α} (h : HalfS lt B n q d) (hA : A = q * (2 * B)) (hn : A + B ≤ n) : SortedIn lt A (A + B) d := by
 obtain ⟨e1, e2⟩ := half_two hA
 have := h.2 (2 * q) (Nat.le_refl _) (by omega)
 rwa [e1, Nat.min_eq_left hn] at this
theorem half_second {B n q A e : Nat} {d : Array α} (h : HalfS lt B n q d) (hA : A = q * (2 * B)) (hn : A + B ≤ n) (he : e = min (A + B + B) n) : SortedIn lt (A + B) e d := by
 obtain ⟨e1, e2⟩ := half_two hA
 have := h.2 (2 * q + 1) (by omega) (by omega)
 rwa [e2, ← he] at this
theorem half_step {B n q A : Nat} {d d' : Array α} (h : HalfS lt B n q d) (hA : A = q * (2 * B)) (hp : PermIn A (A + 2 * B) d d') (hs : SortedIn lt A (A + 2 * B) d') : HalfS lt B n (q + 1) d' := by
 obtain ⟨e1, e2⟩ := half_two hA
 refine ⟨fun p hpq => ?_, fun p hpq hpn => ?_⟩
 ·rcases Nat.lt_or_ge p q with hlt | hge
  ·exact sorted_other (h.1 p hlt) hp (Or.inl (by rw [hA]; exact mul_lt_step hlt))
  ·obtain rfl : p = q := by omega
   rw [← hA]; exact hs
 ·refine sorted_other (h.2 p (by omega) hpn) hp (Or.inr ?_)
  have : (2 * q + 2) * B ≤ p * B := Nat.mul_le_mul_right _ (by omega)
  rw [show 2 * q + 2 = 2 * q + 1 + 1 by omega, Nat.succ_mul, e2] at this
  omega
theorem half_done {B n q A : Nat} {d d' : Array α} (h : HalfS lt B n q d) (hA : A = q * (2 * B)) (hAn : A ≤ n) (hb : n < A + 2 * B) (hp : PermIn A n d d') (hs : SortedIn lt A n d') : ∀ p, p * (B * 2) ≤ n → SortedIn lt (p * (B * 2)) (min (p * (B * 2) + B * 2) n) d' := by
 intro p hpn
 rw [Nat.mul_comm B 2] at *
 rcases Nat.lt_trichotomy p q with hlt | rfl | hlt
 ·have := mul_lt_step (C := 2 * B) hlt
  rw [Nat.min_eq_left (by omega)]
  exact sorted_other (h.1 p hlt) hp (Or.inl (by omega))
 ·rw [← hA, Nat.min_eq_right (by omega)]; exact hs
 ·have := mul_lt_step (C := 2 * B) hlt
  omega
def BlkS (lt : α → α → Bool) (B n : Nat) (d : Array α) : Prop := ∀ q, q * B ≤ n → SortedIn lt (q * B) (min (q * B + B) n) d
set_option maxHeartbeats 8000000 in
set_option maxRecDepth 100000 in
include hk hS in
theorem stable_s (eg : ∀ args w, (callFunc g args).run Tryz.prog w = .ok (.enter g args) w) (blk off n : Nat) (d : Array α) (w : World) (hn : d.size = n)
  (hless : LessG Tryz.prog g lb enc kk lt blk off d.size w) (hswap : SwapSwapsK Tryz.prog sf sb enc kk blk off d.size) (hH : HoldsK enc kk w blk off d) (hblk : blk < w.heap.size) (hsz : n < 1152921504606846976) :
  Calls Tryz.prog 179 #[dta g lb sf sb, .int .i64 n] w (SrtPost enc kk w blk off fun d' => PermIn 0 n d d' ∧ SortedIn lt 0 n d') := by
 have H0 := Lib.hid (InS.start (g := g) (lb := lb) (sf := sf) (sb := sb) hH hblk)
 have HLESS := Lib.hid hless
 have HSWP := Lib.hid hswap
 have HN := Lib.hid hn
 have hdn : d.size ≤ n := by omega
 have hdn2 : n ≤ d.size := by omega
 clear hless hswap hH hn
 go_enter Tryz.func179, Tryz.ntmps179
 go_wp2
 go_loopw [5, 6] (fun va vb wr => ∃ (q : Nat) (dk : Array α), va = .int .i64 ((q * 20 : Nat) : Int) ∧ vb = .int .i64 ((q * 20 + 20 : Nat) : Int) ∧ q * 20 ≤ n ∧ InS enc kk w blk off d.size w.heap.size (.func (.func g) #[] lb) (.func (.func sf) #[] sb) dk wr ∧ PermIn 0 n d dk ∧ (∀ p, p < q → SortedIn lt (p * 20) (p * 20 + 20) dk)) (fun va _ _ => n - (intOf va).toNat)
 case atStart => exact ⟨0, d, by simp, by simp, by omega, H0.out, permIn_refl _ _ _, by intro p hp; omega⟩
 case round =>
  obtain ⟨q, dk, rfl, rfl, hq, hI, hpm, hso⟩ := hrel
  have HI := Lib.hid hI
  have HPM := Lib.hid hpm
  have HSO := Lib.hid hso
  have c0 := hI.c0
  have c1 := hI.c1
  have hsk := hI.sz
  clear hI hpm hso
  obtain ⟨a, ha⟩ : ∃ a, a = q * 20 := ⟨_, rfl⟩
  rw [← ha]
  rw [← ha] at hq
  have HA := Lib.hid ha
  clear ha
  by_cases hlt : a + 20 ≤ n
  ·have rc := insertion_s hk hS g lb sf sb eg blk off a (a + 20) dk wr (HI.out.lessReads HLESS.out) (by rw [hsk]; exact HSWP.out) HI.out.holds HI.out.hlt (by omega) (by omega) (by omega)
   have hle : ((a + 20 : Nat) : Int) ≤ (n : Int) := by omega
   go_wp2_with fail
   refine rc.mono ?_
   rintro e w1 ⟨rfl, n1, os1, d1, ⟨p1, s1⟩, hw1⟩
   have hI1 : InS enc kk w blk off d.size w.heap.size (.func (.func g) #[] lb) (.func (.func sf) #[] sb) d1 w1 := by rw [hw1]; exact HI.out.on p1.1
   have REL : Hid (∃ (q : Nat) (dk : Array α), Value.int .i64 ((a + 20 : Nat) : Int) = .int .i64 ((q * 20 : Nat) : Int) ∧ Value.int .i64 (((a + 20 : Nat) : Int) + 20) = .int .i64 ((q * 20 + 20 : Nat) : Int) ∧ q * 20 ≤ n ∧ InS enc kk w blk off d.size w.heap.size (.func (.func g) #[] lb) (.func (.func sf) #[] sb) dk w1 ∧ PermIn 0 n d dk ∧ (∀ p, p < q → SortedIn lt (p * 20) (p * 20 + 20) dk)) := Lib.hid (by
    have ha := HA.out
    refine ⟨q + 1, d1, by congr 2; omega, by congr 1; omega, by omega, hI1, permIn_trans _ _ _ _ _ HPM.out (permIn_mono _ _ _ _ _ _ (by omega) hlt (by omega) p1), fun p hp => ?_⟩
    rcases Nat.lt_or_ge p q with h | h
    ·exact sorted_other (HSO.out p h) p1 (Or.inl (by omega))
    ·obtain rfl : p = q := by omega
     rw [← ha]; exact s1)
   clear hw1 rc c0 c1 p1 s1 hI1
   go_wp2
   go_roundw
   case rel => exact REL.out
   case measure => simp [intOf]; omega
  ·have rc := insertion_s hk hS g lb sf sb eg blk off a n dk wr (HI.out.lessReads HLESS.out) (by rw [hsk]; exact HSWP.out) HI.out.holds HI.out.hlt (by omega) (by omega) (by omega)
   have hle : ¬ ((a + 20 : Nat) : Int) ≤ (n : Int) := by omega
   go_wp2_with fail
   refine rc.mono ?_
   rintro e w1 ⟨rfl, n1, os1, d1, ⟨p1, s1⟩, hw1⟩
   have hI1 : InS enc kk w blk off d.size w.heap.size (.func (.func g) #[] lb) (.func (.func sf) #[] sb) d1 w1 := by rw [hw1]; exact HI.out.on p1.1
   have ST : Hid (InS enc kk w blk off d.size w.heap.size (.func (.func g) #[] lb) (.func (.func sf) #[] sb) d1 w1 ∧ PermIn 0 n d d1 ∧ BlkS lt 20 n d1) := Lib.hid (by
    have ha := HA.out
    refine ⟨hI1, permIn_trans _ _ _ _ _ HPM.out (permIn_mono _ _ _ _ _ _ (by omega) (by omega) (by omega) p1), fun p hp => ?_⟩
    rcases Nat.lt_or_ge p q with h | h
    ·rw [Nat.min_eq_left (by omega)]
     exact sorted_other (HSO.out p h) p1 (Or.inl (by omega))
    ·obtain rfl : p = q := by omega
     rw [Nat.min_eq_right (by omega), ← ha]; exact s1)
   clear hw1 rc c0 c1 p1 s1 hI1 HI HPM HSO hsk
   go_wp2
   go_loopw [4] (fun vB wr => ∃ (B : Nat) (dk : Array α), vB = .int .i64 B ∧ 20 ≤ B ∧ B < 2305843009213693952 ∧ InS enc kk w blk off d.size w.heap.size (.func (.func g) #[] lb) (.func (.func sf) #[] sb) dk wr ∧ PermIn 0 n d dk ∧ BlkS lt B n dk) (fun vB _ => n - (intOf vB).toNat)
   case atStart => exact ⟨20, d1, rfl, by omega, by omega, ST.out.1, ST.out.2.1, ST.out.2.2⟩
   case round =>
    clear ST
    obtain ⟨B, dk, rfl, hB, hB2, hI, hpm, hbs⟩ := hrel
    have HI := Lib.hid hI
    have HPM := Lib.hid hpm
    have HBS := Lib.hid hbs
    clear hI hpm hbs
    by_cases hlt : B < n
    ·have hlti : (B : Int) < (n : Int) := by omega
     go_wp2
     go_loopw [5, 6] (fun va vb wr => ∃ (q A : Nat) (dj : Array α), va = .int .i64 (A : Int) ∧ vb = .int .i64 ((A : Int) + 2 * (B : Int)) ∧ A = q * (2 * B) ∧ A ≤ n ∧ InS enc kk w blk off d.size w.heap.size (.func (.func g) #[] lb) (.func (.func sf) #[] sb) dj wr ∧ PermIn 0 n d dj ∧ HalfS lt B n q dj) (fun va _ _ => n - (intOf va).toNat)
     case atStart => exact ⟨0, 0, dk, rfl, by simp, by simp, by omega, HI.out, HPM.out, ⟨by intro p hp; omega, fun p _ hp => HBS.out p hp⟩⟩
     case round =>
      clear HI HPM HBS
      obtain ⟨q, A, dj, rfl, rfl, hA, hAn, hI, hpm, hhs⟩ := hrel
      have HI := Lib.hid hI
      have HPM := Lib.hid hpm
      have HHS := Lib.hid hhs
      have HA := Lib.hid hA
      have c0 := hI.c0
      have c1 := hI.c1
      have hsj := hI.sz
      clear hI hpm hhs hA
      by_cases hle : A + 2 * B ≤ n
      ·have hlei : (A : Int) + 2 * (B : Int) ≤ (n : Int) := by omega
       have rc := symmerge_s hk hS g lb sf sb eg blk off n A (A + B) (A + 2 * B) dj wr (by omega) (HI.out.lessReads HLESS.out) (by rw [hsj]; exact HSWP.out) HI.out.holds HI.out.hlt (by omega) (by omega) (by omega) (by omega) (half_first HHS.out HA.out (by omega)) (half_second HHS.out HA.out (by omega) (by omega))
       rw [show ((A + B : Nat) : Int) = (A : Int) + (B : Int) by omega, show ((A + 2 * B : Nat) : Int) = (A : Int) + 2 * (B : Int) by omega] at rc
       go_wp2_with fail
       refine rc.mono ?_
       rintro e w1 ⟨rfl, n1, os1, d1, ⟨p1, s1⟩, hw1⟩
       have hI1 : InS enc kk w blk off d.size w.heap.size (.func (.func g) #[] lb) (.func (.func sf) #[] sb) d1 w1 := by rw [hw1]; exact HI.out.on p1.1
       have REL : Hid (∃ (q A' : Nat) (dj : Array α), Value.int .i64 ((A : Int) + 2 * (B : Int)) = .int .i64 (A' : Int) ∧ Value.int .i64 ((A : Int) + 2 * (B : Int) + 2 * (B : Int)) = .int .i64 ((A' : Int) + 2 * (B : Int)) ∧ A' = q * (2 * B) ∧ A' ≤ n ∧ InS enc kk w blk off d.size w.heap.size (.func (.func g) #[] lb) (.func (.func sf) #[] sb) dj w1 ∧ PermIn 0 n d dj ∧ HalfS lt B n q dj) := Lib.hid
        ⟨q + 1, A + 2 * B, d1, by congr 1, by congr 1, by rw [Nat.add_mul, Nat.one_mul, ← HA.out], hle, hI1, permIn_trans _ _ _ _ _ HPM.out (permIn_mono _ _ _ _ _ _ (by omega) hle (by omega) p1), half_step HHS.out HA.out p1 s1⟩
       clear hw1 rc c0 c1 p1 s1 hI1
       go_wp2
       go_roundw
       case rel => exact REL.out
       case measure => simp [intOf]; omega
      ·have hlei : ¬ (A : Int) + 2 * (B : Int) ≤ (n : Int) := by omega
       by_cases hm : A + B < n
       ·have hmi : (A : Int) + (B : Int) < (n : Int) := by omega
        have rc := symmerge_s hk hS g lb sf sb eg blk off n A (A + B) n dj wr (by omega) (HI.out.lessReads HLESS.out) (by rw [hsj]; exact HSWP.out) HI.out.holds HI.out.hlt (by omega) (by omega) (by omega) (by omega) (half_first HHS.out HA.out (by omega)) (half_second HHS.out HA.out (by omega) (by omega))
        rw [show ((A + B : Nat) : Int) = (A : Int) + (B : Int) by omega] at rc
        go_wp2_with fail
        refine rc.mono ?_
        rintro e w1 ⟨rfl, n1, os1, d1, ⟨p1, s1⟩, hw1⟩
        have hI1 : InS enc kk w blk off d.size w.heap.size (.func (.func g) #[] lb) (.func (.func sf) #[] sb) d1 w1 := by rw [hw1]; exact HI.out.on p1.1
        have REL : Hid (∃ (B' : Nat) (dk : Array α), Value.int .i64 ((B : Int) * 2) = .int .i64 (B' : Int) ∧ 20 ≤ B' ∧ B' < 2305843009213693952 ∧ InS enc kk w blk off d.size w.heap.size (.func (.func g) #[] lb) (.func (.func sf) #[] sb) dk w1 ∧ PermIn 0 n d dk ∧ BlkS lt B' n dk) := Lib.hid
         ⟨B * 2, d1, by congr 1, by omega, by omega, hI1, permIn_trans _ _ _ _ _ HPM.out (permIn_mono _ _ _ _ _ _ (by omega) (by omega) (by omega) p1), half_done HHS.out HA.out hAn (by omega) p1 s1⟩
        clear hw1 rc c0 c1 p1 s1 hI1
        go_wp2
        go_roundw
        case rel => exact REL.out
        case measure => simp [intOf]; omega
       ·have hmi : ¬ (A : Int) + (B : Int) < (n : Int) := by omega
        have REL : Hid (∃ (B' : Nat) (dk : Array α), Value.int .i64 ((B : Int) * 2) = .int .i64 (B' : Int) ∧ 20 ≤ B' ∧ B' < 2305843009213693952 ∧ InS enc kk w blk off d.size w.heap.size (.func (.func g) #[] lb) (.func (.func sf) #[] sb) dk wr ∧ PermIn 0 n d dk ∧ BlkS lt B' n dk) := Lib.hid
         ⟨B * 2, dj, by congr 1, by omega, by omega, HI.out, HPM.out, half_done HHS.out HA.out hAn (by omega) (permIn_refl _ _ _) (by
          obtain ⟨e1, e2⟩ := half_two HA.out
          have := HHS.out.2 (2 * q) (Nat.le_refl _) (by omega)
          rwa [e1, Nat.min_eq_right (by omega)] at this)⟩
        clear c0 c1
        go_wp2
        go_roundw
        case rel => exact REL.out
        case measure => simp [intOf]; omega
    ·have hge : ¬ (B : Int) < (n : Int) := by omega
     go_wp2
     go_end0
     refine HI.out.post ⟨HPM.out, ?_⟩
     have := HBS.out 0 (by omega)
     rwa [Nat.zero_mul, Nat.zero_add, Nat.min_eq_right (by omega)] at this
end
end Go.Proofs.YtofmcalfbpjoeaaGreatDoor
