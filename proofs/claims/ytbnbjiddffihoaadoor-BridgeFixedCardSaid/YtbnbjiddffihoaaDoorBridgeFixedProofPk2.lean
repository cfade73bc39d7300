/- Texts for the statement BridgeFixedProof, part 2 of 9: SrtC, SrtD, SrtE, SrtF, IdxR, OwnC, ClsB, ClsR, Nb, Ord, SrtG, SrtH, SrtI, SrtJ, IdxN, Word. -/
import Derived.Deep.DeepCutAuto
import Derived.Sort.Walk0
import Derived.Sort.LotA
import Derived.Deep.RegionHeld3
import Derived.Shelf.GgSortFunc.SmallK
import Derived.Shelf.Abstract
import Derived.Test.YtbnbjiddffihoaaDoorRows
import Derived.Test.YtbnbjiddffihoaaDoorBridgeFixedProofPk1

/- Walks over the library's stable sort: symMerge. -/
namespace Go.Proofs.YtbnbjiddffihoaaDoor
open Go.RowKit Go.Sort Go.Lib

section
variable {α : Type} [Inhabited α] {enc : α → List Value} {kk : Nat} {lt : α → α → Bool}
variable (hk : ∀ x, (enc x).length = kk) (hS : SWO lt) (g : Nat) (lb : Array Value) (sf : Nat) (sb : Array Value)

set_option maxHeartbeats 2000000 in
set_option maxRecDepth 100000 in
include hk hS in
theorem sym_left (eg : ∀ args w, (callFunc g args).run Tryd.prog w = .ok (.enter g args) w) (blk off a m b : Nat) (d : Array α) (w : World)
    (hless : LessG Tryd.prog g lb enc kk lt blk off d.size w) (hswap : SwapSwapsK Tryd.prog sf sb enc kk blk off d.size) (hH : HoldsK enc kk w blk off d) (hblk : blk < w.heap.size) (ham : m = a + 1) (hmb : m < b) (hb : b ≤ d.size) (hsz : d.size < 4611686018427387904)
    (hr : SortedIn lt m b d) :
    Calls Tryd.prog 149 #[dta g lb sf sb, .int .i64 a, .int .i64 m, .int .i64 b] w (SrtPost enc kk w blk off fun d' => PermIn a b d d' ∧ SortedIn lt a b d') := by
  have H0 := Lib.hid (InS.start (g := g) (lb := lb) (sf := sf) (sb := sb) hH hblk)
  have HLESS := Lib.hid hless
  have HSWP := Lib.hid hswap
  have HR := Lib.hid hr
  have HAM := Lib.hid ham
  have t1 : ((m : Int) - (a : Int) == 1) = true := by rw [beq_iff_eq]; omega
  have hma : a < m := by omega
  have hma2 : m ≤ a + 1 := by omega
  clear hless hswap hH hr ham
  go_enter Tryd.func149, Tryd.ntmps149
  go_wp2
  go_loopw [8, 9] (fun vi vj wr => ∃ (i j : Nat), vi = .int .i64 i ∧ vj = .int .i64 j ∧ m ≤ i ∧ i ≤ j ∧ j ≤ b ∧ (i = m ∨ lt d[i - 1]! d[a]! = true) ∧ (j = b ∨ lt d[j]! d[a]! = false) ∧ InS enc kk w blk off d.size w.heap.size (.func (.func g) #[] lb) (.func (.func sf) #[] sb) d wr) (fun vi vj _ => (intOf vj).toNat - (intOf vi).toNat)
  case atStart => exact ⟨m, b, rfl, rfl, Nat.le_refl _, by omega, Nat.le_refl _, .inl rfl, .inl rfl, H0.out⟩
  case round =>
    obtain ⟨i, j, rfl, rfl, hi, hij, hj, hI1, hJ1, hI⟩ := hrel
    have HI1 := Lib.hid hI1
    have HJ1 := Lib.hid hJ1
    have HIS := Lib.hid hI
    have c0 := hI.c0
    clear hI1 hJ1
    by_cases hlt : i < j
    · have hlti : (i : Int) < (j : Int) := by omega
      cases hlv : lt d[(i + j) / 2]! d[a]! with
      | true =>
        have HLV := Lib.hid hlv
        have hl := hI.less HLESS.out (i := (i + j) / 2) (j := a) (by omega) (by omega) true hlv
        rw [show ((((i + j) / 2 : Nat) : Int)) = ((i : Int) + (j : Int)) / 2 by omega] at hl
        clear hI hlv
        go_wp2_with (go_at_fn g; refine hl.mono ?_; rintro e w1 ⟨rfl, hI1⟩)
        go_roundw
        case rel => exact ⟨(i + j) / 2 + 1, j, by rw [show ((i : Int) + (j : Int)) / 2 + 1 = (((i + j) / 2 + 1 : Nat) : Int) by omega], rfl, by omega, by omega, hj, .inr (by rw [Nat.add_sub_cancel]; exact HLV.out), HJ1.out, hI1⟩
        case measure => simp [intOf]; omega
      | false =>
        have HLV := Lib.hid hlv
        have hl := hI.less HLESS.out (i := (i + j) / 2) (j := a) (by omega) (by omega) false hlv
        rw [show ((((i + j) / 2 : Nat) : Int)) = ((i : Int) + (j : Int)) / 2 by omega] at hl
        clear hI hlv
        go_wp2_with (go_at_fn g; refine hl.mono ?_; rintro e w1 ⟨rfl, hI1⟩)
        go_roundw
        case rel => exact ⟨i, (i + j) / 2, rfl, by rw [show ((i : Int) + (j : Int)) / 2 = (((i + j) / 2 : Nat) : Int) by omega], hi, by omega, by omega, HI1.out, .inr HLV.out, hI1⟩
        case measure => simp [intOf]; omega
    · have hge : ¬ (i : Int) < (j : Int) := by omega
      have hij2 : j ≤ i := by omega
      clear hI c0 hlt
      go_wp2
      go_loopw [11] (fun vk wr2 => ∃ (k : Nat) (dk : Array α), vk = .int .i64 k ∧ a ≤ k ∧ k + 1 ≤ i ∧ Rot d a (a + 1) (k + 1) dk ∧ PermIn a b d dk ∧ InS enc kk w blk off d.size w.heap.size (.func (.func g) #[] lb) (.func (.func sf) #[] sb) dk wr2) (fun vk _ => i - (intOf vk).toNat)
      case atStart => exact ⟨a, d, rfl, Nat.le_refl _, by omega, rot_refl_r d a (a + 1) (by omega), permIn_refl _ _ _, HIS.out⟩
      case round =>
        obtain ⟨k, dk, rfl, hak, hki, hrot, hpm, hI⟩ := hrel
        have HROT := Lib.hid hrot
        have HPM := Lib.hid hpm
        have c1 := hI.c1
        have hsk := hI.sz
        clear hrot hpm
        by_cases hlt : k + 1 < i
        · have hlti : (k : Int) < (i : Int) - 1 := by omega
          obtain ⟨w2, hs, hI2⟩ := hI.swap hk HSWP.out (i := k) (j := k + 1) (by omega) (by omega)
          rw [show (((k + 1 : Nat) : Int)) = (k : Int) + 1 by omega] at hs
          clear hI
          go_wp2
          go_roundw
          case rel => exact ⟨k + 1, swp dk k (k + 1), by go_num, by omega, by omega, rot_up HROT.out hak (by omega), permIn_trans _ _ _ _ _ HPM.out (swp_permIn _ _ _ _ _ (by omega) (by omega) (by omega) (by omega) (by omega)), hI2⟩
          case measure => simp [intOf]; omega
        · have hge2 : ¬ (k : Int) < (i : Int) - 1 := by omega
          have HI := Lib.hid hI
          clear hI c1
          go_wp2
          go_end0
          refine HI.out.post ⟨HPM.out, ?_⟩
          have hm := HAM.out
          subst hm
          have e1 : k + 1 = i := by omega
          have e2 : j = i := by omega
          have h3 := HROT.out
          rw [e1] at h3
          have h4 := HJ1.out
          rw [e2] at h4
          exact one_left hS (by omega) (by omega) HR.out HI1.out h4 h3

set_option maxHeartbeats 2000000 in
set_option maxRecDepth 100000 in
include hk hS in
theorem sym_right (eg : ∀ args w, (callFunc g args).run Tryd.prog w = .ok (.enter g args) w) (blk off a m b : Nat) (d : Array α) (w : World)
    (hless : LessG Tryd.prog g lb enc kk lt blk off d.size w) (hswap : SwapSwapsK Tryd.prog sf sb enc kk blk off d.size) (hH : HoldsK enc kk w blk off d) (hblk : blk < w.heap.size) (ham : a + 1 < m) (hmb : b = m + 1) (hb : b ≤ d.size) (hsz : d.size < 4611686018427387904)
    (hl : SortedIn lt a m d) :
    Calls Tryd.prog 149 #[dta g lb sf sb, .int .i64 a, .int .i64 m, .int .i64 b] w (SrtPost enc kk w blk off fun d' => PermIn a b d d' ∧ SortedIn lt a b d') := by
  have H0 := Lib.hid (InS.start (g := g) (lb := lb) (sf := sf) (sb := sb) hH hblk)
  have HLESS := Lib.hid hless
  have HSWP := Lib.hid hswap
  have HL := Lib.hid hl
  have HMB := Lib.hid hmb
  have t1 : ((m : Int) - (a : Int) == 1) = false := by rw [beq_eq_false_iff_ne]; omega
  have t2 : ((b : Int) - (m : Int) == 1) = true := by rw [beq_iff_eq]; omega
  have hmb2 : m < b := by omega
  have hmb3 : b ≤ m + 1 := by omega
  clear hless hswap hH hl hmb
  go_enter Tryd.func149, Tryd.ntmps149
  go_wp2
  go_loopw [12, 13] (fun vi vj wr => ∃ (i j : Nat), vi = .int .i64 i ∧ vj = .int .i64 j ∧ a ≤ i ∧ i ≤ j ∧ j ≤ m ∧ (i = a ∨ lt d[m]! d[i - 1]! = false) ∧ (j = m ∨ lt d[m]! d[j]! = true) ∧ InS enc kk w blk off d.size w.heap.size (.func (.func g) #[] lb) (.func (.func sf) #[] sb) d wr) (fun vi vj _ => (intOf vj).toNat - (intOf vi).toNat)
  case atStart => exact ⟨a, m, rfl, rfl, Nat.le_refl _, by omega, Nat.le_refl _, .inl rfl, .inl rfl, H0.out⟩
  case round =>
    obtain ⟨i, j, rfl, rfl, hi, hij, hj, hI1, hJ1, hI⟩ := hrel
    have HI1 := Lib.hid hI1
    have HJ1 := Lib.hid hJ1
    have HIS := Lib.hid hI
    have c0 := hI.c0
    clear hI1 hJ1
    by_cases hlt : i < j
    · have hlti : (i : Int) < (j : Int) := by omega
      cases hlv : lt d[m]! d[(i + j) / 2]! with
      | false =>
        have HLV := Lib.hid hlv
        have hl := hI.less HLESS.out (i := m) (j := (i + j) / 2) (by omega) (by omega) false hlv
        rw [show ((((i + j) / 2 : Nat) : Int)) = ((i : Int) + (j : Int)) / 2 by omega] at hl
        clear hI hlv
        go_wp2_with (go_at_fn g; refine hl.mono ?_; rintro e w1 ⟨rfl, hI1⟩)
        go_roundw
        case rel => exact ⟨(i + j) / 2 + 1, j, by rw [show ((i : Int) + (j : Int)) / 2 + 1 = (((i + j) / 2 + 1 : Nat) : Int) by omega], rfl, by omega, by omega, hj, .inr (by rw [Nat.add_sub_cancel]; exact HLV.out), HJ1.out, hI1⟩
        case measure => simp [intOf]; omega
      | true =>
        have HLV := Lib.hid hlv
        have hl := hI.less HLESS.out (i := m) (j := (i + j) / 2) (by omega) (by omega) true hlv
        rw [show ((((i + j) / 2 : Nat) : Int)) = ((i : Int) + (j : Int)) / 2 by omega] at hl
        clear hI hlv
        go_wp2_with (go_at_fn g; refine hl.mono ?_; rintro e w1 ⟨rfl, hI1⟩)
        go_roundw
        case rel => exact ⟨i, (i + j) / 2, rfl, by rw [show ((i : Int) + (j : Int)) / 2 = (((i + j) / 2 : Nat) : Int) by omega], hi, by omega, by omega, HI1.out, .inr HLV.out, hI1⟩
        case measure => simp [intOf]; omega
    · have hge : ¬ (i : Int) < (j : Int) := by omega
      have hij2 : j ≤ i := by omega
      clear hI c0 hlt
      go_wp2
      go_loopw [15] (fun vk wr2 => ∃ (k : Nat) (dk : Array α), vk = .int .i64 k ∧ i ≤ k ∧ k ≤ m ∧ Rot d k m (m + 1) dk ∧ PermIn a b d dk ∧ InS enc kk w blk off d.size w.heap.size (.func (.func g) #[] lb) (.func (.func sf) #[] sb) dk wr2) (fun vk _ => (intOf vk).toNat)
      case atStart => exact ⟨m, d, rfl, by omega, Nat.le_refl _, rot_refl_l d m (m + 1) (by omega), permIn_refl _ _ _, HIS.out⟩
      case round =>
        obtain ⟨k, dk, rfl, hik, hkm, hrot, hpm, hI⟩ := hrel
        have HROT := Lib.hid hrot
        have HPM := Lib.hid hpm
        have c1 := hI.c1
        have hsk := hI.sz
        clear hrot hpm
        by_cases hlt : i < k
        · have hlti : (i : Int) < (k : Int) := by omega
          obtain ⟨w2, hs, hI2⟩ := hI.swap hk HSWP.out (i := k) (j := k - 1) (by omega) (by omega)
          rw [show (((k - 1 : Nat) : Int)) = (k : Int) - 1 by omega] at hs
          clear hI
          go_wp2
          go_roundw
          case rel =>
            have hr := HROT.out
            rw [show k = k - 1 + 1 by omega] at hr
            have h5 := rot_down hr (by omega) (by omega)
            rw [show k - 1 + 1 = k by omega] at h5
            exact ⟨k - 1, swp dk k (k - 1), by rw [show ((k - 1 : Nat) : Int) = (k : Int) - 1 by omega], by omega, by omega, h5, permIn_trans _ _ _ _ _ HPM.out (swp_permIn _ _ _ _ _ (by omega) (by omega) (by omega) (by omega) (by omega)), hI2⟩
          case measure => simp [intOf]; omega
        · have hge2 : ¬ (i : Int) < (k : Int) := by omega
          have HI := Lib.hid hI
          clear hI c1
          go_wp2
          go_end0
          refine HI.out.post ⟨HPM.out, ?_⟩
          have hm := HMB.out
          subst hm
          have e1 : k = i := by omega
          have e2 : j = i := by omega
          have h3 := HROT.out
          rw [e1] at h3
          have h4 := HJ1.out
          rw [e2] at h4
          exact one_right hS (by omega) (by omega) HL.out HI1.out h4 h3

end
end Go.Proofs.YtbnbjiddffihoaaDoor

/- Walks over the library's stable sort: symMerge, its general case where the middle of the row lies before the second part. -/
namespace Go.Proofs.YtbnbjiddffihoaaDoor
open Go.RowKit Go.Sort Go.Lib

section
variable {α : Type} [Inhabited α] {enc : α → List Value} {kk : Nat} {lt : α → α → Bool}
variable (hk : ∀ x, (enc x).length = kk) (hS : SWO lt) (g : Nat) (lb : Array Value) (sf : Nat) (sb : Array Value)
set_option maxHeartbeats 8000000 in
set_option maxRecDepth 100000 in
include hk hS in
theorem sym_gt (eg : ∀ args w, (callFunc g args).run Tryd.prog w = .ok (.enter g args) w) (blk off N a m b : Nat) (d : Array α) (w : World) (hN : b - a ≤ N + 1) (hih : ∀ (a m b : Nat) (d : Array α) (w : World), b - a ≤ N →
    LessG Tryd.prog g lb enc kk lt blk off d.size w → SwapSwapsK Tryd.prog sf sb enc kk blk off d.size → HoldsK enc kk w blk off d → blk < w.heap.size → a < m → m < b → b ≤ d.size → d.size < 4611686018427387904 →
    SortedIn lt a m d → SortedIn lt m b d →
    Calls Tryd.prog 149 #[dta g lb sf sb, .int .i64 a, .int .i64 m, .int .i64 b] w (SrtPost enc kk w blk off fun d' => PermIn a b d d' ∧ SortedIn lt a b d'))
    (hless : LessG Tryd.prog g lb enc kk lt blk off d.size w) (hswap : SwapSwapsK Tryd.prog sf sb enc kk blk off d.size) (hH : HoldsK enc kk w blk off d) (hblk : blk < w.heap.size) (ham : a + 1 < m) (hmb : m + 1 < b) (hb : b ≤ d.size) (hsz : d.size < 4611686018427387904)
    (hl : SortedIn lt a m d) (hr : SortedIn lt m b d) (hgt : m > (a + b) / 2) :
    Calls Tryd.prog 149 #[dta g lb sf sb, .int .i64 a, .int .i64 m, .int .i64 b] w (SrtPost enc kk w blk off fun d' => PermIn a b d d' ∧ SortedIn lt a b d') := by
  have IH := Lib.hid hih
  have H0 := Lib.hid (InS.start (g := g) (lb := lb) (sf := sf) (sb := sb) hH hblk)
  have HLESS := Lib.hid hless
  have HSWP := Lib.hid hswap
  have HL := Lib.hid hl
  have HR := Lib.hid hr
  have t1 : ((m : Int) - (a : Int) == 1) = false := by rw [beq_eq_false_iff_ne]; omega
  have t2 : ((b : Int) - (m : Int) == 1) = false := by rw [beq_eq_false_iff_ne]; omega
  obtain ⟨M, hM⟩ : ∃ M : Nat, M = (a + b) / 2 := ⟨_, rfl⟩
  have HM := Lib.hid hM
  have hME : ((a : Int) + (b : Int)) / 2 = (M : Int) := by omega
  have hM1 : 2 * M ≤ a + b := by omega
  have hM2 : a + b ≤ 2 * M + 1 := by omega
  have hbs : b < 4611686018427387904 := by omega
  have hgt2 : M < m := by omega
  have hgtI : (M : Int) < (m : Int) := by omega
  clear hless hswap hH hl hr hM hih hgt
  have FIN : Hid (∀ s s0 r0, ((m > M ∧ s0 = M + m - b ∧ r0 = M) ∨ (m ≤ M ∧ s0 = a ∧ r0 = m)) → s0 ≤ s → s ≤ r0 → (s = s0 ∨ lt d[M + m - 1 - (s - 1)]! d[s - 1]! = false) → (s = r0 ∨ lt d[M + m - 1 - s]! d[s]! = true) → ∀ r, Rot d s m (M + m - s) r →
    Cross lt a M b r ∧ SortedIn lt a s r ∧ SortedIn lt s M r ∧ SortedIn lt M (M + m - s) r ∧ SortedIn lt (M + m - s) b r) := Lib.hid (fun s s0 r0 h0 h1 h2 h3 h4 r h => by
    have hM := HM.out
    subst hM
    exact sym_cross hS (by omega) (by omega) HL.out HR.out h0 h1 h2 h3 h4 h)
  obtain ⟨s0, hs0⟩ : ∃ s0 : Nat, s0 = M + m - b := ⟨_, rfl⟩
  obtain ⟨r0, hr0⟩ : ∃ r0 : Nat, r0 = M := ⟨_, rfl⟩
  have h00 : (m > M ∧ s0 = M + m - b ∧ r0 = M) ∨ (m ≤ M ∧ s0 = a ∧ r0 = m) := by omega
  have hsr : s0 ≤ r0 ∧ r0 ≤ M ∧ r0 ≤ m ∧ a ≤ s0 ∧ M + m ≤ s0 + b ∧ a < s0 + 1 := by omega
  obtain ⟨q1, q2, q3, q4, q5, _⟩ := hsr
  have HFIN := Lib.hid (fun s => FIN.out s s0 r0 h00)
  have E1 : Hid (Value.int .i64 ((M : Int) + (m : Int) - (b : Int)) = .int .i64 (s0 : Int)) := Lib.hid (by rw [hs0, Int.natCast_sub (by omega), Int.natCast_add])
  have E2 : Hid (Value.int .i64 (M : Int) = .int .i64 (r0 : Int)) := Lib.hid (by rw [hr0])
  clear FIN h00 hs0 hr0
  go_enter Tryd.func149, Tryd.ntmps149
  go_wp2
  go_loopw [18, 19] (fun vs vr wr => ∃ (s r : Nat), vs = .int .i64 s ∧ vr = .int .i64 r ∧ s0 ≤ s ∧ s ≤ r ∧ r ≤ r0 ∧ (s = s0 ∨ lt d[M + m - 1 - (s - 1)]! d[s - 1]! = false) ∧ (r = r0 ∨ lt d[M + m - 1 - r]! d[r]! = true) ∧ InS enc kk w blk off d.size w.heap.size (.func (.func g) #[] lb) (.func (.func sf) #[] sb) d wr) (fun vs vr _ => (intOf vr).toNat - (intOf vs).toNat)
  case atStart => exact ⟨s0, r0, E1.out, E2.out, Nat.le_refl _, q1, Nat.le_refl _, .inl rfl, .inl rfl, H0.out⟩
  case round =>
    clear E1 E2
    obtain ⟨s, r, rfl, rfl, hs, hsr, hr, hP, hQ, hI⟩ := hrel
    have HP := Lib.hid hP
    have HQ := Lib.hid hQ
    have HIS := Lib.hid hI
    have c0 := hI.c0
    have c1 := hI.c1
    clear hP hQ
    by_cases hlt : s < r
    · have hlti : (s : Int) < (r : Int) := by omega
      cases hlv : lt d[M + m - 1 - (s + r) / 2]! d[(s + r) / 2]! with
      | false =>
        have HLV := Lib.hid hlv
        have hl := hI.less HLESS.out (i := M + m - 1 - (s + r) / 2) (j := (s + r) / 2) (by omega) (by omega) false hlv
        rw [show (((M + m - 1 - (s + r) / 2 : Nat) : Int)) = (M : Int) + (m : Int) - 1 - ((s : Int) + (r : Int)) / 2 by omega, show ((((s + r) / 2 : Nat) : Int)) = ((s : Int) + (r : Int)) / 2 by omega] at hl
        clear hI hlv
        go_wp2_with (go_at_fn g; refine hl.mono ?_; rintro e w1 ⟨rfl, hI1⟩)
        go_roundw
        case rel => exact ⟨(s + r) / 2 + 1, r, by rw [show ((s : Int) + (r : Int)) / 2 + 1 = (((s + r) / 2 + 1 : Nat) : Int) by omega], rfl, by omega, by omega, hr, .inr (by rw [Nat.add_sub_cancel]; exact HLV.out), HQ.out, hI1⟩
        case measure => simp [intOf]; omega
      | true =>
        have HLV := Lib.hid hlv
        have hl := hI.less HLESS.out (i := M + m - 1 - (s + r) / 2) (j := (s + r) / 2) (by omega) (by omega) true hlv
        rw [show (((M + m - 1 - (s + r) / 2 : Nat) : Int)) = (M : Int) + (m : Int) - 1 - ((s : Int) + (r : Int)) / 2 by omega, show ((((s + r) / 2 : Nat) : Int)) = ((s : Int) + (r : Int)) / 2 by omega] at hl
        clear hI hlv
        go_wp2_with (go_at_fn g; refine hl.mono ?_; rintro e w1 ⟨rfl, hI1⟩)
        go_roundw
        case rel => exact ⟨s, (s + r) / 2, rfl, by rw [show ((s : Int) + (r : Int)) / 2 = (((s + r) / 2 : Nat) : Int) by omega], hs, by omega, by omega, HP.out, .inr HLV.out, hI1⟩
        case measure => simp [intOf]; omega
    · have hge : ¬ (s : Int) < (r : Int) := by omega
      obtain ⟨en, hen⟩ : ∃ en : Nat, en = M + m - s := ⟨_, rfl⟩
      have hEE : (M : Int) + (m : Int) - (s : Int) = (en : Int) := by omega
      have hES : s + en = M + m := by omega
      have z1 : s ≤ M := by omega
      have z2 : s ≤ m := by omega
      have z3 : m ≤ en := by omega
      have z4 : en ≤ b := by omega
      have z5 : a ≤ s := by omega
      have z6 : M ≤ en := by omega
      have FIN : Hid (∀ x, Rot d s m en x → Cross lt a M b x ∧ SortedIn lt a s x ∧ SortedIn lt s M x ∧ SortedIn lt M en x ∧ SortedIn lt en b x) := Lib.hid (by
        rw [hen]
        exact HFIN.out s hs (by omega) HP.out (by have := HQ.out; rwa [show r = s by omega] at this))
      have hM3 : a < M := by omega
      have hM4 : M < b := by omega
      clear hI hen HP HQ hr hsr
      have hc : (s < m ∧ m < en ∧ a < s ∧ en < b) ∨ (s < m ∧ m < en ∧ a < s ∧ ¬ en < b) ∨ (s < m ∧ m < en ∧ ¬ a < s ∧ en < b) ∨ (s < m ∧ m < en ∧ ¬ a < s ∧ ¬ en < b) ∨ (¬ s < m ∧ s < M) ∨ (¬ s < m ∧ ¬ s < M) ∨ (s < m ∧ ¬ m < en) := by omega
      rcases hc with ⟨v1, v2, v3, v4⟩ | ⟨v1, v2, v3, v4⟩ | ⟨v1, v2, v3, v4⟩ | ⟨v1, v2, v3, v4⟩ | ⟨v1, v2⟩ | ⟨v1, v2⟩ | ⟨v1, v2⟩
      · have i1 : (s : Int) < (m : Int) := by omega
        have i2 : (m : Int) < (en : Int) := by omega
        have i3 : (a : Int) < (s : Int) := by omega
        have i4 : (s : Int) < (M : Int) := by omega
        have i5 : (M : Int) < (en : Int) := by omega
        have i6 : (en : Int) < (b : Int) := by omega
        have rc := rotate_s hk g lb sf sb blk off s m en d wr HSWP.out HIS.out.holds HIS.out.hlt (by omega) (by omega) (by omega) hsz
        go_wp2_with fail
        refine rc.mono ?_
        rintro e w1 ⟨rfl, n1, os1, d1, ⟨rot1, p1⟩, hw1⟩
        have hI1 : InS enc kk w blk off d.size w.heap.size (.func (.func g) #[] lb) (.func (.func sf) #[] sb) d1 w1 := by rw [hw1]; exact HIS.out.on p1.1
        have P1 : Hid (PermIn a b d d1) := Lib.hid (permIn_mono _ _ _ _ _ _ (by omega) (by omega) hb p1)
        clear hw1 rc c0 c1 p1
        obtain ⟨X1, X2, X3, X4, X5⟩ := FIN.out d1 rot1
        have hz1 : d1.size = d.size := hI1.sz
        have c0 := hI1.c0
        have c1 := hI1.c1
        have H1 := Lib.hid hI1
        have X1 := Lib.hid X1
        have X2 := Lib.hid X2
        have X3 := Lib.hid X3
        have X4 := Lib.hid X4
        have X5 := Lib.hid X5
        have hb1 : b ≤ d1.size := by omega
        clear rot1 hI1 FIN
        have rc := IH.out a s M d1 w1 (by omega) (H1.out.lessReads HLESS.out) (by rw [hz1]; exact HSWP.out) H1.out.holds H1.out.hlt (by omega) (by omega) (by omega) (by omega) X2.out X3.out
        go_wp2_with fail
        refine rc.mono ?_
        rintro e w2 ⟨rfl, n2, os2, d2, ⟨p2, s2⟩, hw2⟩
        have hI2 : InS enc kk w blk off d.size w.heap.size (.func (.func g) #[] lb) (.func (.func sf) #[] sb) d2 w2 := by rw [hw2]; exact H1.out.on p2.1
        clear hw2 rc c0 c1
        have hz2 : d2.size = d.size := hI2.sz
        have c0 := hI2.c0
        have c1 := hI2.c1
        have Y4 := Lib.hid (sorted_other X4.out p2 (Or.inr (Nat.le_refl _)))
        have Y5 := Lib.hid (sorted_other X5.out p2 (Or.inr z6))
        have H2 := Lib.hid hI2
        have S2 := Lib.hid s2
        have P2 := Lib.hid p2
        clear hI2 s2 p2 X2 X3 X4 X5
        have rc := IH.out M en b d2 w2 (by omega) (H2.out.lessReads HLESS.out) (by rw [hz2]; exact HSWP.out) H2.out.holds H2.out.hlt (by omega) (by omega) (by omega) (by omega) Y4.out Y5.out
        go_wp2_with fail
        refine rc.mono ?_
        rintro e w3 ⟨rfl, n3, os3, d3, ⟨p3, s3⟩, hw3⟩
        have hI3 : InS enc kk w blk off d.size w.heap.size (.func (.func g) #[] lb) (.func (.func sf) #[] sb) d3 w3 := by rw [hw3]; exact H2.out.on p3.1
        have R := Lib.hid (halves_done (by omega) (by omega) hb1 X1.out P2.out S2.out p3 s3)
        have H3 := Lib.hid hI3
        clear hw3 rc c0 c1 H2 hI3 p3 s3
        go_wp2
        go_end0
        exact H3.out.post ⟨permIn_trans _ _ _ _ _ P1.out R.out.2, R.out.1⟩
      · have i1 : (s : Int) < (m : Int) := by omega
        have i2 : (m : Int) < (en : Int) := by omega
        have i3 : (a : Int) < (s : Int) := by omega
        have i4 : (s : Int) < (M : Int) := by omega
        have i5 : (M : Int) < (en : Int) := by omega
        have i6 : ¬ (en : Int) < (b : Int) := by omega
        have rc := rotate_s hk g lb sf sb blk off s m en d wr HSWP.out HIS.out.holds HIS.out.hlt (by omega) (by omega) (by omega) hsz
        go_wp2_with fail
        refine rc.mono ?_
        rintro e w1 ⟨rfl, n1, os1, d1, ⟨rot1, p1⟩, hw1⟩
        have hI1 : InS enc kk w blk off d.size w.heap.size (.func (.func g) #[] lb) (.func (.func sf) #[] sb) d1 w1 := by rw [hw1]; exact HIS.out.on p1.1
        have P1 : Hid (PermIn a b d d1) := Lib.hid (permIn_mono _ _ _ _ _ _ (by omega) (by omega) hb p1)
        clear hw1 rc c0 c1 p1
        obtain ⟨X1, X2, X3, X4, X5⟩ := FIN.out d1 rot1
        have hz1 : d1.size = d.size := hI1.sz
        have c0 := hI1.c0
        have c1 := hI1.c1
        have H1 := Lib.hid hI1
        have X1 := Lib.hid X1
        have X2 := Lib.hid X2
        have X3 := Lib.hid X3
        have X4 := Lib.hid X4
        have X5 := Lib.hid X5
        have hb1 : b ≤ d1.size := by omega
        clear rot1 hI1 FIN
        have rc := IH.out a s M d1 w1 (by omega) (H1.out.lessReads HLESS.out) (by rw [hz1]; exact HSWP.out) H1.out.holds H1.out.hlt (by omega) (by omega) (by omega) (by omega) X2.out X3.out
        go_wp2_with fail
        refine rc.mono ?_
        rintro e w2 ⟨rfl, n2, os2, d2, ⟨p2, s2⟩, hw2⟩
        have hI2 : InS enc kk w blk off d.size w.heap.size (.func (.func g) #[] lb) (.func (.func sf) #[] sb) d2 w2 := by rw [hw2]; exact H1.out.on p2.1
        clear hw2 rc c0 c1
        have hz2 : d2.size = d.size := hI2.sz
        have c0 := hI2.c0
        have c1 := hI2.c1
        have Y4 := Lib.hid (sorted_other X4.out p2 (Or.inr (Nat.le_refl _)))
        have Y5 := Lib.hid (sorted_other X5.out p2 (Or.inr z6))
        have H2 := Lib.hid hI2
        have S2 := Lib.hid s2
        have P2 := Lib.hid p2
        clear hI2 s2 p2 X2 X3 X4 X5
        have s3 : SortedIn lt M b d2 := by have := Y4.out; rwa [show en = b by omega] at this
        have R := Lib.hid (halves_done (by omega) (by omega) hb1 X1.out P2.out S2.out (permIn_refl d2 M b) s3)
        clear c0 c1 s3
        go_wp2
        go_end0
        exact H2.out.post ⟨permIn_trans _ _ _ _ _ P1.out R.out.2, R.out.1⟩
      · have i1 : (s : Int) < (m : Int) := by omega
        have i2 : (m : Int) < (en : Int) := by omega
        have i3 : ¬ (a : Int) < (s : Int) := by omega
        have i5 : (M : Int) < (en : Int) := by omega
        have i6 : (en : Int) < (b : Int) := by omega
        have rc := rotate_s hk g lb sf sb blk off s m en d wr HSWP.out HIS.out.holds HIS.out.hlt (by omega) (by omega) (by omega) hsz
        go_wp2_with fail
        refine rc.mono ?_
        rintro e w1 ⟨rfl, n1, os1, d1, ⟨rot1, p1⟩, hw1⟩
        have hI1 : InS enc kk w blk off d.size w.heap.size (.func (.func g) #[] lb) (.func (.func sf) #[] sb) d1 w1 := by rw [hw1]; exact HIS.out.on p1.1
        have P1 : Hid (PermIn a b d d1) := Lib.hid (permIn_mono _ _ _ _ _ _ (by omega) (by omega) hb p1)
        clear hw1 rc c0 c1 p1
        obtain ⟨X1, X2, X3, X4, X5⟩ := FIN.out d1 rot1
        have hz1 : d1.size = d.size := hI1.sz
        have c0 := hI1.c0
        have c1 := hI1.c1
        have H1 := Lib.hid hI1
        have X1 := Lib.hid X1
        have X2 := Lib.hid X2
        have X3 := Lib.hid X3
        have X4 := Lib.hid X4
        have X5 := Lib.hid X5
        have hb1 : b ≤ d1.size := by omega
        clear rot1 hI1 FIN
        obtain ⟨w2, rfl⟩ : ∃ w2, w2 = w1 := ⟨_, rfl⟩
        obtain ⟨d2, hd2⟩ : ∃ d2, d2 = d1 := ⟨_, rfl⟩
        have s2 : SortedIn lt a M d2 := by rw [hd2]; have := X3.out; rwa [show s = a by omega] at this
        have p2 : PermIn a M d1 d2 := by rw [hd2]; exact permIn_refl _ _ _
        have hI2 : InS enc kk w blk off d.size w.heap.size (.func (.func g) #[] lb) (.func (.func sf) #[] sb) d2 w2 := by rw [hd2]; exact H1.out
        clear hd2 c0 c1
        have hz2 : d2.size = d.size := hI2.sz
        have c0 := hI2.c0
        have c1 := hI2.c1
        have Y4 := Lib.hid (sorted_other X4.out p2 (Or.inr (Nat.le_refl _)))
        have Y5 := Lib.hid (sorted_other X5.out p2 (Or.inr z6))
        have H2 := Lib.hid hI2
        have S2 := Lib.hid s2
        have P2 := Lib.hid p2
        clear hI2 s2 p2 X2 X3 X4 X5
        have rc := IH.out M en b d2 w2 (by omega) (H2.out.lessReads HLESS.out) (by rw [hz2]; exact HSWP.out) H2.out.holds H2.out.hlt (by omega) (by omega) (by omega) (by omega) Y4.out Y5.out
        go_wp2_with fail
        refine rc.mono ?_
        rintro e w3 ⟨rfl, n3, os3, d3, ⟨p3, s3⟩, hw3⟩
        have hI3 : InS enc kk w blk off d.size w.heap.size (.func (.func g) #[] lb) (.func (.func sf) #[] sb) d3 w3 := by rw [hw3]; exact H2.out.on p3.1
        have R := Lib.hid (halves_done (by omega) (by omega) hb1 X1.out P2.out S2.out p3 s3)
        have H3 := Lib.hid hI3
        clear hw3 rc c0 c1 H2 hI3 p3 s3
        go_wp2
        go_end0
        exact H3.out.post ⟨permIn_trans _ _ _ _ _ P1.out R.out.2, R.out.1⟩
      · have i1 : (s : Int) < (m : Int) := by omega
        have i2 : (m : Int) < (en : Int) := by omega
        have i3 : ¬ (a : Int) < (s : Int) := by omega
        have i5 : (M : Int) < (en : Int) := by omega
        have i6 : ¬ (en : Int) < (b : Int) := by omega
        have rc := rotate_s hk g lb sf sb blk off s m en d wr HSWP.out HIS.out.holds HIS.out.hlt (by omega) (by omega) (by omega) hsz
        go_wp2_with fail
        refine rc.mono ?_
        rintro e w1 ⟨rfl, n1, os1, d1, ⟨rot1, p1⟩, hw1⟩
        have hI1 : InS enc kk w blk off d.size w.heap.size (.func (.func g) #[] lb) (.func (.func sf) #[] sb) d1 w1 := by rw [hw1]; exact HIS.out.on p1.1
        have P1 : Hid (PermIn a b d d1) := Lib.hid (permIn_mono _ _ _ _ _ _ (by omega) (by omega) hb p1)
        clear hw1 rc c0 c1 p1
        obtain ⟨X1, X2, X3, X4, X5⟩ := FIN.out d1 rot1
        have hz1 : d1.size = d.size := hI1.sz
        have c0 := hI1.c0
        have c1 := hI1.c1
        have H1 := Lib.hid hI1
        have X1 := Lib.hid X1
        have X2 := Lib.hid X2
        have X3 := Lib.hid X3
        have X4 := Lib.hid X4
        have X5 := Lib.hid X5
        have hb1 : b ≤ d1.size := by omega
        clear rot1 hI1 FIN
        obtain ⟨w2, rfl⟩ : ∃ w2, w2 = w1 := ⟨_, rfl⟩
        obtain ⟨d2, hd2⟩ : ∃ d2, d2 = d1 := ⟨_, rfl⟩
        have s2 : SortedIn lt a M d2 := by rw [hd2]; have := X3.out; rwa [show s = a by omega] at this
        have p2 : PermIn a M d1 d2 := by rw [hd2]; exact permIn_refl _ _ _
        have hI2 : InS enc kk w blk off d.size w.heap.size (.func (.func g) #[] lb) (.func (.func sf) #[] sb) d2 w2 := by rw [hd2]; exact H1.out
        clear hd2 c0 c1
        have hz2 : d2.size = d.size := hI2.sz
        have c0 := hI2.c0
        have c1 := hI2.c1
        have Y4 := Lib.hid (sorted_other X4.out p2 (Or.inr (Nat.le_refl _)))
        have Y5 := Lib.hid (sorted_other X5.out p2 (Or.inr z6))
        have H2 := Lib.hid hI2
        have S2 := Lib.hid s2
        have P2 := Lib.hid p2
        clear hI2 s2 p2 X2 X3 X4 X5
        have s3 : SortedIn lt M b d2 := by have := Y4.out; rwa [show en = b by omega] at this
        have R := Lib.hid (halves_done (by omega) (by omega) hb1 X1.out P2.out S2.out (permIn_refl d2 M b) s3)
        clear c0 c1 s3
        go_wp2
        go_end0
        exact H2.out.post ⟨permIn_trans _ _ _ _ _ P1.out R.out.2, R.out.1⟩
      · exfalso; omega
      · exfalso; omega
      · have i1 : (s : Int) < (m : Int) := by omega
        have i2 : ¬ (m : Int) < (en : Int) := by omega
        have i3 : (a : Int) < (s : Int) := by omega
        have i4 : ¬ (s : Int) < (M : Int) := by omega
        have i5 : (M : Int) < (en : Int) := by omega
        have i6 : (en : Int) < (b : Int) := by omega
        obtain ⟨w1, rfl⟩ : ∃ w1, w1 = wr := ⟨_, rfl⟩
        obtain ⟨d1, hd1⟩ : ∃ d1, d1 = d := ⟨_, rfl⟩
        have rot1 : Rot d s m en d1 := by rw [hd1]; exact (by rw [show en = m by omega]; exact rot_refl_r d s m z2)
        have P1 : Hid (PermIn a b d d1) := Lib.hid (by rw [hd1]; exact permIn_refl _ _ _)
        have hI1 : InS enc kk w blk off d.size w.heap.size (.func (.func g) #[] lb) (.func (.func sf) #[] sb) d1 w1 := by rw [hd1]; exact HIS.out
        clear hd1 c0 c1
        obtain ⟨X1, X2, X3, X4, X5⟩ := FIN.out d1 rot1
        have hz1 : d1.size = d.size := hI1.sz
        have c0 := hI1.c0
        have c1 := hI1.c1
        have H1 := Lib.hid hI1
        have X1 := Lib.hid X1
        have X2 := Lib.hid X2
        have X3 := Lib.hid X3
        have X4 := Lib.hid X4
        have X5 := Lib.hid X5
        have hb1 : b ≤ d1.size := by omega
        clear rot1 hI1 FIN
        obtain ⟨w2, rfl⟩ : ∃ w2, w2 = w1 := ⟨_, rfl⟩
        obtain ⟨d2, hd2⟩ : ∃ d2, d2 = d1 := ⟨_, rfl⟩
        have s2 : SortedIn lt a M d2 := by rw [hd2]; have := X2.out; rwa [show s = M by omega] at this
        have p2 : PermIn a M d1 d2 := by rw [hd2]; exact permIn_refl _ _ _
        have hI2 : InS enc kk w blk off d.size w.heap.size (.func (.func g) #[] lb) (.func (.func sf) #[] sb) d2 w2 := by rw [hd2]; exact H1.out
        clear hd2 c0 c1
        have hz2 : d2.size = d.size := hI2.sz
        have c0 := hI2.c0
        have c1 := hI2.c1
        have Y4 := Lib.hid (sorted_other X4.out p2 (Or.inr (Nat.le_refl _)))
        have Y5 := Lib.hid (sorted_other X5.out p2 (Or.inr z6))
        have H2 := Lib.hid hI2
        have S2 := Lib.hid s2
        have P2 := Lib.hid p2
        clear hI2 s2 p2 X2 X3 X4 X5
        have rc := IH.out M en b d2 w2 (by omega) (H2.out.lessReads HLESS.out) (by rw [hz2]; exact HSWP.out) H2.out.holds H2.out.hlt (by omega) (by omega) (by omega) (by omega) Y4.out Y5.out
        go_wp2_with fail
        refine rc.mono ?_
        rintro e w3 ⟨rfl, n3, os3, d3, ⟨p3, s3⟩, hw3⟩
        have hI3 : InS enc kk w blk off d.size w.heap.size (.func (.func g) #[] lb) (.func (.func sf) #[] sb) d3 w3 := by rw [hw3]; exact H2.out.on p3.1
        have R := Lib.hid (halves_done (by omega) (by omega) hb1 X1.out P2.out S2.out p3 s3)
        have H3 := Lib.hid hI3
        clear hw3 rc c0 c1 H2 hI3 p3 s3
        go_wp2
        go_end0
        exact H3.out.post ⟨permIn_trans _ _ _ _ _ P1.out R.out.2, R.out.1⟩
end
end Go.Proofs.YtbnbjiddffihoaaDoor

/- Walks over the library's stable sort: symMerge, its general case where the middle of the row lies not before the second part. -/
namespace Go.Proofs.YtbnbjiddffihoaaDoor
open Go.RowKit Go.Sort Go.Lib

section
variable {α : Type} [Inhabited α] {enc : α → List Value} {kk : Nat} {lt : α → α → Bool}
variable (hk : ∀ x, (enc x).length = kk) (hS : SWO lt) (g : Nat) (lb : Array Value) (sf : Nat) (sb : Array Value)
set_option maxHeartbeats 8000000 in
set_option maxRecDepth 100000 in
include hk hS in
theorem sym_le (eg : ∀ args w, (callFunc g args).run Tryd.prog w = .ok (.enter g args) w) (blk off N a m b : Nat) (d : Array α) (w : World) (hN : b - a ≤ N + 1) (hih : ∀ (a m b : Nat) (d : Array α) (w : World), b - a ≤ N →
    LessG Tryd.prog g lb enc kk lt blk off d.size w → SwapSwapsK Tryd.prog sf sb enc kk blk off d.size → HoldsK enc kk w blk off d → blk < w.heap.size → a < m → m < b → b ≤ d.size → d.size < 4611686018427387904 →
    SortedIn lt a m d → SortedIn lt m b d →
    Calls Tryd.prog 149 #[dta g lb sf sb, .int .i64 a, .int .i64 m, .int .i64 b] w (SrtPost enc kk w blk off fun d' => PermIn a b d d' ∧ SortedIn lt a b d'))
    (hless : LessG Tryd.prog g lb enc kk lt blk off d.size w) (hswap : SwapSwapsK Tryd.prog sf sb enc kk blk off d.size) (hH : HoldsK enc kk w blk off d) (hblk : blk < w.heap.size) (ham : a + 1 < m) (hmb : m + 1 < b) (hb : b ≤ d.size) (hsz : d.size < 4611686018427387904)
    (hl : SortedIn lt a m d) (hr : SortedIn lt m b d) (hgt : m ≤ (a + b) / 2) :
    Calls Tryd.prog 149 #[dta g lb sf sb, .int .i64 a, .int .i64 m, .int .i64 b] w (SrtPost enc kk w blk off fun d' => PermIn a b d d' ∧ SortedIn lt a b d') := by
  have IH := Lib.hid hih
  have H0 := Lib.hid (InS.start (g := g) (lb := lb) (sf := sf) (sb := sb) hH hblk)
  have HLESS := Lib.hid hless
  have HSWP := Lib.hid hswap
  have HL := Lib.hid hl
  have HR := Lib.hid hr
  have t1 : ((m : Int) - (a : Int) == 1) = false := by rw [beq_eq_false_iff_ne]; omega
  have t2 : ((b : Int) - (m : Int) == 1) = false := by rw [beq_eq_false_iff_ne]; omega
  obtain ⟨M, hM⟩ : ∃ M : Nat, M = (a + b) / 2 := ⟨_, rfl⟩
  have HM := Lib.hid hM
  have hME : ((a : Int) + (b : Int)) / 2 = (M : Int) := by omega
  have hM1 : 2 * M ≤ a + b := by omega
  have hM2 : a + b ≤ 2 * M + 1 := by omega
  have hbs : b < 4611686018427387904 := by omega
  have hgt2 : m ≤ M := by omega
  have hgtI : ¬ (M : Int) < (m : Int) := by omega
  clear hless hswap hH hl hr hM hih hgt
  have FIN : Hid (∀ s s0 r0, ((m > M ∧ s0 = M + m - b ∧ r0 = M) ∨ (m ≤ M ∧ s0 = a ∧ r0 = m)) → s0 ≤ s → s ≤ r0 → (s = s0 ∨ lt d[M + m - 1 - (s - 1)]! d[s - 1]! = false) → (s = r0 ∨ lt d[M + m - 1 - s]! d[s]! = true) → ∀ r, Rot d s m (M + m - s) r →
    Cross lt a M b r ∧ SortedIn lt a s r ∧ SortedIn lt s M r ∧ SortedIn lt M (M + m - s) r ∧ SortedIn lt (M + m - s) b r) := Lib.hid (fun s s0 r0 h0 h1 h2 h3 h4 r h => by
    have hM := HM.out
    subst hM
    exact sym_cross hS (by omega) (by omega) HL.out HR.out h0 h1 h2 h3 h4 h)
  obtain ⟨s0, hs0⟩ : ∃ s0 : Nat, s0 = a := ⟨_, rfl⟩
  obtain ⟨r0, hr0⟩ : ∃ r0 : Nat, r0 = m := ⟨_, rfl⟩
  have h00 : (m > M ∧ s0 = M + m - b ∧ r0 = M) ∨ (m ≤ M ∧ s0 = a ∧ r0 = m) := by omega
  have hsr : s0 ≤ r0 ∧ r0 ≤ M ∧ r0 ≤ m ∧ a ≤ s0 ∧ M + m ≤ s0 + b := by omega
  obtain ⟨q1, q2, q3, q4, q5⟩ := hsr
  have HFIN := Lib.hid (fun s => FIN.out s s0 r0 h00)
  have E1 : Hid (Value.int .i64 ((a : Int)) = .int .i64 (s0 : Int)) := Lib.hid (by rw [hs0])
  have E2 : Hid (Value.int .i64 (m : Int) = .int .i64 (r0 : Int)) := Lib.hid (by rw [hr0])
  clear FIN h00 hs0 hr0
  go_enter Tryd.func149, Tryd.ntmps149
  go_wp2
  go_loopw [18, 19] (fun vs vr wr => ∃ (s r : Nat), vs = .int .i64 s ∧ vr = .int .i64 r ∧ s0 ≤ s ∧ s ≤ r ∧ r ≤ r0 ∧ (s = s0 ∨ lt d[M + m - 1 - (s - 1)]! d[s - 1]! = false) ∧ (r = r0 ∨ lt d[M + m - 1 - r]! d[r]! = true) ∧ InS enc kk w blk off d.size w.heap.size (.func (.func g) #[] lb) (.func (.func sf) #[] sb) d wr) (fun vs vr _ => (intOf vr).toNat - (intOf vs).toNat)
  case atStart => exact ⟨s0, r0, E1.out, E2.out, Nat.le_refl _, q1, Nat.le_refl _, .inl rfl, .inl rfl, H0.out⟩
  case round =>
    clear E1 E2
    obtain ⟨s, r, rfl, rfl, hs, hsr, hr, hP, hQ, hI⟩ := hrel
    have HP := Lib.hid hP
    have HQ := Lib.hid hQ
    have HIS := Lib.hid hI
    have c0 := hI.c0
    have c1 := hI.c1
    clear hP hQ
    by_cases hlt : s < r
    · have hlti : (s : Int) < (r : Int) := by omega
      cases hlv : lt d[M + m - 1 - (s + r) / 2]! d[(s + r) / 2]! with
      | false =>
        have HLV := Lib.hid hlv
        have hl := hI.less HLESS.out (i := M + m - 1 - (s + r) / 2) (j := (s + r) / 2) (by omega) (by omega) false hlv
        rw [show (((M + m - 1 - (s + r) / 2 : Nat) : Int)) = (M : Int) + (m : Int) - 1 - ((s : Int) + (r : Int)) / 2 by omega, show ((((s + r) / 2 : Nat) : Int)) = ((s : Int) + (r : Int)) / 2 by omega] at hl
        clear hI hlv
        go_wp2_with (go_at_fn g; refine hl.mono ?_; rintro e w1 ⟨rfl, hI1⟩)
        go_roundw
        case rel => exact ⟨(s + r) / 2 + 1, r, by rw [show ((s : Int) + (r : Int)) / 2 + 1 = (((s + r) / 2 + 1 : Nat) : Int) by omega], rfl, by omega, by omega, hr, .inr (by rw [Nat.add_sub_cancel]; exact HLV.out), HQ.out, hI1⟩
        case measure => simp [intOf]; omega
      | true =>
        have HLV := Lib.hid hlv
        have hl := hI.less HLESS.out (i := M + m - 1 - (s + r) / 2) (j := (s + r) / 2) (by omega) (by omega) true hlv
        rw [show (((M + m - 1 - (s + r) / 2 : Nat) : Int)) = (M : Int) + (m : Int) - 1 - ((s : Int) + (r : Int)) / 2 by omega, show ((((s + r) / 2 : Nat) : Int)) = ((s : Int) + (r : Int)) / 2 by omega] at hl
        clear hI hlv
        go_wp2_with (go_at_fn g; refine hl.mono ?_; rintro e w1 ⟨rfl, hI1⟩)
        go_roundw
        case rel => exact ⟨s, (s + r) / 2, rfl, by rw [show ((s : Int) + (r : Int)) / 2 = (((s + r) / 2 : Nat) : Int) by omega], hs, by omega, by omega, HP.out, .inr HLV.out, hI1⟩
        case measure => simp [intOf]; omega
    · have hge : ¬ (s : Int) < (r : Int) := by omega
      obtain ⟨en, hen⟩ : ∃ en : Nat, en = M + m - s := ⟨_, rfl⟩
      have hEE : (M : Int) + (m : Int) - (s : Int) = (en : Int) := by omega
      have hES : s + en = M + m := by omega
      have z1 : s ≤ M := by omega
      have z2 : s ≤ m := by omega
      have z3 : m ≤ en := by omega
      have z4 : en ≤ b := by omega
      have z5 : a ≤ s := by omega
      have z6 : M ≤ en := by omega
      have FIN : Hid (∀ x, Rot d s m en x → Cross lt a M b x ∧ SortedIn lt a s x ∧ SortedIn lt s M x ∧ SortedIn lt M en x ∧ SortedIn lt en b x) := Lib.hid (by
        rw [hen]
        exact HFIN.out s hs (by omega) HP.out (by have := HQ.out; rwa [show r = s by omega] at this))
      have hM3 : a < M := by omega
      have hM4 : M < b := by omega
      clear hI hen HP HQ hr hsr
      have hc : (s < m ∧ m < en ∧ a < s ∧ en < b) ∨ (s < m ∧ m < en ∧ a < s ∧ ¬ en < b) ∨ (s < m ∧ m < en ∧ ¬ a < s ∧ en < b) ∨ (s < m ∧ m < en ∧ ¬ a < s ∧ ¬ en < b) ∨ (¬ s < m ∧ s < M) ∨ (¬ s < m ∧ ¬ s < M) ∨ (s < m ∧ ¬ m < en) := by omega
      rcases hc with ⟨v1, v2, v3, v4⟩ | ⟨v1, v2, v3, v4⟩ | ⟨v1, v2, v3, v4⟩ | ⟨v1, v2, v3, v4⟩ | ⟨v1, v2⟩ | ⟨v1, v2⟩ | ⟨v1, v2⟩
      · have i1 : (s : Int) < (m : Int) := by omega
        have i2 : (m : Int) < (en : Int) := by omega
        have i3 : (a : Int) < (s : Int) := by omega
        have i4 : (s : Int) < (M : Int) := by omega
        have i5 : (M : Int) < (en : Int) := by omega
        have i6 : (en : Int) < (b : Int) := by omega
        have rc := rotate_s hk g lb sf sb blk off s m en d wr HSWP.out HIS.out.holds HIS.out.hlt (by omega) (by omega) (by omega) hsz
        go_wp2_with fail
        refine rc.mono ?_
        rintro e w1 ⟨rfl, n1, os1, d1, ⟨rot1, p1⟩, hw1⟩
        have hI1 : InS enc kk w blk off d.size w.heap.size (.func (.func g) #[] lb) (.func (.func sf) #[] sb) d1 w1 := by rw [hw1]; exact HIS.out.on p1.1
        have P1 : Hid (PermIn a b d d1) := Lib.hid (permIn_mono _ _ _ _ _ _ (by omega) (by omega) hb p1)
        clear hw1 rc c0 c1 p1
        obtain ⟨X1, X2, X3, X4, X5⟩ := FIN.out d1 rot1
        have hz1 : d1.size = d.size := hI1.sz
        have c0 := hI1.c0
        have c1 := hI1.c1
        have H1 := Lib.hid hI1
        have X1 := Lib.hid X1
        have X2 := Lib.hid X2
        have X3 := Lib.hid X3
        have X4 := Lib.hid X4
        have X5 := Lib.hid X5
        have hb1 : b ≤ d1.size := by omega
        clear rot1 hI1 FIN
        have rc := IH.out a s M d1 w1 (by omega) (H1.out.lessReads HLESS.out) (by rw [hz1]; exact HSWP.out) H1.out.holds H1.out.hlt (by omega) (by omega) (by omega) (by omega) X2.out X3.out
        go_wp2_with fail
        refine rc.mono ?_
        rintro e w2 ⟨rfl, n2, os2, d2, ⟨p2, s2⟩, hw2⟩
        have hI2 : InS enc kk w blk off d.size w.heap.size (.func (.func g) #[] lb) (.func (.func sf) #[] sb) d2 w2 := by rw [hw2]; exact H1.out.on p2.1
        clear hw2 rc c0 c1
        have hz2 : d2.size = d.size := hI2.sz
        have c0 := hI2.c0
        have c1 := hI2.c1
        have Y4 := Lib.hid (sorted_other X4.out p2 (Or.inr (Nat.le_refl _)))
        have Y5 := Lib.hid (sorted_other X5.out p2 (Or.inr z6))
        have H2 := Lib.hid hI2
        have S2 := Lib.hid s2
        have P2 := Lib.hid p2
        clear hI2 s2 p2 X2 X3 X4 X5
        have rc := IH.out M en b d2 w2 (by omega) (H2.out.lessReads HLESS.out) (by rw [hz2]; exact HSWP.out) H2.out.holds H2.out.hlt (by omega) (by omega) (by omega) (by omega) Y4.out Y5.out
        go_wp2_with fail
        refine rc.mono ?_
        rintro e w3 ⟨rfl, n3, os3, d3, ⟨p3, s3⟩, hw3⟩
        have hI3 : InS enc kk w blk off d.size w.heap.size (.func (.func g) #[] lb) (.func (.func sf) #[] sb) d3 w3 := by rw [hw3]; exact H2.out.on p3.1
        have R := Lib.hid (halves_done (by omega) (by omega) hb1 X1.out P2.out S2.out p3 s3)
        have H3 := Lib.hid hI3
        clear hw3 rc c0 c1 H2 hI3 p3 s3
        go_wp2
        go_end0
        exact H3.out.post ⟨permIn_trans _ _ _ _ _ P1.out R.out.2, R.out.1⟩
      · have i1 : (s : Int) < (m : Int) := by omega
        have i2 : (m : Int) < (en : Int) := by omega
        have i3 : (a : Int) < (s : Int) := by omega
        have i4 : (s : Int) < (M : Int) := by omega
        have i5 : (M : Int) < (en : Int) := by omega
        have i6 : ¬ (en : Int) < (b : Int) := by omega
        have rc := rotate_s hk g lb sf sb blk off s m en d wr HSWP.out HIS.out.holds HIS.out.hlt (by omega) (by omega) (by omega) hsz
        go_wp2_with fail
        refine rc.mono ?_
        rintro e w1 ⟨rfl, n1, os1, d1, ⟨rot1, p1⟩, hw1⟩
        have hI1 : InS enc kk w blk off d.size w.heap.size (.func (.func g) #[] lb) (.func (.func sf) #[] sb) d1 w1 := by rw [hw1]; exact HIS.out.on p1.1
        have P1 : Hid (PermIn a b d d1) := Lib.hid (permIn_mono _ _ _ _ _ _ (by omega) (by omega) hb p1)
        clear hw1 rc c0 c1 p1
        obtain ⟨X1, X2, X3, X4, X5⟩ := FIN.out d1 rot1
        have hz1 : d1.size = d.size := hI1.sz
        have c0 := hI1.c0
        have c1 := hI1.c1
        have H1 := Lib.hid hI1
        have X1 := Lib.hid X1
        have X2 := Lib.hid X2
        have X3 := Lib.hid X3
        have X4 := Lib.hid X4
        have X5 := Lib.hid X5
        have hb1 : b ≤ d1.size := by omega
        clear rot1 hI1 FIN
        have rc := IH.out a s M d1 w1 (by omega) (H1.out.lessReads HLESS.out) (by rw [hz1]; exact HSWP.out) H1.out.holds H1.out.hlt (by omega) (by omega) (by omega) (by omega) X2.out X3.out
        go_wp2_with fail
        refine rc.mono ?_
        rintro e w2 ⟨rfl, n2, os2, d2, ⟨p2, s2⟩, hw2⟩
        have hI2 : InS enc kk w blk off d.size w.heap.size (.func (.func g) #[] lb) (.func (.func sf) #[] sb) d2 w2 := by rw [hw2]; exact H1.out.on p2.1
        clear hw2 rc c0 c1
        have hz2 : d2.size = d.size := hI2.sz
        have c0 := hI2.c0
        have c1 := hI2.c1
        have Y4 := Lib.hid (sorted_other X4.out p2 (Or.inr (Nat.le_refl _)))
        have Y5 := Lib.hid (sorted_other X5.out p2 (Or.inr z6))
        have H2 := Lib.hid hI2
        have S2 := Lib.hid s2
        have P2 := Lib.hid p2
        clear hI2 s2 p2 X2 X3 X4 X5
        have s3 : SortedIn lt M b d2 := by have := Y4.out; rwa [show en = b by omega] at this
        have R := Lib.hid (halves_done (by omega) (by omega) hb1 X1.out P2.out S2.out (permIn_refl d2 M b) s3)
        clear c0 c1 s3
        go_wp2
        go_end0
        exact H2.out.post ⟨permIn_trans _ _ _ _ _ P1.out R.out.2, R.out.1⟩
      · have i1 : (s : Int) < (m : Int) := by omega
        have i2 : (m : Int) < (en : Int) := by omega
        have i3 : ¬ (a : Int) < (s : Int) := by omega
        have i5 : (M : Int) < (en : Int) := by omega
        have i6 : (en : Int) < (b : Int) := by omega
        have rc := rotate_s hk g lb sf sb blk off s m en d wr HSWP.out HIS.out.holds HIS.out.hlt (by omega) (by omega) (by omega) hsz
        go_wp2_with fail
        refine rc.mono ?_
        rintro e w1 ⟨rfl, n1, os1, d1, ⟨rot1, p1⟩, hw1⟩
        have hI1 : InS enc kk w blk off d.size w.heap.size (.func (.func g) #[] lb) (.func (.func sf) #[] sb) d1 w1 := by rw [hw1]; exact HIS.out.on p1.1
        have P1 : Hid (PermIn a b d d1) := Lib.hid (permIn_mono _ _ _ _ _ _ (by omega) (by omega) hb p1)
        clear hw1 rc c0 c1 p1
        obtain ⟨X1, X2, X3, X4, X5⟩ := FIN.out d1 rot1
        have hz1 : d1.size = d.size := hI1.sz
        have c0 := hI1.c0
        have c1 := hI1.c1
        have H1 := Lib.hid hI1
        have X1 := Lib.hid X1
        have X2 := Lib.hid X2
        have X3 := Lib.hid X3
        have X4 := Lib.hid X4
        have X5 := Lib.hid X5
        have hb1 : b ≤ d1.size := by omega
        clear rot1 hI1 FIN
        obtain ⟨w2, rfl⟩ : ∃ w2, w2 = w1 := ⟨_, rfl⟩
        obtain ⟨d2, hd2⟩ : ∃ d2, d2 = d1 := ⟨_, rfl⟩
        have s2 : SortedIn lt a M d2 := by rw [hd2]; have := X3.out; rwa [show s = a by omega] at this
        have p2 : PermIn a M d1 d2 := by rw [hd2]; exact permIn_refl _ _ _
        have hI2 : InS enc kk w blk off d.size w.heap.size (.func (.func g) #[] lb) (.func (.func sf) #[] sb) d2 w2 := by rw [hd2]; exact H1.out
        clear hd2 c0 c1
        have hz2 : d2.size = d.size := hI2.sz
        have c0 := hI2.c0
        have c1 := hI2.c1
        have Y4 := Lib.hid (sorted_other X4.out p2 (Or.inr (Nat.le_refl _)))
        have Y5 := Lib.hid (sorted_other X5.out p2 (Or.inr z6))
        have H2 := Lib.hid hI2
        have S2 := Lib.hid s2
        have P2 := Lib.hid p2
        clear hI2 s2 p2 X2 X3 X4 X5
        have rc := IH.out M en b d2 w2 (by omega) (H2.out.lessReads HLESS.out) (by rw [hz2]; exact HSWP.out) H2.out.holds H2.out.hlt (by omega) (by omega) (by omega) (by omega) Y4.out Y5.out
        go_wp2_with fail
        refine rc.mono ?_
        rintro e w3 ⟨rfl, n3, os3, d3, ⟨p3, s3⟩, hw3⟩
        have hI3 : InS enc kk w blk off d.size w.heap.size (.func (.func g) #[] lb) (.func (.func sf) #[] sb) d3 w3 := by rw [hw3]; exact H2.out.on p3.1
        have R := Lib.hid (halves_done (by omega) (by omega) hb1 X1.out P2.out S2.out p3 s3)
        have H3 := Lib.hid hI3
        clear hw3 rc c0 c1 H2 hI3 p3 s3
        go_wp2
        go_end0
        exact H3.out.post ⟨permIn_trans _ _ _ _ _ P1.out R.out.2, R.out.1⟩
      · have i1 : (s : Int) < (m : Int) := by omega
        have i2 : (m : Int) < (en : Int) := by omega
        have i3 : ¬ (a : Int) < (s : Int) := by omega
        have i5 : (M : Int) < (en : Int) := by omega
        have i6 : ¬ (en : Int) < (b : Int) := by omega
        have rc := rotate_s hk g lb sf sb blk off s m en d wr HSWP.out HIS.out.holds HIS.out.hlt (by omega) (by omega) (by omega) hsz
        go_wp2_with fail
        refine rc.mono ?_
        rintro e w1 ⟨rfl, n1, os1, d1, ⟨rot1, p1⟩, hw1⟩
        have hI1 : InS enc kk w blk off d.size w.heap.size (.func (.func g) #[] lb) (.func (.func sf) #[] sb) d1 w1 := by rw [hw1]; exact HIS.out.on p1.1
        have P1 : Hid (PermIn a b d d1) := Lib.hid (permIn_mono _ _ _ _ _ _ (by omega) (by omega) hb p1)
        clear hw1 rc c0 c1 p1
        obtain ⟨X1, X2, X3, X4, X5⟩ := FIN.out d1 rot1
        have hz1 : d1.size = d.size := hI1.sz
        have c0 := hI1.c0
        have c1 := hI1.c1
        have H1 := Lib.hid hI1
        have X1 := Lib.hid X1
        have X2 := Lib.hid X2
        have X3 := Lib.hid X3
        have X4 := Lib.hid X4
        have X5 := Lib.hid X5
        have hb1 : b ≤ d1.size := by omega
        clear rot1 hI1 FIN
        obtain ⟨w2, rfl⟩ : ∃ w2, w2 = w1 := ⟨_, rfl⟩
        obtain ⟨d2, hd2⟩ : ∃ d2, d2 = d1 := ⟨_, rfl⟩
        have s2 : SortedIn lt a M d2 := by rw [hd2]; have := X3.out; rwa [show s = a by omega] at this
        have p2 : PermIn a M d1 d2 := by rw [hd2]; exact permIn_refl _ _ _
        have hI2 : InS enc kk w blk off d.size w.heap.size (.func (.func g) #[] lb) (.func (.func sf) #[] sb) d2 w2 := by rw [hd2]; exact H1.out
        clear hd2 c0 c1
        have hz2 : d2.size = d.size := hI2.sz
        have c0 := hI2.c0
        have c1 := hI2.c1
        have Y4 := Lib.hid (sorted_other X4.out p2 (Or.inr (Nat.le_refl _)))
        have Y5 := Lib.hid (sorted_other X5.out p2 (Or.inr z6))
        have H2 := Lib.hid hI2
        have S2 := Lib.hid s2
        have P2 := Lib.hid p2
        clear hI2 s2 p2 X2 X3 X4 X5
        have s3 : SortedIn lt M b d2 := by have := Y4.out; rwa [show en = b by omega] at this
        have R := Lib.hid (halves_done (by omega) (by omega) hb1 X1.out P2.out S2.out (permIn_refl d2 M b) s3)
        clear c0 c1 s3
        go_wp2
        go_end0
        exact H2.out.post ⟨permIn_trans _ _ _ _ _ P1.out R.out.2, R.out.1⟩
      · have i1 : ¬ (s : Int) < (m : Int) := by omega
        have i3 : (a : Int) < (s : Int) := by omega
        have i4 : (s : Int) < (M : Int) := by omega
        have i5 : ¬ (M : Int) < (en : Int) := by omega
        obtain ⟨w1, rfl⟩ : ∃ w1, w1 = wr := ⟨_, rfl⟩
        obtain ⟨d1, hd1⟩ : ∃ d1, d1 = d := ⟨_, rfl⟩
        have rot1 : Rot d s m en d1 := by rw [hd1]; exact (by rw [show s = m by omega]; exact rot_refl_l d m en z3)
        have P1 : Hid (PermIn a b d d1) := Lib.hid (by rw [hd1]; exact permIn_refl _ _ _)
        have hI1 : InS enc kk w blk off d.size w.heap.size (.func (.func g) #[] lb) (.func (.func sf) #[] sb) d1 w1 := by rw [hd1]; exact HIS.out
        clear hd1 c0 c1
        obtain ⟨X1, X2, X3, X4, X5⟩ := FIN.out d1 rot1
        have hz1 : d1.size = d.size := hI1.sz
        have c0 := hI1.c0
        have c1 := hI1.c1
        have H1 := Lib.hid hI1
        have X1 := Lib.hid X1
        have X2 := Lib.hid X2
        have X3 := Lib.hid X3
        have X4 := Lib.hid X4
        have X5 := Lib.hid X5
        have hb1 : b ≤ d1.size := by omega
        clear rot1 hI1 FIN
        have rc := IH.out a s M d1 w1 (by omega) (H1.out.lessReads HLESS.out) (by rw [hz1]; exact HSWP.out) H1.out.holds H1.out.hlt (by omega) (by omega) (by omega) (by omega) X2.out X3.out
        go_wp2_with fail
        refine rc.mono ?_
        rintro e w2 ⟨rfl, n2, os2, d2, ⟨p2, s2⟩, hw2⟩
        have hI2 : InS enc kk w blk off d.size w.heap.size (.func (.func g) #[] lb) (.func (.func sf) #[] sb) d2 w2 := by rw [hw2]; exact H1.out.on p2.1
        clear hw2 rc c0 c1
        have hz2 : d2.size = d.size := hI2.sz
        have c0 := hI2.c0
        have c1 := hI2.c1
        have Y4 := Lib.hid (sorted_other X4.out p2 (Or.inr (Nat.le_refl _)))
        have Y5 := Lib.hid (sorted_other X5.out p2 (Or.inr z6))
        have H2 := Lib.hid hI2
        have S2 := Lib.hid s2
        have P2 := Lib.hid p2
        clear hI2 s2 p2 X2 X3 X4 X5
        have s3 : SortedIn lt M b d2 := by have := Y5.out; rwa [show en = M by omega] at this
        have R := Lib.hid (halves_done (by omega) (by omega) hb1 X1.out P2.out S2.out (permIn_refl d2 M b) s3)
        clear c0 c1 s3
        go_wp2
        go_end0
        exact H2.out.post ⟨permIn_trans _ _ _ _ _ P1.out R.out.2, R.out.1⟩
      · have i1 : ¬ (s : Int) < (m : Int) := by omega
        have i3 : (a : Int) < (s : Int) := by omega
        have i4 : ¬ (s : Int) < (M : Int) := by omega
        have i5 : ¬ (M : Int) < (en : Int) := by omega
        obtain ⟨w1, rfl⟩ : ∃ w1, w1 = wr := ⟨_, rfl⟩
        obtain ⟨d1, hd1⟩ : ∃ d1, d1 = d := ⟨_, rfl⟩
        have rot1 : Rot d s m en d1 := by rw [hd1]; exact (by rw [show s = m by omega]; exact rot_refl_l d m en z3)
        have P1 : Hid (PermIn a b d d1) := Lib.hid (by rw [hd1]; exact permIn_refl _ _ _)
        have hI1 : InS enc kk w blk off d.size w.heap.size (.func (.func g) #[] lb) (.func (.func sf) #[] sb) d1 w1 := by rw [hd1]; exact HIS.out
        clear hd1 c0 c1
        obtain ⟨X1, X2, X3, X4, X5⟩ := FIN.out d1 rot1
        have hz1 : d1.size = d.size := hI1.sz
        have c0 := hI1.c0
        have c1 := hI1.c1
        have H1 := Lib.hid hI1
        have X1 := Lib.hid X1
        have X2 := Lib.hid X2
        have X3 := Lib.hid X3
        have X4 := Lib.hid X4
        have X5 := Lib.hid X5
        have hb1 : b ≤ d1.size := by omega
        clear rot1 hI1 FIN
        obtain ⟨w2, rfl⟩ : ∃ w2, w2 = w1 := ⟨_, rfl⟩
        obtain ⟨d2, hd2⟩ : ∃ d2, d2 = d1 := ⟨_, rfl⟩
        have s2 : SortedIn lt a M d2 := by rw [hd2]; have := X2.out; rwa [show s = M by omega] at this
        have p2 : PermIn a M d1 d2 := by rw [hd2]; exact permIn_refl _ _ _
        have hI2 : InS enc kk w blk off d.size w.heap.size (.func (.func g) #[] lb) (.func (.func sf) #[] sb) d2 w2 := by rw [hd2]; exact H1.out
        clear hd2 c0 c1
        have hz2 : d2.size = d.size := hI2.sz
        have c0 := hI2.c0
        have c1 := hI2.c1
        have Y4 := Lib.hid (sorted_other X4.out p2 (Or.inr (Nat.le_refl _)))
        have Y5 := Lib.hid (sorted_other X5.out p2 (Or.inr z6))
        have H2 := Lib.hid hI2
        have S2 := Lib.hid s2
        have P2 := Lib.hid p2
        clear hI2 s2 p2 X2 X3 X4 X5
        have s3 : SortedIn lt M b d2 := by have := Y5.out; rwa [show en = M by omega] at this
        have R := Lib.hid (halves_done (by omega) (by omega) hb1 X1.out P2.out S2.out (permIn_refl d2 M b) s3)
        clear c0 c1 s3
        go_wp2
        go_end0
        exact H2.out.post ⟨permIn_trans _ _ _ _ _ P1.out R.out.2, R.out.1⟩
      · have i1 : (s : Int) < (m : Int) := by omega
        have i2 : ¬ (m : Int) < (en : Int) := by omega
        have i3 : (a : Int) < (s : Int) := by omega
        have i4 : ¬ (s : Int) < (M : Int) := by omega
        have i5 : (M : Int) < (en : Int) := by omega
        have i6 : (en : Int) < (b : Int) := by omega
        obtain ⟨w1, rfl⟩ : ∃ w1, w1 = wr := ⟨_, rfl⟩
        obtain ⟨d1, hd1⟩ : ∃ d1, d1 = d := ⟨_, rfl⟩
        have rot1 : Rot d s m en d1 := by rw [hd1]; exact (by rw [show en = m by omega]; exact rot_refl_r d s m z2)
        have P1 : Hid (PermIn a b d d1) := Lib.hid (by rw [hd1]; exact permIn_refl _ _ _)
        have hI1 : InS enc kk w blk off d.size w.heap.size (.func (.func g) #[] lb) (.func (.func sf) #[] sb) d1 w1 := by rw [hd1]; exact HIS.out
        clear hd1 c0 c1
        obtain ⟨X1, X2, X3, X4, X5⟩ := FIN.out d1 rot1
        have hz1 : d1.size = d.size := hI1.sz
        have c0 := hI1.c0
        have c1 := hI1.c1
        have H1 := Lib.hid hI1
        have X1 := Lib.hid X1
        have X2 := Lib.hid X2
        have X3 := Lib.hid X3
        have X4 := Lib.hid X4
        have X5 := Lib.hid X5
        have hb1 : b ≤ d1.size := by omega
        clear rot1 hI1 FIN
        obtain ⟨w2, rfl⟩ : ∃ w2, w2 = w1 := ⟨_, rfl⟩
        obtain ⟨d2, hd2⟩ : ∃ d2, d2 = d1 := ⟨_, rfl⟩
        have s2 : SortedIn lt a M d2 := by rw [hd2]; have := X2.out; rwa [show s = M by omega] at this
        have p2 : PermIn a M d1 d2 := by rw [hd2]; exact permIn_refl _ _ _
        have hI2 : InS enc kk w blk off d.size w.heap.size (.func (.func g) #[] lb) (.func (.func sf) #[] sb) d2 w2 := by rw [hd2]; exact H1.out
        clear hd2 c0 c1
        have hz2 : d2.size = d.size := hI2.sz
        have c0 := hI2.c0
        have c1 := hI2.c1
        have Y4 := Lib.hid (sorted_other X4.out p2 (Or.inr (Nat.le_refl _)))
        have Y5 := Lib.hid (sorted_other X5.out p2 (Or.inr z6))
        have H2 := Lib.hid hI2
        have S2 := Lib.hid s2
        have P2 := Lib.hid p2
        clear hI2 s2 p2 X2 X3 X4 X5
        have rc := IH.out M en b d2 w2 (by omega) (H2.out.lessReads HLESS.out) (by rw [hz2]; exact HSWP.out) H2.out.holds H2.out.hlt (by omega) (by omega) (by omega) (by omega) Y4.out Y5.out
        go_wp2_with fail
        refine rc.mono ?_
        rintro e w3 ⟨rfl, n3, os3, d3, ⟨p3, s3⟩, hw3⟩
        have hI3 : InS enc kk w blk off d.size w.heap.size (.func (.func g) #[] lb) (.func (.func sf) #[] sb) d3 w3 := by rw [hw3]; exact H2.out.on p3.1
        have R := Lib.hid (halves_done (by omega) (by omega) hb1 X1.out P2.out S2.out p3 s3)
        have H3 := Lib.hid hI3
        clear hw3 rc c0 c1 H2 hI3 p3 s3
        go_wp2
        go_end0
        exact H3.out.post ⟨permIn_trans _ _ _ _ _ P1.out R.out.2, R.out.1⟩
end
end Go.Proofs.YtbnbjiddffihoaaDoor

/- Walks over the library's stable sort: symMerge whole, and stable. -/
namespace Go.Proofs.YtbnbjiddffihoaaDoor
open Go.RowKit Go.Sort Go.Lib

section
variable {α : Type} [Inhabited α] {enc : α → List Value} {kk : Nat} {lt : α → α → Bool}
variable (hk : ∀ x, (enc x).length = kk) (hS : SWO lt) (g : Nat) (lb : Array Value) (sf : Nat) (sb : Array Value)

include hk hS in
theorem symmerge_s (eg : ∀ args w, (callFunc g args).run Tryd.prog w = .ok (.enter g args) w) (blk off : Nat) : ∀ (N a m b : Nat) (d : Array α) (w : World), b - a ≤ N →
    LessG Tryd.prog g lb enc kk lt blk off d.size w → SwapSwapsK Tryd.prog sf sb enc kk blk off d.size → HoldsK enc kk w blk off d → blk < w.heap.size → a < m → m < b → b ≤ d.size → d.size < 4611686018427387904 →
    SortedIn lt a m d → SortedIn lt m b d →
    Calls Tryd.prog 149 #[dta g lb sf sb, .int .i64 a, .int .i64 m, .int .i64 b] w (SrtPost enc kk w blk off fun d' => PermIn a b d d' ∧ SortedIn lt a b d')
  | 0, a, m, b, d, w, hN, hless, hswap, hH, hblk, ham, hmb, hb, hsz, hl, hr => by omega
  | N + 1, a, m, b, d, w, hN, hless, hswap, hH, hblk, ham, hmb, hb, hsz, hl, hr => by
    by_cases c1 : m = a + 1
    · exact sym_left hk hS g lb sf sb eg blk off a m b d w hless hswap hH hblk c1 hmb hb hsz hr
    by_cases c2 : b = m + 1
    · exact sym_right hk hS g lb sf sb eg blk off a m b d w hless hswap hH hblk (by omega) c2 hb hsz hl
    by_cases c3 : m > (a + b) / 2
    · exact sym_gt hk hS g lb sf sb eg blk off N a m b d w hN (symmerge_s eg blk off N) hless hswap hH hblk (by omega) (by omega) hb hsz hl hr c3
    · exact sym_le hk hS g lb sf sb eg blk off N a m b d w hN (symmerge_s eg blk off N) hless hswap hH hblk (by omega) (by omega) hb hsz hl hr (by omega)

theorem mul_lt_step {p q C : Nat} (h : p < q) : p * C + C ≤ q * C := by
  have : (p + 1) * C ≤ q * C := Nat.mul_le_mul_right _ h
  rwa [Nat.succ_mul] at this
/-- the first q pairs of blocks are merged, the blocks behind them sorted -/
def HalfS (lt : α → α → Bool) (B n q : Nat) (d : Array α) : Prop := (∀ p, p < q → SortedIn lt (p * (2 * B)) (p * (2 * B) + 2 * B) d) ∧ ∀ p, 2 * q ≤ p → p * B ≤ n → SortedIn lt (p * B) (min (p * B + B) n) d
theorem half_two {B q A : Nat} (hA : A = q * (2 * B)) : (2 * q) * B = A ∧ (2 * q + 1) * B = A + B := by
  have h : (2 * q) * B = A := by rw [hA, Nat.mul_comm 2 q, Nat.mul_assoc]
  exact ⟨h, by rw [Nat.succ_mul, h]⟩
theorem half_first {B n q A : Nat} {d : Array α} (h : HalfS lt B n q d) (hA : A = q * (2 * B)) (hn : A + B ≤ n) : SortedIn lt A (A + B) d := by
  obtain ⟨e1, e2⟩ := half_two hA
  have := h.2 (2 * q) (Nat.le_refl _) (by omega)
  rwa [e1, Nat.min_eq_left hn] at this
theorem half_second {B n q A e : Nat} {d : Array α} (h : HalfS lt B n q d) (hA : A = q * (2 * B)) (hn : A + B ≤ n) (he : e = min (A + B + B) n) : SortedIn lt (A + B) e d := by
  obtain ⟨e1, e2⟩ := half_two hA
  have := h.2 (2 * q + 1) (by omega) (by omega)
  rwa [e2, ← he] at this
theorem half_step {B n q A : Nat} {d d' : Array α} (h : HalfS lt B n q d) (hA : A = q * (2 * B)) (hp : PermIn A (A + 2 * B) d d') (hs : SortedIn lt A (A + 2 * B) d') : HalfS lt B n (q + 1) d' := by
  obtain ⟨e1, e2⟩ := half_two hA
  refine ⟨fun p hpq => ?_, fun p hpq hpn => ?_⟩
  · rcases Nat.lt_or_ge p q with hlt | hge
    · exact sorted_other (h.1 p hlt) hp (Or.inl (by rw [hA]; exact mul_lt_step hlt))
    · obtain rfl : p = q := by omega
      rw [← hA]; exact hs
  · refine sorted_other (h.2 p (by omega) hpn) hp (Or.inr ?_)
    have : (2 * q + 2) * B ≤ p * B := Nat.mul_le_mul_right _ (by omega)
    rw [show 2 * q + 2 = 2 * q + 1 + 1 by omega, Nat.succ_mul, e2] at this
    omega
theorem half_done {B n q A : Nat} {d d' : Array α} (h : HalfS lt B n q d) (hA : A = q * (2 * B)) (hAn : A ≤ n) (hb : n < A + 2 * B) (hp : PermIn A n d d') (hs : SortedIn lt A n d') : ∀ p, p * (B * 2) ≤ n → SortedIn lt (p * (B * 2)) (min (p * (B * 2) + B * 2) n) d' := by
  intro p hpn
  rw [Nat.mul_comm B 2] at *
  rcases Nat.lt_trichotomy p q with hlt | rfl | hlt
  · have := mul_lt_step (C := 2 * B) hlt
    rw [Nat.min_eq_left (by omega)]
    exact sorted_other (h.1 p hlt) hp (Or.inl (by omega))
  · rw [← hA, Nat.min_eq_right (by omega)]; exact hs
  · have := mul_lt_step (C := 2 * B) hlt
    omega
/-- every block of B elements from 0 on is sorted, and so is what is left -/
def BlkS (lt : α → α → Bool) (B n : Nat) (d : Array α) : Prop := ∀ q, q * B ≤ n → SortedIn lt (q * B) (min (q * B + B) n) d

set_option maxHeartbeats 8000000 in
set_option maxRecDepth 100000 in
include hk hS in
theorem stable_s (eg : ∀ args w, (callFunc g args).run Tryd.prog w = .ok (.enter g args) w) (blk off n : Nat) (d : Array α) (w : World) (hn : d.size = n)
    (hless : LessG Tryd.prog g lb enc kk lt blk off d.size w) (hswap : SwapSwapsK Tryd.prog sf sb enc kk blk off d.size) (hH : HoldsK enc kk w blk off d) (hblk : blk < w.heap.size) (hsz : n < 1152921504606846976) :
    Calls Tryd.prog 129 #[dta g lb sf sb, .int .i64 n] w (SrtPost enc kk w blk off fun d' => PermIn 0 n d d' ∧ SortedIn lt 0 n d') := by
  have H0 := Lib.hid (InS.start (g := g) (lb := lb) (sf := sf) (sb := sb) hH hblk)
  have HLESS := Lib.hid hless
  have HSWP := Lib.hid hswap
  have HN := Lib.hid hn
  have hdn : d.size ≤ n := by omega
  have hdn2 : n ≤ d.size := by omega
  clear hless hswap hH hn
  go_enter Tryd.func129, Tryd.ntmps129
  go_wp2
  go_loopw [5, 6] (fun va vb wr => ∃ (q : Nat) (dk : Array α), va = .int .i64 ((q * 20 : Nat) : Int) ∧ vb = .int .i64 ((q * 20 + 20 : Nat) : Int) ∧ q * 20 ≤ n ∧ InS enc kk w blk off d.size w.heap.size (.func (.func g) #[] lb) (.func (.func sf) #[] sb) dk wr ∧ PermIn 0 n d dk ∧ (∀ p, p < q → SortedIn lt (p * 20) (p * 20 + 20) dk)) (fun va _ _ => n - (intOf va).toNat)
  case atStart => exact ⟨0, d, by simp, by simp, by omega, H0.out, permIn_refl _ _ _, by intro p hp; omega⟩
  case round =>
    obtain ⟨q, dk, rfl, rfl, hq, hI, hpm, hso⟩ := hrel
    have HI := Lib.hid hI
    have HPM := Lib.hid hpm
    have HSO := Lib.hid hso
    have c0 := hI.c0
    have c1 := hI.c1
    have hsk := hI.sz
    clear hI hpm hso
    obtain ⟨a, ha⟩ : ∃ a, a = q * 20 := ⟨_, rfl⟩
    rw [← ha]
    rw [← ha] at hq
    have HA := Lib.hid ha
    clear ha
    by_cases hlt : a + 20 ≤ n
    · have rc := insertion_s hk hS g lb sf sb eg blk off a (a + 20) dk wr (HI.out.lessReads HLESS.out) (by rw [hsk]; exact HSWP.out) HI.out.holds HI.out.hlt (by omega) (by omega) (by omega)
      have hle : ((a + 20 : Nat) : Int) ≤ (n : Int) := by omega
      go_wp2_with fail
      refine rc.mono ?_
      rintro e w1 ⟨rfl, n1, os1, d1, ⟨p1, s1⟩, hw1⟩
      have hI1 : InS enc kk w blk off d.size w.heap.size (.func (.func g) #[] lb) (.func (.func sf) #[] sb) d1 w1 := by rw [hw1]; exact HI.out.on p1.1
      have REL : Hid (∃ (q : Nat) (dk : Array α), Value.int .i64 ((a + 20 : Nat) : Int) = .int .i64 ((q * 20 : Nat) : Int) ∧ Value.int .i64 (((a + 20 : Nat) : Int) + 20) = .int .i64 ((q * 20 + 20 : Nat) : Int) ∧ q * 20 ≤ n ∧ InS enc kk w blk off d.size w.heap.size (.func (.func g) #[] lb) (.func (.func sf) #[] sb) dk w1 ∧ PermIn 0 n d dk ∧ (∀ p, p < q → SortedIn lt (p * 20) (p * 20 + 20) dk)) := Lib.hid (by
        have ha := HA.out
        refine ⟨q + 1, d1, by congr 2; omega, by congr 1; omega, by omega, hI1, permIn_trans _ _ _ _ _ HPM.out (permIn_mono _ _ _ _ _ _ (by omega) hlt (by omega) p1), fun p hp => ?_⟩
        rcases Nat.lt_or_ge p q with h | h
        · exact sorted_other (HSO.out p h) p1 (Or.inl (by omega))
        · obtain rfl : p = q := by omega
          rw [← ha]; exact s1)
      clear hw1 rc c0 c1 p1 s1 hI1
      go_wp2
      go_roundw
      case rel => exact REL.out
      case measure => simp [intOf]; omega
    · have rc := insertion_s hk hS g lb sf sb eg blk off a n dk wr (HI.out.lessReads HLESS.out) (by rw [hsk]; exact HSWP.out) HI.out.holds HI.out.hlt (by omega) (by omega) (by omega)
      have hle : ¬ ((a + 20 : Nat) : Int) ≤ (n : Int) := by omega
      go_wp2_with fail
      refine rc.mono ?_
      rintro e w1 ⟨rfl, n1, os1, d1, ⟨p1, s1⟩, hw1⟩
      have hI1 : InS enc kk w blk off d.size w.heap.size (.func (.func g) #[] lb) (.func (.func sf) #[] sb) d1 w1 := by rw [hw1]; exact HI.out.on p1.1
      have ST : Hid (InS enc kk w blk off d.size w.heap.size (.func (.func g) #[] lb) (.func (.func sf) #[] sb) d1 w1 ∧ PermIn 0 n d d1 ∧ BlkS lt 20 n d1) := Lib.hid (by
        have ha := HA.out
        refine ⟨hI1, permIn_trans _ _ _ _ _ HPM.out (permIn_mono _ _ _ _ _ _ (by omega) (by omega) (by omega) p1), fun p hp => ?_⟩
        rcases Nat.lt_or_ge p q with h | h
        · rw [Nat.min_eq_left (by omega)]
          exact sorted_other (HSO.out p h) p1 (Or.inl (by omega))
        · obtain rfl : p = q := by omega
          rw [Nat.min_eq_right (by omega), ← ha]; exact s1)
      clear hw1 rc c0 c1 p1 s1 hI1 HI HPM HSO hsk
      go_wp2
      go_loopw [4] (fun vB wr => ∃ (B : Nat) (dk : Array α), vB = .int .i64 B ∧ 20 ≤ B ∧ B < 2305843009213693952 ∧ InS enc kk w blk off d.size w.heap.size (.func (.func g) #[] lb) (.func (.func sf) #[] sb) dk wr ∧ PermIn 0 n d dk ∧ BlkS lt B n dk) (fun vB _ => n - (intOf vB).toNat)
      case atStart => exact ⟨20, d1, rfl, by omega, by omega, ST.out.1, ST.out.2.1, ST.out.2.2⟩
      case round =>
        clear ST
        obtain ⟨B, dk, rfl, hB, hB2, hI, hpm, hbs⟩ := hrel
        have HI := Lib.hid hI
        have HPM := Lib.hid hpm
        have HBS := Lib.hid hbs
        clear hI hpm hbs
        by_cases hlt : B < n
        · have hlti : (B : Int) < (n : Int) := by omega
          go_wp2
          go_loopw [5, 6] (fun va vb wr => ∃ (q A : Nat) (dj : Array α), va = .int .i64 (A : Int) ∧ vb = .int .i64 ((A : Int) + 2 * (B : Int)) ∧ A = q * (2 * B) ∧ A ≤ n ∧ InS enc kk w blk off d.size w.heap.size (.func (.func g) #[] lb) (.func (.func sf) #[] sb) dj wr ∧ PermIn 0 n d dj ∧ HalfS lt B n q dj) (fun va _ _ => n - (intOf va).toNat)
          case atStart => exact ⟨0, 0, dk, rfl, by simp, by simp, by omega, HI.out, HPM.out, ⟨by intro p hp; omega, fun p _ hp => HBS.out p hp⟩⟩
          case round =>
            clear HI HPM HBS
            obtain ⟨q, A, dj, rfl, rfl, hA, hAn, hI, hpm, hhs⟩ := hrel
            have HI := Lib.hid hI
            have HPM := Lib.hid hpm
            have HHS := Lib.hid hhs
            have HA := Lib.hid hA
            have c0 := hI.c0
            have c1 := hI.c1
            have hsj := hI.sz
            clear hI hpm hhs hA
            by_cases hle : A + 2 * B ≤ n
            · have hlei : (A : Int) + 2 * (B : Int) ≤ (n : Int) := by omega
              have rc := symmerge_s hk hS g lb sf sb eg blk off n A (A + B) (A + 2 * B) dj wr (by omega) (HI.out.lessReads HLESS.out) (by rw [hsj]; exact HSWP.out) HI.out.holds HI.out.hlt (by omega) (by omega) (by omega) (by omega) (half_first HHS.out HA.out (by omega)) (half_second HHS.out HA.out (by omega) (by omega))
              rw [show ((A + B : Nat) : Int) = (A : Int) + (B : Int) by omega, show ((A + 2 * B : Nat) : Int) = (A : Int) + 2 * (B : Int) by omega] at rc
              go_wp2_with fail
              refine rc.mono ?_
              rintro e w1 ⟨rfl, n1, os1, d1, ⟨p1, s1⟩, hw1⟩
              have hI1 : InS enc kk w blk off d.size w.heap.size (.func (.func g) #[] lb) (.func (.func sf) #[] sb) d1 w1 := by rw [hw1]; exact HI.out.on p1.1
              have REL : Hid (∃ (q A' : Nat) (dj : Array α), Value.int .i64 ((A : Int) + 2 * (B : Int)) = .int .i64 (A' : Int) ∧ Value.int .i64 ((A : Int) + 2 * (B : Int) + 2 * (B : Int)) = .int .i64 ((A' : Int) + 2 * (B : Int)) ∧ A' = q * (2 * B) ∧ A' ≤ n ∧ InS enc kk w blk off d.size w.heap.size (.func (.func g) #[] lb) (.func (.func sf) #[] sb) dj w1 ∧ PermIn 0 n d dj ∧ HalfS lt B n q dj) := Lib.hid
                ⟨q + 1, A + 2 * B, d1, by congr 1, by congr 1, by rw [Nat.add_mul, Nat.one_mul, ← HA.out], hle, hI1, permIn_trans _ _ _ _ _ HPM.out (permIn_mono _ _ _ _ _ _ (by omega) hle (by omega) p1), half_step HHS.out HA.out p1 s1⟩
              clear hw1 rc c0 c1 p1 s1 hI1
              go_wp2
              go_roundw
              case rel => exact REL.out
              case measure => simp [intOf]; omega
            · have hlei : ¬ (A : Int) + 2 * (B : Int) ≤ (n : Int) := by omega
              by_cases hm : A + B < n
              · have hmi : (A : Int) + (B : Int) < (n : Int) := by omega
                have rc := symmerge_s hk hS g lb sf sb eg blk off n A (A + B) n dj wr (by omega) (HI.out.lessReads HLESS.out) (by rw [hsj]; exact HSWP.out) HI.out.holds HI.out.hlt (by omega) (by omega) (by omega) (by omega) (half_first HHS.out HA.out (by omega)) (half_second HHS.out HA.out (by omega) (by omega))
                rw [show ((A + B : Nat) : Int) = (A : Int) + (B : Int) by omega] at rc
                go_wp2_with fail
                refine rc.mono ?_
                rintro e w1 ⟨rfl, n1, os1, d1, ⟨p1, s1⟩, hw1⟩
                have hI1 : InS enc kk w blk off d.size w.heap.size (.func (.func g) #[] lb) (.func (.func sf) #[] sb) d1 w1 := by rw [hw1]; exact HI.out.on p1.1
                have REL : Hid (∃ (B' : Nat) (dk : Array α), Value.int .i64 ((B : Int) * 2) = .int .i64 (B' : Int) ∧ 20 ≤ B' ∧ B' < 2305843009213693952 ∧ InS enc kk w blk off d.size w.heap.size (.func (.func g) #[] lb) (.func (.func sf) #[] sb) dk w1 ∧ PermIn 0 n d dk ∧ BlkS lt B' n dk) := Lib.hid
                  ⟨B * 2, d1, by congr 1, by omega, by omega, hI1, permIn_trans _ _ _ _ _ HPM.out (permIn_mono _ _ _ _ _ _ (by omega) (by omega) (by omega) p1), half_done HHS.out HA.out hAn (by omega) p1 s1⟩
                clear hw1 rc c0 c1 p1 s1 hI1
                go_wp2
                go_roundw
                case rel => exact REL.out
                case measure => simp [intOf]; omega
              · have hmi : ¬ (A : Int) + (B : Int) < (n : Int) := by omega
                have REL : Hid (∃ (B' : Nat) (dk : Array α), Value.int .i64 ((B : Int) * 2) = .int .i64 (B' : Int) ∧ 20 ≤ B' ∧ B' < 2305843009213693952 ∧ InS enc kk w blk off d.size w.heap.size (.func (.func g) #[] lb) (.func (.func sf) #[] sb) dk wr ∧ PermIn 0 n d dk ∧ BlkS lt B' n dk) := Lib.hid
                  ⟨B * 2, dj, by congr 1, by omega, by omega, HI.out, HPM.out, half_done HHS.out HA.out hAn (by omega) (permIn_refl _ _ _) (by
                    obtain ⟨e1, e2⟩ := half_two HA.out
                    have := HHS.out.2 (2 * q) (Nat.le_refl _) (by omega)
                    rwa [e1, Nat.min_eq_right (by omega)] at this)⟩
                clear c0 c1
                go_wp2
                go_roundw
                case rel => exact REL.out
                case measure => simp [intOf]; omega
        · have hge : ¬ (B : Int) < (n : Int) := by omega
          go_wp2
          go_end0
          refine HI.out.post ⟨HPM.out, ?_⟩
          have := HBS.out 0 (by omega)
          rwa [Nat.zero_mul, Nat.zero_add, Nat.min_eq_right (by omega)] at this
end
end Go.Proofs.YtbnbjiddffihoaaDoor

/- The place of a class. -/
namespace Go.Proofs.YtbnbjiddffihoaaDoor
open Go.RowKit

/-- the first list whose head agrees with v at level h; the number of lists if there is none -/
def idxC (C : List (List Nd)) (v : Nat) (h : Int) : Nat := C.findIdx fun c => sameN (headW c) v h
theorem idxC_le (C : List (List Nd)) (v : Nat) (h : Int) : idxC C v h ≤ C.length := List.findIdx_le_length
theorem idxC_of {C : List (List Nd)} {v : Nat} {h : Int} {k : Nat} {c : List Nd} (hc : C[k]? = some c) (hk : sameN (headW c) v h = true) (hlt : ∀ j c, j < k → C[j]? = some c → sameN (headW c) v h = false) : idxC C v h = k := by
  have hkl := (List.getElem?_eq_some_iff.1 hc).1
  have he : C[k] = c := (List.getElem?_eq_some_iff.1 hc).2
  rw [idxC, List.findIdx_eq hkl]
  refine ⟨by rw [he]; exact hk, fun j hj => ?_⟩
  exact hlt j _ hj (List.getElem?_eq_getElem (by omega))
theorem idxC_none {C : List (List Nd)} {v : Nat} {h : Int} (hlt : ∀ j c, j < C.length → C[j]? = some c → sameN (headW c) v h = false) : idxC C v h = C.length := by
  rw [idxC, List.findIdx_eq_length]
  intro c hc
  obtain ⟨j, hj, he⟩ := List.mem_iff_getElem.1 hc
  have := hlt j c hj (by rw [← he]; simp)
  simpa using this

/-- what IndexFunc hands back -/
def idxV (C : List (List Nd)) (v : Nat) (h : Int) : Int := if idxC C v h < C.length then (idxC C v h : Int) else -1

def IdxRel (n : Nat) (C : List (List Nd)) (v : Nat) (h : Int) (w : World) (i : Value) (wr : World) : Prop :=
  ∃ k : Nat, k ≤ n ∧ i = .int .i64 k ∧ Ex w wr ∧ ∀ j c, j < k → C[j]? = some c → sameN (headW c) v h = false
def GoodC (C : List (List Nd)) : Prop := ∀ c ∈ C, 0 < c.length ∧ c.length ≤ 1000000 ∧ ∀ y ∈ c, y.word < 4294967296

end Go.Proofs.YtbnbjiddffihoaaDoor

/- A list of lists of nodes that the call itself makes. -/
namespace Go.Proofs.YtbnbjiddffihoaaDoor
open Go.RowKit

theorem flatH (l : List Hdr) : l.flatMap encH = l.map Hdr.val := by
  induction l with
  | nil => rfl
  | cons c r ih => rw [List.flatMap_cons, ih]; rfl
theorem own_cellH {e : TypeId} {base : Nat} {w : World} {g n cap j : Nat} {l : List Hdr} {q : Hdr} (h : OwnL 1 encH e base w (.slice (some ⟨g, 0, none⟩) n cap) l) (hj : l[j]? = some q) :
    w.cell? ⟨g, j, none⟩ = some q.val ∧ w.frozen? ⟨g, j, none⟩ = false ∧ ∀ y : Hdr, OwnL 1 encH e base (w.setCell ⟨g, j, none⟩ y.val) (.slice (some ⟨g, 0, none⟩) n cap) (l.set j y) := by
  rcases h.2 with ⟨h1, _⟩ | ⟨g', cap', cur, e1, e2, e3, e4, e5, e6, e7⟩
  · cases h1
  · cases e1
    have hjl := (List.getElem?_eq_some_iff.1 hj).1
    have hjc : j < cur.size := by omega
    rw [flatH] at e7
    refine ⟨?_, ?_, fun y => ⟨?_, .inr ⟨g, cap, cur.setIfInBounds j y.val, by simp, e2, heap_set e3 j _, by simpa using e4, e5, by simpa using e6, ?_⟩⟩⟩
    · have hx : (cur.toList.take (l.length * 1))[j]? = some q.val := by
        rw [e7, List.getElem?_map, hj]; rfl
      rw [List.getElem?_take, if_pos (by omega)] at hx
      simpa [World.cell?, e3] using hx
    · simp [World.frozen?, e3]
    · rw [flatH]; simp
    · rw [flatH, List.length_set, Array.toList_setIfInBounds, List.take_set, e7, List.map_set]

def OwnQ (base : Nat) (w : World) (v : Value) (qs : List Hdr) (C : List (List Nd)) : Prop :=
  OwnL 1 encH 23 base w v qs ∧ qs.length = C.length ∧
  (∀ (j : Nat) (q : Hdr) (c : List Nd), qs[j]? = some q → C[j]? = some c → OwnL 3 encN 52 base w q.val c) ∧
  ∀ (i j : Nat) (qi qj : Hdr) (g : Nat), qs[i]? = some qi → qs[j]? = some qj → qi.val.ownBlock = some g → qj.val.ownBlock = some g → i = j
theorem OwnQ.nil (base : Nat) (w : World) : OwnQ base w (.slice none 0 0) [] [] := ⟨OwnL.nil _ _ _ _ _, rfl, by intro j q c h; simp at h, by intro i j qi qj g h; simp at h⟩
theorem OwnQ.nx {base : Nat} {w w' : World} {v : Value} {qs : List Hdr} {C : List (List Nd)} (h : OwnQ base w v qs C) (k : Ex w w') : OwnQ base w' v qs C :=
  ⟨h.1.nx k, h.2.1, fun j q c hq hc => (h.2.2.1 j q c hq hc).nx k, h.2.2.2⟩
theorem OwnQ.ne {base : Nat} {w : World} {v : Value} {qs : List Hdr} {C : List (List Nd)} (h : OwnQ base w v qs C) {j g : Nat} {q : Hdr} (hq : qs[j]? = some q) (hg : q.val.ownBlock = some g) : ¬ v.ownBlock = some g := by
  intro hv
  obtain ⟨c, hc⟩ : ∃ c, C[j]? = some c := ⟨C[j]'(by have := (List.getElem?_eq_some_iff.1 hq).1; have := h.2.1; omega), by simp⟩
  obtain ⟨_, cur, h1⟩ := (h.2.2.1 j q c hq hc).blk hg
  obtain ⟨_, cur', h2⟩ := h.1.blk hv
  rw [h1] at h2
  simp at h2
theorem OwnQ.lt {base : Nat} {w : World} {v : Value} {qs : List Hdr} {C : List (List Nd)} (h : OwnQ base w v qs C) {j g : Nat} {q : Hdr} (hq : qs[j]? = some q) (hg : q.val.ownBlock = some g) : g < w.heap.size := by
  obtain ⟨c, hc⟩ : ∃ c, C[j]? = some c := ⟨C[j]'(by have := (List.getElem?_eq_some_iff.1 hq).1; have := h.2.1; omega), by simp⟩
  obtain ⟨_, cur, h1⟩ := (h.2.2.1 j q c hq hc).blk hg
  exact heap_lt h1
/-- an empty list is appended -/
theorem OwnQ.pad {base : Nat} {w w' : World} {v v' : Value} {qs : List Hdr} {C : List (List Nd)} (h : OwnQ base w v qs C) (ho : OwnL 1 encH 23 base w' v' (qs ++ [((none, 0, 0) : Hdr)]))
    (k : Chg (fun k => k < w.heap.size ∧ ¬ v.ownBlock = some k) w w') : OwnQ base w' v' (qs ++ [((none, 0, 0) : Hdr)]) (C ++ [[]]) := by
  refine ⟨ho, by simp [h.2.1], fun j q c hq hc => ?_, fun i j qi qj g hi hj gi gj => ?_⟩
  · rcases Nat.lt_or_ge j qs.length with hl | hl
    · rw [List.getElem?_append_left hl] at hq
      rw [List.getElem?_append_left (by rw [← h.2.1]; exact hl)] at hc
      exact (h.2.2.1 j q c hq hc).chg k (fun x hx hv => ⟨hx, h.ne hq hv⟩)
    · obtain rfl : j = qs.length := by have := (List.getElem?_eq_some_iff.1 hq).1; simp at this; omega
      simp at hq
      rw [h.2.1] at hc
      simp at hc
      subst hq hc
      exact OwnL.nil _ _ _ _ _
  · have hn : ∀ (i : Nat) (q : Hdr), (qs ++ [((none, 0, 0) : Hdr)])[i]? = some q → q.val.ownBlock = some g → qs[i]? = some q := by
      intro i q hq hg
      rcases Nat.lt_or_ge i qs.length with hl | hl
      · rw [List.getElem?_append_left hl] at hq; exact hq
      · obtain rfl : i = qs.length := by have := (List.getElem?_eq_some_iff.1 hq).1; simp at this; omega
        simp at hq
        subst hq
        cases hg
    exact h.2.2.2 i j qi qj g (hn i qi hi gi) (hn j qj hj gj) gi gj
/-- one list is put anew -/
theorem OwnQ.put {base : Nat} {w1 w2 : World} {g n cap k : Nat} {qs : List Hdr} {C : List (List Nd)} {q q' : Hdr} {c' : List Nd} (h : OwnQ base w1 (.slice (some ⟨g, 0, none⟩) n cap) qs C) (hq : qs[k]? = some q)
    (ho : OwnL 3 encN 52 base w2 q'.val c') (kk : Chg (fun x => x < w1.heap.size ∧ ¬ q.val.ownBlock = some x) w1 w2) (hat : q'.val.ownBlock = q.val.ownBlock ∨ q'.val.ownBlock = some w1.heap.size) :
    w2.cell? ⟨g, k, none⟩ = some q.val ∧ w2.frozen? ⟨g, k, none⟩ = false ∧ OwnQ base (w2.setCell ⟨g, k, none⟩ q'.val) (.slice (some ⟨g, 0, none⟩) n cap) (qs.set k q') (C.set k c') := by
  have hg1 : ∀ (j : Nat) (q : Hdr) (x : Nat), qs[j]? = some q → q.val.ownBlock = some x → x ≠ g := fun j q x hj hx he => h.ne hj hx (by rw [he]; rfl)
  have ho1 : OwnL 1 encH 23 base w2 (.slice (some ⟨g, 0, none⟩) n cap) qs := h.1.chg kk (fun x hx hv => ⟨hx, fun hh => h.ne hq hh hv⟩)
  obtain ⟨f1, f2, f3⟩ := own_cellH ho1 hq
  have hne' : ∀ x, q'.val.ownBlock = some x → x ≠ g := by
    intro x hx he
    obtain ⟨_, cur, e1⟩ := ho.blk hx
    obtain ⟨_, cur', e2⟩ := ho1.blk (g := g) rfl
    rw [he, e2] at e1
    simp at e1
  have hset : Chg (· ≠ g) w2 (w2.setCell ⟨g, k, none⟩ q'.val) := (Chg.refl _ w2).setCell _ (fun x hx => hx)
  have hkl := (List.getElem?_eq_some_iff.1 hq).1
  refine ⟨f1, f2, f3 q', by simp [h.2.1], fun j r c hr hc => ?_, fun i j qi qj x hi hj gi gj => ?_⟩
  · by_cases hjk : j = k
    · subst hjk
      rw [List.getElem?_set_self hkl] at hr
      rw [List.getElem?_set_self (by rw [← h.2.1]; exact hkl)] at hc
      cases hr
      cases hc
      exact ho.chg hset (fun x _ hv => hne' x hv)
    · rw [List.getElem?_set_ne (by omega)] at hr hc
      have o1 := h.2.2.1 j r c hr hc
      have o2 : OwnL 3 encN 52 base w2 r.val c := o1.chg kk (fun x hx hv => ⟨hx, fun hh => hjk (h.2.2.2 j k r q x hr hq hv hh)⟩)
      exact o2.chg hset (fun x _ hv => hg1 j r x hr hv)
  · have key : ∀ (j : Nat) (qj : Hdr), j ≠ k → qs[j]? = some qj → qj.val.ownBlock = some x → q'.val.ownBlock = some x → False := by
      intro j qj hjk hj gj gk
      rcases hat with h1 | h1
      · exact hjk (h.2.2.2 j k qj q x hj hq gj (h1 ▸ gk))
      · have := h.lt hj gj
        rw [h1] at gk
        cases gk
        omega
    by_cases hik : i = k
    · by_cases hjk : j = k
      · omega
      · exfalso
        subst hik
        rw [List.getElem?_set_self hkl] at hi
        cases hi
        rw [List.getElem?_set_ne (by omega)] at hj
        exact key j qj hjk hj gj gi
    · rw [List.getElem?_set_ne (by omega)] at hi
      by_cases hjk : j = k
      · exfalso
        subst hjk
        rw [List.getElem?_set_self hkl] at hj
        cases hj
        exact key i qi hik hi gi gj
      · rw [List.getElem?_set_ne (by omega)] at hj
        exact h.2.2.2 i j qi qj x hi hj gi gj
theorem OwnQ.ll {base : Nat} {w : World} {v : Value} {qs : List Hdr} {C : List (List Nd)} (h : OwnQ base w v qs C) :
    ∃ a cap, v = .slice a C.length cap ∧ LL w a C.length C ∧ C.length ≤ cap ∧ cap ≤ maxLen ∧ (C ≠ [] → ∃ g, a = some ⟨g, 0, none⟩ ∧ base ≤ g) := by
  obtain ⟨a, cap, e, r, c1, c2, c3⟩ := h.1.rd (fun _ => rfl)
  rw [h.2.1] at e r c1
  refine ⟨a, cap, e, ⟨qs, Rd.mono r (fun _ hk => hk.2), rfl, fun j q c hq hc => ?_⟩, c1, c2, fun hC => c3 (fun h0 => hC ?_)⟩
  · obtain ⟨a', cap', e', r', _⟩ := (h.2.2.1 j q c hq hc).rd (fun _ => rfl)
    obtain ⟨q1, q2, q3⟩ := q
    simp only [Hdr.val, Value.slice.injEq] at e'
    obtain ⟨rfl, rfl, rfl⟩ := e'
    exact Rd.mono r' (fun _ hk => hk.2)
  · have := h.2.1
    rw [h0] at this
    exact List.eq_nil_of_length_eq_zero this.symm

/-! ### The classes -/
def padC (C : List (List Nd)) (k : Nat) : List (List Nd) := if k = C.length then C ++ [[]] else C
def stepC (h : Int) (C : List (List Nd)) (x : Nd) : List (List Nd) :=
  (padC C (idxC C x.word h)).set (idxC C x.word h) ((padC C (idxC C x.word h))[idxC C x.word h]?.getD [] ++ [x])
def classesN (l : List Nd) (h : Int) : List (List Nd) := if 16 < h then [] else l.foldl (stepC h) []
def foldC (h : Int) (l : List Nd) : List (List Nd) := l.foldl (stepC h) []
theorem foldC_snoc (h : Int) (l : List Nd) (k : Nat) (y : Nd) (hy : l[k]? = some y) : foldC h (l.take (k + 1)) = stepC h (foldC h (l.take k)) y := by
  unfold foldC
  rw [take_snocN l k y hy, List.foldl_append]
  rfl
theorem padC_length (C : List (List Nd)) (k : Nat) : C.length ≤ (padC C k).length ∧ (padC C k).length ≤ C.length + 1 := by
  unfold padC
  split <;> simp
theorem stepC_length (h : Int) (C : List (List Nd)) (x : Nd) : (stepC h C x).length ≤ C.length + 1 := by
  unfold stepC
  rw [List.length_set]
  exact (padC_length _ _).2
theorem foldC_length (h : Int) (l : List Nd) : (foldC h l).length ≤ l.length := by
  have : ∀ (l : List Nd) (C : List (List Nd)), (l.foldl (stepC h) C).length ≤ C.length + l.length := by
    intro l
    induction l with
    | nil => intro C; simp
    | cons x r ih => intro C; have := ih (stepC h C x); have := stepC_length h C x; simp at *; omega
  have := this l []
  simpa [foldC] using this
/-- lists that are not empty, of nodes of a list, none longer than it -/
def Fine (n : Nat) (P : Nd → Prop) (C : List (List Nd)) : Prop := ∀ c ∈ C, 0 < c.length ∧ c.length ≤ n ∧ ∀ y ∈ c, P y
theorem stepC_fine {h : Int} {n : Nat} {P : Nd → Prop} {C : List (List Nd)} {x : Nd} (hC : Fine n P C) (hx : P x) : Fine (n + 1) P (stepC h C x) := by
  intro c hc
  unfold stepC at hc
  have hpad : ∀ c, c ∈ padC C (idxC C x.word h) → c ∈ C ∨ c = [] := by
    intro c hc
    unfold padC at hc
    split at hc
    · rcases List.mem_append.1 hc with h | h
      · exact .inl h
      · exact .inr (List.mem_singleton.1 h)
    · exact .inl hc
  rcases List.mem_or_eq_of_mem_set hc with hm | rfl
  · by_cases hin : c ∈ C
    · have := hC c hin
      exact ⟨this.1, by omega, this.2.2⟩
    · -- the empty list that was put in was replaced
      exfalso
      rcases hpad c hm with h1 | h1
      · exact hin h1
      · subst h1
        obtain ⟨j, hj, he⟩ := List.mem_iff_getElem.1 hc
        rw [List.getElem_set] at he
        split at he
        · simp at he
        · rename_i hne
          have hjl : j < (padC C (idxC C x.word h)).length := by rw [List.length_set] at hj; exact hj
          by_cases hi : idxC C x.word h = C.length
          · have hp : padC C (idxC C x.word h) = C ++ [[]] := by unfold padC; rw [if_pos hi]
            have hjC : j < C.length := by rw [hp] at hjl; simp at hjl; omega
            have : C[j] = [] := by
              have h2 : (padC C (idxC C x.word h))[j]? = some [] := by rw [List.getElem?_eq_getElem hjl, he]
              rw [hp, List.getElem?_append_left hjC, List.getElem?_eq_getElem hjC] at h2
              exact Option.some.inj h2
            exact hin (this ▸ List.getElem_mem hjC)
          · have hp : padC C (idxC C x.word h) = C := by unfold padC; rw [if_neg hi]
            rw [hp] at hm
            exact hin hm
  · have hg : ∀ o : Option (List Nd), (∀ c, o = some c → c ∈ C ∨ c = []) → (o.getD []).length ≤ n ∧ ∀ y ∈ o.getD [], P y := by
      intro o ho
      cases o with
      | none => simp
      | some c =>
        rcases ho c rfl with h | h
        · exact ⟨(hC c h).2.1, (hC c h).2.2⟩
        · subst h; simp
    obtain ⟨g1, g2⟩ := hg _ (fun c hc => hpad c (List.mem_of_getElem? hc))
    refine ⟨by simp, by simp; exact g1, fun y hy => ?_⟩
    rcases List.mem_append.1 hy with h | h
    · exact g2 y h
    · rw [List.mem_singleton.1 h]; exact hx
theorem foldC_fine {h : Int} {P : Nd → Prop} (l : List Nd) (hP : ∀ y ∈ l, P y) : Fine l.length P (foldC h l) := by
  have : ∀ (l : List Nd) (n : Nat) (C : List (List Nd)), (∀ y ∈ l, P y) → Fine n P C → Fine (n + l.length) P (l.foldl (stepC h) C) := by
    intro l
    induction l with
    | nil => intro n C _ hC; exact hC
    | cons x r ih =>
      intro n C hl hC
      have := ih (n + 1) (stepC h C x) (fun y hy => hl y (List.mem_cons_of_mem _ hy)) (stepC_fine hC (hl x (List.mem_cons_self ..)))
      rw [List.length_cons, show n + (r.length + 1) = n + 1 + r.length by omega]
      exact this
  have := this l 0 [] hP (by intro c hc; simp at hc)
  rw [Nat.zero_add] at this
  exact this
end Go.Proofs.YtbnbjiddffihoaaDoor

/- What the walks over Classes have in common. -/
namespace Go.Proofs.YtbnbjiddffihoaaDoor
open Go.RowKit

def ClPost (C : List (List Nd)) (w : World) (e : Ending) (w' : World) : Prop := ∃ (a : Option Addr) (cp : Nat), e = .returned (.slice a C.length cp) ∧ LL w' a C.length C ∧ Ex w w'
theorem OwnQ.cast {base : Nat} {w w' : World} {v : Value} {qs : List Hdr} {C : List (List Nd)} (h : OwnQ base w v qs C) (e : w' = w) : OwnQ base w' v qs C := e ▸ h
theorem OwnQ.ne_blk {base g : Nat} {w : World} {v : Value} {qs : List Hdr} {C : List (List Nd)} {cs : List Value} (h : OwnQ base w v qs C) (b : Blk w g cs 52) : ¬ v.ownBlock = some g := by
  intro hv
  obtain ⟨_, cur, e⟩ := h.1.blk hv
  unfold Blk at b
  rw [b] at e
  simp at e
theorem Blk.chg {w w' : World} {g : Nat} {cs : List Value} {ty : TypeId} {S : Nat → Prop} (h : Blk w g cs ty) (k : Chg S w w') (hs : S g) : Blk w' g cs ty := (k.block g hs).trans h
def ClRel (l : List Nd) (h : Int) (n : Nat) (w1 : World) (o i : Value) (wr : World) : Prop :=
  ∃ (k : Nat) (qs : List Hdr), k ≤ n ∧ i = .int .i64 k ∧ OwnQ w1.heap.size wr o qs (foldC h (l.take k)) ∧ Ex w1 wr
theorem classesN_big {l : List Nd} {h : Int} (hh : 16 < h) : classesN l h = [] := by unfold classesN; rw [if_pos hh]
theorem classesN_fold {l : List Nd} {h : Int} (hh : ¬ 16 < h) : classesN l h = foldC h l := by unfold classesN; rw [if_neg hh]; rfl
end Go.Proofs.YtbnbjiddffihoaaDoor

/- Classes of the reference. -/
namespace Go.Proofs.YtbnbjiddffihoaaDoor
open Go.RowKit

end Go.Proofs.YtbnbjiddffihoaaDoor

/- Find, Through, Neighbours, Height of the reference. -/
namespace Go.Proofs.YtbnbjiddffihoaaDoor
open Go.RowKit

def Nd.val (x : Nd) : Value := .agg #[.int .i64 x.id, .string x.key, .int .u32 x.word]
def Nd.zero : Nd := ⟨0, ⟨#[]⟩, 0⟩
theorem bytesLess_total : ∀ x y : List UInt8, Op.bytesLess x y = false → Op.bytesLess y x = false → x = y
  | [], [], _, _ => rfl
  | [], b :: y, h, _ => by simp [Op.bytesLess] at h
  | a :: x, [], _, h => by simp [Op.bytesLess] at h
  | a :: x, b :: y, h1, h2 => by
    simp only [Op.bytesLess, Bool.or_eq_false_iff, Bool.and_eq_false_iff, decide_eq_false_iff_not, beq_eq_false_iff_ne] at h1 h2
    have hab : a = b := by
      rcases UInt8.lt_or_le a b with h | h
      · exact absurd h h1.1
      · rcases UInt8.lt_or_eq_of_le h with h | h
        · exact absurd h h2.1
        · exact h.symm
    subst hab
    rw [bytesLess_total x y (h1.2.resolve_left (by simp)) (h2.2.resolve_left (by simp))]
theorem insN_mem (out : List Nd) (x y : Nd) : y ∈ insN out x ↔ y ∈ out ∨ y = x := by
  unfold insN
  rw [List.mem_append, List.mem_cons]
  constructor
  · rintro (h | h | h)
    · exact .inl (List.mem_of_mem_take h)
    · exact .inr h
    · exact .inl (List.mem_of_mem_drop h)
  · rintro (h | h)
    · have : y ∈ out.take (atN out x out.length) ++ out.drop (atN out x out.length) := by rw [List.take_append_drop]; exact h
      rcases List.mem_append.1 this with h | h
      · exact .inl h
      · exact .inr (.inr h)
    · exact .inr (.inl h)
theorem sortN_mem (l : List Nd) (y : Nd) : y ∈ sortN l ↔ y ∈ l := by
  have : ∀ (l out : List Nd), y ∈ l.foldl insN out ↔ y ∈ out ∨ y ∈ l := by
    intro l
    induction l with
    | nil => intro out; simp
    | cons x r ih => intro out; rw [List.foldl_cons, ih, insN_mem, List.mem_cons, or_assoc]
  have := this l []
  simpa [sortN] using this

/-- the first node with a number -/
def findN (l : List Nd) (id : Int) : Nd × Bool := match l.find? (fun x => x.id == id) with | some x => (x, true) | none => (Nd.zero, false)
theorem findN_none {l : List Nd} {id : Int} (hno : ∀ j z, j < l.length → l[j]? = some z → z.id ≠ id) : findN l id = (Nd.zero, false) := by
  have : l.find? (fun x => x.id == id) = none := by
    rw [List.find?_eq_none]
    intro x hx
    obtain ⟨j, hj, he⟩ := List.mem_iff_getElem.1 hx
    have := hno j x hj (by rw [← he]; simp)
    simpa using this
  unfold findN
  rw [this]
def lvlN (h : Int) : Bool := decide (0 ≤ h) && decide (h ≤ 16)
theorem sort_word {l : List Nd} (hw : ∀ x ∈ l, x.word < 4294967296) : ∀ x ∈ sortN l, x.word < 4294967296 := fun x hx => hw x ((sortN_mem l x).1 hx)
end Go.Proofs.YtbnbjiddffihoaaDoor

/- The order of nodes, and the sorted list of nodes, in plain Lean. -/
namespace Go.Proofs.YtbnbjiddffihoaaDoor
open Go.RowKit

/-- the order of the package roster -/
def ltN (a b : Nd) : Bool := Op.bytesLess a.key.toList b.key.toList || (a.key.toList == b.key.toList && decide (a.id < b.id))
theorem bl_trans {x y z : List UInt8} (h1 : Op.bytesLess x y = true) (h2 : Op.bytesLess y z = true) : Op.bytesLess x z = true := by
  rw [bytesLess_eq] at *
  simp only [decide_eq_true_eq] at *
  exact List.lt_trans h1 h2
theorem bl_asymm {x y : List UInt8} (h : Op.bytesLess x y = true) : Op.bytesLess y x = false := by
  cases h2 : Op.bytesLess y x with
  | false => rfl
  | true =>
    have h3 := bl_trans h h2
    rw [bytesLess_irrefl] at h3
    cases h3
/-- exactly one of three -/
theorem bl_tri (x y : List UInt8) : (Op.bytesLess x y = true ∧ Op.bytesLess y x = false ∧ x ≠ y) ∨ (x = y ∧ Op.bytesLess x y = false ∧ Op.bytesLess y x = false) ∨ (Op.bytesLess y x = true ∧ Op.bytesLess x y = false ∧ x ≠ y) := by
  cases h1 : Op.bytesLess x y with
  | true => exact .inl ⟨rfl, bl_asymm h1, fun he => by rw [he, bytesLess_irrefl] at h1; cases h1⟩
  | false =>
    cases h2 : Op.bytesLess y x with
    | true => exact .inr (.inr ⟨rfl, rfl, fun he => by rw [he, bytesLess_irrefl] at h2; cases h2⟩)
    | false => exact .inr (.inl ⟨bytesLess_total x y h1 h2, rfl, rfl⟩)
theorem ltN_iff (a b : Nd) : ltN a b = true ↔ Op.bytesLess a.key.toList b.key.toList = true ∨ (a.key.toList = b.key.toList ∧ a.id < b.id) := by
  unfold ltN; simp
theorem ltN_no (a b : Nd) : ltN a b = false ↔ Op.bytesLess b.key.toList a.key.toList = true ∨ (a.key.toList = b.key.toList ∧ b.id ≤ a.id) := by
  rw [← Bool.not_eq_true, ltN_iff]
  rcases bl_tri a.key.toList b.key.toList with ⟨h1, h2, h3⟩ | ⟨h1, h2, h3⟩ | ⟨h1, h2, h3⟩
  · simp [h1, h2, h3]
  · simp [h1, bytesLess_irrefl]
  · simp [h1, h2, h3]
theorem gtN_lt (a b : Nd) : gtN a b = ltN b a := by
  unfold gtN ltN
  rcases bl_tri a.key.toList b.key.toList with ⟨h1, h2, h3⟩ | ⟨h1, h2, h3⟩ | ⟨h1, h2, h3⟩
  · have e1 : (a.key.toList == b.key.toList) = false := by rw [beq_eq_false_iff_ne]; exact h3
    have e2 : (b.key.toList == a.key.toList) = false := by rw [beq_eq_false_iff_ne]; exact fun h => h3 h.symm
    rw [h1, h2, e1, e2]; rfl
  · simp [h1, bytesLess_irrefl]
  · have e1 : (a.key.toList == b.key.toList) = false := by rw [beq_eq_false_iff_ne]; exact h3
    have e2 : (b.key.toList == a.key.toList) = false := by rw [beq_eq_false_iff_ne]; exact fun h => h3 h.symm
    rw [h1, h2, e1, e2]; rfl
theorem swo_ltN : Sort.SWO ltN where
  irrefl x := by unfold ltN; simp [bytesLess_irrefl]
  trans x y z h1 h2 := by
    rw [ltN_iff] at *
    rcases h1 with h1 | ⟨h1, h1'⟩ <;> rcases h2 with h2 | ⟨h2, h2'⟩
    · exact .inl (bl_trans h1 h2)
    · exact .inl (by rw [← h2]; exact h1)
    · exact .inl (by rw [h1]; exact h2)
    · exact .inr ⟨h1.trans h2, by omega⟩
  ntrans x y z h1 h2 := by
    rw [ltN_no] at *
    rcases h1 with h1 | ⟨h1, h1'⟩ <;> rcases h2 with h2 | ⟨h2, h2'⟩
    · exact .inl (bl_trans h2 h1)
    · exact .inl (by rw [← h2]; exact h1)
    · exact .inl (by rw [h1]; exact h2)
    · exact .inr ⟨h1.trans h2, by omega⟩
/-- ascending: none is less than one before it -/
def AscN (l : List Nd) : Prop := l.Pairwise fun x y => ltN y x = false
theorem atN_spec (out : List Nd) (x : Nd) (h : AscN out) : ∀ n, n ≤ out.length → (∀ j y, n ≤ j → out[j]? = some y → ltN x y = true) →
    (∀ j y, atN out x n ≤ j → out[j]? = some y → ltN x y = true) ∧ (∀ j y, j < atN out x n → out[j]? = some y → ltN x y = false)
  | 0, _, h1 => ⟨h1, by intro j y hj; unfold atN at hj; omega⟩
  | n + 1, hn, h1 => by
    have hy : out[n]? = some out[n] := List.getElem?_eq_getElem (by omega)
    unfold atN
    rw [hy]
    simp only
    split
    · rename_i hg
      rw [gtN_lt] at hg
      refine atN_spec out x h n (by omega) fun j y hj hjy => ?_
      rcases Nat.lt_or_ge n j with h2 | h2
      · exact h1 j y h2 hjy
      · obtain rfl : j = n := by omega
        rw [hy] at hjy
        cases hjy
        exact hg
    · rename_i hg
      rw [gtN_lt] at hg
      have hg : ltN x out[n] = false := by simpa using hg
      refine ⟨h1, fun j y hj hjy => ?_⟩
      rcases Nat.lt_or_ge j n with h2 | h2
      · have hj' := List.getElem?_eq_some_iff.1 hjy
        have := List.pairwise_iff_getElem.1 h j n hj'.1 (by omega) h2
        rw [hj'.2] at this
        exact swo_ltN.ntrans _ _ _ hg this
      · obtain rfl : j = n := by omega
        rw [hy] at hjy
        cases hjy
        exact hg
theorem insN_asc {out : List Nd} (x : Nd) (h : AscN out) : AscN (insN out x) := by
  obtain ⟨h1, h2⟩ := atN_spec out x h out.length (Nat.le_refl _) (by intro j y hj hjy; have := (List.getElem?_eq_some_iff.1 hjy).1; omega)
  unfold insN AscN
  have ha : (out.take (atN out x out.length) ++ out.drop (atN out x out.length)).Pairwise fun x y => ltN y x = false := by rw [List.take_append_drop]; exact h
  rw [List.pairwise_append] at ha ⊢
  refine ⟨ha.1, List.pairwise_cons.2 ⟨fun y hy => ?_, ha.2.1⟩, fun y hy z hz => ?_⟩
  · obtain ⟨j, hj⟩ := List.mem_iff_getElem?.1 hy
    rw [List.getElem?_drop] at hj
    exact swo_ltN.asymmA (h1 _ y (by omega) hj)
  · rcases List.mem_cons.1 hz with rfl | hz
    · obtain ⟨j, hj⟩ := List.mem_iff_getElem?.1 hy
      rw [List.getElem?_take] at hj
      split at hj
      · exact h2 j y (by assumption) hj
      · cases hj
    · exact ha.2.2 y hy z hz
theorem insN_perm (out : List Nd) (x : Nd) : (insN out x).Perm (x :: out) := by
  unfold insN
  have h := List.perm_middle (a := x) (l₁ := out.take (atN out x out.length)) (l₂ := out.drop (atN out x out.length))
  rw [List.take_append_drop] at h
  exact h
theorem fold_asc : ∀ (l out : List Nd), AscN out → AscN (l.foldl insN out)
  | [], _, h => h
  | x :: r, out, h => fold_asc r _ (insN_asc x h)
theorem fold_perm : ∀ (l out : List Nd), (l.foldl insN out).Perm (l ++ out)
  | [], _ => List.Perm.refl _
  | x :: r, out => by
    rw [List.foldl_cons, List.cons_append]
    exact (fold_perm r _).trans (((insN_perm out x).append_left r).trans List.perm_middle)
theorem sortN_asc (l : List Nd) : AscN (sortN l) := fold_asc l [] List.Pairwise.nil
theorem sortN_perm (l : List Nd) : (sortN l).Perm l := by
  have := fold_perm l []
  rwa [List.append_nil] at this
/-- no key twice -/
def KeysN (l : List Nd) : Prop := ∀ (i k : Nat) (x y : Nd), k < i → l[i]? = some x → l[k]? = some y → x.key ≠ y.key ∧ x.id ≠ y.id
theorem check_keys {l : List Nd} (h : checkN l = 0) : KeysN l := by
  unfold checkN at h
  split at h
  · omega
  · split at h
    · omega
    · split at h
      · omega
      · rename_i hd
        intro i k x y hk hx hy
        have : ¬ eqN x y = true := fun he => hd ((dupN_iff l).2 ⟨i, k, x, y, hk, hx, hy, he⟩)
        unfold eqN at this
        simp only [Bool.or_eq_true, beq_iff_eq, not_or] at this
        exact ⟨fun he => this.2 (by rw [he]), this.1⟩
theorem keys_eq {l : List Nd} (h : KeysN l) {x y : Nd} (hx : x ∈ l) (hy : y ∈ l) (he : x.key.toList = y.key.toList) : x = y := by
  obtain ⟨i, hi⟩ := List.mem_iff_getElem?.1 hx
  obtain ⟨k, hk⟩ := List.mem_iff_getElem?.1 hy
  have hke : x.key = y.key := by
    rw [ByteArray.toList_eq, ByteArray.toList_eq] at he
    exact ByteArray.ext (Array.toList_inj.1 he)
  rcases Nat.lt_trichotomy i k with hlt | rfl | hlt
  · exact absurd hke.symm (h k i y x hlt hk hi).1
  · exact Option.some.inj (hi.symm.trans hk)
  · exact absurd hke (h i k x y hlt hi hk).1
theorem ids_eq {l : List Nd} (h : KeysN l) {x y : Nd} (hx : x ∈ l) (hy : y ∈ l) (he : x.id = y.id) : x = y := by
  obtain ⟨i, hi⟩ := List.mem_iff_getElem?.1 hx
  obtain ⟨k, hk⟩ := List.mem_iff_getElem?.1 hy
  rcases Nat.lt_trichotomy i k with hlt | rfl | hlt
  · exact absurd he.symm (h k i y x hlt hk hi).2
  · exact Option.some.inj (hi.symm.trans hk)
  · exact absurd he (h i k x y hlt hi hk).2
/-- there is one sorted list of nodes without a key that occurs twice -/
theorem sortN_unique {l S : List Nd} (hk : KeysN l) (hp : S.Perm l) (hs : AscN S) : S = sortN l := by
  refine List.Perm.eq_of_pairwise (le := fun x y => ltN y x = false) ?_ hs (sortN_asc l) (hp.trans (sortN_perm l).symm)
  intro a b ha hb h1 h2
  have ha := hp.mem_iff.1 ha
  have hb := (sortN_mem l b).1 hb
  rw [ltN_no] at h1 h2
  rcases h1 with h1 | ⟨h1, _⟩
  · rcases h2 with h2 | ⟨h2, _⟩
    · rw [bl_asymm h1] at h2; cases h2
    · exact keys_eq hk ha hb h2
  · exact (keys_eq hk hb ha h1).symm
end Go.Proofs.YtbnbjiddffihoaaDoor

/- The comparison of Sort of the package roster. -/
namespace Go.Proofs.YtbnbjiddffihoaaDoor
open Go.RowKit Go.Sort Go.Lib

instance : Inhabited Nd := ⟨Nd.zero⟩

set_option maxRecDepth 100000 in
set_option maxHeartbeats 4000000 in
theorem less_n (blk off B n c i j : Nat) (x y : Nd) (w : World) (hb : w.cell? ⟨B, 0, none⟩ = some (.slice (some ⟨blk, off, none⟩) n c)) (hi : i < n) (hj : j < n) (hn : n < 4611686018427387904)
    (x0 : w.cell? ⟨blk, off + i * 3, none⟩ = some (.int .i64 x.id)) (x1 : w.cell? ⟨blk, off + i * 3 + 1, none⟩ = some (.string x.key)) (x2 : w.cell? ⟨blk, off + i * 3 + 2, none⟩ = some (.int .u32 x.word))
    (y0 : w.cell? ⟨blk, off + j * 3, none⟩ = some (.int .i64 y.id)) (y1 : w.cell? ⟨blk, off + j * 3 + 1, none⟩ = some (.string y.key)) (y2 : w.cell? ⟨blk, off + j * 3 + 2, none⟩ = some (.int .u32 y.word)) :
    Calls Tryd.prog 103 #[.int .i64 i, .int .i64 j, .pointer (some ⟨B, 0, none⟩)] w fun e w' => e = .returned (.bool (ltN x y)) ∧ ∃ (q : Nat) (o1 o2 : Obj), w' = ((w.drewN q).alloc o1).alloc o2 := by
  have hil : (i : Int) < (n : Int) := by omega
  have hjl : (j : Int) < (n : Int) := by omega
  have hi0 : (0 : Int) ≤ (i : Int) := by omega
  have hj0 : (0 : Int) ≤ (j : Int) := by omega
  have nb := World.new_ne w _ hb
  have nx0 := World.new_ne w _ x0
  have ny0 := World.new_ne w _ y0
  go_enter Tryd.func103, Tryd.ntmps103
  go_wp2
  go_region_held3 (fun w' => w'.cell? ⟨B, 0, none⟩ = some (.slice (some ⟨blk, off, none⟩) n c) ∧ w'.cell? ⟨blk, off + i * 3, none⟩ = some (.int .i64 x.id) ∧ w'.cell? ⟨blk, off + i * 3 + 1, none⟩ = some (.string x.key) ∧ w'.cell? ⟨blk, off + i * 3 + 2, none⟩ = some (.int .u32 x.word) ∧ w'.cell? ⟨blk, off + j * 3, none⟩ = some (.int .i64 y.id) ∧ w'.cell? ⟨blk, off + j * 3 + 1, none⟩ = some (.string y.key) ∧ w'.cell? ⟨blk, off + j * 3 + 2, none⟩ = some (.int .u32 y.word))
    (go_keep) (fail)
  all_goals
    cases h1 : Op.bytesLess x.key.toList y.key.toList with
    | true =>
      have HL : Hid (ltN x y = true) := Lib.hid (by unfold ltN; rw [h1]; rfl)
      go_wp2
      go_ret
      exact ⟨by rw [HL.out]; rfl, 1, _, _, rfl⟩
    | false =>
      cases h2 : (x.key.toList == y.key.toList) with
      | false =>
        have HL : Hid (ltN x y = false) := Lib.hid (by unfold ltN; rw [h1, h2]; rfl)
        go_wp2
        go_ret
        exact ⟨by rw [HL.out]; rfl, 1, _, _, rfl⟩
      | true =>
        by_cases h3 : x.id < y.id
        · have HL : Hid (ltN x y = true) := Lib.hid (by unfold ltN; rw [h1, h2, decide_eq_true h3]; rfl)
          go_wp2
          go_ret
          exact ⟨by rw [HL.out]; rfl, 1, _, _, rfl⟩
        · have HL : Hid (ltN x y = false) := Lib.hid (by unfold ltN; rw [h1, h2, decide_eq_false h3]; rfl)
          go_wp2
          go_ret
          exact ⟨by rw [HL.out]; rfl, 1, _, _, rfl⟩
end Go.Proofs.YtbnbjiddffihoaaDoor

/- The comparison of Sort of the package roster in the worlds of the sort; a copy of a list of nodes. -/
namespace Go.Proofs.YtbnbjiddffihoaaDoor
open Go.RowKit Go.Sort Go.Lib

theorem lessg_n (blk off B n c : Nat) (d : Array Nd) (w : World) (hd : d.size = n) (hH : HoldsK encN 3 w blk off d) (hblk : blk < w.heap.size) (hbox : w.cell? ⟨B, 0, none⟩ = some (.slice (some ⟨blk, off, none⟩) n c)) (hne : B ≠ blk) (hn : n < 4611686018427387904) :
    LessG Tryd.prog 103 #[.pointer (some ⟨B, 0, none⟩)] encN 3 ltN blk off d.size w := by
  intro m os dk hs i j hi hj
  have hB : B < w.heap.size := World.block_lt_of_cell? w _ hbox
  have hHk : HoldsK encN 3 (sortWorldK encN 3 w blk off m dk os) blk off dk := holdsK_sortWorldK encN 3 w blk off m d dk os hblk hH hs
  have hb : (sortWorldK encN 3 w blk off m dk os).cell? ⟨B, 0, none⟩ = some (.slice (some ⟨blk, off, none⟩) n c) := by
    unfold sortWorldK
    rw [cell?_grow _ _ _ (by rw [size_putRowK]; exact hB), cell?_putRowK_other encN 3 _ blk off _ _ hne]
    exact hbox
  refine (less_n blk off B n c i j dk[i]! dk[j]! _ hb (by omega) (by omega) hn (hHk.cell (i := i) (c := 0) (by omega) (by omega)).1 (hHk.cell (i := i) (c := 1) (by omega) (by omega)).1 (hHk.cell (i := i) (c := 2) (by omega) (by omega)).1
    (hHk.cell (i := j) (c := 0) (by omega) (by omega)).1 (hHk.cell (i := j) (c := 1) (by omega) (by omega)).1 (hHk.cell (i := j) (c := 2) (by omega) (by omega)).1).mono ?_
  rintro e w' ⟨rfl, q, o1, o2, rfl⟩
  refine ⟨rfl, q, #[o1, o2], ?_⟩
  rw [sortWorldK_drewN, alloc_eq_grow, alloc_eq_grow, grow_grow]
  unfold sortWorldK
  rw [grow_grow]
  rfl

set_option maxRecDepth 100000 in
set_option maxHeartbeats 2000000 in
/-- slices.Clone -/
theorem clone_n (a : Option Addr) (n c : Nat) (l : List Nd) (w : World) (h : Sl 3 encN w a n l) (hn : n ≤ 1000) :
    Calls Tryd.prog 102 #[.slice a n c] w fun e w' => ∃ v, e = .returned v ∧ OwnL 3 encN 52 w.heap.size w' v l ∧ Ex w w' := by
  have HL := Lib.hid h.len
  cases a with
  | none =>
    have hn0 : n = 0 := by
      rcases h.2 with h0 | ⟨x, o, e, _⟩
      · exact h0
      · cases e
    have hl : l = [] := List.eq_nil_of_length_eq_zero (HL.out.trans hn0)
    subst hn0 hl
    clear h HL
    have hq : ∀ w : World, (binOp .eql 23 (.slice none 0 c) (.slice none 0 0)).run Tryd.prog w = .ok (.bool true) w := fun w => Lib.run_eql_slice_nil w 23 52 none 0 c 0 0 Tryd.underlying23
    go_enter Tryd.func102, Tryd.ntmps102
    go_wp2
    go_ret
    exact ⟨_, rfl, OwnL.nil _ _ _ _ _, Ex.refl _⟩
  | some A =>
    have q0 := Ex.new w (.cells #[] 52)
    have h0 := h.nx q0
    have own0 : OwnL 3 encN 52 w.heap.size (w.alloc (.cells #[] 52)) (.slice (some ⟨w.heap.size, 0, none⟩) 0 0) [] := OwnL.empty (Nat.le_refl _) rfl
    clear h
    have hq : ∀ w : World, (binOp .eql 23 (.slice (some A) n c) (.slice none 0 0)).run Tryd.prog w = .ok (.bool false) w := fun w => Lib.run_eql_slice_nil w 23 52 (some A) n c 0 0 Tryd.underlying23
    go_enter Tryd.func102, Tryd.ntmps102
    go_wp2_with (at_builtin; (refine wpList_append_rd (enc := encN) _ rfl _ _ 23 rfl w.heap.size 52 (.agg #[.int .i64 0, .string ByteArray.empty, .int .u32 0]) 3 32 Tryd.underlying23 Tryd.infoN rfl (by omega) (by omega) _ [] own0 rfl _ (some A) n c l h0 (fun h => by cases h) (fun _ => rfl) (by simp [encN, Value.oneCell']) rfl (by simp) (by omega) (by simp) ?_); intro v1 w1 own1 hch0 hch1)
    go_ret
    rw [List.nil_append] at own1
    exact ⟨_, rfl, own1, Chg.trans q0 hch1⟩
end Go.Proofs.YtbnbjiddffihoaaDoor

/- sort.SliceIsSorted and sort.SliceStable over nodes. -/
namespace Go.Proofs.YtbnbjiddffihoaaDoor
open Go.RowKit Go.Sort Go.Lib

noncomputable def Tryd.svT : TypeInfo := (Tryd.prog.info? 23).get (by kernel_rfl)
noncomputable def Tryd.svE : TypeInfo := (Tryd.prog.info? 52).get (by kernel_rfl)
theorem Tryd.svT_eq : Tryd.prog.info? 23 = some Tryd.svT := by kernel_rfl
theorem Tryd.svE_eq : Tryd.prog.info? 52 = some Tryd.svE := by kernel_rfl
theorem Tryd.svT_desc : Tryd.svT.desc = .slice 52 := by kernel_rfl
theorem Tryd.svT_packed : Tryd.prog.packed 23 = false := by kernel_rfl
theorem Tryd.svK (n : Nat) (h2 : 2 ≤ n) : Lib.swapperK n Tryd.svE 25 = 9 := by
  have a : Tryd.svE.hasPointers = true := by kernel_rfl
  have b : Tryd.svE.bytes = 32 := by kernel_rfl
  have c : (n == 0) = false := by simp; omega
  have d : (n == 1) = false := by simp; omega
  simp [Lib.swapperK, a, b, c, d]

theorem Tryd.glob : Tryd.prog.globals.size = 2 := by kernel_rfl
set_option maxRecDepth 100000 in
set_option maxHeartbeats 2000000 in
theorem issorted_tiny (a : Option Addr) (n c : Nat) (lf : Fn) (la lb : Array Value) (w : World) (hn : n ≤ 1) :
    Calls Tryd.prog 104 #[.iface 23 (.slice a n c), .func lf la lb] w fun e w' => e = .returned (.bool true) ∧ Ex w w' := by
  have hv := run_valueOf_slice (P := Tryd.prog) 23 52 Tryd.svT Tryd.svT_eq Tryd.svT_desc a n c w
  have hl := fun ad w ha => run_valueLen_slice (P := Tryd.prog) 23 52 Tryd.svT Tryd.svT_eq Tryd.svT_desc Tryd.svT_packed ad a n c w ha
  simp only [typeHandle, Tryd.glob] at hv hl
  have hlt : ¬ (0 : Int) < (n : Int) - 1 := by omega
  go_enter Tryd.func104, Tryd.ntmps104
  go_wp2
  rw [run_callFunc_extern Tryd.func126 (by kernel_rfl) (by kernel_rfl) (by kernel_rfl) (e := fun args => Extern.ReflectliteValue.unpack (args.getD 0 (.tuple #[]))) (by kernel_rfl),
    show Sem.run Tryd.prog ((fun args : Array Value => Extern.ReflectliteValue.unpack (args.getD 0 (.tuple #[]))) #[.iface 23 (.slice a n c)]) w = _ from hv]
  simp only [Result.andThen]
  rw [Oper.upon_value]
  go_wp2
  rw [run_callFunc_extern Tryd.func127 (by kernel_rfl) (by kernel_rfl) (by kernel_rfl) (e := Extern.ReflectliteValue.method (Extern.ReflectliteValue.valueError "reflectlite.Value.Len" 0) Extern.ReflectliteValue.len) (by kernel_rfl),
    hl _ _ (by simp)]
  simp only [Result.andThen]
  rw [Oper.upon_value]
  go_wp2
  refine wp_loop_rounds 1 ?_
  rw [rounds_succ]
  go_wp2
  go_ret
  exact ⟨rfl, ((Ex.refl w).alloc _).alloc _⟩

/-- what SliceIsSorted gives -/
def IsoPost (blk off n : Nat) (d : Array Nd) (w : World) (e : Ending) (w' : World) : Prop :=
  ∃ (b : Bool) (m : Nat) (os : Array Obj), e = .returned (.bool b) ∧ (b = true → ∀ i, 0 < i → i < n → ltN d[i]! d[i - 1]! = false) ∧ w' = sortWorldK encN 3 w blk off m d os
set_option maxRecDepth 100000 in
set_option maxHeartbeats 4000000 in
theorem issorted_n (blk off B n c : Nat) (d : Array Nd) (w : World) (hd : d.size = n) (hH : HoldsK encN 3 w blk off d) (hblk : blk < w.heap.size) (hbox : w.cell? ⟨B, 0, none⟩ = some (.slice (some ⟨blk, off, none⟩) n c)) (hne : B ≠ blk) (hn0 : 1 ≤ n) (hn : n < 4611686018427387904) :
    Calls Tryd.prog 104 #[.iface 23 (.slice (some ⟨blk, off, none⟩) n c), .func (.func 103) #[] #[.pointer (some ⟨B, 0, none⟩)]] w
      (IsoPost blk off n d w) := by
  have hv := run_valueOf_slice (P := Tryd.prog) 23 52 Tryd.svT Tryd.svT_eq Tryd.svT_desc (some ⟨blk, off, none⟩) n c w
  have hl := fun ad w ha => run_valueLen_slice (P := Tryd.prog) 23 52 Tryd.svT Tryd.svT_eq Tryd.svT_desc Tryd.svT_packed ad (some ⟨blk, off, none⟩) n c w ha
  simp only [typeHandle, Tryd.glob] at hv hl
  have LG := lessg_n blk off B n c d w hd hH hblk hbox hne hn
  have HLG := Lib.hid LG
  have HD := Lib.hid hd
  have hW : ∀ o1 o2 : Obj, (w.alloc o1).alloc o2 = sortWorldK encN 3 w blk off 0 d #[o1, o2] := fun o1 o2 => by
    have : sortWorldK encN 3 w blk off 0 d #[] = w := sortWorldK_start encN 3 w blk off d hH
    rw [alloc_eq_grow, alloc_eq_grow, grow_grow]
    unfold sortWorldK at this ⊢
    rw [grow_empty] at this
    rw [this]
    rfl
  have HW := Lib.hid hW
  have eg : ∀ args w, (callFunc 103 args).run Tryd.prog w = .ok (.enter 103 args) w := enters_of Tryd.func103 (by kernel_rfl) rfl
  clear hH hd LG hW hbox
  go_enter Tryd.func104, Tryd.ntmps104
  go_wp2
  rw [run_callFunc_extern Tryd.func126 (by kernel_rfl) (by kernel_rfl) (by kernel_rfl) (e := fun args => Extern.ReflectliteValue.unpack (args.getD 0 (.tuple #[]))) (by kernel_rfl),
    show Sem.run Tryd.prog ((fun args : Array Value => Extern.ReflectliteValue.unpack (args.getD 0 (.tuple #[]))) #[.iface 23 (.slice (some ⟨blk, off, none⟩) n c)]) w = _ from hv]
  simp only [Result.andThen]
  rw [Oper.upon_value]
  go_wp2
  rw [run_callFunc_extern Tryd.func127 (by kernel_rfl) (by kernel_rfl) (by kernel_rfl) (e := Extern.ReflectliteValue.method (Extern.ReflectliteValue.valueError "reflectlite.Value.Len" 0) Extern.ReflectliteValue.len) (by kernel_rfl),
    hl _ _ (by simp)]
  simp only [Result.andThen]
  rw [Oper.upon_value]
  clear hv hl
  go_wp2
  go_loopw [7] (fun vi wr => ∃ (i m : Nat) (os : Array Obj), vi = .int .i64 i ∧ i + 1 ≤ n ∧ (∀ j, i < j → j < n → ltN d[j]! d[j - 1]! = false) ∧ wr = sortWorldK encN 3 w blk off m d os) (fun vi _ => (intOf vi).toNat)
  case atStart => exact ⟨n - 1, 0, _, by rw [Int.natCast_sub hn0]; rfl, by omega, by intro j h1 h2; omega, HW.out _ _⟩
  case round =>
    obtain ⟨i, m, os, rfl, hin, hso, hwr⟩ := hrel
    have HSO := Lib.hid hso
    have HWR := Lib.hid hwr
    clear hso hwr
    by_cases hi0 : 0 < i
    · have hi1 : (0 : Int) < (i : Int) := by omega
      have hl := HLG.out m os d rfl i (i - 1) (by rw [HD.out]; omega) (by rw [HD.out]; omega)
      rw [← HWR.out, show (((i - 1 : Nat) : Int)) = (i : Int) - 1 by omega] at hl
      cases hlv : ltN d[i]! d[i - 1]! with
      | true =>
        rw [hlv] at hl
        clear hlv
        go_wp2_with fail
        refine hl.mono ?_
        rintro e w1 ⟨rfl, q, os', hw1⟩
        have HW1 := Lib.hid hw1
        clear hw1 hl
        go_wp2_with fail
        go_ret
        exact ⟨false, m + q, os ++ os', rfl, fun h => (by cases h), HW1.out⟩
      | false =>
        rw [hlv] at hl
        have HLV := Lib.hid hlv
        clear hlv
        go_wp2_with fail
        refine hl.mono ?_
        rintro e w1 ⟨rfl, q, os', hw1⟩
        have HW1 := Lib.hid hw1
        clear hw1 hl
        go_wp2
        go_roundw
        case rel => exact ⟨i - 1, m + q, os ++ os', by rw [show ((i - 1 : Nat) : Int) = (i : Int) - 1 by omega], by omega, fun j h1 h2 => by
          rcases Nat.lt_or_ge i j with h | h
          · exact HSO.out j h h2
          · obtain rfl : j = i := by omega
            exact HLV.out, HW1.out⟩
        case measure => simp [intOf]; omega
    · have hi1 : ¬ (0 : Int) < (i : Int) := by omega
      go_wp2
      go_ret
      exact ⟨true, m, os, rfl, fun _ j h1 h2 => HSO.out j (by omega) h2, HWR.out⟩

theorem swaps_n (blk off n c : Nat) : SwapSwapsK Tryd.prog 147 #[.slice (some ⟨blk, off, none⟩) n c, .pointer (some ⟨2, 52, none⟩)] encN 3 blk off n := by
  have h := swapSwapsK_of_literal (P := Tryd.prog) false 147
    (fun args W => run_callFunc_extern Tryd.func147 (by kernel_rfl) (by kernel_rfl) (by kernel_rfl) (e := Extern.ReflectliteSwapper.swap false) (by kernel_rfl) args W)
    52 Tryd.svE Tryd.svE_eq encN 3 (fun _ => rfl) (by kernel_rfl) (fun _ => by kernel_rfl) (fun x v hv => by simp [encN] at hv; rcases hv with rfl | rfl | rfl <;> rfl) blk off n c
  rw [typeHandle, Tryd.glob] at h
  exact h
theorem swapper_n (blk off n c : Nat) (hn2 : 2 ≤ n) (w : World) : (Extern.ReflectliteSwapper.swapper "internal/reflectlite" (Extern.ReflectliteValue.valueError "Swapper") #[.iface 23 (.slice (some ⟨blk, off, none⟩) n c)]).run Tryd.prog w
    = .ok (.func (.func 147) #[] #[.slice (some ⟨blk, off, none⟩) n c, .pointer (some ⟨2, 52, none⟩)]) w := by
  have h := run_swapper_slice (P := Tryd.prog) 23 52 Tryd.svT Tryd.svE Tryd.svT_eq Tryd.svT_desc Tryd.svE_eq 25 (fun _ => by kernel_rfl) (some ⟨blk, off, none⟩) n c 147 (by rw [Tryd.svK n hn2]; kernel_rfl) w
  rw [if_neg (by rw [Tryd.svK n hn2]; omega), typeHandle, Tryd.glob] at h
  exact h
set_option maxRecDepth 100000 in
set_option maxHeartbeats 4000000 in
theorem slicestable_n (blk off B n c : Nat) (d : Array Nd) (w : World) (hd : d.size = n) (hH : HoldsK encN 3 w blk off d) (hblk : blk < w.heap.size) (hbox : w.cell? ⟨B, 0, none⟩ = some (.slice (some ⟨blk, off, none⟩) n c)) (hne : B ≠ blk) (hn2 : 2 ≤ n) (hn : n < 1152921504606846976) :
    Calls Tryd.prog 105 #[.iface 23 (.slice (some ⟨blk, off, none⟩) n c), .func (.func 103) #[] #[.pointer (some ⟨B, 0, none⟩)]] w
      (SrtPost encN 3 w blk off fun d' => PermIn 0 n d d' ∧ SortedIn ltN 0 n d') := by
  have hv := run_valueOf_slice (P := Tryd.prog) 23 52 Tryd.svT Tryd.svT_eq Tryd.svT_desc (some ⟨blk, off, none⟩) n c w
  have hl := fun ad w ha => run_valueLen_slice (P := Tryd.prog) 23 52 Tryd.svT Tryd.svT_eq Tryd.svT_desc Tryd.svT_packed ad (some ⟨blk, off, none⟩) n c w ha
  have hs := fun w => swapper_n blk off n c hn2 w
  have HSW := Lib.hid (swaps_n blk off n c)
  simp only [typeHandle, Tryd.glob] at hv hl
  have LG := lessg_n blk off B n c d w hd hH hblk hbox hne (by omega)
  have hW : ∀ o1 o2 : Obj, (w.alloc o1).alloc o2 = sortWorldK encN 3 w blk off 0 d #[o1, o2] := fun o1 o2 => by
    have : sortWorldK encN 3 w blk off 0 d #[] = w := sortWorldK_start encN 3 w blk off d hH
    rw [alloc_eq_grow, alloc_eq_grow, grow_grow]
    unfold sortWorldK at this ⊢
    rw [grow_empty] at this
    rw [this]
    rfl
  have eg : ∀ args w, (callFunc 103 args).run Tryd.prog w = .ok (.enter 103 args) w := enters_of Tryd.func103 (by kernel_rfl) rfl
  have ST : Hid (∀ (o1 o2 : Obj), Calls Tryd.prog 129 #[dta 103 #[.pointer (some ⟨B, 0, none⟩)] 147 #[.slice (some ⟨blk, off, none⟩) n c, .pointer (some ⟨2, 52, none⟩)], .int .i64 n] ((w.alloc o1).alloc o2)
      (SrtPost encN 3 w blk off fun d' => PermIn 0 n d d' ∧ SortedIn ltN 0 n d')) := Lib.hid (fun o1 o2 => by
    rw [hW]
    have hsw : SwapSwapsK Tryd.prog 147 #[.slice (some ⟨blk, off, none⟩) n c, .pointer (some ⟨2, 52, none⟩)] encN 3 blk off d.size := by rw [hd]; exact HSW.out
    refine (stable_s (enc := encN) (kk := 3) (lt := ltN) (fun _ => rfl) swo_ltN 103 #[.pointer (some ⟨B, 0, none⟩)] 147 #[.slice (some ⟨blk, off, none⟩) n c, .pointer (some ⟨2, 52, none⟩)] eg blk off n d _ hd (LG.on hblk 0 d _ rfl) hsw (holdsK_sortWorldK encN 3 w blk off 0 d d _ hblk hH rfl) (lt_sortWorldK encN 3 w blk off 0 d _ hblk) hn).mono ?_
    rintro e w' ⟨rfl, m, os, d', hp, rfl⟩
    exact ⟨rfl, 0 + m, #[o1, o2] ++ os, d', hp, sortWorldK_on encN 3 w blk off 0 m d d' _ os hblk (by rw [hp.1.1])⟩)
  clear hH hd LG hW hbox HSW eg
  go_enter Tryd.func105, Tryd.ntmps105
  go_wp2
  rw [run_callFunc_extern Tryd.func126 (by kernel_rfl) (by kernel_rfl) (by kernel_rfl) (e := fun args => Extern.ReflectliteValue.unpack (args.getD 0 (.tuple #[]))) (by kernel_rfl),
    show Sem.run Tryd.prog ((fun args : Array Value => Extern.ReflectliteValue.unpack (args.getD 0 (.tuple #[]))) #[.iface 23 (.slice (some ⟨blk, off, none⟩) n c)]) w = _ from hv]
  simp only [Result.andThen]
  rw [Oper.upon_value]
  go_wp2
  rw [run_callFunc_extern Tryd.func128 (by kernel_rfl) (by kernel_rfl) (by kernel_rfl) (e := Extern.ReflectliteSwapper.swapper "internal/reflectlite" (Extern.ReflectliteValue.valueError "Swapper")) (by kernel_rfl), hs]
  simp only [Result.andThen]
  rw [Oper.upon_value]
  go_wp2
  rw [run_callFunc_extern Tryd.func127 (by kernel_rfl) (by kernel_rfl) (by kernel_rfl) (e := Extern.ReflectliteValue.method (Extern.ReflectliteValue.valueError "reflectlite.Value.Len" 0) Extern.ReflectliteValue.len) (by kernel_rfl),
    hl _ _ (by simp)]
  simp only [Result.andThen]
  rw [Oper.upon_value]
  clear hv hl hs
  go_wp2_with fail
  refine (ST.out _ _).mono ?_
  rintro e w' ⟨rfl, m, os, d', hp, hw⟩
  have HP := Lib.hid hp
  have HW := Lib.hid hw
  clear hp hw ST
  go_wp2
  go_end0
  exact ⟨rfl, m, os, d', HP.out, HW.out⟩
end Go.Proofs.YtbnbjiddffihoaaDoor

/- Sort of the package roster. -/
namespace Go.Proofs.YtbnbjiddffihoaaDoor
open Go.RowKit Go.Sort Go.Lib

theorem flatK_list (d : Array Nd) : flatK encN 3 d = (d.toList.flatMap encN).toArray := by
  have hlen : (d.toList.flatMap encN).length = d.size * 3 := by rw [flatW_len (sz := 3) (fun _ => rfl), Array.length_toList]
  refine ext_get! (by rw [size_flatK]; simp [hlen]) fun t ht => ?_
  rw [size_flatK] at ht
  rw [get_flatK encN 3 d t ht]
  have hd : t / 3 < d.size := by omega
  have hm : t % 3 < (encN d[t / 3]!).length := by show t % 3 < 3; omega
  have h1 : d.toList[t / 3]? = some d[t / 3]! := by
    rw [getElem!_pos d (t / 3) hd, List.getElem?_eq_getElem (by simpa using hd)]
    simp
  have h := flat_at (enc := encN) (sz := 3) (fun _ => rfl) d.toList (t / 3) d[t / 3]! h1 (t % 3) _ (List.getElem?_eq_getElem hm)
  rw [show t / 3 * 3 + t % 3 = t by omega] at h
  rw [getElem!_pos (encN d[t / 3]!) (t % 3) hm]
  have ht' : t < (d.toList.flatMap encN).length := by omega
  rw [getElem!_pos _ t (by simpa using ht')]
  rw [List.getElem?_eq_getElem ht'] at h
  simpa using (Option.some.inj h).symm
theorem own_holds {e : TypeId} {base g n cap : Nat} {w : World} {l : List Nd} (h : OwnL 3 encN e base w (.slice (some ⟨g, 0, none⟩) n cap) l) : HoldsK encN 3 w g 0 l.toArray := by
  rcases h.2 with ⟨h1, _⟩ | ⟨g', cap', cur, e1, e2, e3, e4, e5, e6, e7⟩
  · cases h1
  · cases e1
    intro j hj
    rw [flatK_list] at hj ⊢
    have hj' : j < (l.flatMap encN).length := by simpa using hj
    refine ⟨?_, by simp [World.frozen?, e3]⟩
    have h1 : (cur.toList.take (l.length * 3))[j]? = some (l.flatMap encN)[j] := by rw [e7]; exact List.getElem?_eq_getElem hj'
    rw [flatW_len (sz := 3) (fun _ => rfl)] at hj'
    rw [List.getElem?_take, if_pos hj'] at h1
    have h2 : cur[j]? = some (l.flatMap encN)[j] := by simpa using h1
    rw [getElem!_pos _ j hj]
    simp [World.cell?, e3, h2]
theorem sortWorldK_heap {w : World} {g m : Nat} {cur : Array Value} {e : TypeId} {fr : Nat × Nat} (d : Array Nd) (os : Array Obj) (h : w.heap[g]? = some (.cells cur e fr)) :
    (sortWorldK encN 3 w g 0 m d os).heap[g]? = some (.cells (putCells id 0 (flatK encN 3 d) cur) e fr) := by
  have hg : g < (w.heap.modify g (onCells (putCells id 0 (flatK encN 3 d)))).size := by simp; exact heap_lt h
  show ((w.heap.modify g (onCells (putCells id 0 (flatK encN 3 d)))) ++ os)[g]? = _
  rw [Array.getElem?_append_left hg, Array.getElem?_modify, if_pos rfl, h]
  rfl
theorem sortWorldK_exb (w : World) (g m : Nat) (d : Array Nd) (os : Array Obj) : Exb g w (sortWorldK encN 3 w g 0 m d os) := by
  refine ⟨rfl, rfl, rfl, ?_, fun k hk => ?_⟩
  · show _ ≤ ((w.heap.modify g (onCells (putCells id 0 (flatK encN 3 d)))) ++ os).size
    simp
  · have hg : k < (w.heap.modify g (onCells (putCells id 0 (flatK encN 3 d)))).size := by simp; exact hk.1
    show ((w.heap.modify g (onCells (putCells id 0 (flatK encN 3 d)))) ++ os)[k]? = _
    rw [Array.getElem?_append_left hg, Array.getElem?_modify, if_neg (fun h => hk.2 h.symm)]
theorem own_sorted {e : TypeId} {base g n cap m : Nat} {w : World} {l : List Nd} (h : OwnL 3 encN e base w (.slice (some ⟨g, 0, none⟩) n cap) l) (d : Array Nd) (hd : d.size = l.length) (os : Array Obj) :
    OwnL 3 encN e base (sortWorldK encN 3 w g 0 m d os) (.slice (some ⟨g, 0, none⟩) n cap) d.toList := by
  rcases h.2 with ⟨h1, _⟩ | ⟨g', cap', cur, e1, e2, e3, e4, e5, e6, e7⟩
  · cases h1
  · cases e1
    have hl : d.toList.length = l.length := by rw [Array.length_toList, hd]
    refine ⟨by rw [flatW_len (sz := 3) (fun _ => rfl)], .inr ⟨g, cap, _, by rw [hl], e2, sortWorldK_heap d os e3, by rw [hl]; exact e4, e5, by simpa [putCells] using e6, ?_⟩⟩
    have hf : (flatK encN 3 d).size = l.length * 3 := by rw [size_flatK, hd]
    rw [hl]
    apply List.ext_getElem?
    intro j
    rw [List.getElem?_take]
    by_cases hj : j < l.length * 3
    · rw [if_pos hj]
      have hjc : j < cur.size := by
        have := Nat.mul_le_mul_right 3 e4
        omega
      have hp : (putCells id 0 (flatK encN 3 d) cur)[j]? = some (flatK encN 3 d)[j]! := by
        unfold putCells
        rw [Array.getElem?_mapIdx, Array.getElem?_eq_getElem hjc, Option.map_some, if_pos (by omega)]
        rfl
      rw [Array.getElem?_toList, hp, getElem!_pos _ j (by omega)]
      have hx := congrArg Array.toList (flatK_list d)
      have : (d.toList.flatMap encN) = (flatK encN 3 d).toList := by rw [flatK_list]
      rw [this, List.getElem?_eq_getElem (by rw [Array.length_toList]; omega)]
      simp
    · rw [if_neg hj]
      symm
      rw [List.getElem?_eq_none]
      rw [flatW_len (sz := 3) (fun _ => rfl), hl]; omega

/-- what Sort gives -/
def SoPost (l : List Nd) (w : World) (e : Ending) (w' : World) : Prop :=
  ∃ (v : Value) (S : List Nd), e = .returned v ∧ OwnL 3 encN 52 w.heap.size w' v S ∧ (S.Perm l ∧ AscN S) ∧ Ex w w'
theorem asc_of_adj {l : List Nd} (h : ∀ i, 0 < i → i < l.length → ltN l.toArray[i]! l.toArray[i - 1]! = false) : AscN l := by
  have : ∀ (k i : Nat), i + k < l.length → ltN l.toArray[i + k]! l.toArray[i]! = false := by
    intro k
    induction k with
    | zero => intro i _; exact swo_ltN.irrefl _
    | succ k ih =>
      intro i hi
      have h1 := h (i + (k + 1)) (by omega) hi
      rw [show i + (k + 1) - 1 = i + k by omega] at h1
      exact swo_ltN.ntrans _ _ _ h1 (ih i (by omega))
  unfold AscN
  rw [List.pairwise_iff_getElem]
  intro i j hi hj hij
  have := this (j - i) i (by omega)
  rw [show i + (j - i) = j by omega, getElem!_pos _ j (by simpa using hj), getElem!_pos _ i (by simpa using hi)] at this
  simpa using this
theorem asc_of_sorted {n : Nat} {d : Array Nd} (h : SortedIn ltN 0 n d) (hn : d.size = n) : AscN d.toList := by
  unfold AscN
  rw [List.pairwise_iff_getElem]
  intro i j hi hj hij
  have hi' : i < d.size := by simpa using hi
  have hj' : j < d.size := by simpa using hj
  have := h i j (Nat.zero_le _) hij (by omega)
  rw [getElem!_pos d j hj', getElem!_pos d i hi'] at this
  simpa using this
theorem perm_of_permIn {n : Nat} {l : List Nd} {d : Array Nd} (h : PermIn 0 n l.toArray d) (hn : l.length = n) : d.toList.Perm l := by
  have h3 := h.2.2
  have hs : d.size = n := by rw [h.1]; simpa using hn
  rw [show d.extract 0 n = d by rw [← hs]; exact Array.extract_size, show l.toArray.extract 0 n = l.toArray by rw [← hn]; simp] at h3
  simpa using h3
theorem asc_small {l : List Nd} (h : l.length ≤ 1) : AscN l := by
  match l, h with
  | [], _ => exact List.Pairwise.nil
  | [x], _ => exact List.pairwise_singleton _ _

set_option maxRecDepth 100000 in
set_option maxHeartbeats 4000000 in
theorem sort_p (a : Option Addr) (n c : Nat) (l : List Nd) (w : World) (h : Sl 3 encN w a n l) (hn : n ≤ 1000) :
    Calls Tryd.prog 64 #[.slice a n c] w (SoPost l w) := by
  have HL := Lib.hid h.len
  go_enter Tryd.func64, Tryd.ntmps64
  go_wp2_with fail
  (with_reducible refine (clone_n _ _ _ _ _ h hn).mono ?_)
  rintro e w1 ⟨v1, rfl, own1, k1⟩
  clear h
  have O1 := Lib.hid own1
  have K1 := Lib.hid k1
  by_cases hn2 : n ≤ 1
  · obtain ⟨a1, c1, rfl, _, _, _, _⟩ := own1.slf (fun _ => rfl)
    rw [HL.out] at own1 ⊢
    have B2 := Blk.new w1 [.slice a1 n c1] 23
    have k2 := Ex.new w1 (.cells #[.slice a1 n c1] 23)
    obtain ⟨w2, hw2⟩ : ∃ w2, w2 = w1.alloc (.cells #[.slice a1 n c1] 23) := ⟨_, rfl⟩
    obtain ⟨B, hB⟩ : ∃ B, B = w1.heap.size := ⟨_, rfl⟩
    have B2 : Blk w2 B [.slice a1 n c1] 23 := by rw [hw2, hB]; exact B2
    rw [← hw2] at k2
    have HW2 := Lib.hid hw2
    have HB := Lib.hid hB
    have q0 := B2.cell 0 _ rfl
    have K2 := Lib.hid (k1.nx k2)
    have O2 := Lib.hid (own1.nx k2)
    clear own1 k1 hw2 hB k2
    go_wp2_with fail
    rw [← HB.out, ← HW2.out]
    go_wp2_with fail
    (with_reducible refine (issorted_tiny _ _ _ _ _ _ _ hn2).mono ?_)
    rintro e w3 ⟨rfl, k3⟩
    have B3 := B2.nx k3
    have q3 := B3.cell 0 _ rfl
    have O3 := Lib.hid (O2.out.nx k3)
    have K3 := Lib.hid (K2.out.nx k3)
    clear q0 B2 B3 k3
    go_wp2_with fail
    go_ret
    exact ⟨_, l, rfl, O3.out, ⟨List.Perm.refl _, asc_small (by rw [HL.out]; exact hn2)⟩, K3.out⟩
  · obtain ⟨g, cap, rfl, hgw⟩ : ∃ g cap, v1 = .slice (some ⟨g, 0, none⟩) n cap ∧ w.heap.size ≤ g := by
      rcases own1.2 with ⟨_, h1⟩ | ⟨g', cap', cur, e1, e2, _⟩
      · have := HL.out; omega
      · exact ⟨g', cap', by rw [e1, HL.out], e2⟩
    have hgl : g < w1.heap.size := (own1.lt g rfl).2
    have B2 := Blk.new w1 [.slice (some ⟨g, 0, none⟩) n cap] 23
    have k2 := Ex.new w1 (.cells #[.slice (some ⟨g, 0, none⟩) n cap] 23)
    obtain ⟨w2, hw2⟩ : ∃ w2, w2 = w1.alloc (.cells #[.slice (some ⟨g, 0, none⟩) n cap] 23) := ⟨_, rfl⟩
    obtain ⟨B, hB⟩ : ∃ B, B = w1.heap.size := ⟨_, rfl⟩
    have B2 : Blk w2 B [.slice (some ⟨g, 0, none⟩) n cap] 23 := by rw [hw2, hB]; exact B2
    rw [← hw2] at k2
    have hBg : B ≠ g := by omega
    have hwB : w.heap.size ≤ B := by have := k1.size; omega
    have HW2 := Lib.hid hw2
    have HB := Lib.hid hB
    have q0 := B2.cell 0 _ rfl
    have K2 := Lib.hid (k1.nx k2)
    have O2 := Lib.hid (own1.nx k2)
    have hg2 : g < w2.heap.size := by have := k2.size; omega
    have B2 := Lib.hid B2
    clear own1 k1 hw2 hB k2
    go_wp2_with fail
    rw [← HB.out, ← HW2.out]
    go_wp2_with fail
    (with_reducible refine (issorted_n g 0 B n cap l.toArray w2 (by simpa using HL.out) (own_holds O2.out) hg2 q0 hBg (by omega) (by omega)).mono ?_)
    rintro e w3 ⟨b, m, os, rfl, hb, hw3⟩
    have O3 := own_sorted (m := m) O2.out l.toArray (by simp) os
    have kx := sortWorldK_exb w2 g m l.toArray os
    rw [← hw3] at O3 kx
    have B3 := B2.out.nxb hBg kx
    have q3 := B3.cell 0 _ rfl
    have K3 := Lib.hid (Ex.of_exb ((K2.out.b g).nxb kx) hgw)
    have hg3 : g < w3.heap.size := by have := kx.size; omega
    have O3 := Lib.hid O3
    have B3 := Lib.hid B3
    clear hw3 q0 B2 kx
    cases b with
    | true =>
      have HAS : Hid (AscN l) := Lib.hid (asc_of_adj (fun i h1 h2 => hb rfl i h1 (by rw [← HL.out]; exact h2)))
      clear hb
      go_wp2_with fail
      go_ret
      exact ⟨_, l, rfl, O3.out, ⟨List.Perm.refl _, HAS.out⟩, K3.out⟩
    | false =>
      clear hb
      go_wp2_with fail
      (with_reducible refine (slicestable_n g 0 B n cap l.toArray w3 (by simpa using HL.out) (own_holds O3.out) hg3 q3 hBg (by omega) (by omega)).mono ?_)
      rintro e w4 ⟨rfl, m, os, d, ⟨hp, hso⟩, hw4⟩
      have hd : d.size = l.length := by rw [hp.1]; simp
      have O4 := own_sorted (m := m) O3.out d hd os
      have kx := sortWorldK_exb w3 g m d os
      rw [← hw4] at O4 kx
      have B4 := B3.out.nxb hBg kx
      have q4 := B4.cell 0 _ rfl
      have K4 := Lib.hid (Ex.of_exb ((K3.out.b g).nxb kx) hgw)
      have O4 := Lib.hid O4
      have HP : Hid (d.toList.Perm l ∧ AscN d.toList) := Lib.hid ⟨perm_of_permIn hp HL.out, asc_of_sorted hso (by rw [hd]; exact HL.out)⟩
      clear hw4 q3 B4 kx hp hso hd
      go_wp2_with fail
      go_ret
      exact ⟨_, d.toList, rfl, O4.out, HP.out, K4.out⟩
end Go.Proofs.YtbnbjiddffihoaaDoor

/- slices.IndexFunc and ContainsFunc over nodes; Find and Check of the package roster. -/
namespace Go.Proofs.YtbnbjiddffihoaaDoor
open Go.RowKit

/-- a predicate on nodes: it may make blocks -/
def PredG (g : Nat) (lb : Array Value) (p : Nd → Bool) (w : World) : Prop := ∀ (x : Nd) (w' : World), Ex w w' → Calls Tryd.prog g (#[x.val] ++ lb) w' fun e w'' => e = .returned (.bool (p x)) ∧ Ex w' w''
theorem PredG.nx {g : Nat} {lb : Array Value} {p : Nd → Bool} {w w' : World} (h : PredG g lb p w) (k : Ex w w') : PredG g lb p w' := fun x w'' k2 => h x w'' (k.nx k2)
def idxB (p : Nd → Bool) (l : List Nd) : Int := if l.findIdx p < l.length then (l.findIdx p : Int) else -1
theorem idxB_of {p : Nd → Bool} {l : List Nd} {k : Nat} {y : Nd} (hy : l[k]? = some y) (hp : p y = true) (hno : ∀ j z, j < k → l[j]? = some z → p z = false) : idxB p l = k ∧ k < l.length := by
  have hk := (List.getElem?_eq_some_iff.1 hy)
  have hk1 := hk.1
  have : l.findIdx p = k := by
    rw [List.findIdx_eq hk.1]
    refine ⟨by rw [hk.2]; exact hp, fun j hj => ?_⟩
    exact hno j _ hj (List.getElem?_eq_getElem (by omega))
  unfold idxB
  rw [this, if_pos hk.1]
  exact ⟨rfl, hk.1⟩
theorem idxB_none {p : Nd → Bool} {l : List Nd} (hno : ∀ j z, j < l.length → l[j]? = some z → p z = false) : idxB p l = -1 := by
  unfold idxB
  rw [if_neg]
  rw [List.findIdx_lt_length]
  rintro ⟨x, hx, hp⟩
  obtain ⟨j, hj⟩ := List.mem_iff_getElem?.1 hx
  rw [hno j x (List.getElem?_eq_some_iff.1 hj).1 hj] at hp
  cases hp
theorem idxB_any (p : Nd → Bool) (l : List Nd) : decide (0 ≤ idxB p l) = l.any p := by
  unfold idxB
  split
  · rename_i h
    rw [List.findIdx_lt_length] at h
    have h1 : l.any p = true := List.any_eq_true.2 h
    rw [h1]; simp
  · rename_i h
    rw [List.findIdx_lt_length] at h
    have h1 : l.any p = false := by
      rw [List.any_eq_false]
      intro x hx hp
      exact h ⟨x, hx, hp⟩
    rw [h1]; simp
def IdRel (p : Nd → Bool) (l : List Nd) (n : Nat) (w : World) (i : Value) (wr : World) : Prop :=
  ∃ k : Nat, k ≤ n ∧ i = .int .i64 k ∧ Ex w wr ∧ ∀ j z, j < k → l[j]? = some z → p z = false

set_option maxRecDepth 100000 in
set_option maxHeartbeats 2000000 in
theorem idxf_n (g : Nat) (lb : Array Value) (p : Nd → Bool) (eg : ∀ args w, (callFunc g args).run Tryd.prog w = .ok (.enter g args) w) (a : Option Addr) (n c : Nat) (l : List Nd) (w : World) (h : Sl 3 encN w a n l) (hn : n ≤ 1000000) (hp : PredG g lb p w) :
    Calls Tryd.prog 122 #[.slice a n c, .func (.func g) #[] lb] w fun e w' => e = .returned (.int .i64 (idxB p l)) ∧ Ex w w' := by
  have HL := Lib.hid h.len
  have HP := Lib.hid hp
  have hs := Lib.hid h
  clear h hp
  go_enter Tryd.func122, Tryd.ntmps122
  go_wp2
  go_loopw [8] (fun i wr => IdRel p l n w i wr) (fun i _ => n - (intOf i).toNat)
  case atStart => exact ⟨0, by omega, rfl, Ex.refl _, by intro j z h; omega⟩
  case round =>
    obtain ⟨k, hk, rfl, kw, hno⟩ := hrel
    have HNO := Lib.hid hno
    clear hno
    obtain ⟨wo, rfl⟩ : ∃ wo : World, wo = wr := ⟨_, rfl⟩
    by_cases hlt : k < n
    · obtain ⟨x1, o1, y, rfl, hx1, hy, hc1⟩ := (hs.out.nx kw).at hlt
      have e0 : wo.cell? ⟨x1, o1 + k * 3, none⟩ = some (.int .i64 y.id) := hc1 0 _ rfl
      have e1 : wo.cell? ⟨x1, o1 + k * 3 + 1, none⟩ = some (.string y.key) := hc1 1 _ rfl
      have e2 : wo.cell? ⟨x1, o1 + k * 3 + 1 + 1, none⟩ = some (.int .u32 y.word) := by simpa [Nat.add_assoc] using hc1 2 _ rfl
      have e2' : wo.cell? ⟨x1, o1 + k * 3 + 2, none⟩ = some (.int .u32 y.word) := hc1 2 _ rfl
      have HY := Lib.hid hy
      have hc := HP.out y wo kw
      have KW := Lib.hid kw
      clear hc1 hy kw
      unfold Nd.val at hc
      go_wp2_with fail
      refine hc.mono ?_
      rintro e w2 ⟨rfl, k2⟩
      have K2 := Lib.hid (KW.out.nx k2)
      clear hc k2 e0 e1 e2 e2'
      cases hb : p y with
      | true =>
        have HI : Hid (idxB p l = k) := Lib.hid (idxB_of HY.out hb HNO.out).1
        clear hb
        go_wp2_with fail
        go_ret
        exact ⟨by rw [HI.out]; rfl, K2.out⟩
      | false =>
        have HB := Lib.hid hb
        clear hb
        go_wp2_with fail
        refine ⟨⟨k + 1, by omega, by go_num, K2.out, fun j z hj hz => ?_⟩, by simp [intOf]; omega⟩
        rcases Nat.lt_or_ge j k with h | h
        · exact HNO.out j z h hz
        · obtain rfl : j = k := by omega
          rw [Option.some.inj (hz.symm.trans HY.out)]
          exact HB.out
    · obtain rfl : k = n := by omega
      have HI : Hid (idxB p l = -1) := Lib.hid (idxB_none (fun j z hj hz => HNO.out j z (by rw [← HL.out]; exact hj) hz))
      have KW := Lib.hid kw
      clear kw hk hlt
      go_wp2_with fail
      go_ret
      exact ⟨by rw [HI.out]; rfl, KW.out⟩
theorem contf_n (g : Nat) (lb : Array Value) (p : Nd → Bool) (eg : ∀ args w, (callFunc g args).run Tryd.prog w = .ok (.enter g args) w) (a : Option Addr) (n c : Nat) (l : List Nd) (w : World) (h : Sl 3 encN w a n l) (hn : n ≤ 1000000) (hp : PredG g lb p w) :
    Calls Tryd.prog 98 #[.slice a n c, .func (.func g) #[] lb] w fun e w' => e = .returned (.bool (l.any p)) ∧ Ex w w' := by
  have HA := Lib.hid (idxB_any p l)
  go_enter Tryd.func98, Tryd.ntmps98
  go_wp2_with fail
  (with_reducible refine (idxf_n g lb p eg _ _ _ _ _ h hn hp).mono ?_)
  rintro e w1 ⟨rfl, kk⟩
  clear h hp
  go_wp2_with fail
  go_ret
  exact ⟨by rw [← HA.out]; rfl, kk⟩

/-- Find -/
theorem find1_p (gx : Nat) (id : Int) (w : World) (hx : Blk w gx [.int .i64 id] 3) : PredG 123 #[.pointer (some ⟨gx, 0, none⟩)] (fun x => x.id == id) w := by
  intro x w' kk
  have q0 := (hx.nx kk).cell 0 _ rfl
  have hg := (hx.nx kk).lt
  have hne : ¬ gx = w'.heap.size := by omega
  unfold Nd.val
  clear hx kk
  go_enter Tryd.func123, Tryd.ntmps123
  go_wp2
  go_ret
  exact ⟨rfl, (Ex.refl _).alloc _⟩
theorem idxB_find (l : List Nd) (id : Int) : (∃ (k : Nat) (y : Nd), idxB (fun x => x.id == id) l = k ∧ k < l.length ∧ l[k]? = some y ∧ findN l id = (y, true)) ∨ (idxB (fun x => x.id == id) l = -1 ∧ findN l id = (Nd.zero, false)) := by
  unfold findN idxB
  by_cases h : l.findIdx (fun x => x.id == id) < l.length
  · refine .inl ⟨l.findIdx (fun x => x.id == id), l[l.findIdx (fun x => x.id == id)], by rw [if_pos h], h, List.getElem?_eq_getElem h, ?_⟩
    rw [List.find?_eq_getElem?_findIdx, List.getElem?_eq_getElem h]
  · refine .inr ⟨by rw [if_neg h], ?_⟩
    rw [List.find?_eq_getElem?_findIdx, List.getElem?_eq_none (by omega)]
/-- a node and a Boolean -/
def NbPost (r : Nd × Bool) (w : World) (e : Ending) (w' : World) : Prop := e = .returned (.tuple #[r.1.val, .bool r.2]) ∧ Ex w w'
set_option maxRecDepth 100000 in
set_option maxHeartbeats 2000000 in
theorem find_p (a : Option Addr) (n c : Nat) (l : List Nd) (id : Int) (w : World) (h : Sl 3 encN w a n l) (hn : n ≤ 1000000) :
    Calls Tryd.prog 89 #[.slice a n c, .int .i64 id] w (NbPost (findN l id) w) := by
  have HL := Lib.hid h.len
  have hs := Lib.hid h
  have k1 := Ex.new w (.cells #[.int .i64 id] 3)
  have B1 := Blk.new w [.int .i64 id] 3
  have k2 := k1.alloc (.cells #[.int .i64 0, .string ⟨#[]⟩, .int .u32 0] 52)
  have B2 := Blk.new (w.alloc (.cells #[.int .i64 id] 3)) [.int .i64 0, .string ⟨#[]⟩, .int .u32 0] 52
  have B1 := B1.nx (Ex.new _ (.cells #[.int .i64 0, .string ⟨#[]⟩, .int .u32 0] 52))
  obtain ⟨w1, hw1⟩ : ∃ w1, w1 = (w.alloc (.cells #[.int .i64 id] 3)).alloc (.cells #[.int .i64 0, .string ⟨#[]⟩, .int .u32 0] 52) := ⟨_, rfl⟩
  obtain ⟨g, hg⟩ : ∃ g, g = w.heap.size + 1 := ⟨_, rfl⟩
  obtain ⟨gi, hgi⟩ : ∃ gi, gi = w.heap.size := ⟨_, rfl⟩
  have B2 : Blk w1 g [.int .i64 0, .string ⟨#[]⟩, .int .u32 0] 52 := by rw [hw1, hg]; simpa using B2
  have B1 : Blk w1 gi [.int .i64 id] 3 := by rw [hw1, hgi]; exact B1
  rw [← hw1] at k2
  have hgn : w.heap.size ≤ g := by omega
  have eg : ∀ args w, (callFunc 123 args).run Tryd.prog w = .ok (.enter 123 args) w := enters_of Tryd.func123 (by kernel_rfl) rfl
  have HW1 := Lib.hid hw1
  have HG := Lib.hid hg
  have HGI := Lib.hid hgi
  have EG := Lib.hid eg
  clear h hw1 hg hgi k1 eg
  go_enter Tryd.func89, Tryd.ntmps89
  go_upto_region 1 with fail
  rw [← HG.out, ← HW1.out, ← HGI.out]
  go_wp2_with fail
  (with_reducible refine (idxf_n 123 #[.pointer (some ⟨gi, 0, none⟩)] (fun x => x.id == id) EG.out _ _ _ _ _ (hs.out.nx k2) hn (find1_p gi id w1 B1)).mono ?_)
  rintro e w3 ⟨rfl, k3⟩
  have B3 := B2.nx k3
  have q0 := B3.cell 0 _ rfl
  have q1 := B3.cell 1 _ rfl
  have q2 := B3.cell 2 _ rfl
  have z0 := B3.free 0
  have z1 := B3.free 1
  have z2 := B3.free 2
  have kk := k2.nx k3
  have KE : Hid (∀ v0 v1 v2, Ex w (((w3.setCell ⟨g, 0, none⟩ v0).setCell ⟨g, 1, none⟩ v1).setCell ⟨g, 2, none⟩ v2)) := Lib.hid (fun v0 v1 v2 => ((kk.setNew (p := ⟨g, 0, none⟩) _ hgn).setNew (p := ⟨g, 1, none⟩) _ hgn).setNew (p := ⟨g, 2, none⟩) _ hgn)
  have hgw := B3.lt
  rcases idxB_find l id with ⟨k, y, hi, hk, hy, hf⟩ | ⟨hi, hf⟩
  · rw [hi]
    have HF := Lib.hid hf
    obtain ⟨x1, o1, y', ha, hx1, hy', hc1⟩ := (hs.out.nx kk).at (j := k) (by rw [← HL.out]; exact hk)
    obtain rfl : y = y' := Option.some.inj (hy.symm.trans hy')
    subst ha
    have e0 : w3.cell? ⟨x1, o1 + k * 3, none⟩ = some (.int .i64 y.id) := hc1 0 _ rfl
    have e1 : w3.cell? ⟨x1, o1 + k * 3 + 1, none⟩ = some (.string y.key) := hc1 1 _ rfl
    have e2 : w3.cell? ⟨x1, o1 + k * 3 + 1 + 1, none⟩ = some (.int .u32 y.word) := by simpa [Nat.add_assoc] using hc1 2 _ rfl
    have hkn : (k : Int) < (n : Int) := by have := HL.out; omega
    have hk0 : ¬ (k : Int) < 0 := by omega
    clear hi hf hy hy' hc1 B1 B2 B3 k2 k3 kk hk
    go_wp2_with fail
    refine bodyPost_ret (v := .tuple #[.agg #[.int .i64 y.id, .string y.key, .int .u32 y.word], .bool true]) (by simp [results, Tryd.results89, go_sem, *]) rfl ⟨by rw [HF.out]; rfl, KE.out _ _ _⟩
  · rw [hi]
    have HF := Lib.hid hf
    clear hi hf B1 B2 B3 k2 k3 kk
    go_wp2_with fail
    refine bodyPost_ret (v := .tuple #[.agg #[.int .i64 0, .string ⟨#[]⟩, .int .u32 0], .bool false]) (by simp [results, Tryd.results89, go_sem, *]) rfl ⟨by rw [HF.out]; rfl, KE.out _ _ _⟩
end Go.Proofs.YtbnbjiddffihoaaDoor

/- Walks over the package word and its reference: bits, common beginnings. -/
namespace Go.Proofs.YtbnbjiddffihoaaDoor
open Go.RowKit

/-- the table of math/bits, as it is laid -/
def TabG (w : World) : Prop := ∀ j, j < 32 → w.cell? ⟨1, j, none⟩ = some (.int .u8 (Lib.deBruijn32tab.getD j 0))
theorem TabG.lt {w : World} (h : TabG w) : 1 < w.heap.size := World.block_lt_of_cell? w _ (h 0 (by omega))
theorem TabG.chg {w w' : World} (h : TabG w) {S : Nat → Prop} (k : Chg S w w') (hs : S 1) : TabG w' := fun j hj => k.cellv (h j hj) hs

set_option maxHeartbeats 1000000 in
theorem tz32_core (x k idx : Nat) (w : World) (hx0 : ((x : Int) == 0) = false)
    (key : bits BinOp.and IntKind.u32 (x : Int) (-(x : Int) % 4294967296) * 125613361 % 4294967296 / 134217728 = (idx : Int))
    (hi : idx < 32) (hcell : w.cell? ⟨1, idx, none⟩ = some (.int .u8 k)) (_hk : k < 32) :
    Calls Tryd.prog 152 #[.int .u32 x] w fun e w' => e = .returned (.int .i64 k) ∧ w = w' := by
  go_enter Tryd.func152, Tryd.ntmps152
  go_wp2_with (simp only [key])
  go_ret
  exact ⟨rfl, rfl⟩
theorem tz32_zero (w : World) : Calls Tryd.prog 152 #[.int .u32 0] w fun e w' => e = .returned (.int .i64 32) ∧ w = w' := by
  go_enter Tryd.func152, Tryd.ntmps152
  go_wp2
  go_ret
  exact ⟨rfl, rfl⟩
theorem tz32 (x : Nat) (hx : x < 4294967296) (w : World) (hT : TabG w) :
    Calls Tryd.prog 152 #[.int .u32 x] w fun e w' => e = .returned (.int .i64 (Lib.ctz 32 x)) ∧ w = w' := by
  by_cases hx0 : x = 0
  · subst hx0
    exact tz32_zero w
  · obtain ⟨hlow, hk⟩ := Lib.lowest_bit 32 x hx0 hx
    obtain ⟨hi, htab⟩ := Lib.deBruijn32_at _ hk
    have hcell := hT _ hi
    rw [htab] at hcell
    exact tz32_core x _ _ w (by simp; omega) (tz32_keyn x _ hx hx0 hlow) hi hcell hk

set_option maxHeartbeats 1000000 in
theorem common_p (a b : Nat) (w : World) (ha : a < 4294967296) (hb : b < 4294967296) (hT : TabG w) :
    Calls Tryd.prog 137 #[.int .u32 a, .int .u32 b] w fun e w' => e = .returned (.int .i64 (commonN a b)) ∧ w = w' := by
  have hx := bits_xor_u32n a b ha hb
  have HT := Lib.hid hT
  clear hT
  by_cases h16 : Lib.ctz 32 (a ^^^ b) ≤ 16
  · have HC : Hid (commonN a b = Lib.ctz 32 (a ^^^ b)) := Nat.min_eq_left h16
    generalize hk : Lib.ctz 32 (a ^^^ b) = k at *
    have HK := Lib.hid hk
    clear hk
    go_enter Tryd.func137, Tryd.ntmps137
    go_wp2_with fail
    refine (tz32 _ (xor_lt ha hb) _ HT.out).mono ?_
    rintro e w1 ⟨rfl, rfl⟩
    rw [HK.out]
    go_wp2_with fail
    go_ret
    exact ⟨by rw [HC.out]; first | rfl | exact congrArg (fun z => Ending.returned (Value.int .i64 z)) (by omega : min (k : Int) 16 = (k : Int)), rfl⟩
  · have HC : Hid (commonN a b = 16) := Nat.min_eq_right (by omega)
    generalize hk : Lib.ctz 32 (a ^^^ b) = k at *
    have HK := Lib.hid hk
    clear hk
    go_enter Tryd.func137, Tryd.ntmps137
    go_wp2_with fail
    refine (tz32 _ (xor_lt ha hb) _ HT.out).mono ?_
    rintro e w1 ⟨rfl, rfl⟩
    rw [HK.out]
    go_wp2_with fail
    go_ret
    exact ⟨by rw [HC.out]; first | rfl | exact congrArg (fun z => Ending.returned (Value.int .i64 z)) (by omega : min (k : Int) 16 = ((16 : Nat) : Int)), rfl⟩

set_option maxHeartbeats 1000000 in
theorem bit_p (a : Nat) (i : Int) (w : World) (ha : a < 4294967296) (hi1 : -9223372036854775808 ≤ i) (hi2 : i ≤ 9223372036854775807) :
    Calls Tryd.prog 111 #[.int .u32 a, .int .i64 i] w fun e w' => e = .returned (.int .i64 (bitN a i)) ∧ w = w' := by
  by_cases hi : i < 0 ∨ 16 ≤ i
  · have hz := Lib.hid (bit_zero a i hi)
    rcases Int.lt_or_le i 0 with h | h
    · have d1 : decide (i < 0) = true := by simpa using h
      clear hi
      go_enter Tryd.func111, Tryd.ntmps111
      go_wp2
      go_ret
      exact ⟨by rw [hz.out]; rfl, rfl⟩
    · have d1 : decide (i < 0) = false := by simpa using h
      have d2 : decide (16 ≤ i) = true := by simp; omega
      clear hi
      go_enter Tryd.func111, Tryd.ntmps111
      go_wp2
      go_ret
      exact ⟨by rw [hz.out]; rfl, rfl⟩
  · have hk := Lib.hid (bit_key a i ha (by omega) (by omega))
    have d1 : decide (i < 0) = false := by simp; omega
    have d2 : decide (16 ≤ i) = false := by simp; omega
    have e1 : 0 ≤ i := by omega
    have e2 : i < 16 := by omega
    clear hi
    go_enter Tryd.func111, Tryd.ntmps111
    go_wp2
    go_ret
    exact ⟨by rw [← hk.out]; rfl, rfl⟩

set_option maxHeartbeats 1000000 in
theorem same_p (a b : Nat) (h : Int) (w : World) (ha : a < 4294967296) (hb : b < 4294967296) (hT : TabG w) :
    Calls Tryd.prog 124 #[.int .u32 a, .int .u32 b, .int .i64 h] w fun e w' => e = .returned (.bool (sameN a b h)) ∧ w = w' := by
  have HT := Lib.hid hT
  clear hT
  go_enter Tryd.func124, Tryd.ntmps124
  go_wp2_with fail
  refine (common_p _ _ _ ha hb HT.out).mono ?_
  rintro e w1 ⟨rfl, rfl⟩
  go_wp2_with fail
  go_ret
  exact ⟨rfl, rfl⟩
theorem wvalid_p (a : Nat) (w : World) : Calls Tryd.prog 97 #[.int .u32 a] w fun e w' => e = .returned (.bool (validN a)) ∧ w = w' := by
  go_enter Tryd.func97, Tryd.ntmps97
  go_wp2
  go_ret
  exact ⟨rfl, rfl⟩
end Go.Proofs.YtbnbjiddffihoaaDoor
