/- Texts for the statement LinearMutualProof, part 7 of 7: L16M, Laid4, LaidL, Laid2, Open, LinearMutualProof. -/
import Derived.Test.YtbnbjiddffihoaaDoorTie
import Derived.Test.YtbnbjiddffihoaaDoorCards
import Derived.Lib.LaidTab
import Derived.Lib.LaidU8
import Derived.LaidMore
import Derived.Stop.Joined
import Derived.SevenTiedAt
import Derived.ChangeArms
import Derived.LaidSub
import Derived.Test.YtbnbjiddffihoaaDoorRows
import Derived.ProofKit
import Derived.OpenShut
import Derived.ShutString
import Derived.ChangeOld
import Derived.Lib.SmallJoins
import Derived.Deep.Slices
import Derived.Deep.Fields
import Derived.ChangeSame
import Derived.Test.YtbnbjiddffihoaaDoorLinearMutualProofPk1
import Derived.Test.YtbnbjiddffihoaaDoorLinearMutualProofPk2
import Derived.Test.YtbnbjiddffihoaaDoorLinearMutualProofPk3
import Derived.Test.YtbnbjiddffihoaaDoorLinearMutualProofPk6

/- The walk over LinearMutual (printed by gen_l16.py). -/
namespace Go.Proofs.YtbnbjiddffihoaaDoor
open Go.RowKit

theorem refsN_le (N : List Nd) (p : Pr) : (refsN N p).length ≤ N.length := by
  unfold refsN
  split
  · exact ord_len _ _
  · exact Nat.zero_le _
theorem peer_sm {P : List Pr} (v : Int) (h : SmallP P) : (peerN P v).known.length ≤ 17592186044416 ∧ (peerN P v).near.length ≤ 4398046511104 := by
  unfold peerN
  cases hf : P.find? fun p => p.id == v with
  | none => exact ⟨Nat.zero_le _, Nat.zero_le _⟩
  | some q => exact h q (List.mem_of_find?_eq_some hf)
/-- what a round gives at place i -/
theorem mutual_at {N : List Nd} {P : List Pr} (h0 : checkN N = 0) {i : Nat} {y : Pr} (hy : (roundN N P)[i]? = some y) :
    (∀ v ∈ y.known, (peerN (roundN N P) v).known.contains y.id = true ∧ v ≠ y.id) ∧ (∀ v, v ≠ 0 → v = y.left ∨ v = y.right → (refsN N (peerN P y.id)).contains v = true ∧ y.known.contains v = true) := by
  have hm := round_map (P := P) h0
  rw [hm, List.getElem?_map] at hy
  cases hx : (sortN N)[i]? with
  | none => rw [hx] at hy; cases hy
  | some x =>
    rw [hx] at hy
    simp only [Option.map_some, Option.some.injEq] at hy
    have hxN : x ∈ N := (sortN_mem N x).1 (List.mem_of_getElem? hx)
    have hid : y.id = x.id := by rw [← hy]; exact peer_id P x.id
    have hp : peerN (roundN N P) x.id = y := by rw [round_peer h0 hxN, hy]
    have hl : y.left = (keepN N (peerN P x.id)).1 := by rw [← hy]; rfl
    have hr : y.right = (keepN N (peerN P x.id)).2 := by rw [← hy]; rfl
    refine ⟨fun v hv => ?_, fun v h1 h2 => ?_⟩
    · have hv2 := hv
      rw [← hy] at hv2
      obtain ⟨⟨z, hz, hzv⟩, hne, _⟩ := mem_ord.1 hv2
      subst hzv
      have hne' : z.id ≠ x.id := by rw [show (peerN P x.id).id = x.id from peer_id P x.id] at hne; exact hne
      have := mutual_law h0 hxN hz (by rw [hp]; exact hv)
      rw [hid]
      exact ⟨List.contains_iff_mem.2 this, hne'⟩
    · rw [hl, hr] at h2
      obtain ⟨k1, k2⟩ := kept_law h0 hxN h1 h2
      rw [hp] at k2
      rw [hid]
      exact ⟨List.contains_iff_mem.2 k1, List.contains_iff_mem.2 k2⟩
def MuRel (m : Nat) (w : World) (i : Value) (wr : World) : Prop := ∃ k : Nat, k ≤ m ∧ i = .int .i64 k ∧ Ex w wr
theorem litLR {wb wq : World} (h : Ex wb wq) (a b : Int) : ∃ g wn, g = wq.heap.size ∧ wn = wq.alloc (.cells #[.int .i64 a, .int .i64 b] 3) ∧ Sl 1 encI wn (some ⟨g, 0, none⟩) 2 [a, b] ∧ Ex wb wn :=
  ⟨_, _, rfl, rfl, Sl.lit [a, b] rfl rfl (fun _ => rfl) rfl, h.alloc _⟩
set_option maxRecDepth 100000 in
set_option maxHeartbeats 16000000 in
theorem linearmutual_walk (a1 : Option Addr) (n1 c1 : Nat) (l1 : List Int) (w : World) (h1 : Sl 1 encI w a1 n1 l1) (hc1 : n1 ≤ c1) (hm1 : c1 ≤ maxLen) (hT : TabG w) (hL : LetG w) :
    Calls Tryd.prog 7 #[.slice a1 n1 c1] w fun e w' => e = .returned (.bool true) ∧ Ex w w' := by
  go_enter Tryd.func7, Tryd.ntmps7
  go_wp2_with fail
  refine (new_t _ _ _ l1 _ h1 hc1 hm1).mono ?_
  rintro e w1 ⟨rfl, T, kk, z1⟩
  obtain ⟨b, hb⟩ : ∃ b, b = w.heap.size := ⟨_, rfl⟩
  rw [← hb] at T ⊢
  have hgt : ¬ 1 = b := by have := hT.lt; omega
  have hgl : ¬ 0 = b := by have := hL.lt; omega
  have T1 : Hid (TabG w1) := Lib.hid (hT.nx kk)
  have L1 : Hid (LetG w1) := Lib.hid (hL.nx kk)
  have QL : Hid (Exl b w w1) := Lib.hid ⟨kk, by omega⟩
  clear h1 hT hL kk hb z1
  have hbo := T.lt
  go_wp2_with fail
  refine (some_n 8 _ T L1.out hgl (by omega) (by omega)).mono ?_
  clear T
  rintro e x1 ⟨v1, L, rfl, R, hL1⟩
  have kw := R.k
  have T := R.tape
  obtain ⟨aX, cX, rfl, SX, hcX, hmX, _⟩ := R.own.slf (fun _ => rfl)
  have SX := SX.slb hbo
  have RL := R.len
  have H0 := Lib.hid R.ok
  have HW : Hid (∀ x ∈ L, x.word < 4294967296) := Lib.hid (fun x hx => by have := R.word x hx; omega)
  clear R
  go_wp2_with fail
  refine (next_t 3 _ T (by omega) (by omega)).mono ?_
  clear T
  rintro e x2 ⟨hh, rfl, hh0, hh1, T, kk⟩
  replace kw := kw.nxb kk
  replace SX := SX.nxb kk
  clear kk
  obtain ⟨ht, rfl⟩ : ∃ t : Nat, hh = t := ⟨hh.toNat, by omega⟩
  have XI : Hid (∀ x ∈ L, I64 x.id) := Lib.hid (fun x hx => (roster_ok H0.out x hx).1.1)
  go_wp2_with fail
  refine (peers_t ht _ _ _ L _ T SX (by omega) XI.out (by omega)).mono ?_
  clear T
  rintro e x3 ⟨v3, qs, PX, rfl, RP⟩
  replace kw := kw.nxb RP.k
  replace SX := (SX.nxb RP.k).sl
  obtain ⟨aP, cP, rfl, PP, _, _, _, _⟩ := RP.own.pl
  have hPl := RP.len
  have RPF := Lib.hid RP.few
  have HPX : Hid (SmallP PX) := Lib.hid (fun p hp => by have := RPF.out p hp; omega)
  have TG := Lib.hid (T1.out.nxb hgt kw)
  have QX := Lib.hid (QL.out.nxb kw).1
  have HS := Lib.hid SX
  have HPP := Lib.hid PP
  clear RP SX kw PP
  go_wp2_with fail
  (with_reducible refine (lround_p _ _ _ L _ _ _ _ _ HS.out (by omega) hcX hmX HPP.out (by omega) HPX.out).mono ?_)
  rintro e x4 ⟨v9, qs9, rfl, own, kk⟩
  have hl9 : (roundN L PX).length = L.length := round_len H0.out
  have MA := Lib.hid (fun (i : Nat) (y : Pr) (hy : (roundN L PX)[i]? = some y) => mutual_at H0.out hy)
  have HRS : Hid (SmallP (roundN L PX)) := Lib.hid (fun p hp => by
    have h1 := round_few (m := 100) (M := 200) (N := L) (P := PX) (fun p hp => by have := RPF.out p hp; omega) (by omega) p hp
    omega)
  generalize roundN L PX = R at own hl9 MA HRS ⊢
  obtain ⟨a9, c9, rfl, P9, _, _, _⟩ := own.pl
  rw [hl9] at P9 ⊢
  have HPR := Lib.hid P9
  replace HS := Lib.hid (HS.out.nx kk)
  replace HPP := Lib.hid (HPP.out.nx kk)
  have K0 := Lib.hid kk
  clear own P9 kk
  go_wp2_with fail
  go_loopw [8] (fun i wr => MuRel L.length x4 i wr) (fun i _ => L.length - (intOf i).toNat)
  case atStart => exact ⟨0, by omega, rfl, Ex.refl _⟩
  case round =>
    obtain ⟨i, hi, rfl, ki⟩ := hrel
    obtain ⟨wi, rfl⟩ : ∃ wi : World, wi = wr := ⟨_, rfl⟩
    have KI := Lib.hid ki
    clear ki
    by_cases hil : i < L.length
    · obtain ⟨x3, o3, b1, m1, d1, b4, m4, d4, y, rfl, hx3, hy, e0, e1, e2, e3, e4, s1, s4⟩ := (HPR.out.nx KI.out).rd hil
      obtain ⟨MA1, MA2⟩ := MA.out i y hy
      have MA1 := Lib.hid MA1
      have MA2 := Lib.hid MA2
      have hyS := HRS.out y (List.mem_of_getElem? hy)
      have hl1 : m1 ≤ 4000000000000000000 := by have := s1.len; omega
      have C0 : Hid (∀ wq, Ex wi wq → wq.cell? ⟨x3, o3 + i * 5, none⟩ = some (.int .i64 y.id)) := Lib.hid (fun wq k => Chg.cellv k e0 hx3)
      have C1 : Hid (∀ wq, Ex wi wq → wq.cell? ⟨x3, o3 + i * 5 + 1, none⟩ = some (.slice b1 m1 d1)) := Lib.hid (fun wq k => Chg.cellv k e1 hx3)
      have C2 : Hid (∀ wq, Ex wi wq → wq.cell? ⟨x3, o3 + i * 5 + 1 + 1, none⟩ = some (.int .i64 y.left)) := Lib.hid (fun wq k => Chg.cellv k e2 hx3)
      have C3 : Hid (∀ wq, Ex wi wq → wq.cell? ⟨x3, o3 + i * 5 + 1 + 1 + 1, none⟩ = some (.int .i64 y.right)) := Lib.hid (fun wq k => Chg.cellv k e3 hx3)
      have S1 := Lib.hid s1
      have hm1 := Lib.hid s1.len
      clear e0 e1 e2 e3 e4 s1 s4 hy hx3 hyS
      go_wp2_with fail
      go_loopw [9] (fun i wr => MuRel m1 wi i wr) (fun i _ => m1 - (intOf i).toNat)
      case atStart => exact ⟨0, by omega, rfl, Ex.refl _⟩
      case round =>
        obtain ⟨j, hj, rfl, kj⟩ := hrel
        obtain ⟨wj, rfl⟩ : ∃ wj : World, wj = wr := ⟨_, rfl⟩
        have KJ := Lib.hid kj
        clear kj
        by_cases hjm : j < m1
        · obtain ⟨xk, ok, v, rfl, hxk, hv, hcv⟩ := (S1.out.nx KJ.out).at hjm
          have e6 : wj.cell? ⟨xk, ok + j, none⟩ = some (.int .i64 v) := by simpa using hcv 0 _ rfl
          obtain ⟨f1, f2⟩ := MA1.out v (List.mem_of_getElem? hv)
          have F1 := Lib.hid f1
          have F2 : Hid (((peerN R v).id == y.id) = false) := Lib.hid (by rw [peer_id]; simpa using f2)
          have e1 := C1.out wj KJ.out
          have h03 : (j : Int) < (m1 : Int) := by omega
          clear hv hcv f1 f2 hxk
          go_wp2_with fail
          (with_reducible refine (peer_r _ _ _ R v _ (HPR.out.nx (KI.out.nx KJ.out)) (by omega) HRS.out).mono ?_)
          rintro e w5 ⟨⟨A2, M2, C2'⟩, ⟨A5, M5, C5⟩, rfl, ok2, _, kk⟩
          have SK : Sl 1 encI w5 A2 (peerN R v).known.length (peerN R v).known := by obtain ⟨_, _, e, r, _⟩ := ok2.rd (fun _ => rfl); injection e with h1 h2 h3; subst h1 h2 h3; exact r.mono (fun _ hk => hk.2)
          have hM2 : M2 = (peerN R v).known.length := by obtain ⟨_, _, e, _⟩ := ok2.rd (fun _ => rfl); injection e
          subst hM2
          have hsm : (peerN R v).known.length ≤ 4000000000000000000 := by
            have := peer_sm v HRS.out
            omega
          simp only [Hdr.val] at ok2 ⊢
          generalize peerN R v = pv at F1 F2 SK ok2 hsm ⊢
          replace KJ := Lib.hid (KJ.out.nx kk)
          clear e1 e6 kk ok2
          have B10 := Blk.new w5 [.int .i64 pv.id, .slice A2 pv.known.length C2', .int .i64 pv.left, .int .i64 pv.right, .slice A5 M5 C5] 41
          have kk := Ex.new w5 (.cells #[.int .i64 pv.id, .slice A2 pv.known.length C2', .int .i64 pv.left, .int .i64 pv.right, .slice A5 M5 C5] 41)
          obtain ⟨w6, hw6⟩ : ∃ w6, w6 = w5.alloc (.cells #[.int .i64 pv.id, .slice A2 pv.known.length C2', .int .i64 pv.left, .int .i64 pv.right, .slice A5 M5 C5] 41) := ⟨_, rfl⟩
          obtain ⟨g10, hg10⟩ : ∃ g10, g10 = w5.heap.size := ⟨_, rfl⟩
          replace B10 : Blk w6 g10 [.int .i64 pv.id, .slice A2 pv.known.length C2', .int .i64 pv.left, .int .i64 pv.right, .slice A5 M5 C5] 41 := by rw [hw6, hg10]; exact B10
          rw [← hw6] at kk
          have Hw6 := Lib.hid hw6
          have Hg10 := Lib.hid hg10
          replace SK := SK.nx kk
          replace KJ := Lib.hid (KJ.out.nx kk)
          clear kk hw6 hg10
          go_upto_region 14 with fail
          rw [← Hg10.out, ← Hw6.out]
          clear Hg10 Hw6
          have CB0 : Hid (∀ wq, Ex w6 wq → wq.cell? ⟨g10, 0, none⟩ = some (.int .i64 pv.id)) := Lib.hid (fun wq k => (B10.nx k).cell 0 _ rfl)
          have CB1 : Hid (∀ wq, Ex w6 wq → wq.cell? ⟨g10, 1, none⟩ = some (.slice A2 pv.known.length C2')) := Lib.hid (fun wq k => (B10.nx k).cell 1 _ rfl)
          have SKH := Lib.hid SK
          clear B10 SK
          have f2 := F2.out
          refine wp_region_held_drew (S := Ex w6) (by kernel_rfl) ((Ex.refl w6).drew) (fun hHeld => ?_)
          obtain ⟨wd, hwdx⟩ : ∃ wd : World, wd = World.drew w6 := ⟨_, rfl⟩
          rw [← hwdx] at hHeld ⊢
          have hDrew : Ex w6 wd := by rw [hwdx]; exact (Ex.refl w6).drew
          clear hwdx
          refine wpAnyH_take (i := 0) (oi := ⟨some 57, .fieldAddr 41 (.tmp 10) 1, 0, "law.go:145", #[], none⟩) (v := ?_) rfl (by kernel_rfl) (by kernel_rfl) (by kernel_rfl) (fun _ _ _ h => h) (Or.inl ⟨by rfl, ?hyr1x0q5⟩) (by assumption) ?restr1x0q5
          case hyr1x0q5 => intro wq hSw; (go_simp); (try with_reducible rfl)
          try simp only [Act.put, List.setIfInBounds_toArray, List.set_cons_zero, List.set_cons_succ]
          refine wpAnyH_take (i := 1) (oi := ⟨some 58, .load 22 (.tmp 57), 22, "law.go:145", #[⟨0, .data⟩], none⟩) (v := ?_) rfl (by kernel_rfl) (by kernel_rfl) (by kernel_rfl) (fun _ _ _ h => h) (Or.inl ⟨by rfl, ?hyr1x1q8⟩) (by assumption) ?restr1x1q8
          case hyr1x1q8 => intro wq hSw; (have cq := CB1.out wq hSw; go_simp); (try with_reducible rfl)
          try simp only [Act.put, List.setIfInBounds_toArray, List.set_cons_zero, List.set_cons_succ]
          refine wpAnyH_take (i := 2) (oi := ⟨some 59, .move (.tmp 7), 36, "law.go:145", #[], none⟩) (v := ?_) rfl (by kernel_rfl) (by kernel_rfl) (by kernel_rfl) (fun _ _ _ h => h) (Or.inl ⟨by rfl, ?hyr1x2q11⟩) (by assumption) ?restr1x2q11
          case hyr1x2q11 => intro wq hSw; (go_simp); (try with_reducible rfl)
          try simp only [Act.put, List.setIfInBounds_toArray, List.set_cons_zero, List.set_cons_succ]
          refine wpAnyH_take (i := 3) (oi := ⟨some 60, .move (.tmp 8), 3, "law.go:145", #[], none⟩) (v := ?_) rfl (by kernel_rfl) (by kernel_rfl) (by kernel_rfl) (fun _ _ _ h => h) (Or.inl ⟨by rfl, ?hyr1x3q14⟩) (by assumption) ?restr1x3q14
          case hyr1x3q14 => intro wq hSw; (go_simp); (try with_reducible rfl)
          try simp only [Act.put, List.setIfInBounds_toArray, List.set_cons_zero, List.set_cons_succ]
          refine wpAnyH_take (i := 4) (oi := ⟨some 61, .indexAddr 36 (.tmp 59) (.tmp 60), 0, "law.go:145", #[⟨2, .data⟩, ⟨3, .data⟩], none⟩) (v := ?_) rfl (by kernel_rfl) (by kernel_rfl) (by kernel_rfl) (fun _ _ _ h => h) (Or.inl ⟨by rfl, ?hyr1x4q17⟩) (by assumption) ?restr1x4q17
          case hyr1x4q17 => intro wq hSw; (go_simp); (try with_reducible rfl)
          try simp only [Act.put, List.setIfInBounds_toArray, List.set_cons_zero, List.set_cons_succ]
          refine wpAnyH_take (i := 5) (oi := ⟨some 62, .fieldAddr 41 (.tmp 61) 0, 0, "law.go:145", #[⟨4, .data⟩], none⟩) (v := ?_) rfl (by kernel_rfl) (by kernel_rfl) (by kernel_rfl) (fun _ _ _ h => h) (Or.inl ⟨by rfl, ?hyr1x5q20⟩) (by assumption) ?restr1x5q20
          case hyr1x5q20 => intro wq hSw; (go_simp); (try with_reducible rfl)
          try simp only [Act.put, List.setIfInBounds_toArray, List.set_cons_zero, List.set_cons_succ]
          refine wpAnyH_take (i := 6) (oi := ⟨some 63, .load 3 (.tmp 62), 3, "law.go:145", #[⟨5, .data⟩], none⟩) (v := ?_) rfl (by kernel_rfl) (by kernel_rfl) (by kernel_rfl) (fun _ _ _ h => h) (Or.inl ⟨by rfl, ?hyr1x6q23⟩) (by assumption) ?restr1x6q23
          case hyr1x6q23 => intro wq hSw; (have cq := C0.out wq (KJ.out.nx hSw); go_simp); (try with_reducible rfl)
          try simp only [Act.put, List.setIfInBounds_toArray, List.set_cons_zero, List.set_cons_succ]
          refine wpAnyH_ready (rs := [7]) (by kernel_rfl) (by simp) ?_
          refine AllReadyH.cons (o := ⟨some 64, .call { callee := .value (.func 35), args := #[.tmp 58, .tmp 63], argTypes := #[22, 3] }, 4, "law.go:145", #[⟨1, .data⟩, ⟨6, .data⟩], none⟩) rfl (fun K hK => ?_) AllReadyH.nil
          go_simp
          (with_reducible refine (has_r _ _ _ _ y.id _ (SKH.out.nx hHeld) hsm).mono ?_)
          rintro e wz ⟨rfl, kk⟩
          rw [F1.out]
          replace hHeld := hHeld.nx kk
          clear kk
          refine hK.out _ _ (hHeld) (fun hHeld => ?_)
          clear hK K
          try simp only [Act.put, List.setIfInBounds_toArray, List.set_cons_zero, List.set_cons_succ]
          refine wpAnyH_take (i := 8) (oi := ⟨some 65, .unOp .not 4 (.tmp 64), 4, "law.go:145", #[⟨7, .data⟩], none⟩) (v := ?_) rfl (by kernel_rfl) (by kernel_rfl) (by kernel_rfl) (fun _ _ _ h => h) (Or.inl ⟨by rfl, ?hyr1x8q37⟩) (by assumption) ?restr1x8q37
          case hyr1x8q37 => intro wq hSw; (go_simp); (try with_reducible rfl)
          try simp only [Act.put, List.setIfInBounds_toArray, List.set_cons_zero, List.set_cons_succ]
          refine wpAnyH_take (i := 9) (oi := ⟨some 66, .move (.tmp 65), 4, "law.go:145", #[⟨8, .data⟩, ⟨7, .chain⟩], none⟩) (v := ?_) rfl (by kernel_rfl) (by kernel_rfl) (by kernel_rfl) (fun _ _ _ h => h) (Or.inl ⟨by rfl, ?hyr1x9q40⟩) (by assumption) ?restr1x9q40
          case hyr1x9q40 => intro wq hSw; (go_simp); (try with_reducible rfl)
          try simp only [Act.put, List.setIfInBounds_toArray, List.set_cons_zero, List.set_cons_succ]
          refine wpAnyH_take (i := 10) (oi := ⟨some 67, .fieldAddr 41 (.tmp 10) 0, 0, "law.go:145", #[⟨9, .guard⟩], some (9, false)⟩) (v := ?_) rfl (by kernel_rfl) (by kernel_rfl) (by kernel_rfl) (fun _ _ _ h => h) (Or.inl ⟨by rfl, ?hyr1x10q43⟩) (by assumption) ?restr1x10q43
          case hyr1x10q43 => intro wq hSw; (go_simp); (try with_reducible rfl)
          try simp only [Act.put, List.setIfInBounds_toArray, List.set_cons_zero, List.set_cons_succ]
          refine wpAnyH_take (i := 11) (oi := ⟨some 68, .load 3 (.tmp 67), 3, "law.go:145", #[⟨10, .data⟩, ⟨9, .guard⟩], some (9, false)⟩) (v := ?_) rfl (by kernel_rfl) (by kernel_rfl) (by kernel_rfl) (fun _ _ _ h => h) (Or.inl ⟨by rfl, ?hyr1x11q46⟩) (by assumption) ?restr1x11q46
          case hyr1x11q46 => intro wq hSw; (have cq := CB0.out wq hSw; go_simp); (try with_reducible rfl)
          try simp only [Act.put, List.setIfInBounds_toArray, List.set_cons_zero, List.set_cons_succ]
          refine wpAnyH_take (i := 12) (oi := ⟨some 69, .move (.tmp 7), 36, "law.go:145", #[⟨9, .guard⟩], some (9, false)⟩) (v := ?_) rfl (by kernel_rfl) (by kernel_rfl) (by kernel_rfl) (fun _ _ _ h => h) (Or.inl ⟨by rfl, ?hyr1x12q49⟩) (by assumption) ?restr1x12q49
          case hyr1x12q49 => intro wq hSw; (go_simp); (try with_reducible rfl)
          try simp only [Act.put, List.setIfInBounds_toArray, List.set_cons_zero, List.set_cons_succ]
          refine wpAnyH_take (i := 13) (oi := ⟨some 70, .move (.tmp 8), 3, "law.go:145", #[⟨9, .guard⟩], some (9, false)⟩) (v := ?_) rfl (by kernel_rfl) (by kernel_rfl) (by kernel_rfl) (fun _ _ _ h => h) (Or.inl ⟨by rfl, ?hyr1x13q52⟩) (by assumption) ?restr1x13q52
          case hyr1x13q52 => intro wq hSw; (go_simp); (try with_reducible rfl)
          try simp only [Act.put, List.setIfInBounds_toArray, List.set_cons_zero, List.set_cons_succ]
          refine wpAnyH_take (i := 14) (oi := ⟨some 71, .indexAddr 36 (.tmp 69) (.tmp 70), 0, "law.go:145", #[⟨12, .data⟩, ⟨13, .data⟩, ⟨9, .guard⟩], some (9, false)⟩) (v := ?_) rfl (by kernel_rfl) (by kernel_rfl) (by kernel_rfl) (fun _ _ _ h => h) (Or.inl ⟨by rfl, ?hyr1x14q55⟩) (by assumption) ?restr1x14q55
          case hyr1x14q55 => intro wq hSw; (go_simp); (try with_reducible rfl)
          try simp only [Act.put, List.setIfInBounds_toArray, List.set_cons_zero, List.set_cons_succ]
          refine wpAnyH_take (i := 15) (oi := ⟨some 72, .fieldAddr 41 (.tmp 71) 0, 0, "law.go:145", #[⟨14, .data⟩, ⟨9, .guard⟩], some (9, false)⟩) (v := ?_) rfl (by kernel_rfl) (by kernel_rfl) (by kernel_rfl) (fun _ _ _ h => h) (Or.inl ⟨by rfl, ?hyr1x15q58⟩) (by assumption) ?restr1x15q58
          case hyr1x15q58 => intro wq hSw; (go_simp); (try with_reducible rfl)
          try simp only [Act.put, List.setIfInBounds_toArray, List.set_cons_zero, List.set_cons_succ]
          refine wpAnyH_take (i := 16) (oi := ⟨some 73, .load 3 (.tmp 72), 3, "law.go:145", #[⟨15, .data⟩, ⟨9, .guard⟩], some (9, false)⟩) (v := ?_) rfl (by kernel_rfl) (by kernel_rfl) (by kernel_rfl) (fun _ _ _ h => h) (Or.inl ⟨by rfl, ?hyr1x16q61⟩) (by assumption) ?restr1x16q61
          case hyr1x16q61 => intro wq hSw; (have cq := C0.out wq (KJ.out.nx hSw); go_simp); (try with_reducible rfl)
          try simp only [Act.put, List.setIfInBounds_toArray, List.set_cons_zero, List.set_cons_succ]
          refine wpAnyH_take (i := 17) (oi := ⟨some 74, .binOp .eql 3 (.tmp 68) (.tmp 73) 3, 4, "law.go:145", #[⟨11, .data⟩, ⟨16, .data⟩, ⟨9, .guard⟩], some (9, false)⟩) (v := ?_) rfl (by kernel_rfl) (by kernel_rfl) (by kernel_rfl) (fun _ _ _ h => h) (Or.inl ⟨by rfl, ?hyr1x17q64⟩) (by assumption) ?restr1x17q64
          case hyr1x17q64 => intro wq hSw; (go_simp); (try with_reducible rfl)
          try simp only [Act.put, List.setIfInBounds_toArray, List.set_cons_zero, List.set_cons_succ]
          refine wpAnyH_take (i := 18) (oi := ⟨some 75, .pick (.tmp 66) (.const (.bool true)) (.tmp 74), 4, "law.go:145", #[⟨9, .data⟩, ⟨17, .data⟩], none⟩) (v := ?_) rfl (by kernel_rfl) (by kernel_rfl) (by kernel_rfl) (fun _ _ _ h => h) (Or.inl ⟨by rfl, ?hyr1x18q67⟩) (by assumption) ?restr1x18q67
          case hyr1x18q67 => intro wq hSw; (go_simp); (try with_reducible rfl)
          try simp only [Act.put, List.setIfInBounds_toArray, List.set_cons_zero, List.set_cons_succ]
          refine wpAnyH_done (by kernel_rfl) ?_ _
          have FN : Hid (MuRel m1 wi (.int .i64 ((j : Int) + 1)) wz) := Lib.hid ⟨j + 1, by omega, by go_num, KJ.out.nx hHeld⟩
          clear hHeld f2
          go_wp2_with fail
          exact ⟨FN.out, by simp [intOf]; omega⟩
        · obtain rfl : j = m1 := by omega
          have e1 := C1.out wj KJ.out
          go_upto_region 16 with fail
          refine wp_region_held_drew (S := Ex wj) (by kernel_rfl) ((Ex.refl wj).drew) (fun hHeld => ?_)
          obtain ⟨wd, hwdx⟩ : ∃ wd : World, wd = World.drew wj := ⟨_, rfl⟩
          rw [← hwdx] at hHeld ⊢
          have hDrew : Ex wj wd := by rw [hwdx]; exact (Ex.refl wj).drew
          clear hwdx
          refine wpAnyH_take (i := 0) (oi := ⟨some 76, .move (.tmp 7), 36, "law.go:149", #[], none⟩) (v := ?_) rfl (by kernel_rfl) (by kernel_rfl) (by kernel_rfl) (fun _ _ _ h => h) (Or.inl ⟨by rfl, ?hyr2x0q5⟩) (by assumption) ?restr2x0q5
          case hyr2x0q5 => intro wq hSw; (go_simp); (try with_reducible rfl)
          try simp only [Act.put, List.setIfInBounds_toArray, List.set_cons_zero, List.set_cons_succ]
          refine wpAnyH_take (i := 1) (oi := ⟨some 77, .move (.tmp 8), 3, "law.go:149", #[], none⟩) (v := ?_) rfl (by kernel_rfl) (by kernel_rfl) (by kernel_rfl) (fun _ _ _ h => h) (Or.inl ⟨by rfl, ?hyr2x1q8⟩) (by assumption) ?restr2x1q8
          case hyr2x1q8 => intro wq hSw; (go_simp); (try with_reducible rfl)
          try simp only [Act.put, List.setIfInBounds_toArray, List.set_cons_zero, List.set_cons_succ]
          refine wpAnyH_take (i := 2) (oi := ⟨some 78, .indexAddr 36 (.tmp 76) (.tmp 77), 0, "law.go:149", #[⟨0, .data⟩, ⟨1, .data⟩], none⟩) (v := ?_) rfl (by kernel_rfl) (by kernel_rfl) (by kernel_rfl) (fun _ _ _ h => h) (Or.inl ⟨by rfl, ?hyr2x2q11⟩) (by assumption) ?restr2x2q11
          case hyr2x2q11 => intro wq hSw; (go_simp); (try with_reducible rfl)
          try simp only [Act.put, List.setIfInBounds_toArray, List.set_cons_zero, List.set_cons_succ]
          refine wpAnyH_take (i := 3) (oi := ⟨some 79, .fieldAddr 41 (.tmp 78) 2, 0, "law.go:149", #[⟨2, .data⟩], none⟩) (v := ?_) rfl (by kernel_rfl) (by kernel_rfl) (by kernel_rfl) (fun _ _ _ h => h) (Or.inl ⟨by rfl, ?hyr2x3q14⟩) (by assumption) ?restr2x3q14
          case hyr2x3q14 => intro wq hSw; (go_simp); (try with_reducible rfl)
          try simp only [Act.put, List.setIfInBounds_toArray, List.set_cons_zero, List.set_cons_succ]
          refine wpAnyH_take (i := 4) (oi := ⟨some 80, .load 3 (.tmp 79), 3, "law.go:149", #[⟨3, .data⟩], none⟩) (v := ?_) rfl (by kernel_rfl) (by kernel_rfl) (by kernel_rfl) (fun _ _ _ h => h) (Or.inl ⟨by rfl, ?hyr2x4q17⟩) (by assumption) ?restr2x4q17
          case hyr2x4q17 => intro wq hSw; (have cq := C2.out wq (KJ.out.nx hSw); go_simp); (try with_reducible rfl)
          try simp only [Act.put, List.setIfInBounds_toArray, List.set_cons_zero, List.set_cons_succ]
          refine wpAnyH_take (i := 5) (oi := ⟨some 81, .move (.tmp 7), 36, "law.go:149", #[], none⟩) (v := ?_) rfl (by kernel_rfl) (by kernel_rfl) (by kernel_rfl) (fun _ _ _ h => h) (Or.inl ⟨by rfl, ?hyr2x5q20⟩) (by assumption) ?restr2x5q20
          case hyr2x5q20 => intro wq hSw; (go_simp); (try with_reducible rfl)
          try simp only [Act.put, List.setIfInBounds_toArray, List.set_cons_zero, List.set_cons_succ]
          refine wpAnyH_take (i := 6) (oi := ⟨some 82, .move (.tmp 8), 3, "law.go:149", #[], none⟩) (v := ?_) rfl (by kernel_rfl) (by kernel_rfl) (by kernel_rfl) (fun _ _ _ h => h) (Or.inl ⟨by rfl, ?hyr2x6q23⟩) (by assumption) ?restr2x6q23
          case hyr2x6q23 => intro wq hSw; (go_simp); (try with_reducible rfl)
          try simp only [Act.put, List.setIfInBounds_toArray, List.set_cons_zero, List.set_cons_succ]
          refine wpAnyH_take (i := 7) (oi := ⟨some 83, .indexAddr 36 (.tmp 81) (.tmp 82), 0, "law.go:149", #[⟨5, .data⟩, ⟨6, .data⟩], none⟩) (v := ?_) rfl (by kernel_rfl) (by kernel_rfl) (by kernel_rfl) (fun _ _ _ h => h) (Or.inl ⟨by rfl, ?hyr2x7q26⟩) (by assumption) ?restr2x7q26
          case hyr2x7q26 => intro wq hSw; (go_simp); (try with_reducible rfl)
          try simp only [Act.put, List.setIfInBounds_toArray, List.set_cons_zero, List.set_cons_succ]
          refine wpAnyH_take (i := 8) (oi := ⟨some 84, .fieldAddr 41 (.tmp 83) 3, 0, "law.go:149", #[⟨7, .data⟩], none⟩) (v := ?_) rfl (by kernel_rfl) (by kernel_rfl) (by kernel_rfl) (fun _ _ _ h => h) (Or.inl ⟨by rfl, ?hyr2x8q29⟩) (by assumption) ?restr2x8q29
          case hyr2x8q29 => intro wq hSw; (go_simp); (try with_reducible rfl)
          try simp only [Act.put, List.setIfInBounds_toArray, List.set_cons_zero, List.set_cons_succ]
          refine wpAnyH_take (i := 9) (oi := ⟨some 85, .load 3 (.tmp 84), 3, "law.go:149", #[⟨8, .data⟩], none⟩) (v := ?_) rfl (by kernel_rfl) (by kernel_rfl) (by kernel_rfl) (fun _ _ _ h => h) (Or.inl ⟨by rfl, ?hyr2x9q32⟩) (by assumption) ?restr2x9q32
          case hyr2x9q32 => intro wq hSw; (have cq := C3.out wq (KJ.out.nx hSw); go_simp); (try with_reducible rfl)
          try simp only [Act.put, List.setIfInBounds_toArray, List.set_cons_zero, List.set_cons_succ]
          refine wpAnyH_take (i := 12) (oi := ⟨some 88, .move (.const (.int .i64 0)), 3, "law.go:149", #[], none⟩) (v := ?_) rfl (by kernel_rfl) (by kernel_rfl) (by kernel_rfl) (fun _ _ _ h => h) (Or.inl ⟨by rfl, ?hyr2x12q35⟩) (by assumption) ?restr2x12q35
          case hyr2x12q35 => intro wq hSw; (go_simp); (try with_reducible rfl)
          try simp only [Act.put, List.setIfInBounds_toArray, List.set_cons_zero, List.set_cons_succ]
          refine wpAnyH_ready (rs := [10]) (by kernel_rfl) (by simp) ?_
          refine AllReadyH.cons (o := ⟨some 86, .buildSlice 22 2 #[(0, .tmp 80), (1, .tmp 85)], 22, "law.go:149", #[⟨4, .data⟩, ⟨9, .data⟩], none⟩) rfl (fun K hK => ?_) AllReadyH.nil
          go_simp
          obtain ⟨g8, wq, hg8, hwq, SX, kk⟩ := litLR hHeld y.left y.right
          rw [← hg8, ← hwq]
          clear hg8 hwq
          replace hHeld := kk
          clear kk
          refine hK.out _ _ (hHeld) (fun hHeld => ?_)
          clear hK K
          try simp only [Act.put, List.setIfInBounds_toArray, List.set_cons_zero, List.set_cons_succ]
          refine wpAnyH_take (i := 11) (oi := ⟨some 87, .call { callee := .builtin .len, args := #[.tmp 86], argTypes := #[22] }, 3, "law.go:149", #[⟨10, .data⟩], none⟩) (v := ?_) rfl (by kernel_rfl) (by kernel_rfl) (by kernel_rfl) (fun _ _ _ h => h) (Or.inl ⟨by rfl, ?hyr2x11q49⟩) (by assumption) ?restr2x11q49
          case hyr2x11q49 => intro wq hSw; (go_simp); (try with_reducible rfl)
          try simp only [Act.put, List.setIfInBounds_toArray, List.set_cons_zero, List.set_cons_succ]
          refine wpAnyH_done (by kernel_rfl) ?_ _
          have SXH := Lib.hid SX
          have KQ := Lib.hid (KJ.out.nx hHeld)
          clear SX hHeld e1
          go_wp2_with fail
          go_loopw [88] (fun i wr => MuRel 2 wq i wr) (fun i _ => 2 - (intOf i).toNat)
          case atStart => exact ⟨0, by omega, rfl, Ex.refl _⟩
          case round =>
            obtain ⟨q, hq, rfl, kq⟩ := hrel
            obtain ⟨wk, rfl⟩ : ∃ wk : World, wk = wr := ⟨_, rfl⟩
            have KK := Lib.hid kq
            clear kq
            by_cases hq2 : q < 2
            · obtain ⟨xn, on, nn, hee, hxn, hn, hcn⟩ := (SXH.out.nx KK.out).at hq2
              cases hee
              have e7 : wk.cell? ⟨g8, q, none⟩ = some (.int .i64 nn) := by simpa using hcn 0 _ rfl
              have hnv : nn = y.left ∨ nn = y.right := by
                have := List.mem_of_getElem? hn
                simpa using this
              clear hn hcn hxn
              by_cases hz : nn = 0
              · have d1 : (nn != 0) = false := by simpa using hz
                have FN : Hid (MuRel 2 wq (.int .i64 ((q : Int) + 1)) wk) := Lib.hid ⟨q + 1, by omega, by go_num, KK.out⟩
                clear hz hnv
                go_wp2_with fail
                exact ⟨FN.out, by simp [intOf]; omega⟩
              · obtain ⟨f1, f2⟩ := MA2.out nn hz hnv
                have F1 := Lib.hid f1
                have F2 := Lib.hid f2
                have d1 : (nn != 0) = true := by simpa using hz
                have e0 := C0.out wk (KQ.out.nx KK.out)
                clear hz hnv f1 f2
                go_wp2_with fail
                (with_reducible refine (peer_r _ _ _ PX y.id _ (HPP.out.nx (KI.out.nx (KQ.out.nx KK.out))) (by omega) HPX.out).mono ?_)
                rintro e w5 ⟨⟨A2, M2, C2'⟩, ⟨A5, M5, C5⟩, rfl, ok2, on2, kk⟩
                have SK : Hid (Sl 1 encI w5 A2 M2 (peerN PX y.id).known) := Lib.hid (by obtain ⟨_, _, e, r, _⟩ := ok2.rd (fun _ => rfl); injection e with h1 h2 h3; subst h1 h2 h3; exact r.mono (fun _ hk => hk.2))
                have SN : Hid (Sl 4 encNr w5 A5 M5 (peerN PX y.id).near) := Lib.hid (by obtain ⟨_, _, e, r, _⟩ := on2.rd (fun _ => rfl); injection e with h1 h2 h3; subst h1 h2 h3; exact r.mono (fun _ hk => hk.2))
                have hsm := peer_sm y.id HPX.out
                have hs1 : M2 ≤ 4000000000000000000 := by have := SK.out.len; omega
                have hs2 : M5 ≤ 4000000000000000000 := by have := SN.out.len; omega
                simp only [Hdr.val]
                replace KK := Lib.hid (KK.out.nx kk)
                clear ok2 on2 kk e0 e7 hsm
                generalize peerN PX y.id = po at F1 SK SN ⊢
                go_wp2_with fail
                (with_reducible refine (refs_p _ _ _ L po _ _ _ _ _ _ _ (HS.out.nx (KI.out.nx (KQ.out.nx KK.out))) (by omega) hcX hmX SK.out SN.out hs1 hs2).mono ?_)
                rintro e w6 ⟨v6, rfl, o6, kk⟩
                obtain ⟨A6, C6, rfl, r6, _, _, _⟩ := o6.slf (fun _ => rfl)
                have hr6 := refsN_le L po
                have S6 := Lib.hid r6.sl
                replace KK := Lib.hid (KK.out.nx kk)
                clear o6 r6 kk SK SN
                generalize refsN L po = rf at F1 S6 hr6 ⊢
                go_wp2_with fail
                (with_reducible refine (has_r _ _ _ _ nn _ S6.out (by omega)).mono ?_)
                rintro e w7 ⟨rfl, kk⟩
                rw [F1.out]
                replace KK := Lib.hid (KK.out.nx kk)
                clear kk S6
                have e1 := C1.out w7 (KQ.out.nx KK.out)
                go_wp2_with fail
                (with_reducible refine (has_r _ _ _ _ nn _ (S1.out.nx (KQ.out.nx KK.out)) hl1).mono ?_)
                rintro e w8 ⟨rfl, kk⟩
                rw [F2.out]
                have FN : Hid (MuRel 2 wq (.int .i64 ((q : Int) + 1)) w8) := Lib.hid ⟨q + 1, by omega, by go_num, KK.out.nx kk⟩
                clear kk e1
                go_wp2_with fail
                exact ⟨FN.out, by simp [intOf]; omega⟩
            · obtain rfl : q = 2 := by omega
              have FN : Hid (MuRel L.length x4 (.int .i64 ((i : Int) + 1)) wk) := Lib.hid ⟨i + 1, by omega, by go_num, KI.out.nx (KQ.out.nx KK.out)⟩
              go_wp2_with fail
              exact ⟨FN.out, by simp [intOf]; omega⟩
    · obtain rfl : i = L.length := by omega
      have KE := Lib.hid (K0.out.nx KI.out)
      go_wp2_with fail
      (with_reducible refine (sane16_x _ (TG.out.nx KE.out)).mono ?_)
      rintro e wz ⟨rfl, kk⟩
      have KF := Lib.hid (QX.out.nx (KE.out.nx kk))
      clear kk
      go_wp2_with fail
      go_ret
      exact ⟨rfl, KF.out⟩
end Go.Proofs.YtbnbjiddffihoaaDoor

/- What the laid tables give the walks. -/
namespace Go.Proofs.YtbnbjiddffihoaaDoor
open Go.RowKit

theorem Tryd.gTab : Tryd.prog.globalNamed "math/bits.deBruijn32tab" = some 1 := by kernel_rfl
theorem Tryd.tTab : (Tryd.prog.globals[1]?).map (·.type) = some 171 := by kernel_rfl
theorem Tryd.cells32 : Tryd.prog.cellsOf 171 = 32 := by kernel_rfl
theorem Tryd.cellsU8 : Tryd.prog.cellsOf 5 = 1 := by kernel_rfl
theorem laid_tab {H : Type} : (Rows.laid_math_bits_deBruijn32tab : DataW H) = Lib.tabData .u8 (Lib.deBruijn32tab.map fun (n : Nat) => (n : Int)) := rfl

theorem tabG_of {rest : List (String × DataW Unit)} {W : World} (h : laidMetH Tryd.prog (("math/bits.deBruijn32tab", Rows.laid_math_bits_deBruijn32tab) :: rest) W)
    (hp : ((("math/bits.deBruijn32tab", Rows.laid_math_bits_deBruijn32tab) :: rest).all fun x => x.2.handleName?.isNone) = true) : TabG W := by
  rw [MakeChecks.laidMetH_plain _ _ _ hp, laid_tab] at h
  have ht := Lib.tabIs_of_head Tryd.gTab Tryd.tTab Tryd.underlying171 Tryd.underlying5 Tryd.cellsU8 Tryd.cells32 h
  intro j hj
  have := ht.cell Tryd.gTab j (by simp [Lib.deBruijn32tab]; omega)
  rw [this]
  congr 2
  simp [List.getD, List.getElem?_map]
  cases h : Lib.deBruijn32tab[j]? <;> simp
end Go.Proofs.YtbnbjiddffihoaaDoor

/- What the laid letters give the walks. -/
namespace Go.Proofs.YtbnbjiddffihoaaDoor
open Go.RowKit

theorem Tryd.gLet : Tryd.prog.globalNamed "skipgraph/skipgraphworld.letters" = some 0 := by kernel_rfl
theorem Tryd.tLet : (Tryd.prog.globals[0]?).map (·.type) = some 113 := by kernel_rfl
theorem Tryd.cells6 : Tryd.prog.cellsOf 113 = 6 := by kernel_rfl
theorem Tryd.cellsStr : Tryd.prog.cellsOf 9 = 1 := by kernel_rfl
def letL : List (List UInt8) := [[97], [98], [99], [0], [255], [109]]

/-- AN ARRAY OF STRINGS THAT READS AS A LIST OF STRINGS HOLDS THEM, CELL FOR CELL. -/
theorem cells_of_strs {H : Type} {enc : TypeId × Value → H} {P : Program} {w : World} {base : Nat} {sp : Nat → Bool} {held : Bool} {fuel : Nat} {t e : TypeId} {n : Nat} {cs : List Value} {zs : List (List UInt8)} {p : List MemPlace}
    (ht : P.underlying t = some (.array n e)) (he : P.underlying e = some .string) (hce : P.cellsOf e = 1) (hct : P.cellsOf t = n)
    (h : DataW.trod enc P w base sp held fuel t cs = some (.agg (zs.map fun z => .lit (.string z)), p)) : ∀ (i : Nat) (z : List UInt8), zs[i]? = some z → ∃ s : ByteArray, s.data.toList = z ∧ cs[i]? = some (.string s) := by
  cases fuel with
  | zero => simp [DataW.trod] at h
  | succ fuel =>
    simp only [DataW.trod, ht, hce, hct, Nat.mul_one] at h
    split at h
    · rename_i hl
      obtain ⟨xs, hm, hx⟩ := Option.map_eq_some_iff.1 h
      have hxs : xs.map (·.1) = zs.map fun z => (DataW.lit (.string z) : DataW H) := by
        have := congrArg Prod.fst hx
        simpa using this
      have hxl : xs.length = n := by simpa using Lib.mapM_length hm
      have hzl : zs.length = n := by
        have := congrArg List.length hxs
        simp at this
        omega
      intro i z hz
      have hi : i < n := by have := (List.getElem?_eq_some_iff.1 hz).1; omega
      obtain ⟨b, hb, hf⟩ := Lib.mapM_at hm i i (by simp [hi])
      obtain ⟨s, hc, rfl, _⟩ := DataW.trod_string he hf
      have h1 : cs[i]? = some (.string s) := by
        have := congrArg (·[0]?) hc
        simpa [List.getElem?_take, List.getElem?_drop] using this
      have h2 : (xs.map (·.1))[i]? = some (DataW.lit (.string s.data.toList) : DataW H) := by simp [hb]
      rw [hxs] at h2
      simp only [List.getElem?_map, Option.map_eq_some_iff, DataW.lit.injEq, Lit.string.injEq] at h2
      obtain ⟨z', hz', hzz⟩ := h2
      have : z = z' := Option.some.inj (hz.symm.trans hz')
      exact ⟨s, by rw [this, hzz], h1⟩
    · cases h

theorem laid_let {H : Type} : (Rows.laid_skipgraph_skipgraphworld_letters : DataW H) = .agg (letL.map fun z => .lit (.string z)) := rfl
theorem letG_head {rest : List (String × DataW Unit)} {W : World} (h : laidMet Tryd.prog (("skipgraph/skipgraphworld.letters", .agg (letL.map fun z => .lit (.string z))) :: rest) W) : LetG W := by
  obtain ⟨ps, ⟨g', t', cs, fuel, p, q, hg', ht', hvar, hd, _, _⟩, _⟩ := h
  obtain rfl := Option.some.inj (Tryd.gLet.symm.trans hg')
  obtain rfl := Option.some.inj (Tryd.tLet.symm.trans ht')
  intro j hj
  obtain ⟨z, hz⟩ : ∃ z, letL[j]? = some z := ⟨letL[j]'(by simp [letL]; omega), by simp⟩
  obtain ⟨s, h1, h2⟩ := cells_of_strs Tryd.underlying113 Tryd.underlying9 Tryd.cellsStr Tryd.cells6 hd j z hz
  refine ⟨s, ?_, ?_⟩
  · have hl : z.length = 1 := by
      have : ∀ j, j < 6 → (letL[j]?.getD []).length = 1 := by decide
      have := this j hj
      rw [hz] at this
      exact this
    have : s.data.toList.length = 1 := by rw [h1]; exact hl
    rw [Array.length_toList] at this
    exact this
  · rw [World.var?_cell Tryd.gLet hvar j]
    simpa using h2
end Go.Proofs.YtbnbjiddffihoaaDoor

/- The letters, where they are second on the list of what is laid. -/
namespace Go.Proofs.YtbnbjiddffihoaaDoor
open Go.RowKit

theorem letG_second {x : String × DataW Unit} {W : World} (h : laidMetH Tryd.prog [x, ("skipgraph/skipgraphworld.letters", Rows.laid_skipgraph_skipgraphworld_letters)] W)
    (hp : ([x, ("skipgraph/skipgraphworld.letters", Rows.laid_skipgraph_skipgraphworld_letters)].all fun x => x.2.handleName?.isNone) = true) (hx : decide (x.1 = "skipgraph/skipgraphworld.letters") = false) : LetG W := by
  rw [MakeChecks.laidMetH_plain _ _ _ hp, laid_let] at h
  have h2 := h.filter (fun y => decide (y.1 = "skipgraph/skipgraphworld.letters"))
  rw [List.filter_cons_of_neg (by rw [hx]; simp), List.filter_cons_of_pos (by simp), List.filter_nil] at h2
  exact letG_head h2
end Go.Proofs.YtbnbjiddffihoaaDoor

/- How the arguments of a statement are read: slices as lists. -/
namespace Go.Proofs.YtbnbjiddffihoaaDoor
open Go.ChangeShapes Go.WideShapes Go.ChangeAt Go.RowKit Go.Deep Go.Joins

theorem own : ownKnob Tryd.prog.godebug = none := by kernel_rfl
theorem laidOut : laidOutB Tryd.prog = true := by kernel_rfl

section
variable {H : Type} {enc : TypeId × Value → H} {P : Program} {w : World} {base : Nat} {spare : Nat → Bool} {held : Bool}

theorem addr_lit {a : Addr} {v : Value} {w : World} (h : w.cell? (a.add 0) = some v) : a = ⟨a.block, a.off, none⟩ := by
  obtain ⟨b, o, s⟩ := a
  have : s = none := by simpa [Addr.add] using World.cell?_spot h
  subst this; rfl

/-- a slice of ints that came in -/
theorem rd_ints {t e : TypeId} {k : IntKind} {v : Value} {d : DataW H} {p : List MemPlace} {r : Reach} {b0 : Nat} (ht : P.underlying t = some (.slice e)) (he : P.underlying e = some (.int k)) (hC : P.cellsOf e = 1)
    (hv : Value.okWide P w r b0 t v) (h : DataW.Trod enc P w base spare held t v d p) :
    ∃ a n c l, v = .slice a n c ∧ Rd 1 (fun x : Int => [Value.int k x]) (· < w.heap.size) w a n l ∧ n ≤ c ∧ c ≤ maxLen ∧ (∀ x ∈ l, (Lit.int k x).wf = true) ∧ (a = none → c = 0) := by
  obtain ⟨a0, len0, cap0, rfl⟩ := okWide_slice ht hv
  obtain ⟨fuel, hf⟩ := h
  rcases open_ints ht he hC hf with ⟨hcs, _⟩ | ⟨x, l, c, zs, hcs, _, hl, hm, hz, _, hcell, hwz⟩
  · simp [Value.cells] at hcs
    obtain ⟨rfl, rfl, rfl⟩ := hcs
    exact ⟨none, 0, 0, [], rfl, Rd.nil _ _ _ _ _, by omega, by unfold maxLen; omega, by simp, fun _ => rfl⟩
  · simp [Value.cells] at hcs
    obtain ⟨rfl, rfl, rfl⟩ := hcs
    have hz' : len0 ≤ zs.length := by rw [hz]; split <;> omega
    refine ⟨_, len0, cap0, zs.take len0, rfl, ⟨by simp; omega, ?_⟩, hl, hm, fun y hy => hwz y (List.mem_of_mem_take hy), fun h => by cases h⟩
    rcases Nat.eq_zero_or_pos len0 with h0 | h0
    · exact .inl h0
    · have hx := addr_lit (hcell 0 (by omega))
      refine .inr ⟨x.block, x.off, by rw [← hx], ?_, fun j y hj c u hu => ?_⟩
      · have := World.block_lt_of_cell? w _ (hcell 0 (by omega))
        rw [hx] at this
        simpa [Addr.add] using this
      · have hj' : j < len0 := by
          have := (List.getElem?_eq_some_iff.1 hj).1
          simp at this; omega
        have hy : zs.getD j 0 = y := by
          rw [List.getElem?_take, if_pos hj'] at hj
          simp [List.getD, hj]
        have hc := hcell j (by omega)
        rw [hx, Addr.add_lit, hy] at hc
        rcases c with _ | c
        · simp at hu; subst hu; simpa using hc
        · simp at hu

end
end Go.Proofs.YtbnbjiddffihoaaDoor

/-
  LinearMutual returns true for every list of numbers, and leaves its arguments as they were.
  Condition: the table of math/bits and the letters of the keys are as the program text lays them (tied by the card).
-/
namespace Go.Proofs.YtbnbjiddffihoaaDoor
open Go.ChangeShapes Go.WideShapes Go.ChangeAt Go.RowKit Go.Deep Go.Joins
open Go.ChangeMaps (open_string shut_string)
set_option linter.unusedVariables false
theorem Tryd.cellsInt : Tryd.prog.cellsOf 3 = 1 := by kernel_rfl

set_option maxRecDepth 100000 in
set_option maxHeartbeats 1000000 in
theorem linearMutual_lifted (os : Os) (started : os.Started) (H : Type) (enc : TypeId × Value → H) :
    ReturnsInHanded {} Tryd.checked os 7 .any (fun w args => (Rows.linearMutualSpec.pre enc Tryd.prog Tryd.f7 [] false w args ∧ laidMetH Tryd.prog Rows.linearMutualRow.laid w) ∧ sizedMet enc Tryd.prog Tryd.f7 (OpenSpec.ofChange Rows.linearMutualSpec) false w args)
      (Rows.linearMutualSpec.post enc Tryd.prog Tryd.f7 false true false false) := by
  refine returnsInHanded_of_change_and (C := Tryd.checked) (X := fun w _ => laidMetH Tryd.prog Rows.linearMutualRow.laid w) (fun _ _ _ hh h => h.of_heap hh) own started (by kernel_rfl) Tryd.func7
    (ChangeSpec.witness_shaped (enc := enc) (C := Tryd.checked) (os := os) (X := fun w _ => laidMetH Tryd.prog Rows.linearMutualRow.laid w) false (World.doorLaid Tryd.prog 400 os) #[.slice none 0 0] 8 rfl (World.shaped_of_RefB (by kernel_rfl) (by kernel_rfl)) (by kernel_rfl) (by kernel_rfl) (by kernel_rfl) (laidMetH_of_parts3 (fuel := 8) (laidMet_of_run' 8 (by kernel_rfl) (by kernel_rfl)) (by kernel_rfl) (by kernel_rfl))) ?_
  intro W base args ds gs before hval0 hW _ _ hL _
  have hval : ∀ (j : Nat) t v, Tryd.f7.params[j]? = some t → args[j]? = some v → Value.okWide Tryd.prog W .any base t v := hval0
  have hW' := hW
  obtain ⟨p, q, hA0, hV, rfl, hfz, hnd⟩ := hW
  have hA : DataW.TrodAll enc Tryd.prog W 0 (fun _ => true) true Tryd.f7.params.toList args.toList ds p := hA0
  rw [Tryd.params7] at hA hval
  obtain ⟨v0, vs0, d0, ds0, p0, q0, hargs, rfl, rfl, h0, r0⟩ := trodAll_cons hA
  obtain ⟨rfl, rfl, rfl⟩ := trodAll_nil r0
  obtain rfl : args = #[v0] := by cases args; simp_all
  obtain ⟨rfl, rfl⟩ := trodVars_none hV
  have k0 := h0
  have lt0 : ∀ x ∈ p0, x.block < W.heap.size := by obtain ⟨m, hm⟩ := k0; exact DataW.trod_lt m _ _ _ hm
  obtain ⟨A0, n0, cap0, l0, rfl, rd0, hc0, hm0, wf0, nl0⟩ := rd_ints Tryd.underlying22 Tryd.underlying3 Tryd.cellsInt (hval 0 22 v0 rfl rfl) h0
  clear hA0 hval0
  have hT : TabG W := tabG_of hL (by kernel_rfl)
  have hL2 : LetG W := letG_second hL (by kernel_rfl) (by kernel_rfl)
  refine (linearmutual_walk A0 n0 cap0 l0 W rd0 hc0 hm0 hT hL2).mono fun e W' ⟨he, hch⟩ => ?_
  have bel : Below W.heap.size W W' := hch.below (fun _ h => h)
  subst he
  exact ⟨_, rfl, _, _, _, [], _, [], hW', trodAll_mk1 (shut_bool Tryd.underlying4 _), (trodAll_cons_mk (Below.trod laidOut (by kernel_rfl) (of_decide_eq_true (by kernel_rfl)) k0 bel lt0) trodAll_mk0), rfl, bel.frame _, fun h => by cases h⟩

theorem linearMutual_over : Rows.linearMutualRow.holds Tryd.pinned (OpenSpec.ofChange Rows.linearMutualSpec) :=
  OpenClaim.holds_of_wide 7 Tryd.f7 rfl rfl rfl rfl rfl rfl rfl ⟨rfl, rfl, rfl, rfl, rfl⟩ rfl rfl rfl rfl rfl (by kernel_rfl) Tryd.func7 (by kernel_rfl)
    (of_decide_eq_true (by kernel_rfl)) (by unfold Func.isWrapper; first | (rw [if_pos (by decide +kernel)]; kernel_rfl) | (rw [if_neg (by decide +kernel)]; exact ⟨rfl, rfl⟩))
    (fun os started H enc _ => linearMutual_lifted os started H enc)

/-- THE STATEMENT: the tied card -/
theorem LinearMutual_holds : Rows.LinearMutualCardSaid :=
  Claim7.holds_tied_plain_at .later [] [.data, .data] true (true, "537bcba351ee7c6ecaa5297babacf7821561b6c8c2db16f64a63e42404e90020") false
    linearMutual_over (fun _ h => by cases h) (by kernel_rfl) (fun _ h => by cases h) linearMutual_row_tie rfl ⟨rfl, rfl⟩ (by kernel_rfl) rfl
    (fun f fn hf hfn => by
      obtain rfl : f = 7 := Option.some.inj ((show Tryd.prog.funcNamed "skipgraph/skipgraphlaw16.LinearMutual" = some 7 by kernel_rfl).symm.trans hf) |>.symm
      obtain rfl : fn = Tryd.f7 := (Option.some.inj (Tryd.func7.symm.trans hfn)).symm
      exact ⟨by kernel_rfl, fun j t ht => by
        rw [Tryd.params7] at ht
        have hm : t ∈ [22] := by simpa using Array.mem_of_getElem? ht
        have hall : ([22].all fun u => !Tryd.prog.wantsStandIn u) = true := by kernel_rfl
        exact (show Tryd.prog.wantsStandIn t = false by simpa using List.all_eq_true.1 hall t hm)⟩)
    (by kernel_rfl)
#print axioms LinearMutual_holds
end Go.Proofs.YtbnbjiddffihoaaDoor
