/- Texts for the statement LinearRoundsProof, part 7 of 9: LinE, TPe. -/
import Derived.Test.YtbnbjiddffihoaaGreatDoorLinearRoundsProofPk3
import Derived.Test.YtbnbjiddffihoaaGreatDoorLinearRoundsProofPk6

/- Round of the package linear. -/
namespace Go.Proofs.YtbnbjiddffihoaaGreatDoor
open Go.RowKit Go.Maps

theorem told_grp (M : List (Int × Int)) (m : Int × Int) : toldN (M ++ [m]) = grp1 (toldN M) m.1 m.2 := by
  funext id
  rw [told_snoc]
  unfold grp1
  by_cases h : id = m.1
  · subst h; simp
  · rw [if_neg (fun h2 => h h2.symm), if_neg h, List.append_nil]
theorem flat_len (N : List Nd) (Q : List Pr) : (Q.flatMap (introsN N)).length ≤ Q.length * (2 * N.length) := by
  induction Q with
  | nil => simp
  | cons p Q ih =>
    rw [List.flatMap_cons, List.length_append, List.length_cons, Nat.succ_mul]
    have := intros_len N p
    omega
theorem flat_snoc {N : List Nd} {Q : List Pr} {j : Nat} {p : Pr} (hp : Q[j]? = some p) : (Q.take (j + 1)).flatMap (introsN N) = (Q.take j).flatMap (introsN N) ++ introsN N p := by
  rw [List.take_add_one, hp, List.flatMap_append]
  simp
theorem intros_ids {N : List Nd} {p : Pr} {q : Int × Int} (h : q ∈ introsN N p) : ∃ x ∈ N, x.id = q.1 := ar_ids p _ (prs_from h).1
theorem normal_le (N : List Nd) (P : List Pr) : (normalN N P).length ≤ N.length ∧ (0 < (normalN N P).length → checkN N = 0) := by
  unfold normalN
  split
  · rename_i h; exact ⟨by rw [List.length_map, sortN_length]; exact Nat.le_refl _, fun _ => h⟩
  · exact ⟨Nat.zero_le _, fun h => by cases h⟩
theorem normal_small (N : List Nd) {P : List Pr} (h : SmallP P) : SmallP (normalN N P) := by
  intro p hp
  unfold normalN at hp
  split at hp
  · obtain ⟨x, _, rfl⟩ := List.mem_map.1 hp
    unfold peerN
    cases hf : P.find? fun p => p.id == x.id with
    | none => exact ⟨Nat.zero_le _, Nat.zero_le _⟩
    | some q => exact h q (List.mem_of_find?_eq_some hf)
  · cases hp
theorem normal_ids (N : List Nd) (P : List Pr) : ∀ p ∈ normalN N P, ∃ x ∈ N, x.id = p.id := by
  intro p hp
  unfold normalN at hp
  split at hp
  · obtain ⟨x, hx, rfl⟩ := List.mem_map.1 hp
    exact ⟨x, (sortN_mem N x).1 hx, (peer_id P x.id).symm⟩
  · cases hp
theorem AccM.one {β lo hi bm : Nat} {w6 wp w1 w3 : World} {f : Int → Value} {x : Int} {va : Value} (h : AccM β lo hi bm w6 wp f) (hb : ∀ v g, (f v).ownBlock = some g → β ≤ g)
    (k1 : Chg (fun k => k < wp.heap.size ∧ ¬ (f x).ownBlock = some k) wp w1) (la : ∀ g, va.ownBlock = some g → (f x).ownBlock = some g ∨ wp.heap.size ≤ g) (k3 : Exb bm w1 w3) : AccM β lo hi bm w6 w3 (upd f x va) := by
  have s1 := k1.size
  have s3 := k3.size
  have hs := h.2.1
  have key : ∀ v k, k < hi ∧ k ≠ bm ∧ (k < β ∨ lo ≤ k) → ¬ (f v).ownBlock = some k := fun v k hk hv => by
    have h1 := hb v k hv
    have h2 := h.2.2 v k hv
    omega
  refine ⟨h.1.trans ((k1.mono fun k hk => ⟨by omega, key x k hk⟩).trans (Chg.mono k3 fun k hk => ⟨by omega, hk.2.1⟩)), by omega, fun v g hv => ?_⟩
  unfold upd at hv
  by_cases h3 : v = x
  · rw [if_pos h3] at hv
    rcases la g hv with h2 | h2
    · exact h.2.2 x g h2
    · omega
  · rw [if_neg h3] at hv
    exact h.2.2 v g hv
theorem AccM.nxm {β lo hi bm : Nat} {w6 wr w9 : World} {f : Int → Value} (h : AccM β lo hi bm w6 wr f) (k : Ex wr w9) : AccM β lo hi bm w6 w9 f :=
  ⟨h.1.trans (Chg.mono k fun x hx => Nat.lt_of_lt_of_le hx.1 h.2.1), Nat.le_trans h.2.1 k.size, h.2.2⟩
def LrRel (N : List Nd) (Q : List Pr) (bm : Nat) (w : World) (i : Value) (wr : World) : Prop :=
  ∃ (j n : Nat) (f : Int → Value), j ≤ Q.length ∧ i = .int .i64 j ∧ GpM w.heap.size wr bm n f (toldN ((Q.take j).flatMap (introsN N))) ∧ n = ((Q.take j).flatMap (introsN N)).length ∧ Exb bm w wr
def LmRel (E M : List (Int × Int)) (bm lo : Nat) (w w6 : World) (i : Value) (wr : World) : Prop :=
  ∃ (j n : Nat) (f : Int → Value), j ≤ M.length ∧ i = .int .i64 j ∧ GpM w.heap.size wr bm n f (toldN (E ++ M.take j)) ∧ n = E.length + j ∧ AccM w.heap.size lo w6.heap.size bm w6 wr f
def LtRel (N : List Nd) (Q : List Pr) (M : List (Int × Int)) (qs : List PQ) (base : Nat) (w : World) (o i : Value) (wr : World) : Prop :=
  ∃ (j : Nat) (qz : List PQ), j ≤ Q.length ∧ i = .int .i64 j ∧ OwnPr base wr o qz ((Q.take j).map (rndP N M)) ∧ (∀ g, o.ownBlock = some g → w.heap.size ≤ g) ∧ (∀ (i : Nat) (q : PQ), qz[i]? = some q → ∃ q0, qs[i]? = some q0 ∧ q.2.2 = q0.2.2) ∧ Ex w wr
set_option maxRecDepth 100000 in
set_option maxHeartbeats 16000000 in
theorem lround_p (a : Option Addr) (n c : Nat) (N : List Nd) (a2 : Option Addr) (n2 c2 : Nat) (P : List Pr) (w : World) (h : Sl 3 encN w a n N) (hn : n ≤ 1000) (hc : n ≤ c) (hm : c ≤ maxLen) (h2 : PL w a2 n2 P) (hn2 : n2 ≤ 4000000000000000000) (hP : SmallP P) :
    Calls Tryz.prog 41 #[.slice a n c, .slice a2 n2 c2] w (PlPost (roundN N P) w) := by
  have HL := Lib.hid h.len
  go_enter Tryz.func41, Tryz.ntmps41
  go_wp2_with fail
  (with_reducible refine (normal_p _ _ _ N _ _ _ P _ h hn hc hm h2 hn2 hP).mono ?_)
  rintro e w3 ⟨v3, qs, rfl, OQ, kk⟩
  replace h := h.nx kk
  clear h2
  have K03 := Lib.hid kk
  obtain ⟨hQ1, hQ2⟩ := normal_le N P
  have HR := Lib.hid (roundN_eq N P)
  have HQS := Lib.hid (normal_small N hP)
  have HQI := Lib.hid (normal_ids N P)
  generalize normalN N P = Q at OQ hQ1 hQ2 HR HQS HQI
  have HQ2 := Lib.hid hQ2
  obtain ⟨aQ, cQ, rfl, PQ0, _, _, _, _⟩ := OQ.pl
  have HPQ := Lib.hid PQ0
  have HOQ := Lib.hid OQ
  have hQn : Q.length ≤ n := by have := HL.out; omega
  have hz3 := kk.size
  clear OQ PQ0 kk hQ1 hQ2 hP
  have HS3 := Lib.hid h
  clear h
  have G4 := GrpM.made w3 Tryz.prog 3 3
  have kk := Ex.new w3 (.map #[] 0)
  obtain ⟨w4, hw4⟩ : ∃ w4, w4 = w3.alloc (.map #[] 0) := ⟨_, rfl⟩
  obtain ⟨bm, hbm⟩ : ∃ bm, bm = w3.heap.size := ⟨_, rfl⟩
  have hsz4 : w4.heap.size = bm + 1 := by rw [hw4, hbm]; simp
  replace G4 : GpM w4.heap.size w4 bm 0 (fun _ => nilS) (fun _ => []) := by rw [hsz4, hw4, hbm]; exact G4
  rw [← hw4] at kk
  have Hw4 := Lib.hid hw4
  have Hbm := Lib.hid hbm
  have QL : Hid (Exl bm w3 w4) := Lib.hid ⟨kk, by omega⟩
  clear kk hw4 hbm
  have hmm := @run_makeMap Tryz.prog
  go_upto_region 3 with fail
  rw [← Hbm.out, ← Hw4.out]
  clear Hbm Hw4
  clear hmm
  have hbm4 : bm < w4.heap.size := by omega
  replace hsz4 := Lib.hid hsz4
  go_wp2_with fail
  go_loopw [22] (fun i wr => LrRel N Q bm w4 i wr) (fun i _ => Q.length - (intOf i).toNat)
  case atStart => exact ⟨0, 0, fun _ => nilS, by omega, rfl, G4, by simp, Exb.refl _ _⟩
  case round =>
    clear G4
    obtain ⟨j, nn, f, hj, rfl, GP, hnn, kw⟩ := hrel
    obtain ⟨wi, rfl⟩ : ∃ wi : World, wi = wr := ⟨_, rfl⟩
    have K3 := Lib.hid (QL.out.nxb kw).1
    have KW := Lib.hid kw
    have hbi : bm < wi.heap.size := Nat.lt_of_lt_of_le hbm4 kw.size
    have GW := Lib.hid GP
    have HNN := Lib.hid hnn
    clear kw GP hnn
    by_cases hjm : j < Q.length
    · have HC := Lib.hid (HQ2.out (by omega))
      have hN64 : N.length ≤ 64 := check_len HC.out
      have HI : Hid (∀ x ∈ N, I64 x.id) := Lib.hid (fun x hx => (roster_ok HC.out x hx).1.1)
      obtain ⟨x3, o3, b1, m1, d1, b4, m4, d4, y, rfl, hx3, hy, e0, e1, e2, e3, e4, s1, s4⟩ := (HPQ.out.nx K3.out).rd hjm
      have FS := Lib.hid (flat_snoc (N := N) hy)
      have hEl : ((Q.take j).flatMap (introsN N)).length ≤ 64 * 128 := by
        refine Nat.le_trans (flat_len N (Q.take j)) (Nat.mul_le_mul ?_ ?_)
        · rw [List.length_take]; have := HL.out; omega
        · omega
      have hyP := HQS.out y (List.mem_of_getElem? hy)
      have hl1 : m1 ≤ 4000000000000000000 := by have := s1.len; omega
      have hl4 : m4 ≤ 4000000000000000000 := by have := s4.len; omega
      have S1 := Lib.hid s1
      have S4 := Lib.hid s4
      generalize (Q.take j).flatMap (introsN N) = E at GW HNN FS hEl
      clear hy s1 s4 hyP
      have B8 := Blk.new wi [.int .i64 y.id, .slice b1 m1 d1, .int .i64 y.left, .int .i64 y.right, .slice b4 m4 d4] 45
      have kk := Ex.new wi (.cells #[.int .i64 y.id, .slice b1 m1 d1, .int .i64 y.left, .int .i64 y.right, .slice b4 m4 d4] 45)
      obtain ⟨w5, hw5⟩ : ∃ w5, w5 = wi.alloc (.cells #[.int .i64 y.id, .slice b1 m1 d1, .int .i64 y.left, .int .i64 y.right, .slice b4 m4 d4] 45) := ⟨_, rfl⟩
      obtain ⟨g8, hg8⟩ : ∃ g8, g8 = wi.heap.size := ⟨_, rfl⟩
      replace B8 : Blk w5 g8 [.int .i64 y.id, .slice b1 m1 d1, .int .i64 y.left, .int .i64 y.right, .slice b4 m4 d4] 45 := by rw [hw5, hg8]; exact B8
      rw [← hw5] at kk
      have Hw5 := Lib.hid hw5
      have Hg8 := Lib.hid hg8
      have K5 := Lib.hid kk
      clear kk hw5 hg8
      go_upto_region 6 with fail
      rw [← Hg8.out, ← Hw5.out]
      clear Hg8 Hw5
      have q0 := B8.cell 0 _ rfl
      have q1 := B8.cell 1 _ rfl
      have q2 := B8.cell 2 _ rfl
      have q3 := B8.cell 3 _ rfl
      have q4 := B8.cell 4 _ rfl
      clear e0 e1 e2 e3 e4 B8
      go_wp2_with fail
      (with_reducible refine (intros_p _ _ _ N y _ _ _ _ _ _ _ (HS3.out.nx (K3.out.nx K5.out)) hn hc hm (S1.out.nx K5.out) (S4.out.nx K5.out) hl1 hl4).mono ?_)
      rintro e w9 ⟨v9, rfl, o9, kk⟩
      clear q0 q1 q2 q3 q4
      obtain ⟨A9, C9, rfl, r9, _, _, _, _⟩ := o9.rd (fun _ => rfl)
      have K9 := Lib.hid (K5.out.nx kk)
      have R9 : Hid (Slf 2 encS wi w9 A9 (introsN N y).length (introsN N y)) := Lib.hid (Slf.old r9 K5.out.size)
      have hMl := intros_len N y
      have HMI : Hid (∀ q ∈ introsN N y, I64 q.1) := Lib.hid (fun q hq => by obtain ⟨x, hx, he⟩ := intros_ids hq; rw [← he]; exact HI.out x hx)
      generalize introsN N y = M at R9 hMl HMI FS r9 o9 ⊢
      have A0 : Hid (AccM w4.heap.size wi.heap.size w9.heap.size bm w9 w9 f) := Lib.hid ⟨Chg.refl _ _, Nat.le_refl _, fun v g hg => .inl ((GW.out.row v).lt g hg).2⟩
      have G9 := Lib.hid (GW.out.nx K9.out)
      clear r9 o9 kk
      go_wp2_with fail
      go_loopw [30] (fun i wr => LmRel E M bm wi.heap.size w4 w9 i wr) (fun i _ => M.length - (intOf i).toNat)
      case atStart => exact ⟨0, nn, f, by omega, rfl, by simpa using G9.out, by simpa using HNN.out, A0.out⟩
      case round =>
        clear A0 G9 GW
        obtain ⟨i, m, f2, hi, rfl, GP, hm2, ac⟩ := hrel
        obtain ⟨wp, rfl⟩ : ∃ wp : World, wp = wr := ⟨_, rfl⟩
        by_cases hil : i < M.length
        · obtain ⟨xr, or, z, rfl, hxr, hz, hcr⟩ := (ac.sl hbi R9.out).at (j := i) hil
          have f0 : wp.cell? ⟨xr, or + i * 2, none⟩ = some (.int .i64 z.1) := by simpa using hcr 0 _ rfl
          have f1 : wp.cell? ⟨xr, or + i * 2 + 1, none⟩ = some (.int .i64 z.2) := by simpa using hcr 1 _ rfl
          have LS : Hid (M.take (i + 1) = M.take i ++ [z]) := Lib.hid (by rw [List.take_add_one, hz]; rfl)
          have hzI := HMI.out z (List.mem_of_getElem? hz)
          have wx1 := Lib.hid (wf_of hzI)
          have JX := Lib.hid (told_len (E ++ M.take i) z.1)
          have hEM : (E ++ M.take i).length ≤ 64 * 128 + 128 := by rw [List.length_append, List.length_take]; omega
          generalize hJ : toldN (E ++ M.take i) = J at GP JX
          have HJ := Lib.hid hJ
          have jlx : (J z.1).length ≤ 10000 := Nat.le_trans JX.out (by omega)
          have GPH := Lib.hid GP
          have AC := Lib.hid ac
          have M2 := Lib.hid hm2
          have hm100 : m < 1000000 := by omega
          clear hcr hz hzI hJ GP ac hm2 JX hEM
          have B10 := Blk.new wp [.int .i64 z.1, .int .i64 z.2] 89
          have kk := Ex.new wp (.cells #[.int .i64 z.1, .int .i64 z.2] 89)
          obtain ⟨w6, hw6⟩ : ∃ w6, w6 = wp.alloc (.cells #[.int .i64 z.1, .int .i64 z.2] 89) := ⟨_, rfl⟩
          obtain ⟨g10, hg10⟩ : ∃ g10, g10 = wp.heap.size := ⟨_, rfl⟩
          replace B10 : Blk w6 g10 [.int .i64 z.1, .int .i64 z.2] 89 := by rw [hw6, hg10]; exact B10
          rw [← hw6] at kk
          have Hw6 := Lib.hid hw6
          have Hg10 := Lib.hid hg10
          have zg10 : wp.heap.size ≤ g10 := by omega
          replace GPH := Lib.hid (GPH.out.nx kk)
          replace AC := Lib.hid (AC.out.nxm kk)
          clear kk hw6 hg10
          go_upto_region 9 with fail
          rw [← Hg10.out, ← Hw6.out]
          clear Hg10 Hw6
          have BP := Lib.hid B10
          have zbp : bm < w6.heap.size := GPH.out.1.lt
          have zgp : g10 < w6.heap.size := B10.lt
          have NB : Hid (∀ v, ¬ (f2 v).ownBlock = some bm ∧ ¬ (f2 v).ownBlock = some g10) := Lib.hid (fun v => ⟨fun hv => by have := ((GPH.out.row v).lt bm hv).1; omega, fun hv => OwnL.ne_blk (GPH.out.row v) BP.out (by decide) hv rfl⟩)
          clear f0 f1 B10
          refine wp_region_late_drew (S := Chg (fun k => k = bm ∨ k = g10) w6) [11] (by kernel_rfl) ((Chg.refl _ w6).drew) (fun hHeld => ?_)
          obtain ⟨wd, hwdx⟩ : ∃ wd : World, wd = World.drew w6 := ⟨_, rfl⟩
          rw [← hwdx] at hHeld ⊢
          have hDrew : Ex w6 wd := by rw [hwdx]; exact (Ex.refl w6).drew
          clear hwdx
          refine wpAnyL_take (i := 0) (oi := ⟨some 34, .move (.tmp 6), 95, "linear.go:81", #[], none⟩) (v := ?_) rfl (by kernel_rfl) (by kernel_rfl) (by kernel_rfl) (fun _ _ _ h => h) (Or.inl ⟨by rfl, ?hyr1x0q5⟩) (by kernel_rfl) (by kernel_rfl) (by assumption) ?restr1x0q5
          case hyr1x0q5 => intro wq hSw; (go_simp); (try with_reducible rfl)
          try simp only [Act.put, List.setIfInBounds_toArray, List.set_cons_zero, List.set_cons_succ]
          refine wpAnyL_take (i := 1) (oi := ⟨some 35, .fieldAddr 89 (.tmp 10) 0, 0, "linear.go:81", #[], none⟩) (v := ?_) rfl (by kernel_rfl) (by kernel_rfl) (by kernel_rfl) (fun _ _ _ h => h) (Or.inl ⟨by rfl, ?hyr1x1q8⟩) (by kernel_rfl) (by kernel_rfl) (by assumption) ?restr1x1q8
          case hyr1x1q8 => intro wq hSw; (go_simp); (try with_reducible rfl)
          try simp only [Act.put, List.setIfInBounds_toArray, List.set_cons_zero, List.set_cons_succ]
          refine wpAnyL_take (i := 2) (oi := ⟨some 36, .load 3 (.tmp 35), 3, "linear.go:81", #[⟨1, .data⟩], none⟩) (v := ?_) rfl (by kernel_rfl) (by kernel_rfl) (by kernel_rfl) (fun _ _ _ h => h) (Or.inl ⟨by rfl, ?hyr1x2q11⟩) (by kernel_rfl) (by kernel_rfl) (by assumption) ?restr1x2q11
          case hyr1x2q11 => intro wq hSw; (have cq := ((show Blk wq g10 _ _ from (hSw.block g10 (.inr rfl)).trans BP.out).cell 0 _ rfl); go_simp); (try with_reducible rfl)
          try simp only [Act.put, List.setIfInBounds_toArray, List.set_cons_zero, List.set_cons_succ]
          refine wpAnyL_take (i := 3) (oi := ⟨some 37, .move (.tmp 6), 95, "linear.go:81", #[], none⟩) (v := ?_) rfl (by kernel_rfl) (by kernel_rfl) (by kernel_rfl) (fun _ _ _ h => h) (Or.inl ⟨by rfl, ?hyr1x3q14⟩) (by kernel_rfl) (by kernel_rfl) (by assumption) ?restr1x3q14
          case hyr1x3q14 => intro wq hSw; (go_simp); (try with_reducible rfl)
          try simp only [Act.put, List.setIfInBounds_toArray, List.set_cons_zero, List.set_cons_succ]
          refine wpAnyL_take (i := 4) (oi := ⟨some 38, .fieldAddr 89 (.tmp 10) 0, 0, "linear.go:81", #[], none⟩) (v := ?_) rfl (by kernel_rfl) (by kernel_rfl) (by kernel_rfl) (fun _ _ _ h => h) (Or.inl ⟨by rfl, ?hyr1x4q17⟩) (by kernel_rfl) (by kernel_rfl) (by assumption) ?restr1x4q17
          case hyr1x4q17 => intro wq hSw; (go_simp); (try with_reducible rfl)
          try simp only [Act.put, List.setIfInBounds_toArray, List.set_cons_zero, List.set_cons_succ]
          refine wpAnyL_take (i := 5) (oi := ⟨some 39, .load 3 (.tmp 38), 3, "linear.go:81", #[⟨4, .data⟩], none⟩) (v := ?_) rfl (by kernel_rfl) (by kernel_rfl) (by kernel_rfl) (fun _ _ _ h => h) (Or.inl ⟨by rfl, ?hyr1x5q20⟩) (by kernel_rfl) (by kernel_rfl) (by assumption) ?restr1x5q20
          case hyr1x5q20 => intro wq hSw; (have cq := ((show Blk wq g10 _ _ from (hSw.block g10 (.inr rfl)).trans BP.out).cell 0 _ rfl); go_simp); (try with_reducible rfl)
          try simp only [Act.put, List.setIfInBounds_toArray, List.set_cons_zero, List.set_cons_succ]
          refine wpAnyL_take (i := 6) (oi := ⟨some 40, .lookup 95 (.tmp 37) (.tmp 39) false, 22, "linear.go:81", #[⟨3, .data⟩, ⟨5, .data⟩], none⟩) (v := ?_) rfl (by kernel_rfl) (by kernel_rfl) (by kernel_rfl) (fun _ _ _ h => h) (Or.inl ⟨by rfl, ?hyr1x6q23⟩) (by kernel_rfl) (by kernel_rfl) (by assumption) ?restr1x6q23
          case hyr1x6q23 => intro wq hSw; (have lk := (RawM.same GPH.out.1 (hSw.block bm (.inl rfl))).get (t := 95) Tryz.underlying3 Tryz.underlying95 (Tryz.zeroS _) wx1.out; go_simp); (try with_reducible rfl)
          try simp only [Act.put, List.setIfInBounds_toArray, List.set_cons_zero, List.set_cons_succ]
          refine wpAnyL_take (i := 7) (oi := ⟨some 41, .fieldAddr 89 (.tmp 10) 1, 0, "linear.go:81", #[], none⟩) (v := ?_) rfl (by kernel_rfl) (by kernel_rfl) (by kernel_rfl) (fun _ _ _ h => h) (Or.inl ⟨by rfl, ?hyr1x7q26⟩) (by kernel_rfl) (by kernel_rfl) (by assumption) ?restr1x7q26
          case hyr1x7q26 => intro wq hSw; (go_simp); (try with_reducible rfl)
          try simp only [Act.put, List.setIfInBounds_toArray, List.set_cons_zero, List.set_cons_succ]
          refine wpAnyL_take (i := 8) (oi := ⟨some 42, .load 3 (.tmp 41), 3, "linear.go:81", #[⟨7, .data⟩], none⟩) (v := ?_) rfl (by kernel_rfl) (by kernel_rfl) (by kernel_rfl) (fun _ _ _ h => h) (Or.inl ⟨by rfl, ?hyr1x8q29⟩) (by kernel_rfl) (by kernel_rfl) (by assumption) ?restr1x8q29
          case hyr1x8q29 => intro wq hSw; (have cq := ((show Blk wq g10 _ _ from (hSw.block g10 (.inr rfl)).trans BP.out).cell 1 _ rfl); go_simp); (try with_reducible rfl)
          try simp only [Act.put, List.setIfInBounds_toArray, List.set_cons_zero, List.set_cons_succ]
          refine wpAnyL_ready (rs := [9]) (by kernel_rfl) (by simp) ?_
          refine AllReadyL.cons (o := ⟨some 43, .buildSlice 22 1 #[(0, .tmp 42)], 22, "linear.go:81", #[⟨8, .data⟩], none⟩) rfl (fun K hK => ?_) AllReadyL.nil
          go_simp
          obtain ⟨g8, wq, hg8, hwq, SX, kk⟩ := litF hHeld.size z.2
          rw [← hg8, ← hwq]
          clear hg8 hwq
          replace hDrew := hDrew.nx kk
          replace hHeld := hold_ex hHeld zbp zgp kk
          clear kk
          refine hK.out _ _ (hHeld) (fun hHeld => ?_)
          clear hK K
          try simp only [Act.put, List.setIfInBounds_toArray, List.set_cons_zero, List.set_cons_succ]
          refine wpAnyL_ready (rs := [10]) (by kernel_rfl) (by simp) ?_
          refine AllReadyL.cons (o := ⟨some 44, .call { callee := .builtin .append, args := #[.tmp 40, .tmp 43], argTypes := #[22, 22] }, 22, "linear.go:81", #[⟨6, .data⟩, ⟨9, .data⟩], none⟩) rfl (fun K hK => ?_) AllReadyL.nil
          rw [if_pos (by rfl)]
          have rx := (GPH.out.row z.1).nx hDrew
          have zbase := Nat.le_trans GPH.out.2.2.1 hDrew.size
          refine wp_append_rda (enc := encI) _ (.tmp 40) (.tmp 43) 22 rfl w4.heap.size 3 (.int .i64 0) 1 8 Tryz.underlying22 Tryz.infoI6 rfl (by omega) (by omega) _ (J z.1) rx rfl _ _ 1 1 [z.2] SX (fun h => by cases h) (fun _ => rfl) (by simp [encI, Value.oneCell']) rfl (by omega) (by omega) zbase ?_
          intro va w1 A ch0 ch1 hva
          have KA : Chg (fun k => k < w6.heap.size ∧ ¬ (f2 z.1).ownBlock = some k) w6 w1 := Chg.trans (Chg.mono hDrew (fun k hk => hk.1)) (Chg.mono ch0 (fun k hk => ⟨Nat.lt_of_lt_of_le hk.1 hDrew.size, hk.2⟩))
          have la := own_hist hva hDrew.size
          replace hHeld := hold_row hHeld zbp zgp (NB.out z.1) ch0
          clear ch0 ch1 hva rx hDrew SX
          refine hK.out _ _ (hHeld) (fun hHeld => ?_)
          clear hK K
          try simp only [Act.put, List.setIfInBounds_toArray, List.set_cons_zero, List.set_cons_succ]
          refine wpAnyL_ready (rs := [11]) (by kernel_rfl) (by simp) ?_
          refine AllReadyL.consL (o := ⟨none, .mapUpdate 95 (.tmp 34) (.tmp 36) (.tmp 44), 0, "linear.go:81", #[⟨0, .data⟩, ⟨2, .data⟩, ⟨10, .data⟩, ⟨10, .chain⟩, ⟨0, .phase⟩, ⟨1, .phase⟩, ⟨2, .phase⟩, ⟨3, .phase⟩, ⟨4, .phase⟩, ⟨5, .phase⟩, ⟨6, .phase⟩, ⟨7, .phase⟩, ⟨8, .phase⟩, ⟨9, .phase⟩, ⟨10, .phase⟩], none⟩) rfl (by rfl) (fun K hK => ?_) AllReadyL.nil
          have R2 := RawM.same GPH.out.1 (hHeld.block bm (.inl rfl))
          obtain ⟨wg, hrun, R3, k5, sz5⟩ := R2.put (t := 95) Tryz.underlying3 Tryz.underlying95 (by omega) wx1.out va
          go_simp
          clear hrun sz5 R2
          refine hK.out _ _ ?_
          clear hK K
          try simp only [Act.put, List.setIfInBounds_toArray, List.set_cons_zero, List.set_cons_succ]
          refine wpAnyL_done (by kernel_rfl) ?_ _
          have GN := GPH.out.one (x := z.1) (y := z.2) A KA la k5 R3
          have AN := AC.out.one (fun v g hg => ((GPH.out.row v).lt g hg).1) KA la k5
          have RR := Lib.hid (show LmRel E M bm wi.heap.size w4 w9 (.int .i64 ((i : Int) + 1)) wg from ⟨i + 1, m + 1, _, by omega, by go_num, by rw [LS.out, ← List.append_assoc, told_grp, HJ.out]; exact GN, by rw [M2.out]; omega, AN⟩)
          clear GN AN A KA la R3 k5 hHeld
          go_wp2_with fail
          exact ⟨RR.out, by simp [intOf]; omega⟩
        · obtain rfl : i = M.length := by omega
          rw [List.take_of_length_le (Nat.le_refl _), ← FS.out] at GP
          have RR := Lib.hid (show LrRel N Q bm w4 (.int .i64 ((j : Int) + 1)) wp from ⟨j + 1, m, f2, by omega, by go_num, GP, by rw [FS.out, List.length_append]; exact hm2, (ac.exb (KW.out.nxb (K9.out.b bm)) (Nat.le_refl _))⟩)
          clear GP ac
          go_wp2_with fail
          exact ⟨RR.out, by simp [intOf]; omega⟩
    · obtain rfl : j = Q.length := by omega
      have GP := GW.out
      rw [List.take_of_length_le (Nat.le_refl _)] at GP
      have HFL := flat_len N Q
      generalize Q.flatMap (introsN N) = M at GP HR HFL
      have GP := Lib.hid GP
      clear GW HNN hj hjm
      go_wp2_with fail
      go_loopw [11, 49] (fun o i wr => LtRel N Q M qs w.heap.size wi o i wr) (fun _ i _ => Q.length - (intOf i).toNat)
      case atStart => exact ⟨0, [], by omega, rfl, OwnP.nil _ _ _ _ _, (fun g hg => by cases hg), (by intro i q h; simp at h), Ex.refl _⟩
      case round =>
        obtain ⟨j2, qz, hj2, rfl, own, hblk, hnear, ki⟩ := hrel
        obtain ⟨wk, rfl⟩ : ∃ wk : World, wk = wr := ⟨_, rfl⟩
        have HB := Lib.hid hblk
        have HN := Lib.hid hnear
        clear hblk hnear
        by_cases hjm : j2 < Q.length
        · have HC := Lib.hid (HQ2.out (by omega))
          have hN64 : N.length ≤ 64 := check_len HC.out
          have own0 := HOQ.out.nx (K3.out.nx ki)
          obtain ⟨y, hy⟩ : ∃ y, Q[j2]? = some y := ⟨Q[j2], List.getElem?_eq_getElem hjm⟩
          obtain ⟨⟨A1, n1, c1⟩, ⟨A4, n4, c4⟩, hq, okn, onr⟩ := own0.get hy
          obtain ⟨a', cap', e', r', _⟩ := own0.1.rd encQ_len
          have hql : qs.length = Q.length := own0.2.1
          obtain ⟨x3, o3, q', ea, hx3, hq', hc3⟩ := Rd.at r' (j := j2) (by omega)
          obtain rfl : (y.nums, (A1, n1, c1), (A4, n4, c4)) = q' := Option.some.inj (hq.symm.trans hq')
          obtain rfl : aQ = some ⟨x3, o3, none⟩ := by injection e' with h1 h2 h3; rw [h1, ea]
          have e0 : wk.cell? ⟨x3, o3 + j2 * 5, none⟩ = some (.int .i64 y.id) := hc3 0 _ rfl
          have e1 : wk.cell? ⟨x3, o3 + j2 * 5 + 1, none⟩ = some (.slice A1 n1 c1) := hc3 1 _ rfl
          have e2 : wk.cell? ⟨x3, o3 + j2 * 5 + 1 + 1, none⟩ = some (.int .i64 y.left) := hc3 2 _ rfl
          have e3 : wk.cell? ⟨x3, o3 + j2 * 5 + 1 + 1 + 1, none⟩ = some (.int .i64 y.right) := hc3 3 _ rfl
          have e4 : wk.cell? ⟨x3, o3 + j2 * 5 + 1 + 1 + 1 + 1, none⟩ = some (.slice A4 n4 c4) := hc3 4 _ rfl
          have S1 : Hid (Sl 1 encI wk A1 n1 y.known) := Lib.hid (by obtain ⟨_, _, e, r, _⟩ := okn.rd (fun _ => rfl); injection e with h1 h2 h3; subst h1 h2 h3; exact r.mono (fun _ hk => hk.2))
          have S4 : Hid (Sl 4 encNr wk A4 n4 y.near) := Lib.hid (by obtain ⟨_, _, e, r, _⟩ := onr.rd (fun _ => rfl); injection e with h1 h2 h3; subst h1 h2 h3; exact r.mono (fun _ hk => hk.2))
          have hyP := HQS.out y (List.mem_of_getElem? hy)
          have hl1 : n1 ≤ 4000000000000000000 := by have := S1.out.len; omega
          have hl4 : n4 ≤ 4000000000000000000 := by have := S4.out.len; omega
          have ONR := Lib.hid onr
          have FN : Hid (∀ (j : Nat) (r : PQ) (g : Nat), qz[j]? = some r → j < j2 → r.2.2.val.ownBlock = some g → ¬ (Value.slice A4 n4 c4).ownBlock = some g) := Lib.hid (fun i r g hr hi hg hv => by
            obtain ⟨q0, h0, h1⟩ := HN.out i r hr
            rw [h1] at hg
            have := own0.2.2.2.2 i j2 q0 _ g h0 hq hg hv
            omega)
          have HQJ := Lib.hid hq
          have hqz : qz.length = j2 := by rw [own.2.1, List.length_map, List.length_take]; omega
          have hxN : ∃ x ∈ N, x.id = y.id := HQI.out y (List.mem_of_getElem? hy)
          have wx1 : Hid ((Lit.int .i64 y.id).wf = true) := Lib.hid (by obtain ⟨x, hx, he⟩ := hxN; rw [← he]; exact wf_of (roster_ok HC.out x hx).1.1)
          have SN : Hid ((Q.take (j2 + 1)).map (rndP N M) = (Q.take j2).map (rndP N M) ++ [rndP N M y]) := Lib.hid (by rw [List.take_add_one, hy, List.map_append]; rfl)
          have HRP : Hid (rndP N M y = { y with left := (keepN N y).1, right := (keepN N y).2, known := ordN N ([(keepN N y).1, (keepN N y).2] ++ toldN M y.id) y.id }) := Lib.hid rfl
          have OWN := Lib.hid own
          have KI := Lib.hid ki
          have hwi : w.heap.size ≤ wk.heap.size := (K03.out.nx (K3.out.nx ki)).size
          clear own0 hq okn onr e' r' hql hx3 hq' hc3 hyP hy own ki hxN
          have B13 := Blk.new wk [.int .i64 y.id, .slice A1 n1 c1, .int .i64 y.left, .int .i64 y.right, .slice A4 n4 c4] 45
          have kk := Ex.new wk (.cells #[.int .i64 y.id, .slice A1 n1 c1, .int .i64 y.left, .int .i64 y.right, .slice A4 n4 c4] 45)
          obtain ⟨w11, hw11⟩ : ∃ w11, w11 = wk.alloc (.cells #[.int .i64 y.id, .slice A1 n1 c1, .int .i64 y.left, .int .i64 y.right, .slice A4 n4 c4] 45) := ⟨_, rfl⟩
          obtain ⟨g13, hg13⟩ : ∃ g13, g13 = wk.heap.size := ⟨_, rfl⟩
          replace B13 : Blk w11 g13 [.int .i64 y.id, .slice A1 n1 c1, .int .i64 y.left, .int .i64 y.right, .slice A4 n4 c4] 45 := by rw [hw11, hg13]; exact B13
          rw [← hw11] at kk
          have Hw11 := Lib.hid hw11
          have Hg13 := Lib.hid hg13
          have K11 := Lib.hid kk
          clear kk hw11 hg13
          go_upto_region 16 with fail
          rw [← Hg13.out, ← Hw11.out]
          clear Hg13 Hw11
          have q0 := B13.cell 0 _ rfl
          have q1 := B13.cell 1 _ rfl
          have q2 := B13.cell 2 _ rfl
          have q3 := B13.cell 3 _ rfl
          have q4 := B13.cell 4 _ rfl
          clear e0 e1 e2 e3 e4
          go_wp2_with fail
          (with_reducible refine (keep_p _ _ _ N y _ _ _ _ _ _ _ (HS3.out.nx (K3.out.nx (KI.out.nx K11.out))) hn hc hm (S1.out.nx K11.out) (S4.out.nx K11.out) hl1 hl4).mono ?_)
          rintro e w12 ⟨rfl, kk⟩
          replace B13 := B13.nx kk
          replace K11 := Lib.hid (K11.out.nx kk)
          clear q0 q1 q2 q3 q4 kk
          generalize keepN N y = kl at HRP ⊢
          obtain ⟨kl, kr⟩ := kl
          simp only at HRP ⊢
          have B14 := Blk.new w12 [.int .i64 kl, .int .i64 kr] 65
          have kk := Ex.new w12 (.cells #[.int .i64 kl, .int .i64 kr] 65)
          obtain ⟨w13, hw13⟩ : ∃ w13, w13 = w12.alloc (.cells #[.int .i64 kl, .int .i64 kr] 65) := ⟨_, rfl⟩
          obtain ⟨g14, hg14⟩ : ∃ g14, g14 = w12.heap.size := ⟨_, rfl⟩
          replace B14 : Blk w13 g14 [.int .i64 kl, .int .i64 kr] 65 := by rw [hw13, hg14]; exact B14
          rw [← hw13] at kk
          have Hw13 := Lib.hid hw13
          have Hg14 := Lib.hid hg14
          replace B13 := B13.nx kk
          replace K11 := Lib.hid (K11.out.nx kk)
          clear kk hw13 hg14
          go_upto_region 17 with fail
          rw [← Hg14.out, ← Hw13.out]
          clear Hg14 Hw13
          have G13 := Lib.hid (GP.out.nx (KI.out.nx K11.out))
          have lk := G13.out.1.get (t := 95) Tryz.underlying3 Tryz.underlying95 (Tryz.zeroS _) wx1.out
          obtain ⟨aT, cT, eT, rT, _, _, _⟩ := (G13.out.row y.id).rd (fun _ => rfl)
          have ST : Hid (Sl 1 encI w13 aT (toldN M y.id).length (toldN M y.id)) := Lib.hid (rT.mono (fun _ hk => hk.2))
          have hlT : (toldN M y.id).length ≤ 4000000000000000000 := by
            have h1 := told_len M y.id
            have h2 : Q.length * (2 * N.length) ≤ 1000 * 128 := Nat.mul_le_mul (by omega) (by omega)
            omega
          rw [eT] at lk
          have q0 := B13.cell 0 _ rfl
          have q1 := B14.cell 0 _ rfl
          have q2 := B14.cell 1 _ rfl
          have KE := Lib.hid (known_eq HC.out y.id kl kr (toldN M y.id))
          generalize toldN M y.id = T at HRP lk ST hlT KE
          clear eT rT
          go_wp2_with fail
          (with_reducible refine (refs_p _ _ _ N ⟨y.id, kl, kr, T, []⟩ aT _ cT none 0 0 _ (HS3.out.nx (K3.out.nx (KI.out.nx K11.out))) (by omega) hc hm ST.out (Sl.nil _ _ _ _) hlT (by omega)).mono ?_)
          rintro e w14 ⟨vK, rfl, oK, kk⟩
          replace B13 := B13.nx kk
          replace B14 := B14.nx kk
          have hz13 := K11.out.size
          replace K11 := Lib.hid (K11.out.nx kk)
          rw [KE.out] at oK
          clear q0 q1 q2 lk ST kk
          have FK := Lib.hid (fun (j : Nat) (r : PQ) (g : Nat) (hr : qz[j]? = some r) (hg : r.2.1.val.ownBlock = some g) => (show g < wk.heap.size from by obtain ⟨_, _, _, r2, _⟩ := OWN.out.getp hr; exact (r2.lt g hg).2))
          obtain ⟨AK, CK, rfl, _, _, _, _⟩ := oK.slf (fun _ => rfl)
          have OKL := Lib.hid (fun g hg => (oK.lt g hg).1)
          replace oK := Lib.hid (oK.base (Nat.le_trans hwi hz13))
          generalize hkn : ordN N ([kl, kr] ++ T) y.id = kn at HRP oK OKL
          clear hkn
          have q0 := B13.cell 0 _ rfl
          have q4 := B13.cell 4 _ rfl
          have q1 := B14.cell 0 _ rfl
          have q2 := B14.cell 1 _ rfl
          clear B13 B14
          have kl2 := Ex.new w14 (.cells #[.int .i64 y.id, .slice AK kn.length CK, .int .i64 kl, .int .i64 kr, .slice A4 n4 c4] 45)
          have OP := OWN.out.nx (K11.out.nx kl2)
          have KN := Lib.hid (K11.out.nx kl2)
          have zn := Nat.le_trans hwi KN.out.size
          go_wp2_with (at_builtin; (refine wpList_append_W (enc := encQ) _ rfl _ _ 24 rfl w.heap.size 45 (.agg #[.int .i64 0, .slice none 0 0, .int .i64 0, .int .i64 0, .slice none 0 0]) 5 72 Tryz.underlying24 Tryz.infoPr rfl (by omega) (by omega) _ qz OP.row rfl _ 1 1 [((y.id, kl, kr), (AK, kn.length, CK), (A4, n4, c4))] (Sl.lit _ rfl rfl encQ_len rfl) encQ_len encQ_one rfl (by omega) (by omega) zn ?_); intro v9 w9 own9 ch0 ch1 hv)
          have RR := OP.push (p := ⟨y.id, kl, kr, kn, y.near⟩) (hk := (AK, kn.length, CK)) (hn := (A4, n4, c4)) (by decide) (by decide) own9 ch0 (oK.out.nx kl2) (ONR.out.nx KN.out)
            (fun j r g hr hg hv => by have h1 := FK.out j r g hr hg; have h2 := OKL.out g hv; omega)
            (fun j r g hr hg hv => FN.out j r g hr (by have := (List.getElem?_eq_some_iff.1 hr).1; omega) hg hv)
          have KF : Ex wi w9 := Chg.trans (KI.out.nx KN.out) (ch0.mono (fun k (hk : k < wi.heap.size) => ⟨Nat.lt_of_lt_of_le hk (KI.out.nx KN.out).size, fun hg => by have := HB.out k hg; omega⟩))
          refine ⟨⟨j2 + 1, _, by omega, by go_num, by rw [SN.out, HRP.out]; exact RR, fun g hg => ?_, fun i q hi => ?_, KF⟩, by simp [intOf]; omega⟩
          · rcases hv with h1 | h1
            · exact HB.out g (by rw [← h1]; exact hg)
            · exact Nat.le_trans (KI.out.nx KN.out).size (h1 g hg)
          · rcases Nat.lt_or_ge i qz.length with h1 | h1
            · rw [List.getElem?_append_left h1] at hi
              exact HN.out i q hi
            · have h2 := (List.getElem?_eq_some_iff.1 hi).1
              rw [List.length_append, List.length_singleton] at h2
              obtain rfl : i = j2 := by omega
              rw [List.getElem?_append_right (by omega), hqz, Nat.sub_self] at hi
              simp only [List.getElem?_cons_zero, Option.some.injEq] at hi
              subst hi
              exact ⟨_, HQJ.out, rfl⟩
        · obtain rfl : j2 = Q.length := by omega
          rw [List.take_of_length_le (Nat.le_refl _)] at own
          have FO := Lib.hid own
          have FE := Lib.hid (K03.out.nx (K3.out.nx ki))
          clear own ki
          go_wp2_with fail
          go_ret
          exact ⟨_, qz, rfl, by rw [HR.out]; exact FO.out, FE.out⟩
end Go.Proofs.YtbnbjiddffihoaaGreatDoor

/- Numbers of nodes that are down, and peers, from the tape. -/
namespace Go.Proofs.YtbnbjiddffihoaaGreatDoor
open Go.RowKit

theorem Blk.app {α : Type} {sz e base g : Nat} {enc : α → List Value} {w w' : World} {v : Value} {l : List α} {cs : List Value} {ty : TypeId} (B : Blk w g cs ty) (own : OwnL sz enc e base w v l) (hne : e ≠ ty) (k : Chg (fun k => k < w.heap.size ∧ ¬ v.ownBlock = some k) w w') : Blk w' g cs ty :=
  (Chg.block k g ⟨B.lt, fun hv => own.ne_blk B hne hv rfl⟩).trans B
theorem OwnL.app {α β : Type} {sz sz' e e' base base' : Nat} {enc : α → List Value} {enc' : β → List Value} {w w' : World} {v v' : Value} {l : List α} {l' : List β} (o : OwnL sz enc e base w v l) (own : OwnL sz' enc' e' base' w v' l') (hne : e ≠ e') (k : Chg (fun k => k < w.heap.size ∧ ¬ v'.ownBlock = some k) w w') : OwnL sz enc e base w' v l :=
  o.chg k fun x hx hv => ⟨hx, fun hv' => by
    obtain ⟨_, c1, h1⟩ := o.blk hv
    obtain ⟨_, c2, h2⟩ := own.blk hv'
    exact blk_kind hne h1 h2⟩
theorem lit1 {b : Nat} {w0 u : World} (_ : Exb b w0 u) (x : Int) : ∃ g v, g = u.heap.size ∧ v = u.alloc (.cells #[.int .i64 x] 3) ∧ Sl 1 encI v (some ⟨g, 0, none⟩) 1 [x] ∧ Ex u v :=
  ⟨_, _, rfl, rfl, Sl.lit [x] rfl rfl (fun _ => rfl) rfl, Ex.new _ _⟩
structure DnOf (n b : Nat) (w w' : World) (v : Value) (l : List Int) : Prop where
  own : OwnL 1 encI 3 w.heap.size w' v l
  len : l.length ≤ n
  i64 : ∀ x ∈ l, I64 x
  tape : TK w' b
  k : Exb b w w'
theorem OwnL.apart {α β : Type} {sz sz' e e' base base' g : Nat} {enc : α → List Value} {enc' : β → List Value} {w w' : World} {v v' : Value} {l : List α} {l' : List β} (o : OwnL sz enc e base w v l) (own : OwnL sz' enc' e' base' w v' l') (hne : e ≠ e') (hg : v'.ownBlock = some g) (k : Exb g w w') : OwnL sz enc e base w' v l :=
  o.chg k fun x hx hv => ⟨hx, by
    rintro rfl
    obtain ⟨_, c1, h1⟩ := o.blk hv
    obtain ⟨_, c2, h2⟩ := own.blk hg
    exact blk_kind hne h1 h2⟩
theorem own_put4 {e : TypeId} {base : Nat} {w : World} {g n cap j : Nat} {L : List Nr} {y : Nr} (h : OwnL 4 encNr e base w (.slice (some ⟨g, 0, none⟩) n cap) L) (hy : L[j]? = some y) :
    w.cell? ⟨g, j * 4, none⟩ = some (.int .i64 y.1) ∧ w.cell? ⟨g, j * 4 + 1, none⟩ = some (.int .i64 y.2.1) ∧ w.cell? ⟨g, j * 4 + 1 + 1, none⟩ = some (.int .i64 y.2.2.1) ∧ w.cell? ⟨g, j * 4 + 1 + 1 + 1, none⟩ = some (.int .i64 y.2.2.2) ∧
      w.frozen? ⟨g, j * 4, none⟩ = false ∧ w.frozen? ⟨g, j * 4 + 1, none⟩ = false ∧ w.frozen? ⟨g, j * 4 + 1 + 1, none⟩ = false ∧ w.frozen? ⟨g, j * 4 + 1 + 1 + 1, none⟩ = false ∧
      ∀ y' : Nr, OwnL 4 encNr e base ((((w.setCell ⟨g, j * 4, none⟩ (.int .i64 y'.1)).setCell ⟨g, j * 4 + 1, none⟩ (.int .i64 y'.2.1)).setCell ⟨g, j * 4 + 1 + 1, none⟩ (.int .i64 y'.2.2.1)).setCell ⟨g, j * 4 + 1 + 1 + 1, none⟩ (.int .i64 y'.2.2.2)) (.slice (some ⟨g, 0, none⟩) n cap) (L.set j y') := by
  have hj := (List.getElem?_eq_some_iff.1 hy).1
  obtain ⟨c0, f0, n0⟩ := own_set1 (enc := encNr) (sz := 4) (fun _ => rfl) h hy (c := 0) (by omega)
  obtain ⟨c1, f1, _⟩ := own_set1 (enc := encNr) (sz := 4) (fun _ => rfl) h hy (c := 1) (by omega)
  obtain ⟨c2, f2, _⟩ := own_set1 (enc := encNr) (sz := 4) (fun _ => rfl) h hy (c := 2) (by omega)
  obtain ⟨c3, f3, _⟩ := own_set1 (enc := encNr) (sz := 4) (fun _ => rfl) h hy (c := 3) (by omega)
  refine ⟨c0, c1, c2, c3, f0, f1, f2, f3, fun y' => ?_⟩
  have N1 := n0 (y'.1, y.2.1, y.2.2.1, y.2.2.2) (.int .i64 y'.1) rfl
  have h1 : (L.set j (y'.1, y.2.1, y.2.2.1, y.2.2.2))[j]? = some (y'.1, y.2.1, y.2.2.1, y.2.2.2) := by rw [List.getElem?_set_self hj]
  have N2 := (own_set1 (enc := encNr) (sz := 4) (fun _ => rfl) N1 h1 (c := 1) (by omega)).2.2 (y'.1, y'.2.1, y.2.2.1, y.2.2.2) (.int .i64 y'.2.1) rfl
  rw [List.set_set] at N2
  have h2 : (L.set j (y'.1, y'.2.1, y.2.2.1, y.2.2.2))[j]? = some (y'.1, y'.2.1, y.2.2.1, y.2.2.2) := by rw [List.getElem?_set_self hj]
  have N3 := (own_set1 (enc := encNr) (sz := 4) (fun _ => rfl) N2 h2 (c := 2) (by omega)).2.2 (y'.1, y'.2.1, y'.2.2.1, y.2.2.2) (.int .i64 y'.2.2.1) rfl
  rw [List.set_set] at N3
  have h3 : (L.set j (y'.1, y'.2.1, y'.2.2.1, y.2.2.2))[j]? = some (y'.1, y'.2.1, y'.2.2.1, y.2.2.2) := by rw [List.getElem?_set_self hj]
  have N4 := (own_set1 (enc := encNr) (sz := 4) (fun _ => rfl) N3 h3 (c := 3) (by omega)).2.2 (y'.1, y'.2.1, y'.2.2.1, y'.2.2.2) (.int .i64 y'.2.2.2) rfl
  rw [List.set_set] at N4
  exact N4
structure PeOf (m b : Nat) (w w' : World) (p : Pr) (hk hn : Hdr) : Prop where
  ok : OwnL 1 encI 3 w.heap.size w' hk.val p.known
  on : OwnL 4 encNr 49 w.heap.size w' hn.val p.near
  lk : p.known.length ≤ 3
  ln : p.near.length ≤ m
  id : I64 p.id
  tape : TK w' b
  k : Exb b w w'
def PeePost (m b : Nat) (w : World) (e : Ending) (w' : World) : Prop := ∃ (p : Pr) (hk hn : Hdr), e = .returned (.agg #[.int .i64 p.id, hk.val, .int .i64 p.left, .int .i64 p.right, hn.val]) ∧ PeOf m b w w' p hk hn
def P1Rel (b g6 g7 : Nat) (r0 : Int) (w : World) (i : Value) (wr : World) : Prop :=
  ∃ (q : Nat) (A : Option Addr) (m c : Nat) (kn : List Int), kn.length + q ≤ 3 ∧ i = .int .i64 q ∧ Blk wr g7 [.int .i64 r0, .slice A m c, .int .i64 0, .int .i64 0, .slice none 0 0] 45 ∧ Blk wr g6 [.int .i64 0, .slice none 0 0, .int .i64 0, .int .i64 0, .slice none 0 0] 45 ∧
    OwnL 1 encI 3 w.heap.size wr (.slice A m c) kn ∧ TK wr b ∧ Exb b w wr
def P2Rel (b g6 g7 M : Nat) (r0 lf rt : Int) (hk : Hdr) (kn : List Int) (w : World) (i : Value) (wr : World) : Prop :=
  ∃ (q : Nat) (A : Option Addr) (m c : Nat) (nr : List Nr), nr.length + q ≤ M ∧ i = .int .i64 q ∧ Blk wr g7 [.int .i64 r0, hk.val, .int .i64 lf, .int .i64 rt, .slice A m c] 45 ∧ Blk wr g6 [.int .i64 0, .slice none 0 0, .int .i64 0, .int .i64 0, .slice none 0 0] 45 ∧
    OwnL 1 encI 3 w.heap.size wr hk.val kn ∧ OwnL 4 encNr 49 w.heap.size wr (.slice A m c) nr ∧ TK wr b ∧ Exb b w wr
set_option maxRecDepth 100000 in
set_option maxHeartbeats 8000000 in
theorem peer_t {b : Nat} (ht : Nat) (a : Option Addr) (na cp : Nat) (l : List Nd) (w : World) (h : TK w b) (hs : Slb 3 encN b w a na l) (hna : na ≤ 1000) (hi : ∀ x ∈ l, I64 x.id) (hht : ht ≤ 100) :
    Calls Tryz.prog 32 #[.pointer (some ⟨b, 0, none⟩), .slice a na cp, .int .i64 ht] w (PeePost (ht + 1) b w) := by
  have hbw := h.lt
  have HI := Lib.hid hi
  have HS := Lib.hid hs
  have KW := Exb.refl b w
  have B6 := Blk.new w [.int .i64 0, .slice none 0 0, .int .i64 0, .int .i64 0, .slice none 0 0] 45
  have kk := Ex.new w (.cells #[.int .i64 0, .slice none 0 0, .int .i64 0, .int .i64 0, .slice none 0 0] 45)
  obtain ⟨w1, hw1⟩ : ∃ w1, w1 = w.alloc (.cells #[.int .i64 0, .slice none 0 0, .int .i64 0, .int .i64 0, .slice none 0 0] 45) := ⟨_, rfl⟩
  obtain ⟨g6, hg6⟩ : ∃ g6, g6 = w.heap.size := ⟨_, rfl⟩
  replace B6 : Blk w1 g6 [.int .i64 0, .slice none 0 0, .int .i64 0, .int .i64 0, .slice none 0 0] 45 := by rw [hw1, hg6]; exact B6
  rw [← hw1] at kk
  have Hw1 := Lib.hid hw1
  have Hg6 := Lib.hid hg6
  replace h := h.nx kk
  replace KW := KW.nxb (kk.b b)
  have zg6 : w.heap.size ≤ g6 := by omega
  have n6b : g6 ≠ b := by omega
  clear kk hw1 hg6 hi hs
  go_enter Tryz.func32, Tryz.ntmps32
  go_upto_region 1 with fail
  rw [← Hg6.out, ← Hw1.out]
  clear Hg6 Hw1
  go_wp2_with fail
  refine (id_t _ _ _ l _ h (HS.out.nxb KW) hna HI.out).mono ?_
  clear h
  rintro e w2 ⟨r0, rfl, hr0, T, kk⟩
  replace KW := KW.nxb kk
  replace B6 := B6.nxb n6b kk
  have l6 := B6.lt
  clear kk
  have B7 := Blk.new w2 [.int .i64 r0, .slice none 0 0, .int .i64 0, .int .i64 0, .slice none 0 0] 45
  have kk := Ex.new w2 (.cells #[.int .i64 r0, .slice none 0 0, .int .i64 0, .int .i64 0, .slice none 0 0] 45)
  obtain ⟨w3, hw3⟩ : ∃ w3, w3 = w2.alloc (.cells #[.int .i64 r0, .slice none 0 0, .int .i64 0, .int .i64 0, .slice none 0 0] 45) := ⟨_, rfl⟩
  obtain ⟨g7, hg7⟩ : ∃ g7, g7 = w2.heap.size := ⟨_, rfl⟩
  replace B7 : Blk w3 g7 [.int .i64 r0, .slice none 0 0, .int .i64 0, .int .i64 0, .slice none 0 0] 45 := by rw [hw3, hg7]; exact B7
  rw [← hw3] at kk
  have Hw3 := Lib.hid hw3
  have Hg7 := Lib.hid hg7
  replace B6 := B6.nx kk
  replace T := T.nx kk
  have zg7 : w.heap.size ≤ g7 := by have := KW.size; omega
  have n7b : g7 ≠ b := by omega
  have n67 : g6 ≠ g7 := by omega
  have zb7 : b < g7 := by omega
  have zb6 : b < g6 := by omega
  replace KW := KW.nxb (kk.b b)
  clear kk hw3 hg7
  go_upto_region 2 with fail
  rw [← Hg7.out, ← Hw3.out]
  clear Hg7 Hw3
  go_wp2_with fail
  refine (next_t 4 _ T (by omega) (by omega)).mono ?_
  clear T
  rintro e w4 ⟨q, rfl, q0, q1, T, kk⟩
  obtain ⟨q, rfl⟩ := Int.eq_ofNat_of_zero_le q0
  replace KW := KW.nxb kk
  replace B6 := B6.nxb n6b kk
  replace B7 := B7.nxb n7b kk
  replace hr0 := Lib.hid hr0
  clear kk
  go_wp2_with fail
  go_loopw [8] (fun i wr => P1Rel b g6 g7 r0 w i wr) (fun i _ => (intOf i).toNat)
  case atStart => exact ⟨q, none, 0, 0, [], by simp; omega, rfl, B7, B6, OwnL.nil _ _ _ _ _, T, KW⟩
  case round =>
    clear B6 B7 T KW
    obtain ⟨q, A, m, c, kn, hq, rfl, B7, B6, own, T, KW⟩ := hrel
    obtain ⟨wo, rfl⟩ : ∃ wo : World, wo = wr := ⟨_, rfl⟩
    by_cases hq0 : 0 < q
    · have BPP := Lib.hid B7
      have BSS := Lib.hid B6
      have OWN := Lib.hid own
      have KWH := Lib.hid KW
      have zk := KW.size
      clear B7 B6 own KW
      go_upto_region 5 with fail
      refine wp_region_late_drew (S := Exb b wo) [6, 7, 8] (by kernel_rfl) ((Exb.refl b wo).drew) (fun hHeld => ?_)
      obtain ⟨wd, hwdx⟩ : ∃ wd : World, wd = World.drew wo := ⟨_, rfl⟩
      rw [← hwdx] at hHeld ⊢
      have hDrew : Ex wo wd := by rw [hwdx]; exact (Ex.refl wo).drew
      clear hwdx
      refine wpAnyL_take (i := 0) (oi := ⟨some 20, .fieldAddr 45 (.tmp 7) 1, 0, "tape.go:233", #[], none⟩) (v := ?_) rfl (by kernel_rfl) (by kernel_rfl) (by kernel_rfl) (fun _ _ _ h => h) (Or.inl ⟨by rfl, ?hyr1x0q5⟩) (by kernel_rfl) (by kernel_rfl) (by assumption) ?restr1x0q5
      case hyr1x0q5 => intro wq hSw; (go_simp); (try with_reducible rfl)
      try simp only [Act.put, List.setIfInBounds_toArray, List.set_cons_zero, List.set_cons_succ]
      refine wpAnyL_take (i := 1) (oi := ⟨some 21, .load 22 (.tmp 20), 22, "tape.go:233", #[⟨0, .data⟩], none⟩) (v := ?_) rfl (by kernel_rfl) (by kernel_rfl) (by kernel_rfl) (fun _ _ _ h => h) (Or.inl ⟨by rfl, ?hyr1x1q8⟩) (by kernel_rfl) (by kernel_rfl) (by assumption) ?restr1x1q8
      case hyr1x1q8 => intro wq hSw; (have cq := (BPP.out.nxb n7b hSw).cell 1 _ rfl; go_simp); (try with_reducible rfl)
      try simp only [Act.put, List.setIfInBounds_toArray, List.set_cons_zero, List.set_cons_succ]
      refine wpAnyL_take (i := 2) (oi := ⟨some 22, .move (.tmp 0), 25, "tape.go:233", #[], none⟩) (v := ?_) rfl (by kernel_rfl) (by kernel_rfl) (by kernel_rfl) (fun _ _ _ h => h) (Or.inl ⟨by rfl, ?hyr1x2q11⟩) (by kernel_rfl) (by kernel_rfl) (by assumption) ?restr1x2q11
      case hyr1x2q11 => intro wq hSw; (go_simp); (try with_reducible rfl)
      try simp only [Act.put, List.setIfInBounds_toArray, List.set_cons_zero, List.set_cons_succ]
      refine wpAnyL_take (i := 3) (oi := ⟨some 23, .move (.tmp 1), 23, "tape.go:233", #[], none⟩) (v := ?_) rfl (by kernel_rfl) (by kernel_rfl) (by kernel_rfl) (fun _ _ _ h => h) (Or.inl ⟨by rfl, ?hyr1x3q14⟩) (by kernel_rfl) (by kernel_rfl) (by assumption) ?restr1x3q14
      case hyr1x3q14 => intro wq hSw; (go_simp); (try with_reducible rfl)
      try simp only [Act.put, List.setIfInBounds_toArray, List.set_cons_zero, List.set_cons_succ]
      refine wpAnyL_ready (rs := [4]) (by kernel_rfl) (by simp) ?_
      refine AllReadyL.cons (o := ⟨some 24, .call { callee := .value (.func 68), args := #[.tmp 22, .tmp 23], argTypes := #[25, 23] }, 3, "tape.go:233", #[⟨2, .data⟩, ⟨3, .data⟩], none⟩) rfl (fun K hK => ?_) AllReadyL.nil
      go_simp
      (refine (id_t _ _ _ l _ (T.nx hDrew) (HS.out.nxb (KWH.out.nxb hHeld)) hna HI.out).mono ?_)
      clear T
      rintro e wq ⟨r, rfl, hr, T, kk⟩
      replace hHeld := hHeld.nxb kk
      clear kk
      refine hK.out _ _ (hHeld) (fun hHeld => ?_)
      clear hK K
      try simp only [Act.put, List.setIfInBounds_toArray, List.set_cons_zero, List.set_cons_succ]
      refine wpAnyL_ready (rs := [5]) (by kernel_rfl) (by simp) ?_
      refine AllReadyL.cons (o := ⟨some 25, .buildSlice 22 1 #[(0, .tmp 24)], 22, "tape.go:233", #[⟨4, .data⟩], none⟩) rfl (fun K hK => ?_) AllReadyL.nil
      go_simp
      obtain ⟨g8, wq2, hg8, hwq2, SX, kk⟩ := lit1 hHeld r
      rw [← hg8, ← hwq2]
      replace hHeld := hHeld.nxb (kk.b b)
      replace T := T.nx kk
      clear hg8 hwq2 kk
      refine hK.out _ _ (hHeld) (fun hHeld => ?_)
      clear hK K
      try simp only [Act.put, List.setIfInBounds_toArray, List.set_cons_zero, List.set_cons_succ]
      refine wpAnyL_ready (rs := [6]) (by kernel_rfl) (by simp) ?_
      refine AllReadyL.consL (o := ⟨some 26, .call { callee := .builtin .append, args := #[.tmp 21, .tmp 25], argTypes := #[22, 22] }, 22, "tape.go:233", #[⟨1, .data⟩, ⟨5, .data⟩, ⟨4, .chain⟩], none⟩) rfl (by rfl) (fun K hK => ?_) AllReadyL.nil
      rw [if_pos (by rfl)]
      have own4 := OWN.out.nxb hbw hHeld
      have hkl : kn.length ≤ 100000000 := by omega
      refine wp_append_rd (enc := encI) _ (.tmp 21) (.tmp 25) 22 rfl w.heap.size 3 (.int .i64 0) 1 8 Tryz.underlying22 Tryz.infoI6 rfl (by omega) (by omega) _ kn own4 rfl _ _ 1 1 [r] SX (fun h => by cases h) (fun _ => rfl) (by simp [encI, Value.oneCell']) rfl hkl (by omega) (Nat.le_trans zk hHeld.size) ?_
      intro v9 wz own9 ch0 ch1
      have hl9 : (kn ++ [r]).length = kn.length + 1 := by simp
      obtain ⟨A9, C9, e9, _⟩ := own9.rd (fun _ => rfl)
      rw [hl9] at e9
      subst e9
      have BZ := (BPP.out.nxb n7b hHeld).app own4 (by decide) ch0
      have B6Z := (BSS.out.nxb n6b hHeld).app own4 (by decide) ch0
      have KQ : Exb b w wz := Chg.trans (KWH.out.nxb hHeld) (ch1.mono (fun x hx => hx.1))
      replace T : TK wz b := TP.chg T ch1 (fun x hx => by omega)
      refine hK.out _ _ ?_
      clear hK K
      try simp only [Act.put, List.setIfInBounds_toArray, List.set_cons_zero, List.set_cons_succ]
      refine wpAnyL_ready (rs := [7]) (by kernel_rfl) (by simp) ?_
      refine AllReadyL.consL (o := ⟨some 27, .fieldAddr 45 (.tmp 7) 1, 0, "tape.go:233", #[⟨0, .phase⟩, ⟨1, .phase⟩, ⟨2, .phase⟩, ⟨3, .phase⟩, ⟨4, .phase⟩, ⟨5, .phase⟩, ⟨6, .phase⟩], none⟩) rfl (by rfl) (fun K hK => ?_) AllReadyL.nil
      go_simp
      refine hK.out _ _ ?_
      clear hK K
      try simp only [Act.put, List.setIfInBounds_toArray, List.set_cons_zero, List.set_cons_succ]
      refine wpAnyL_ready (rs := [8]) (by kernel_rfl) (by simp) ?_
      refine AllReadyL.consL (o := ⟨none, .store 22 (.tmp 27) (.tmp 26), 0, "tape.go:233", #[⟨7, .data⟩, ⟨6, .data⟩, ⟨6, .chain⟩, ⟨0, .phase⟩, ⟨1, .phase⟩, ⟨2, .phase⟩, ⟨3, .phase⟩, ⟨4, .phase⟩, ⟨5, .phase⟩, ⟨6, .phase⟩], none⟩) rfl (by rfl) (fun K hK => ?_) AllReadyL.nil
      have c4 := BZ.cell 1 _ rfl
      have f4 := BZ.free 1
      go_simp
      clear c4 f4
      refine hK.out _ _ ?_
      clear hK K
      try simp only [Act.put, List.setIfInBounds_toArray, List.set_cons_zero, List.set_cons_succ]
      refine wpAnyL_done (by kernel_rfl) ?_ _
      have KS : Exb g7 wz (wz.setCell ⟨g7, 1, none⟩ (.slice A9 (kn.length + 1) C9)) := (Exb.refl g7 wz).setB (p := ⟨g7, 1, none⟩) _ rfl
      have own8 := Lib.hid (own9.put BZ (by decide) KS)
      have RR := Lib.hid (show P1Rel b g6 g7 r0 w (.int .i64 ((q : Int) - 1)) (wz.setCell ⟨g7, 1, none⟩ (.slice A9 (kn.length + 1) C9)) from ⟨q - 1, A9, _, C9, kn ++ [r], by rw [hl9]; omega, by rw [show ((q - 1 : Nat) : Int) = (q : Int) - 1 by omega], BZ.set 1 _, B6Z.nxb n67 KS, own8.out, T.set (p := ⟨g7, 1, none⟩) _ zb7, KQ.setNew (p := ⟨g7, 1, none⟩) _ zg7⟩)
      clear BZ B6Z KQ ch0 ch1 hHeld own4 own8 own9 SX KS T
      go_wp2_with fail
      exact ⟨RR.out, by simp [intOf]; omega⟩
    · have hkl : kn.length ≤ 3 := by omega
      have zq : ¬ (0 : Int) < (q : Int) := by omega
      obtain ⟨A', C', e9, _⟩ := own.rd (fun _ => rfl)
      simp only [Value.slice.injEq] at e9
      obtain ⟨rfl, rfl, rfl⟩ := e9
      replace own := Lib.hid own
      clear hq hq0
      go_wp2_with fail
      (refine (bool_t 2 _ T (by omega) (by omega)).mono ?_)
      clear T
      rintro e w5 ⟨r, rfl, T, kk⟩
      replace KW := KW.nxb kk
      replace B6 := B6.nxb n6b kk
      replace B7 := B7.nxb n7b kk
      replace own := Lib.hid (own.out.nxb hbw kk)
      clear kk
      cases r with
      | true =>
        go_wp2_with fail
        (refine (id_t _ _ _ l _ T (HS.out.nxb KW) hna HI.out).mono ?_)
        clear T
        rintro e wa6 ⟨lf, rfl, hlf, T, kk⟩
        replace KW := KW.nxb kk
        replace B6 := B6.nxb n6b kk
        replace B7 := B7.nxb n7b kk
        replace own := Lib.hid (own.out.nxb hbw kk)
        clear kk hlf
        have c2 := B7.cell 2 _ rfl
        have f2 := B7.free 2
        have KS : Exb g7 wa6 (wa6.setCell ⟨g7, 2, none⟩ (.int .i64 lf)) := (Exb.refl g7 wa6).setB (p := ⟨g7, 2, none⟩) _ rfl
        obtain ⟨w6, hw6⟩ : ∃ w6, w6 = wa6.setCell ⟨g7, 2, none⟩ (.int .i64 lf) := ⟨_, rfl⟩
        go_upto_region 8 with fail
        rw [← hw6] at KS ⊢
        replace own := Lib.hid (own.out.put B7 (by decide) KS)
        replace B7 : Blk w6 g7 [.int .i64 r0, .slice A kn.length c, .int .i64 lf, .int .i64 0, .slice none 0 0] 45 := by rw [hw6]; exact B7.set 2 _
        replace B6 := B6.nxb n67 KS
        replace T : TK w6 b := by rw [hw6]; exact T.set (p := ⟨g7, 2, none⟩) _ zb7
        replace KW : Exb b w w6 := by rw [hw6]; exact KW.setNew (p := ⟨g7, 2, none⟩) _ zg7
        clear hw6 c2 f2 KS
        go_wp2_with fail
        (refine (bool_t 2 _ T (by omega) (by omega)).mono ?_)
        clear T
        rintro e w7 ⟨r, rfl, T, kk⟩
        replace KW := KW.nxb kk
        replace B6 := B6.nxb n6b kk
        replace B7 := B7.nxb n7b kk
        replace own := Lib.hid (own.out.nxb hbw kk)
        clear kk
        cases r with
        | true =>
          go_wp2_with fail
          (refine (id_t _ _ _ l _ T (HS.out.nxb KW) hna HI.out).mono ?_)
          clear T
          rintro e wa8 ⟨rt, rfl, hrt, T, kk⟩
          replace KW := KW.nxb kk
          replace B6 := B6.nxb n6b kk
          replace B7 := B7.nxb n7b kk
          replace own := Lib.hid (own.out.nxb hbw kk)
          clear kk hrt
          have c2 := B7.cell 3 _ rfl
          have f2 := B7.free 3
          have KS : Exb g7 wa8 (wa8.setCell ⟨g7, 3, none⟩ (.int .i64 rt)) := (Exb.refl g7 wa8).setB (p := ⟨g7, 3, none⟩) _ rfl
          obtain ⟨w8, hw8⟩ : ∃ w8, w8 = wa8.setCell ⟨g7, 3, none⟩ (.int .i64 rt) := ⟨_, rfl⟩
          go_upto_region 10 with fail
          rw [← hw8] at KS ⊢
          replace own := Lib.hid (own.out.put B7 (by decide) KS)
          replace B7 : Blk w8 g7 [.int .i64 r0, .slice A kn.length c, .int .i64 lf, .int .i64 rt, .slice none 0 0] 45 := by rw [hw8]; exact B7.set 3 _
          replace B6 := B6.nxb n67 KS
          replace T : TK w8 b := by rw [hw8]; exact T.set (p := ⟨g7, 3, none⟩) _ zb7
          replace KW : Exb b w w8 := by rw [hw8]; exact KW.setNew (p := ⟨g7, 3, none⟩) _ zg7
          clear hw8 c2 f2 KS
          go_wp2_with fail
          refine (next_t ((ht : Int) + 2) _ T (by omega) (by omega)).mono ?_
          clear T
          rintro e w9 ⟨q2, rfl, q20, q21, T, kk⟩
          obtain ⟨q2, rfl⟩ := Int.eq_ofNat_of_zero_le q20
          replace KW := KW.nxb kk
          replace B6 := B6.nxb n6b kk
          replace B7 := B7.nxb n7b kk
          replace own := own.out.nxb hbw kk
          clear kk
          go_wp2_with fail
          go_loopw [9] (fun i wr => P2Rel b g6 g7 (ht + 1) r0 lf rt (A, kn.length, c) kn w i wr) (fun i _ => (intOf i).toNat)
          case atStart => exact ⟨q2, none, 0, 0, [], by simp; omega, rfl, B7, B6, own, OwnL.nil _ _ _ _ _, T, KW⟩
          case round =>
            clear B6 B7 T KW own
            obtain ⟨q, A4, m4, c4, nr, hq, rfl, B7, B6, own, nrow, T, KW⟩ := hrel
            simp only [Hdr.val] at B7 own
            obtain ⟨wo, rfl⟩ : ∃ wo : World, wo = wr := ⟨_, rfl⟩
            by_cases hq0 : 0 < q
            · obtain ⟨A', C', e9, _⟩ := nrow.rd (fun _ => rfl)
              simp only [Value.slice.injEq] at e9
              obtain ⟨rfl, rfl, rfl⟩ := e9
              have hnl : nr.length ≤ 100000000 := by omega
              have zk := KW.size
              have p4 := B7.cell 4 _ rfl
              have kl := Ex.new wo (.cells #[.int .i64 0, .int .i64 0, .int .i64 0, .int .i64 0] 49)
              have SX : Sl 4 encNr (wo.alloc (.cells #[.int .i64 0, .int .i64 0, .int .i64 0, .int .i64 0] 49)) (some ⟨wo.heap.size, 0, none⟩) 1 [((0, 0, 0, 0) : Nr)] := Sl.lit _ rfl rfl (fun _ => rfl) rfl
              have nrk := nrow.nx kl
              have zl := Nat.le_trans zk kl.size
              have B7k := B7.nx kl
              go_upto_region 14 with (at_builtin; (refine wpList_append_rq (enc := encNr) _ rfl (.tmp 49) (.tmp 51) 43 rfl w.heap.size 49 (.agg #[.int .i64 0, .int .i64 0, .int .i64 0, .int .i64 0]) 4 32 Tryz.underlying43 Tryz.infoNr rfl (by omega) (by omega) _ nr nrk rfl _ 1 1 [((0, 0, 0, 0) : Nr)] SX (fun _ => rfl) (by simp [encNr, Value.oneCell']) rfl hnl (by omega) zl ?_); intro v9 wz own9 ch0 ch1; have hl9 : (nr ++ [((0, 0, 0, 0) : Nr)]).length = nr.length + 1 := (by simp); obtain ⟨A9, C9, e9, _, _, _, some9⟩ := own9.rd (fun _ => rfl); obtain ⟨gn, rfl, zgn⟩ := some9 (by simp); rw [hl9] at e9; subst e9; have BZ := B7k.app nrk (by decide) ch0; have f4 := BZ.free 4; have r4 := BZ.cell 4 _ rfl)
              have KS : Exb g7 wz (wz.setCell ⟨g7, 4, none⟩ (.slice (some ⟨gn, 0, none⟩) (nr.length + 1) C9)) := (Exb.refl g7 wz).setB (p := ⟨g7, 4, none⟩) _ rfl
              obtain ⟨wy, hwy⟩ : ∃ wy, wy = wz.setCell ⟨g7, 4, none⟩ (.slice (some ⟨gn, 0, none⟩) (nr.length + 1) C9) := ⟨_, rfl⟩
              rw [← hwy] at KS ⊢
              have nry := own9.put BZ (by decide) KS
              have own := ((own.nx kl).app nrk (by decide) ch0).put BZ (by decide) KS
              have B6 := ((B6.nx kl).app nrk (by decide) ch0).nxb n67 KS
              have KW : Exb b w wy := Chg.trans (Chg.trans (KW.nxb (kl.b b)) (ch1.mono (fun x hx => hx.1))) (Chg.mono KS (fun x hx => ⟨Nat.lt_of_lt_of_le hx.1 (Nat.le_trans zl ch1.size), fun h => by have := hx.1; omega⟩))
              have T : TK wy b := by rw [hwy]; exact TK.set (show TK wz b from TP.chg (T.nx kl) ch1 (fun x hx => by omega)) (p := ⟨g7, 4, none⟩) _ zb7
              replace BZ : Blk wy g7 [.int .i64 r0, .slice A kn.length c, .int .i64 lf, .int .i64 rt, .slice (some ⟨gn, 0, none⟩) (nr.length + 1) C9] 45 := by rw [hwy]; exact BZ.set 4 _
              clear hwy KS ch0 ch1 nrk nrow B7 B7k SX own9 f4 r4 p4 kl zl
              replace own := Lib.hid own
              go_wp2_with fail
              (refine (bool_t 2 _ T (by omega) (by omega)).mono ?_)
              clear T
              rintro e w10 ⟨rb, rfl, T, kk⟩
              replace KW := KW.nxb kk
              replace B6 := B6.nxb n6b kk
              replace BZ := BZ.nxb n7b kk
              replace own := Lib.hid (own.out.nxb hbw kk)
              replace nry := nry.nxb hbw kk
              clear kk
              cases rb with
              | false =>
                have RR := Lib.hid (show P2Rel b g6 g7 (ht + 1) r0 lf rt (A, kn.length, c) kn w (.int .i64 ((q : Int) - 1)) w10 from ⟨q - 1, some ⟨gn, 0, none⟩, _, C9, nr ++ [(0, 0, 0, 0)], by rw [hl9]; omega, by rw [show ((q - 1 : Nat) : Int) = (q : Int) - 1 by omega], BZ, B6, own.out, nry, T, KW⟩)
                clear BZ B6 nry T KW
                go_wp2_with fail
                exact ⟨RR.out, by simp [intOf]; omega⟩
              | true =>
                have BPP := Lib.hid BZ
                have BSS := Lib.hid B6
                have NRY := Lib.hid nry
                have KWH := Lib.hid KW
                clear BZ B6 nry KW
                go_upto_region 15 with fail
                have wl1 : IntKind.i64.wrap (nr.length : Int) = (nr.length : Int) := IntWalk.i64_in _ (by omega)
                have wl2 : (nr.length : Int) < (nr.length : Int) + 1 := by omega
                refine wp_region_late_drew (S := Exb b w10) [19, 20] (by kernel_rfl) ((Exb.refl b w10).drew) (fun hHeld => ?_)
                obtain ⟨wd, hwdx⟩ : ∃ wd : World, wd = World.drew w10 := ⟨_, rfl⟩
                rw [← hwdx] at hHeld ⊢
                have hDrew : Ex w10 wd := by rw [hwdx]; exact (Ex.refl w10).drew
                clear hwdx
                refine wpAnyL_take (i := 0) (oi := ⟨some 56, .fieldAddr 45 (.tmp 7) 4, 0, "tape.go:244", #[], none⟩) (v := ?_) rfl (by kernel_rfl) (by kernel_rfl) (by kernel_rfl) (fun _ _ _ h => h) (Or.inl ⟨by rfl, ?hyr2x0q5⟩) (by kernel_rfl) (by kernel_rfl) (by assumption) ?restr2x0q5
                case hyr2x0q5 => intro wq hSw; (go_simp); (try with_reducible rfl)
                try simp only [Act.put, List.setIfInBounds_toArray, List.set_cons_zero, List.set_cons_succ]
                refine wpAnyL_take (i := 1) (oi := ⟨some 57, .load 43 (.tmp 56), 43, "tape.go:244", #[⟨0, .data⟩], none⟩) (v := ?_) rfl (by kernel_rfl) (by kernel_rfl) (by kernel_rfl) (fun _ _ _ h => h) (Or.inl ⟨by rfl, ?hyr2x1q8⟩) (by kernel_rfl) (by kernel_rfl) (by assumption) ?restr2x1q8
                case hyr2x1q8 => intro wq hSw; (have cq := (BPP.out.nxb n7b hSw).cell 4 _ rfl; go_simp); (try with_reducible rfl)
                try simp only [Act.put, List.setIfInBounds_toArray, List.set_cons_zero, List.set_cons_succ]
                refine wpAnyL_take (i := 2) (oi := ⟨some 58, .fieldAddr 45 (.tmp 7) 4, 0, "tape.go:244", #[], none⟩) (v := ?_) rfl (by kernel_rfl) (by kernel_rfl) (by kernel_rfl) (fun _ _ _ h => h) (Or.inl ⟨by rfl, ?hyr2x2q11⟩) (by kernel_rfl) (by kernel_rfl) (by assumption) ?restr2x2q11
                case hyr2x2q11 => intro wq hSw; (go_simp); (try with_reducible rfl)
                try simp only [Act.put, List.setIfInBounds_toArray, List.set_cons_zero, List.set_cons_succ]
                refine wpAnyL_take (i := 3) (oi := ⟨some 59, .load 43 (.tmp 58), 43, "tape.go:244", #[⟨2, .data⟩], none⟩) (v := ?_) rfl (by kernel_rfl) (by kernel_rfl) (by kernel_rfl) (fun _ _ _ h => h) (Or.inl ⟨by rfl, ?hyr2x3q14⟩) (by kernel_rfl) (by kernel_rfl) (by assumption) ?restr2x3q14
                case hyr2x3q14 => intro wq hSw; (have cq := (BPP.out.nxb n7b hSw).cell 4 _ rfl; go_simp); (try with_reducible rfl)
                try simp only [Act.put, List.setIfInBounds_toArray, List.set_cons_zero, List.set_cons_succ]
                refine wpAnyL_take (i := 4) (oi := ⟨some 60, .call { callee := .builtin .len, args := #[.tmp 59], argTypes := #[43] }, 3, "tape.go:244", #[⟨3, .data⟩], none⟩) (v := ?_) rfl (by kernel_rfl) (by kernel_rfl) (by kernel_rfl) (fun _ _ _ h => h) (Or.inl ⟨by rfl, ?hyr2x4q17⟩) (by kernel_rfl) (by kernel_rfl) (by assumption) ?restr2x4q17
                case hyr2x4q17 => intro wq hSw; (go_simp); (try with_reducible rfl)
                try simp only [Act.put, List.setIfInBounds_toArray, List.set_cons_zero, List.set_cons_succ]
                refine wpAnyL_take (i := 5) (oi := ⟨some 61, .binOp .sub 3 (.tmp 60) (.const (.int .i64 1)) 3, 3, "tape.go:244", #[⟨4, .data⟩], none⟩) (v := ?_) rfl (by kernel_rfl) (by kernel_rfl) (by kernel_rfl) (fun _ _ _ h => h) (Or.inl ⟨by rfl, ?hyr2x5q20⟩) (by kernel_rfl) (by kernel_rfl) (by assumption) ?restr2x5q20
                case hyr2x5q20 => intro wq hSw; (go_simp); (try with_reducible rfl)
                try simp only [Act.put, List.setIfInBounds_toArray, List.set_cons_zero, List.set_cons_succ]
                refine wpAnyL_take (i := 6) (oi := ⟨some 62, .move (.tmp 0), 25, "tape.go:244", #[], none⟩) (v := ?_) rfl (by kernel_rfl) (by kernel_rfl) (by kernel_rfl) (fun _ _ _ h => h) (Or.inl ⟨by rfl, ?hyr2x6q23⟩) (by kernel_rfl) (by kernel_rfl) (by assumption) ?restr2x6q23
                case hyr2x6q23 => intro wq hSw; (go_simp); (try with_reducible rfl)
                try simp only [Act.put, List.setIfInBounds_toArray, List.set_cons_zero, List.set_cons_succ]
                refine wpAnyL_take (i := 7) (oi := ⟨some 63, .move (.tmp 1), 23, "tape.go:244", #[], none⟩) (v := ?_) rfl (by kernel_rfl) (by kernel_rfl) (by kernel_rfl) (fun _ _ _ h => h) (Or.inl ⟨by rfl, ?hyr2x7q26⟩) (by kernel_rfl) (by kernel_rfl) (by assumption) ?restr2x7q26
                case hyr2x7q26 => intro wq hSw; (go_simp); (try with_reducible rfl)
                try simp only [Act.put, List.setIfInBounds_toArray, List.set_cons_zero, List.set_cons_succ]
                refine wpAnyL_take (i := 9) (oi := ⟨some 65, .move (.tmp 0), 25, "tape.go:244", #[], none⟩) (v := ?_) rfl (by kernel_rfl) (by kernel_rfl) (by kernel_rfl) (fun _ _ _ h => h) (Or.inl ⟨by rfl, ?hyr2x9q29⟩) (by kernel_rfl) (by kernel_rfl) (by assumption) ?restr2x9q29
                case hyr2x9q29 => intro wq hSw; (go_simp); (try with_reducible rfl)
                try simp only [Act.put, List.setIfInBounds_toArray, List.set_cons_zero, List.set_cons_succ]
                refine wpAnyL_take (i := 10) (oi := ⟨some 66, .move (.tmp 1), 23, "tape.go:244", #[], none⟩) (v := ?_) rfl (by kernel_rfl) (by kernel_rfl) (by kernel_rfl) (fun _ _ _ h => h) (Or.inl ⟨by rfl, ?hyr2x10q32⟩) (by kernel_rfl) (by kernel_rfl) (by assumption) ?restr2x10q32
                case hyr2x10q32 => intro wq hSw; (go_simp); (try with_reducible rfl)
                try simp only [Act.put, List.setIfInBounds_toArray, List.set_cons_zero, List.set_cons_succ]
                refine wpAnyL_take (i := 12) (oi := ⟨some 68, .move (.tmp 0), 25, "tape.go:244", #[], none⟩) (v := ?_) rfl (by kernel_rfl) (by kernel_rfl) (by kernel_rfl) (fun _ _ _ h => h) (Or.inl ⟨by rfl, ?hyr2x12q35⟩) (by kernel_rfl) (by kernel_rfl) (by assumption) ?restr2x12q35
                case hyr2x12q35 => intro wq hSw; (go_simp); (try with_reducible rfl)
                try simp only [Act.put, List.setIfInBounds_toArray, List.set_cons_zero, List.set_cons_succ]
                refine wpAnyL_take (i := 13) (oi := ⟨some 69, .move (.tmp 1), 23, "tape.go:244", #[], none⟩) (v := ?_) rfl (by kernel_rfl) (by kernel_rfl) (by kernel_rfl) (fun _ _ _ h => h) (Or.inl ⟨by rfl, ?hyr2x13q38⟩) (by kernel_rfl) (by kernel_rfl) (by assumption) ?restr2x13q38
                case hyr2x13q38 => intro wq hSw; (go_simp); (try with_reducible rfl)
                try simp only [Act.put, List.setIfInBounds_toArray, List.set_cons_zero, List.set_cons_succ]
                refine wpAnyL_take (i := 15) (oi := ⟨some 71, .move (.tmp 0), 25, "tape.go:244", #[], none⟩) (v := ?_) rfl (by kernel_rfl) (by kernel_rfl) (by kernel_rfl) (fun _ _ _ h => h) (Or.inl ⟨by rfl, ?hyr2x15q41⟩) (by kernel_rfl) (by kernel_rfl) (by assumption) ?restr2x15q41
                case hyr2x15q41 => intro wq hSw; (go_simp); (try with_reducible rfl)
                try simp only [Act.put, List.setIfInBounds_toArray, List.set_cons_zero, List.set_cons_succ]
                refine wpAnyL_take (i := 16) (oi := ⟨some 72, .move (.tmp 1), 23, "tape.go:244", #[], none⟩) (v := ?_) rfl (by kernel_rfl) (by kernel_rfl) (by kernel_rfl) (fun _ _ _ h => h) (Or.inl ⟨by rfl, ?hyr2x16q44⟩) (by kernel_rfl) (by kernel_rfl) (by assumption) ?restr2x16q44
                case hyr2x16q44 => intro wq hSw; (go_simp); (try with_reducible rfl)
                try simp only [Act.put, List.setIfInBounds_toArray, List.set_cons_zero, List.set_cons_succ]
                refine wpAnyL_ready (rs := [8]) (by kernel_rfl) (by simp) ?_
                refine AllReadyL.cons (o := ⟨some 64, .call { callee := .value (.func 68), args := #[.tmp 62, .tmp 63], argTypes := #[25, 23] }, 3, "tape.go:244", #[⟨6, .data⟩, ⟨7, .data⟩], none⟩) rfl (fun K hK => ?_) AllReadyL.nil
                go_simp
                (refine (id_t _ _ _ l _ (T.nx hDrew) (HS.out.nxb (KWH.out.nxb hHeld)) hna HI.out).mono ?_)
                clear T
                rintro e wq1 ⟨i1, rfl, _, T, kk⟩
                replace hHeld := hHeld.nxb kk
                clear kk
                refine hK.out _ _ (hHeld) (fun hHeld => ?_)
                clear hK K
                try simp only [Act.put, List.setIfInBounds_toArray, List.set_cons_zero, List.set_cons_succ]
                refine wpAnyL_ready (rs := [11]) (by kernel_rfl) (by simp) ?_
                refine AllReadyL.cons (o := ⟨some 67, .call { callee := .value (.func 68), args := #[.tmp 65, .tmp 66], argTypes := #[25, 23] }, 3, "tape.go:244", #[⟨9, .data⟩, ⟨10, .data⟩, ⟨8, .chain⟩], none⟩) rfl (fun K hK => ?_) AllReadyL.nil
                go_simp
                (refine (id_t _ _ _ l _ T (HS.out.nxb (KWH.out.nxb hHeld)) hna HI.out).mono ?_)
                clear T
                rintro e wq2 ⟨i2, rfl, _, T, kk⟩
                replace hHeld := hHeld.nxb kk
                clear kk
                refine hK.out _ _ (hHeld) (fun hHeld => ?_)
                clear hK K
                try simp only [Act.put, List.setIfInBounds_toArray, List.set_cons_zero, List.set_cons_succ]
                refine wpAnyL_ready (rs := [14]) (by kernel_rfl) (by simp) ?_
                refine AllReadyL.cons (o := ⟨some 70, .call { callee := .value (.func 68), args := #[.tmp 68, .tmp 69], argTypes := #[25, 23] }, 3, "tape.go:244", #[⟨12, .data⟩, ⟨13, .data⟩, ⟨11, .chain⟩], none⟩) rfl (fun K hK => ?_) AllReadyL.nil
                go_simp
                (refine (id_t _ _ _ l _ T (HS.out.nxb (KWH.out.nxb hHeld)) hna HI.out).mono ?_)
                clear T
                rintro e wq3 ⟨i3, rfl, _, T, kk⟩
                replace hHeld := hHeld.nxb kk
                clear kk
                refine hK.out _ _ (hHeld) (fun hHeld => ?_)
                clear hK K
                try simp only [Act.put, List.setIfInBounds_toArray, List.set_cons_zero, List.set_cons_succ]
                refine wpAnyL_ready (rs := [17]) (by kernel_rfl) (by simp) ?_
                refine AllReadyL.cons (o := ⟨some 73, .call { callee := .value (.func 68), args := #[.tmp 71, .tmp 72], argTypes := #[25, 23] }, 3, "tape.go:244", #[⟨15, .data⟩, ⟨16, .data⟩, ⟨14, .chain⟩], none⟩) rfl (fun K hK => ?_) AllReadyL.nil
                go_simp
                (refine (id_t _ _ _ l _ T (HS.out.nxb (KWH.out.nxb hHeld)) hna HI.out).mono ?_)
                clear T
                rintro e wq ⟨i4, rfl, _, T, kk⟩
                replace hHeld := hHeld.nxb kk
                clear kk
                refine hK.out _ _ (hHeld) (fun hHeld => ?_)
                clear hK K
                try simp only [Act.put, List.setIfInBounds_toArray, List.set_cons_zero, List.set_cons_succ]
                refine wpAnyL_take (i := 18) (oi := ⟨some 74, .build 49 #[(0, .tmp 64), (1, .tmp 67), (2, .tmp 70), (3, .tmp 73)], 49, "tape.go:244", #[⟨8, .data⟩, ⟨11, .data⟩, ⟨14, .data⟩, ⟨17, .data⟩], none⟩) (v := ?_) rfl (by kernel_rfl) (by kernel_rfl) (by kernel_rfl) (fun _ _ _ h => h) (Or.inl ⟨by rfl, ?hyr2x18q91⟩) (by kernel_rfl) (by kernel_rfl) (by assumption) ?restr2x18q91
                case hyr2x18q91 => intro wq hSw; (go_simp); (try with_reducible rfl)
                try simp only [Act.put, List.setIfInBounds_toArray, List.set_cons_zero, List.set_cons_succ]
                refine wpAnyL_ready (rs := [19]) (by kernel_rfl) (by simp) ?_
                refine AllReadyL.consL (o := ⟨some 75, .indexAddr 43 (.tmp 57) (.tmp 61), 0, "tape.go:244", #[⟨1, .data⟩, ⟨5, .data⟩, ⟨0, .phase⟩, ⟨1, .phase⟩, ⟨2, .phase⟩, ⟨3, .phase⟩, ⟨4, .phase⟩, ⟨5, .phase⟩, ⟨6, .phase⟩, ⟨7, .phase⟩, ⟨8, .phase⟩, ⟨9, .phase⟩, ⟨10, .phase⟩, ⟨11, .phase⟩, ⟨12, .phase⟩, ⟨13, .phase⟩, ⟨14, .phase⟩, ⟨15, .phase⟩, ⟨16, .phase⟩, ⟨17, .phase⟩, ⟨18, .phase⟩], none⟩) rfl (by rfl) (fun K hK => ?_) AllReadyL.nil
                go_simp
                refine hK.out _ _ ?_
                clear hK K
                try simp only [Act.put, List.setIfInBounds_toArray, List.set_cons_zero, List.set_cons_succ]
                refine wpAnyL_ready (rs := [20]) (by kernel_rfl) (by simp) ?_
                refine AllReadyL.consL (o := ⟨none, .store 49 (.tmp 75) (.tmp 74), 0, "tape.go:244", #[⟨19, .data⟩, ⟨18, .data⟩, ⟨17, .chain⟩, ⟨0, .phase⟩, ⟨1, .phase⟩, ⟨2, .phase⟩, ⟨3, .phase⟩, ⟨4, .phase⟩, ⟨5, .phase⟩, ⟨6, .phase⟩, ⟨7, .phase⟩, ⟨8, .phase⟩, ⟨9, .phase⟩, ⟨10, .phase⟩, ⟨11, .phase⟩, ⟨12, .phase⟩, ⟨13, .phase⟩, ⟨14, .phase⟩, ⟨15, .phase⟩, ⟨16, .phase⟩, ⟨17, .phase⟩, ⟨18, .phase⟩], none⟩) rfl (by rfl) (fun K hK => ?_) AllReadyL.nil
                have N0 := NRY.out.nxb hbw hHeld
                have hy0 : (nr ++ [((0, 0, 0, 0) : Nr)])[nr.length]? = some (0, 0, 0, 0) := by simp
                obtain ⟨c0, c1, c2, c3, f0, f1, f2, f3, np⟩ := own_put4 N0 hy0
                go_simp
                clear c0 c1 c2 c3 f0 f1 f2 f3
                refine hK.out _ _ ?_
                clear hK K
                try simp only [Act.put, List.setIfInBounds_toArray, List.set_cons_zero, List.set_cons_succ]
                refine wpAnyL_done (by kernel_rfl) ?_ _
                have NF := np (i1, i2, i3, i4)
                obtain ⟨wv, hwv⟩ : ∃ wv, wv = (((wq.setCell ⟨gn, nr.length * 4, none⟩ (.int .i64 i1)).setCell ⟨gn, nr.length * 4 + 1, none⟩ (.int .i64 i2)).setCell ⟨gn, nr.length * 4 + 1 + 1, none⟩ (.int .i64 i3)).setCell ⟨gn, nr.length * 4 + 1 + 1 + 1, none⟩ (.int .i64 i4) := ⟨_, rfl⟩
                rw [← hwv]
                rw [show (nr ++ [((0, 0, 0, 0) : Nr)]).set nr.length (i1, i2, i3, i4) = nr ++ [((i1, i2, i3, i4) : Nr)] by simp, ← hwv] at NF
                have KS : Exb gn wq wv := by rw [hwv]; exact (((((Exb.refl gn wq).setB (p := ⟨gn, nr.length * 4, none⟩) _ rfl).setB (p := ⟨gn, nr.length * 4 + 1, none⟩) _ rfl).setB (p := ⟨gn, nr.length * 4 + 1 + 1, none⟩) _ rfl).setB (p := ⟨gn, nr.length * 4 + 1 + 1 + 1, none⟩) _ rfl)
                have B7v := (BPP.out.nxb n7b hHeld).nxb (fun h => N0.ne_blk (BPP.out.nxb n7b hHeld) (by decide) rfl h.symm) KS
                have B6v := (BSS.out.nxb n6b hHeld).nxb (fun h => N0.ne_blk (BSS.out.nxb n6b hHeld) (by decide) rfl h.symm) KS
                have own8 := (own.out.nxb hbw hHeld).apart N0 (by decide) rfl KS
                have Tv : TK wv b := by rw [hwv]; exact (((T.set (p := ⟨gn, nr.length * 4, none⟩) _ (show b < gn by omega)).set (p := ⟨gn, nr.length * 4 + 1, none⟩) _ (show b < gn by omega)).set (p := ⟨gn, nr.length * 4 + 1 + 1, none⟩) _ (show b < gn by omega)).set (p := ⟨gn, nr.length * 4 + 1 + 1 + 1, none⟩) _ (show b < gn by omega)
                have KWv : Exb b w wv := by rw [hwv]; exact ((((KWH.out.nxb hHeld).setNew (p := ⟨gn, nr.length * 4, none⟩) _ zgn).setNew (p := ⟨gn, nr.length * 4 + 1, none⟩) _ zgn).setNew (p := ⟨gn, nr.length * 4 + 1 + 1, none⟩) _ zgn).setNew (p := ⟨gn, nr.length * 4 + 1 + 1 + 1, none⟩) _ zgn
                have RR := Lib.hid (show P2Rel b g6 g7 (ht + 1) r0 lf rt (A, kn.length, c) kn w (.int .i64 ((q : Int) - 1)) wv from ⟨q - 1, some ⟨gn, 0, none⟩, _, C9, nr ++ [(i1, i2, i3, i4)], by rw [List.length_append, List.length_singleton]; omega, by rw [show ((q - 1 : Nat) : Int) = (q : Int) - 1 by omega], B7v, B6v, own8, NF, Tv, KWv⟩)
                clear NF np KS B7v B6v own8 Tv KWv hwv N0 hHeld T
                go_wp2_with fail
                exact ⟨RR.out, by simp [intOf]; omega⟩
            · have zq : ¬ (0 : Int) < (q : Int) := by omega
              obtain ⟨A', C', e9, _⟩ := nrow.rd (fun _ => rfl)
              simp only [Value.slice.injEq] at e9
              obtain ⟨rfl, rfl, rfl⟩ := e9
              have p0 := B7.cell 0 _ rfl
              have p1 := B7.cell 1 _ rfl
              have p2 := B7.cell 2 _ rfl
              have p3 := B7.cell 3 _ rfl
              have p4 := B7.cell 4 _ rfl
              have s0 := B6.cell 0 _ rfl
              have s1 := B6.cell 1 _ rfl
              have s2 := B6.cell 2 _ rfl
              have s3 := B6.cell 3 _ rfl
              have s4 := B6.cell 4 _ rfl
              have f0 := B6.free 0
              have f1 := B6.free 1
              have f2 := B6.free 2
              have f3 := B6.free 3
              have f4 := B6.free 4
              have KS : Exb g6 wo (((((wo.setCell ⟨g6, 0, none⟩ (.int .i64 r0)).setCell ⟨g6, 1, none⟩ (.slice A kn.length c)).setCell ⟨g6, 2, none⟩ (.int .i64 lf)).setCell ⟨g6, 3, none⟩ (.int .i64 rt)).setCell ⟨g6, 4, none⟩ (.slice A4 nr.length c4)) :=
                (((((Exb.refl g6 wo).setB (p := ⟨g6, 0, none⟩) _ rfl).setB (p := ⟨g6, 1, none⟩) _ rfl).setB (p := ⟨g6, 2, none⟩) _ rfl).setB (p := ⟨g6, 3, none⟩) _ rfl).setB (p := ⟨g6, 4, none⟩) _ rfl
              have O1 := Lib.hid (own.put B6 (by decide) KS)
              have O4 := Lib.hid (nrow.put B6 (by decide) KS)
              have KV := Lib.hid (((((KW.setNew (p := ⟨g6, 0, none⟩) (.int .i64 r0) zg6).setNew (p := ⟨g6, 1, none⟩) (.slice A kn.length c) zg6).setNew (p := ⟨g6, 2, none⟩) (.int .i64 lf) zg6).setNew (p := ⟨g6, 3, none⟩) (.int .i64 rt) zg6).setNew (p := ⟨g6, 4, none⟩) (.slice A4 nr.length c4) zg6)
              have TV := Lib.hid (((((T.set (p := ⟨g6, 0, none⟩) (.int .i64 r0) zb6).set (p := ⟨g6, 1, none⟩) (.slice A kn.length c) zb6).set (p := ⟨g6, 2, none⟩) (.int .i64 lf) zb6).set (p := ⟨g6, 3, none⟩) (.int .i64 rt) zb6).set (p := ⟨g6, 4, none⟩) (.slice A4 nr.length c4) zb6)
              have hnm : nr.length ≤ ht + 1 := by omega
              clear B6 B7 own nrow T KW KS hq hq0
              go_wp2_with fail
              refine bodyPost_ret (v := .agg #[.int .i64 r0, .slice A kn.length c, .int .i64 lf, .int .i64 rt, .slice A4 nr.length c4]) (by simp [results, Tryz.results32, go_sem, *]) rfl ⟨⟨r0, lf, rt, kn, nr⟩, (A, kn.length, c), (A4, nr.length, c4), rfl, O1.out, O4.out, hkl, hnm, hr0.out, TV.out, KV.out⟩

        | false =>
          obtain ⟨rt, hrt⟩ : ∃ rt : Int, rt = 0 := ⟨_, rfl⟩
          replace B7 : Blk w7 g7 [.int .i64 r0, .slice A kn.length c, .int .i64 lf, .int .i64 rt, .slice none 0 0] 45 := by rw [hrt]; exact B7
          clear hrt
          go_wp2_with fail
          refine (next_t ((ht : Int) + 2) _ T (by omega) (by omega)).mono ?_
          clear T
          rintro e w9 ⟨q2, rfl, q20, q21, T, kk⟩
          obtain ⟨q2, rfl⟩ := Int.eq_ofNat_of_zero_le q20
          replace KW := KW.nxb kk
          replace B6 := B6.nxb n6b kk
          replace B7 := B7.nxb n7b kk
          replace own := own.out.nxb hbw kk
          clear kk
          go_wp2_with fail
          go_loopw [9] (fun i wr => P2Rel b g6 g7 (ht + 1) r0 lf rt (A, kn.length, c) kn w i wr) (fun i _ => (intOf i).toNat)
          case atStart => exact ⟨q2, none, 0, 0, [], by simp; omega, rfl, B7, B6, own, OwnL.nil _ _ _ _ _, T, KW⟩
          case round =>
            clear B6 B7 T KW own
            obtain ⟨q, A4, m4, c4, nr, hq, rfl, B7, B6, own, nrow, T, KW⟩ := hrel
            simp only [Hdr.val] at B7 own
            obtain ⟨wo, rfl⟩ : ∃ wo : World, wo = wr := ⟨_, rfl⟩
            by_cases hq0 : 0 < q
            · obtain ⟨A', C', e9, _⟩ := nrow.rd (fun _ => rfl)
              simp only [Value.slice.injEq] at e9
              obtain ⟨rfl, rfl, rfl⟩ := e9
              have hnl : nr.length ≤ 100000000 := by omega
              have zk := KW.size
              have p4 := B7.cell 4 _ rfl
              have kl := Ex.new wo (.cells #[.int .i64 0, .int .i64 0, .int .i64 0, .int .i64 0] 49)
              have SX : Sl 4 encNr (wo.alloc (.cells #[.int .i64 0, .int .i64 0, .int .i64 0, .int .i64 0] 49)) (some ⟨wo.heap.size, 0, none⟩) 1 [((0, 0, 0, 0) : Nr)] := Sl.lit _ rfl rfl (fun _ => rfl) rfl
              have nrk := nrow.nx kl
              have zl := Nat.le_trans zk kl.size
              have B7k := B7.nx kl
              go_upto_region 14 with (at_builtin; (refine wpList_append_rq (enc := encNr) _ rfl (.tmp 49) (.tmp 51) 43 rfl w.heap.size 49 (.agg #[.int .i64 0, .int .i64 0, .int .i64 0, .int .i64 0]) 4 32 Tryz.underlying43 Tryz.infoNr rfl (by omega) (by omega) _ nr nrk rfl _ 1 1 [((0, 0, 0, 0) : Nr)] SX (fun _ => rfl) (by simp [encNr, Value.oneCell']) rfl hnl (by omega) zl ?_); intro v9 wz own9 ch0 ch1; have hl9 : (nr ++ [((0, 0, 0, 0) : Nr)]).length = nr.length + 1 := (by simp); obtain ⟨A9, C9, e9, _, _, _, some9⟩ := own9.rd (fun _ => rfl); obtain ⟨gn, rfl, zgn⟩ := some9 (by simp); rw [hl9] at e9; subst e9; have BZ := B7k.app nrk (by decide) ch0; have f4 := BZ.free 4; have r4 := BZ.cell 4 _ rfl)
              have KS : Exb g7 wz (wz.setCell ⟨g7, 4, none⟩ (.slice (some ⟨gn, 0, none⟩) (nr.length + 1) C9)) := (Exb.refl g7 wz).setB (p := ⟨g7, 4, none⟩) _ rfl
              obtain ⟨wy, hwy⟩ : ∃ wy, wy = wz.setCell ⟨g7, 4, none⟩ (.slice (some ⟨gn, 0, none⟩) (nr.length + 1) C9) := ⟨_, rfl⟩
              rw [← hwy] at KS ⊢
              have nry := own9.put BZ (by decide) KS
              have own := ((own.nx kl).app nrk (by decide) ch0).put BZ (by decide) KS
              have B6 := ((B6.nx kl).app nrk (by decide) ch0).nxb n67 KS
              have KW : Exb b w wy := Chg.trans (Chg.trans (KW.nxb (kl.b b)) (ch1.mono (fun x hx => hx.1))) (Chg.mono KS (fun x hx => ⟨Nat.lt_of_lt_of_le hx.1 (Nat.le_trans zl ch1.size), fun h => by have := hx.1; omega⟩))
              have T : TK wy b := by rw [hwy]; exact TK.set (show TK wz b from TP.chg (T.nx kl) ch1 (fun x hx => by omega)) (p := ⟨g7, 4, none⟩) _ zb7
              replace BZ : Blk wy g7 [.int .i64 r0, .slice A kn.length c, .int .i64 lf, .int .i64 rt, .slice (some ⟨gn, 0, none⟩) (nr.length + 1) C9] 45 := by rw [hwy]; exact BZ.set 4 _
              clear hwy KS ch0 ch1 nrk nrow B7 B7k SX own9 f4 r4 p4 kl zl
              replace own := Lib.hid own
              go_wp2_with fail
              (refine (bool_t 2 _ T (by omega) (by omega)).mono ?_)
              clear T
              rintro e w10 ⟨rb, rfl, T, kk⟩
              replace KW := KW.nxb kk
              replace B6 := B6.nxb n6b kk
              replace BZ := BZ.nxb n7b kk
              replace own := Lib.hid (own.out.nxb hbw kk)
              replace nry := nry.nxb hbw kk
              clear kk
              cases rb with
              | false =>
                have RR := Lib.hid (show P2Rel b g6 g7 (ht + 1) r0 lf rt (A, kn.length, c) kn w (.int .i64 ((q : Int) - 1)) w10 from ⟨q - 1, some ⟨gn, 0, none⟩, _, C9, nr ++ [(0, 0, 0, 0)], by rw [hl9]; omega, by rw [show ((q - 1 : Nat) : Int) = (q : Int) - 1 by omega], BZ, B6, own.out, nry, T, KW⟩)
                clear BZ B6 nry T KW
                go_wp2_with fail
                exact ⟨RR.out, by simp [intOf]; omega⟩
              | true =>
                have BPP := Lib.hid BZ
                have BSS := Lib.hid B6
                have NRY := Lib.hid nry
                have KWH := Lib.hid KW
                clear BZ B6 nry KW
                go_upto_region 15 with fail
                have wl1 : IntKind.i64.wrap (nr.length : Int) = (nr.length : Int) := IntWalk.i64_in _ (by omega)
                have wl2 : (nr.length : Int) < (nr.length : Int) + 1 := by omega
                refine wp_region_late_drew (S := Exb b w10) [19, 20] (by kernel_rfl) ((Exb.refl b w10).drew) (fun hHeld => ?_)
                obtain ⟨wd, hwdx⟩ : ∃ wd : World, wd = World.drew w10 := ⟨_, rfl⟩
                rw [← hwdx] at hHeld ⊢
                have hDrew : Ex w10 wd := by rw [hwdx]; exact (Ex.refl w10).drew
                clear hwdx
                refine wpAnyL_take (i := 0) (oi := ⟨some 56, .fieldAddr 45 (.tmp 7) 4, 0, "tape.go:244", #[], none⟩) (v := ?_) rfl (by kernel_rfl) (by kernel_rfl) (by kernel_rfl) (fun _ _ _ h => h) (Or.inl ⟨by rfl, ?hyr3x0q5⟩) (by kernel_rfl) (by kernel_rfl) (by assumption) ?restr3x0q5
                case hyr3x0q5 => intro wq hSw; (go_simp); (try with_reducible rfl)
                try simp only [Act.put, List.setIfInBounds_toArray, List.set_cons_zero, List.set_cons_succ]
                refine wpAnyL_take (i := 1) (oi := ⟨some 57, .load 43 (.tmp 56), 43, "tape.go:244", #[⟨0, .data⟩], none⟩) (v := ?_) rfl (by kernel_rfl) (by kernel_rfl) (by kernel_rfl) (fun _ _ _ h => h) (Or.inl ⟨by rfl, ?hyr3x1q8⟩) (by kernel_rfl) (by kernel_rfl) (by assumption) ?restr3x1q8
                case hyr3x1q8 => intro wq hSw; (have cq := (BPP.out.nxb n7b hSw).cell 4 _ rfl; go_simp); (try with_reducible rfl)
                try simp only [Act.put, List.setIfInBounds_toArray, List.set_cons_zero, List.set_cons_succ]
                refine wpAnyL_take (i := 2) (oi := ⟨some 58, .fieldAddr 45 (.tmp 7) 4, 0, "tape.go:244", #[], none⟩) (v := ?_) rfl (by kernel_rfl) (by kernel_rfl) (by kernel_rfl) (fun _ _ _ h => h) (Or.inl ⟨by rfl, ?hyr3x2q11⟩) (by kernel_rfl) (by kernel_rfl) (by assumption) ?restr3x2q11
                case hyr3x2q11 => intro wq hSw; (go_simp); (try with_reducible rfl)
                try simp only [Act.put, List.setIfInBounds_toArray, List.set_cons_zero, List.set_cons_succ]
                refine wpAnyL_take (i := 3) (oi := ⟨some 59, .load 43 (.tmp 58), 43, "tape.go:244", #[⟨2, .data⟩], none⟩) (v := ?_) rfl (by kernel_rfl) (by kernel_rfl) (by kernel_rfl) (fun _ _ _ h => h) (Or.inl ⟨by rfl, ?hyr3x3q14⟩) (by kernel_rfl) (by kernel_rfl) (by assumption) ?restr3x3q14
                case hyr3x3q14 => intro wq hSw; (have cq := (BPP.out.nxb n7b hSw).cell 4 _ rfl; go_simp); (try with_reducible rfl)
                try simp only [Act.put, List.setIfInBounds_toArray, List.set_cons_zero, List.set_cons_succ]
                refine wpAnyL_take (i := 4) (oi := ⟨some 60, .call { callee := .builtin .len, args := #[.tmp 59], argTypes := #[43] }, 3, "tape.go:244", #[⟨3, .data⟩], none⟩) (v := ?_) rfl (by kernel_rfl) (by kernel_rfl) (by kernel_rfl) (fun _ _ _ h => h) (Or.inl ⟨by rfl, ?hyr3x4q17⟩) (by kernel_rfl) (by kernel_rfl) (by assumption) ?restr3x4q17
                case hyr3x4q17 => intro wq hSw; (go_simp); (try with_reducible rfl)
                try simp only [Act.put, List.setIfInBounds_toArray, List.set_cons_zero, List.set_cons_succ]
                refine wpAnyL_take (i := 5) (oi := ⟨some 61, .binOp .sub 3 (.tmp 60) (.const (.int .i64 1)) 3, 3, "tape.go:244", #[⟨4, .data⟩], none⟩) (v := ?_) rfl (by kernel_rfl) (by kernel_rfl) (by kernel_rfl) (fun _ _ _ h => h) (Or.inl ⟨by rfl, ?hyr3x5q20⟩) (by kernel_rfl) (by kernel_rfl) (by assumption) ?restr3x5q20
                case hyr3x5q20 => intro wq hSw; (go_simp); (try with_reducible rfl)
                try simp only [Act.put, List.setIfInBounds_toArray, List.set_cons_zero, List.set_cons_succ]
                refine wpAnyL_take (i := 6) (oi := ⟨some 62, .move (.tmp 0), 25, "tape.go:244", #[], none⟩) (v := ?_) rfl (by kernel_rfl) (by kernel_rfl) (by kernel_rfl) (fun _ _ _ h => h) (Or.inl ⟨by rfl, ?hyr3x6q23⟩) (by kernel_rfl) (by kernel_rfl) (by assumption) ?restr3x6q23
                case hyr3x6q23 => intro wq hSw; (go_simp); (try with_reducible rfl)
                try simp only [Act.put, List.setIfInBounds_toArray, List.set_cons_zero, List.set_cons_succ]
                refine wpAnyL_take (i := 7) (oi := ⟨some 63, .move (.tmp 1), 23, "tape.go:244", #[], none⟩) (v := ?_) rfl (by kernel_rfl) (by kernel_rfl) (by kernel_rfl) (fun _ _ _ h => h) (Or.inl ⟨by rfl, ?hyr3x7q26⟩) (by kernel_rfl) (by kernel_rfl) (by assumption) ?restr3x7q26
                case hyr3x7q26 => intro wq hSw; (go_simp); (try with_reducible rfl)
                try simp only [Act.put, List.setIfInBounds_toArray, List.set_cons_zero, List.set_cons_succ]
                refine wpAnyL_take (i := 9) (oi := ⟨some 65, .move (.tmp 0), 25, "tape.go:244", #[], none⟩) (v := ?_) rfl (by kernel_rfl) (by kernel_rfl) (by kernel_rfl) (fun _ _ _ h => h) (Or.inl ⟨by rfl, ?hyr3x9q29⟩) (by kernel_rfl) (by kernel_rfl) (by assumption) ?restr3x9q29
                case hyr3x9q29 => intro wq hSw; (go_simp); (try with_reducible rfl)
                try simp only [Act.put, List.setIfInBounds_toArray, List.set_cons_zero, List.set_cons_succ]
                refine wpAnyL_take (i := 10) (oi := ⟨some 66, .move (.tmp 1), 23, "tape.go:244", #[], none⟩) (v := ?_) rfl (by kernel_rfl) (by kernel_rfl) (by kernel_rfl) (fun _ _ _ h => h) (Or.inl ⟨by rfl, ?hyr3x10q32⟩) (by kernel_rfl) (by kernel_rfl) (by assumption) ?restr3x10q32
                case hyr3x10q32 => intro wq hSw; (go_simp); (try with_reducible rfl)
                try simp only [Act.put, List.setIfInBounds_toArray, List.set_cons_zero, List.set_cons_succ]
                refine wpAnyL_take (i := 12) (oi := ⟨some 68, .move (.tmp 0), 25, "tape.go:244", #[], none⟩) (v := ?_) rfl (by kernel_rfl) (by kernel_rfl) (by kernel_rfl) (fun _ _ _ h => h) (Or.inl ⟨by rfl, ?hyr3x12q35⟩) (by kernel_rfl) (by kernel_rfl) (by assumption) ?restr3x12q35
                case hyr3x12q35 => intro wq hSw; (go_simp); (try with_reducible rfl)
                try simp only [Act.put, List.setIfInBounds_toArray, List.set_cons_zero, List.set_cons_succ]
                refine wpAnyL_take (i := 13) (oi := ⟨some 69, .move (.tmp 1), 23, "tape.go:244", #[], none⟩) (v := ?_) rfl (by kernel_rfl) (by kernel_rfl) (by kernel_rfl) (fun _ _ _ h => h) (Or.inl ⟨by rfl, ?hyr3x13q38⟩) (by kernel_rfl) (by kernel_rfl) (by assumption) ?restr3x13q38
                case hyr3x13q38 => intro wq hSw; (go_simp); (try with_reducible rfl)
                try simp only [Act.put, List.setIfInBounds_toArray, List.set_cons_zero, List.set_cons_succ]
                refine wpAnyL_take (i := 15) (oi := ⟨some 71, .move (.tmp 0), 25, "tape.go:244", #[], none⟩) (v := ?_) rfl (by kernel_rfl) (by kernel_rfl) (by kernel_rfl) (fun _ _ _ h => h) (Or.inl ⟨by rfl, ?hyr3x15q41⟩) (by kernel_rfl) (by kernel_rfl) (by assumption) ?restr3x15q41
                case hyr3x15q41 => intro wq hSw; (go_simp); (try with_reducible rfl)
                try simp only [Act.put, List.setIfInBounds_toArray, List.set_cons_zero, List.set_cons_succ]
                refine wpAnyL_take (i := 16) (oi := ⟨some 72, .move (.tmp 1), 23, "tape.go:244", #[], none⟩) (v := ?_) rfl (by kernel_rfl) (by kernel_rfl) (by kernel_rfl) (fun _ _ _ h => h) (Or.inl ⟨by rfl, ?hyr3x16q44⟩) (by kernel_rfl) (by kernel_rfl) (by assumption) ?restr3x16q44
                case hyr3x16q44 => intro wq hSw; (go_simp); (try with_reducible rfl)
                try simp only [Act.put, List.setIfInBounds_toArray, List.set_cons_zero, List.set_cons_succ]
                refine wpAnyL_ready (rs := [8]) (by kernel_rfl) (by simp) ?_
                refine AllReadyL.cons (o := ⟨some 64, .call { callee := .value (.func 68), args := #[.tmp 62, .tmp 63], argTypes := #[25, 23] }, 3, "tape.go:244", #[⟨6, .data⟩, ⟨7, .data⟩], none⟩) rfl (fun K hK => ?_) AllReadyL.nil
                go_simp
                (refine (id_t _ _ _ l _ (T.nx hDrew) (HS.out.nxb (KWH.out.nxb hHeld)) hna HI.out).mono ?_)
                clear T
                rintro e wq1 ⟨i1, rfl, _, T, kk⟩
                replace hHeld := hHeld.nxb kk
                clear kk
                refine hK.out _ _ (hHeld) (fun hHeld => ?_)
                clear hK K
                try simp only [Act.put, List.setIfInBounds_toArray, List.set_cons_zero, List.set_cons_succ]
                refine wpAnyL_ready (rs := [11]) (by kernel_rfl) (by simp) ?_
                refine AllReadyL.cons (o := ⟨some 67, .call { callee := .value (.func 68), args := #[.tmp 65, .tmp 66], argTypes := #[25, 23] }, 3, "tape.go:244", #[⟨9, .data⟩, ⟨10, .data⟩, ⟨8, .chain⟩], none⟩) rfl (fun K hK => ?_) AllReadyL.nil
                go_simp
                (refine (id_t _ _ _ l _ T (HS.out.nxb (KWH.out.nxb hHeld)) hna HI.out).mono ?_)
                clear T
                rintro e wq2 ⟨i2, rfl, _, T, kk⟩
                replace hHeld := hHeld.nxb kk
                clear kk
                refine hK.out _ _ (hHeld) (fun hHeld => ?_)
                clear hK K
                try simp only [Act.put, List.setIfInBounds_toArray, List.set_cons_zero, List.set_cons_succ]
                refine wpAnyL_ready (rs := [14]) (by kernel_rfl) (by simp) ?_
                refine AllReadyL.cons (o := ⟨some 70, .call { callee := .value (.func 68), args := #[.tmp 68, .tmp 69], argTypes := #[25, 23] }, 3, "tape.go:244", #[⟨12, .data⟩, ⟨13, .data⟩, ⟨11, .chain⟩], none⟩) rfl (fun K hK => ?_) AllReadyL.nil
                go_simp
                (refine (id_t _ _ _ l _ T (HS.out.nxb (KWH.out.nxb hHeld)) hna HI.out).mono ?_)
                clear T
                rintro e wq3 ⟨i3, rfl, _, T, kk⟩
                replace hHeld := hHeld.nxb kk
                clear kk
                refine hK.out _ _ (hHeld) (fun hHeld => ?_)
                clear hK K
                try simp only [Act.put, List.setIfInBounds_toArray, List.set_cons_zero, List.set_cons_succ]
                refine wpAnyL_ready (rs := [17]) (by kernel_rfl) (by simp) ?_
                refine AllReadyL.cons (o := ⟨some 73, .call { callee := .value (.func 68), args := #[.tmp 71, .tmp 72], argTypes := #[25, 23] }, 3, "tape.go:244", #[⟨15, .data⟩, ⟨16, .data⟩, ⟨14, .chain⟩], none⟩) rfl (fun K hK => ?_) AllReadyL.nil
                go_simp
                (refine (id_t _ _ _ l _ T (HS.out.nxb (KWH.out.nxb hHeld)) hna HI.out).mono ?_)
                clear T
                rintro e wq ⟨i4, rfl, _, T, kk⟩
                replace hHeld := hHeld.nxb kk
                clear kk
                refine hK.out _ _ (hHeld) (fun hHeld => ?_)
                clear hK K
                try simp only [Act.put, List.setIfInBounds_toArray, List.set_cons_zero, List.set_cons_succ]
                refine wpAnyL_take (i := 18) (oi := ⟨some 74, .build 49 #[(0, .tmp 64), (1, .tmp 67), (2, .tmp 70), (3, .tmp 73)], 49, "tape.go:244", #[⟨8, .data⟩, ⟨11, .data⟩, ⟨14, .data⟩, ⟨17, .data⟩], none⟩) (v := ?_) rfl (by kernel_rfl) (by kernel_rfl) (by kernel_rfl) (fun _ _ _ h => h) (Or.inl ⟨by rfl, ?hyr3x18q91⟩) (by kernel_rfl) (by kernel_rfl) (by assumption) ?restr3x18q91
                case hyr3x18q91 => intro wq hSw; (go_simp); (try with_reducible rfl)
                try simp only [Act.put, List.setIfInBounds_toArray, List.set_cons_zero, List.set_cons_succ]
                refine wpAnyL_ready (rs := [19]) (by kernel_rfl) (by simp) ?_
                refine AllReadyL.consL (o := ⟨some 75, .indexAddr 43 (.tmp 57) (.tmp 61), 0, "tape.go:244", #[⟨1, .data⟩, ⟨5, .data⟩, ⟨0, .phase⟩, ⟨1, .phase⟩, ⟨2, .phase⟩, ⟨3, .phase⟩, ⟨4, .phase⟩, ⟨5, .phase⟩, ⟨6, .phase⟩, ⟨7, .phase⟩, ⟨8, .phase⟩, ⟨9, .phase⟩, ⟨10, .phase⟩, ⟨11, .phase⟩, ⟨12, .phase⟩, ⟨13, .phase⟩, ⟨14, .phase⟩, ⟨15, .phase⟩, ⟨16, .phase⟩, ⟨17, .phase⟩, ⟨18, .phase⟩], none⟩) rfl (by rfl) (fun K hK => ?_) AllReadyL.nil
                go_simp
                refine hK.out _ _ ?_
                clear hK K
                try simp only [Act.put, List.setIfInBounds_toArray, List.set_cons_zero, List.set_cons_succ]
                refine wpAnyL_ready (rs := [20]) (by kernel_rfl) (by simp) ?_
                refine AllReadyL.consL (o := ⟨none, .store 49 (.tmp 75) (.tmp 74), 0, "tape.go:244", #[⟨19, .data⟩, ⟨18, .data⟩, ⟨17, .chain⟩, ⟨0, .phase⟩, ⟨1, .phase⟩, ⟨2, .phase⟩, ⟨3, .phase⟩, ⟨4, .phase⟩, ⟨5, .phase⟩, ⟨6, .phase⟩, ⟨7, .phase⟩, ⟨8, .phase⟩, ⟨9, .phase⟩, ⟨10, .phase⟩, ⟨11, .phase⟩, ⟨12, .phase⟩, ⟨13, .phase⟩, ⟨14, .phase⟩, ⟨15, .phase⟩, ⟨16, .phase⟩, ⟨17, .phase⟩, ⟨18, .phase⟩], none⟩) rfl (by rfl) (fun K hK => ?_) AllReadyL.nil
                have N0 := NRY.out.nxb hbw hHeld
                have hy0 : (nr ++ [((0, 0, 0, 0) : Nr)])[nr.length]? = some (0, 0, 0, 0) := by simp
                obtain ⟨c0, c1, c2, c3, f0, f1, f2, f3, np⟩ := own_put4 N0 hy0
                go_simp
                clear c0 c1 c2 c3 f0 f1 f2 f3
                refine hK.out _ _ ?_
                clear hK K
                try simp only [Act.put, List.setIfInBounds_toArray, List.set_cons_zero, List.set_cons_succ]
                refine wpAnyL_done (by kernel_rfl) ?_ _
                have NF := np (i1, i2, i3, i4)
                obtain ⟨wv, hwv⟩ : ∃ wv, wv = (((wq.setCell ⟨gn, nr.length * 4, none⟩ (.int .i64 i1)).setCell ⟨gn, nr.length * 4 + 1, none⟩ (.int .i64 i2)).setCell ⟨gn, nr.length * 4 + 1 + 1, none⟩ (.int .i64 i3)).setCell ⟨gn, nr.length * 4 + 1 + 1 + 1, none⟩ (.int .i64 i4) := ⟨_, rfl⟩
                rw [← hwv]
                rw [show (nr ++ [((0, 0, 0, 0) : Nr)]).set nr.length (i1, i2, i3, i4) = nr ++ [((i1, i2, i3, i4) : Nr)] by simp, ← hwv] at NF
                have KS : Exb gn wq wv := by rw [hwv]; exact (((((Exb.refl gn wq).setB (p := ⟨gn, nr.length * 4, none⟩) _ rfl).setB (p := ⟨gn, nr.length * 4 + 1, none⟩) _ rfl).setB (p := ⟨gn, nr.length * 4 + 1 + 1, none⟩) _ rfl).setB (p := ⟨gn, nr.length * 4 + 1 + 1 + 1, none⟩) _ rfl)
                have B7v := (BPP.out.nxb n7b hHeld).nxb (fun h => N0.ne_blk (BPP.out.nxb n7b hHeld) (by decide) rfl h.symm) KS
                have B6v := (BSS.out.nxb n6b hHeld).nxb (fun h => N0.ne_blk (BSS.out.nxb n6b hHeld) (by decide) rfl h.symm) KS
                have own8 := (own.out.nxb hbw hHeld).apart N0 (by decide) rfl KS
                have Tv : TK wv b := by rw [hwv]; exact (((T.set (p := ⟨gn, nr.length * 4, none⟩) _ (show b < gn by omega)).set (p := ⟨gn, nr.length * 4 + 1, none⟩) _ (show b < gn by omega)).set (p := ⟨gn, nr.length * 4 + 1 + 1, none⟩) _ (show b < gn by omega)).set (p := ⟨gn, nr.length * 4 + 1 + 1 + 1, none⟩) _ (show b < gn by omega)
                have KWv : Exb b w wv := by rw [hwv]; exact ((((KWH.out.nxb hHeld).setNew (p := ⟨gn, nr.length * 4, none⟩) _ zgn).setNew (p := ⟨gn, nr.length * 4 + 1, none⟩) _ zgn).setNew (p := ⟨gn, nr.length * 4 + 1 + 1, none⟩) _ zgn).setNew (p := ⟨gn, nr.length * 4 + 1 + 1 + 1, none⟩) _ zgn
                have RR := Lib.hid (show P2Rel b g6 g7 (ht + 1) r0 lf rt (A, kn.length, c) kn w (.int .i64 ((q : Int) - 1)) wv from ⟨q - 1, some ⟨gn, 0, none⟩, _, C9, nr ++ [(i1, i2, i3, i4)], by rw [List.length_append, List.length_singleton]; omega, by rw [show ((q - 1 : Nat) : Int) = (q : Int) - 1 by omega], B7v, B6v, own8, NF, Tv, KWv⟩)
                clear NF np KS B7v B6v own8 Tv KWv hwv N0 hHeld T
                go_wp2_with fail
                exact ⟨RR.out, by simp [intOf]; omega⟩
            · have zq : ¬ (0 : Int) < (q : Int) := by omega
              obtain ⟨A', C', e9, _⟩ := nrow.rd (fun _ => rfl)
              simp only [Value.slice.injEq] at e9
              obtain ⟨rfl, rfl, rfl⟩ := e9
              have p0 := B7.cell 0 _ rfl
              have p1 := B7.cell 1 _ rfl
              have p2 := B7.cell 2 _ rfl
              have p3 := B7.cell 3 _ rfl
              have p4 := B7.cell 4 _ rfl
              have s0 := B6.cell 0 _ rfl
              have s1 := B6.cell 1 _ rfl
              have s2 := B6.cell 2 _ rfl
              have s3 := B6.cell 3 _ rfl
              have s4 := B6.cell 4 _ rfl
              have f0 := B6.free 0
              have f1 := B6.free 1
              have f2 := B6.free 2
              have f3 := B6.free 3
              have f4 := B6.free 4
              have KS : Exb g6 wo (((((wo.setCell ⟨g6, 0, none⟩ (.int .i64 r0)).setCell ⟨g6, 1, none⟩ (.slice A kn.length c)).setCell ⟨g6, 2, none⟩ (.int .i64 lf)).setCell ⟨g6, 3, none⟩ (.int .i64 rt)).setCell ⟨g6, 4, none⟩ (.slice A4 nr.length c4)) :=
                (((((Exb.refl g6 wo).setB (p := ⟨g6, 0, none⟩) _ rfl).setB (p := ⟨g6, 1, none⟩) _ rfl).setB (p := ⟨g6, 2, none⟩) _ rfl).setB (p := ⟨g6, 3, none⟩) _ rfl).setB (p := ⟨g6, 4, none⟩) _ rfl
              have O1 := Lib.hid (own.put B6 (by decide) KS)
              have O4 := Lib.hid (nrow.put B6 (by decide) KS)
              have KV := Lib.hid (((((KW.setNew (p := ⟨g6, 0, none⟩) (.int .i64 r0) zg6).setNew (p := ⟨g6, 1, none⟩) (.slice A kn.length c) zg6).setNew (p := ⟨g6, 2, none⟩) (.int .i64 lf) zg6).setNew (p := ⟨g6, 3, none⟩) (.int .i64 rt) zg6).setNew (p := ⟨g6, 4, none⟩) (.slice A4 nr.length c4) zg6)
              have TV := Lib.hid (((((T.set (p := ⟨g6, 0, none⟩) (.int .i64 r0) zb6).set (p := ⟨g6, 1, none⟩) (.slice A kn.length c) zb6).set (p := ⟨g6, 2, none⟩) (.int .i64 lf) zb6).set (p := ⟨g6, 3, none⟩) (.int .i64 rt) zb6).set (p := ⟨g6, 4, none⟩) (.slice A4 nr.length c4) zb6)
              have hnm : nr.length ≤ ht + 1 := by omega
              clear B6 B7 own nrow T KW KS hq hq0
              go_wp2_with fail
              refine bodyPost_ret (v := .agg #[.int .i64 r0, .slice A kn.length c, .int .i64 lf, .int .i64 rt, .slice A4 nr.length c4]) (by simp [results, Tryz.results32, go_sem, *]) rfl ⟨⟨r0, lf, rt, kn, nr⟩, (A, kn.length, c), (A4, nr.length, c4), rfl, O1.out, O4.out, hkl, hnm, hr0.out, TV.out, KV.out⟩

      | false =>
        obtain ⟨lf, hlf⟩ : ∃ lf : Int, lf = 0 := ⟨_, rfl⟩
        replace B7 : Blk w5 g7 [.int .i64 r0, .slice A kn.length c, .int .i64 lf, .int .i64 0, .slice none 0 0] 45 := by rw [hlf]; exact B7
        clear hlf
        go_wp2_with fail
        (refine (bool_t 2 _ T (by omega) (by omega)).mono ?_)
        clear T
        rintro e w7 ⟨r, rfl, T, kk⟩
        replace KW := KW.nxb kk
        replace B6 := B6.nxb n6b kk
        replace B7 := B7.nxb n7b kk
        replace own := Lib.hid (own.out.nxb hbw kk)
        clear kk
        cases r with
        | true =>
          go_wp2_with fail
          (refine (id_t _ _ _ l _ T (HS.out.nxb KW) hna HI.out).mono ?_)
          clear T
          rintro e wa8 ⟨rt, rfl, hrt, T, kk⟩
          replace KW := KW.nxb kk
          replace B6 := B6.nxb n6b kk
          replace B7 := B7.nxb n7b kk
          replace own := Lib.hid (own.out.nxb hbw kk)
          clear kk hrt
          have c2 := B7.cell 3 _ rfl
          have f2 := B7.free 3
          have KS : Exb g7 wa8 (wa8.setCell ⟨g7, 3, none⟩ (.int .i64 rt)) := (Exb.refl g7 wa8).setB (p := ⟨g7, 3, none⟩) _ rfl
          obtain ⟨w8, hw8⟩ : ∃ w8, w8 = wa8.setCell ⟨g7, 3, none⟩ (.int .i64 rt) := ⟨_, rfl⟩
          go_upto_region 10 with fail
          rw [← hw8] at KS ⊢
          replace own := Lib.hid (own.out.put B7 (by decide) KS)
          replace B7 : Blk w8 g7 [.int .i64 r0, .slice A kn.length c, .int .i64 lf, .int .i64 rt, .slice none 0 0] 45 := by rw [hw8]; exact B7.set 3 _
          replace B6 := B6.nxb n67 KS
          replace T : TK w8 b := by rw [hw8]; exact T.set (p := ⟨g7, 3, none⟩) _ zb7
          replace KW : Exb b w w8 := by rw [hw8]; exact KW.setNew (p := ⟨g7, 3, none⟩) _ zg7
          clear hw8 c2 f2 KS
          go_wp2_with fail
          refine (next_t ((ht : Int) + 2) _ T (by omega) (by omega)).mono ?_
          clear T
          rintro e w9 ⟨q2, rfl, q20, q21, T, kk⟩
          obtain ⟨q2, rfl⟩ := Int.eq_ofNat_of_zero_le q20
          replace KW := KW.nxb kk
          replace B6 := B6.nxb n6b kk
          replace B7 := B7.nxb n7b kk
          replace own := own.out.nxb hbw kk
          clear kk
          go_wp2_with fail
          go_loopw [9] (fun i wr => P2Rel b g6 g7 (ht + 1) r0 lf rt (A, kn.length, c) kn w i wr) (fun i _ => (intOf i).toNat)
          case atStart => exact ⟨q2, none, 0, 0, [], by simp; omega, rfl, B7, B6, own, OwnL.nil _ _ _ _ _, T, KW⟩
          case round =>
            clear B6 B7 T KW own
            obtain ⟨q, A4, m4, c4, nr, hq, rfl, B7, B6, own, nrow, T, KW⟩ := hrel
            simp only [Hdr.val] at B7 own
            obtain ⟨wo, rfl⟩ : ∃ wo : World, wo = wr := ⟨_, rfl⟩
            by_cases hq0 : 0 < q
            · obtain ⟨A', C', e9, _⟩ := nrow.rd (fun _ => rfl)
              simp only [Value.slice.injEq] at e9
              obtain ⟨rfl, rfl, rfl⟩ := e9
              have hnl : nr.length ≤ 100000000 := by omega
              have zk := KW.size
              have p4 := B7.cell 4 _ rfl
              have kl := Ex.new wo (.cells #[.int .i64 0, .int .i64 0, .int .i64 0, .int .i64 0] 49)
              have SX : Sl 4 encNr (wo.alloc (.cells #[.int .i64 0, .int .i64 0, .int .i64 0, .int .i64 0] 49)) (some ⟨wo.heap.size, 0, none⟩) 1 [((0, 0, 0, 0) : Nr)] := Sl.lit _ rfl rfl (fun _ => rfl) rfl
              have nrk := nrow.nx kl
              have zl := Nat.le_trans zk kl.size
              have B7k := B7.nx kl
              go_upto_region 14 with (at_builtin; (refine wpList_append_rq (enc := encNr) _ rfl (.tmp 49) (.tmp 51) 43 rfl w.heap.size 49 (.agg #[.int .i64 0, .int .i64 0, .int .i64 0, .int .i64 0]) 4 32 Tryz.underlying43 Tryz.infoNr rfl (by omega) (by omega) _ nr nrk rfl _ 1 1 [((0, 0, 0, 0) : Nr)] SX (fun _ => rfl) (by simp [encNr, Value.oneCell']) rfl hnl (by omega) zl ?_); intro v9 wz own9 ch0 ch1; have hl9 : (nr ++ [((0, 0, 0, 0) : Nr)]).length = nr.length + 1 := (by simp); obtain ⟨A9, C9, e9, _, _, _, some9⟩ := own9.rd (fun _ => rfl); obtain ⟨gn, rfl, zgn⟩ := some9 (by simp); rw [hl9] at e9; subst e9; have BZ := B7k.app nrk (by decide) ch0; have f4 := BZ.free 4; have r4 := BZ.cell 4 _ rfl)
              have KS : Exb g7 wz (wz.setCell ⟨g7, 4, none⟩ (.slice (some ⟨gn, 0, none⟩) (nr.length + 1) C9)) := (Exb.refl g7 wz).setB (p := ⟨g7, 4, none⟩) _ rfl
              obtain ⟨wy, hwy⟩ : ∃ wy, wy = wz.setCell ⟨g7, 4, none⟩ (.slice (some ⟨gn, 0, none⟩) (nr.length + 1) C9) := ⟨_, rfl⟩
              rw [← hwy] at KS ⊢
              have nry := own9.put BZ (by decide) KS
              have own := ((own.nx kl).app nrk (by decide) ch0).put BZ (by decide) KS
              have B6 := ((B6.nx kl).app nrk (by decide) ch0).nxb n67 KS
              have KW : Exb b w wy := Chg.trans (Chg.trans (KW.nxb (kl.b b)) (ch1.mono (fun x hx => hx.1))) (Chg.mono KS (fun x hx => ⟨Nat.lt_of_lt_of_le hx.1 (Nat.le_trans zl ch1.size), fun h => by have := hx.1; omega⟩))
              have T : TK wy b := by rw [hwy]; exact TK.set (show TK wz b from TP.chg (T.nx kl) ch1 (fun x hx => by omega)) (p := ⟨g7, 4, none⟩) _ zb7
              replace BZ : Blk wy g7 [.int .i64 r0, .slice A kn.length c, .int .i64 lf, .int .i64 rt, .slice (some ⟨gn, 0, none⟩) (nr.length + 1) C9] 45 := by rw [hwy]; exact BZ.set 4 _
              clear hwy KS ch0 ch1 nrk nrow B7 B7k SX own9 f4 r4 p4 kl zl
              replace own := Lib.hid own
              go_wp2_with fail
              (refine (bool_t 2 _ T (by omega) (by omega)).mono ?_)
              clear T
              rintro e w10 ⟨rb, rfl, T, kk⟩
              replace KW := KW.nxb kk
              replace B6 := B6.nxb n6b kk
              replace BZ := BZ.nxb n7b kk
              replace own := Lib.hid (own.out.nxb hbw kk)
              replace nry := nry.nxb hbw kk
              clear kk
              cases rb with
              | false =>
                have RR := Lib.hid (show P2Rel b g6 g7 (ht + 1) r0 lf rt (A, kn.length, c) kn w (.int .i64 ((q : Int) - 1)) w10 from ⟨q - 1, some ⟨gn, 0, none⟩, _, C9, nr ++ [(0, 0, 0, 0)], by rw [hl9]; omega, by rw [show ((q - 1 : Nat) : Int) = (q : Int) - 1 by omega], BZ, B6, own.out, nry, T, KW⟩)
                clear BZ B6 nry T KW
                go_wp2_with fail
                exact ⟨RR.out, by simp [intOf]; omega⟩
              | true =>
                have BPP := Lib.hid BZ
                have BSS := Lib.hid B6
                have NRY := Lib.hid nry
                have KWH := Lib.hid KW
                clear BZ B6 nry KW
                go_upto_region 15 with fail
                have wl1 : IntKind.i64.wrap (nr.length : Int) = (nr.length : Int) := IntWalk.i64_in _ (by omega)
                have wl2 : (nr.length : Int) < (nr.length : Int) + 1 := by omega
                refine wp_region_late_drew (S := Exb b w10) [19, 20] (by kernel_rfl) ((Exb.refl b w10).drew) (fun hHeld => ?_)
                obtain ⟨wd, hwdx⟩ : ∃ wd : World, wd = World.drew w10 := ⟨_, rfl⟩
                rw [← hwdx] at hHeld ⊢
                have hDrew : Ex w10 wd := by rw [hwdx]; exact (Ex.refl w10).drew
                clear hwdx
                refine wpAnyL_take (i := 0) (oi := ⟨some 56, .fieldAddr 45 (.tmp 7) 4, 0, "tape.go:244", #[], none⟩) (v := ?_) rfl (by kernel_rfl) (by kernel_rfl) (by kernel_rfl) (fun _ _ _ h => h) (Or.inl ⟨by rfl, ?hyr4x0q5⟩) (by kernel_rfl) (by kernel_rfl) (by assumption) ?restr4x0q5
                case hyr4x0q5 => intro wq hSw; (go_simp); (try with_reducible rfl)
                try simp only [Act.put, List.setIfInBounds_toArray, List.set_cons_zero, List.set_cons_succ]
                refine wpAnyL_take (i := 1) (oi := ⟨some 57, .load 43 (.tmp 56), 43, "tape.go:244", #[⟨0, .data⟩], none⟩) (v := ?_) rfl (by kernel_rfl) (by kernel_rfl) (by kernel_rfl) (fun _ _ _ h => h) (Or.inl ⟨by rfl, ?hyr4x1q8⟩) (by kernel_rfl) (by kernel_rfl) (by assumption) ?restr4x1q8
                case hyr4x1q8 => intro wq hSw; (have cq := (BPP.out.nxb n7b hSw).cell 4 _ rfl; go_simp); (try with_reducible rfl)
                try simp only [Act.put, List.setIfInBounds_toArray, List.set_cons_zero, List.set_cons_succ]
                refine wpAnyL_take (i := 2) (oi := ⟨some 58, .fieldAddr 45 (.tmp 7) 4, 0, "tape.go:244", #[], none⟩) (v := ?_) rfl (by kernel_rfl) (by kernel_rfl) (by kernel_rfl) (fun _ _ _ h => h) (Or.inl ⟨by rfl, ?hyr4x2q11⟩) (by kernel_rfl) (by kernel_rfl) (by assumption) ?restr4x2q11
                case hyr4x2q11 => intro wq hSw; (go_simp); (try with_reducible rfl)
                try simp only [Act.put, List.setIfInBounds_toArray, List.set_cons_zero, List.set_cons_succ]
                refine wpAnyL_take (i := 3) (oi := ⟨some 59, .load 43 (.tmp 58), 43, "tape.go:244", #[⟨2, .data⟩], none⟩) (v := ?_) rfl (by kernel_rfl) (by kernel_rfl) (by kernel_rfl) (fun _ _ _ h => h) (Or.inl ⟨by rfl, ?hyr4x3q14⟩) (by kernel_rfl) (by kernel_rfl) (by assumption) ?restr4x3q14
                case hyr4x3q14 => intro wq hSw; (have cq := (BPP.out.nxb n7b hSw).cell 4 _ rfl; go_simp); (try with_reducible rfl)
                try simp only [Act.put, List.setIfInBounds_toArray, List.set_cons_zero, List.set_cons_succ]
                refine wpAnyL_take (i := 4) (oi := ⟨some 60, .call { callee := .builtin .len, args := #[.tmp 59], argTypes := #[43] }, 3, "tape.go:244", #[⟨3, .data⟩], none⟩) (v := ?_) rfl (by kernel_rfl) (by kernel_rfl) (by kernel_rfl) (fun _ _ _ h => h) (Or.inl ⟨by rfl, ?hyr4x4q17⟩) (by kernel_rfl) (by kernel_rfl) (by assumption) ?restr4x4q17
                case hyr4x4q17 => intro wq hSw; (go_simp); (try with_reducible rfl)
                try simp only [Act.put, List.setIfInBounds_toArray, List.set_cons_zero, List.set_cons_succ]
                refine wpAnyL_take (i := 5) (oi := ⟨some 61, .binOp .sub 3 (.tmp 60) (.const (.int .i64 1)) 3, 3, "tape.go:244", #[⟨4, .data⟩], none⟩) (v := ?_) rfl (by kernel_rfl) (by kernel_rfl) (by kernel_rfl) (fun _ _ _ h => h) (Or.inl ⟨by rfl, ?hyr4x5q20⟩) (by kernel_rfl) (by kernel_rfl) (by assumption) ?restr4x5q20
                case hyr4x5q20 => intro wq hSw; (go_simp); (try with_reducible rfl)
                try simp only [Act.put, List.setIfInBounds_toArray, List.set_cons_zero, List.set_cons_succ]
                refine wpAnyL_take (i := 6) (oi := ⟨some 62, .move (.tmp 0), 25, "tape.go:244", #[], none⟩) (v := ?_) rfl (by kernel_rfl) (by kernel_rfl) (by kernel_rfl) (fun _ _ _ h => h) (Or.inl ⟨by rfl, ?hyr4x6q23⟩) (by kernel_rfl) (by kernel_rfl) (by assumption) ?restr4x6q23
                case hyr4x6q23 => intro wq hSw; (go_simp); (try with_reducible rfl)
                try simp only [Act.put, List.setIfInBounds_toArray, List.set_cons_zero, List.set_cons_succ]
                refine wpAnyL_take (i := 7) (oi := ⟨some 63, .move (.tmp 1), 23, "tape.go:244", #[], none⟩) (v := ?_) rfl (by kernel_rfl) (by kernel_rfl) (by kernel_rfl) (fun _ _ _ h => h) (Or.inl ⟨by rfl, ?hyr4x7q26⟩) (by kernel_rfl) (by kernel_rfl) (by assumption) ?restr4x7q26
                case hyr4x7q26 => intro wq hSw; (go_simp); (try with_reducible rfl)
                try simp only [Act.put, List.setIfInBounds_toArray, List.set_cons_zero, List.set_cons_succ]
                refine wpAnyL_take (i := 9) (oi := ⟨some 65, .move (.tmp 0), 25, "tape.go:244", #[], none⟩) (v := ?_) rfl (by kernel_rfl) (by kernel_rfl) (by kernel_rfl) (fun _ _ _ h => h) (Or.inl ⟨by rfl, ?hyr4x9q29⟩) (by kernel_rfl) (by kernel_rfl) (by assumption) ?restr4x9q29
                case hyr4x9q29 => intro wq hSw; (go_simp); (try with_reducible rfl)
                try simp only [Act.put, List.setIfInBounds_toArray, List.set_cons_zero, List.set_cons_succ]
                refine wpAnyL_take (i := 10) (oi := ⟨some 66, .move (.tmp 1), 23, "tape.go:244", #[], none⟩) (v := ?_) rfl (by kernel_rfl) (by kernel_rfl) (by kernel_rfl) (fun _ _ _ h => h) (Or.inl ⟨by rfl, ?hyr4x10q32⟩) (by kernel_rfl) (by kernel_rfl) (by assumption) ?restr4x10q32
                case hyr4x10q32 => intro wq hSw; (go_simp); (try with_reducible rfl)
                try simp only [Act.put, List.setIfInBounds_toArray, List.set_cons_zero, List.set_cons_succ]
                refine wpAnyL_take (i := 12) (oi := ⟨some 68, .move (.tmp 0), 25, "tape.go:244", #[], none⟩) (v := ?_) rfl (by kernel_rfl) (by kernel_rfl) (by kernel_rfl) (fun _ _ _ h => h) (Or.inl ⟨by rfl, ?hyr4x12q35⟩) (by kernel_rfl) (by kernel_rfl) (by assumption) ?restr4x12q35
                case hyr4x12q35 => intro wq hSw; (go_simp); (try with_reducible rfl)
                try simp only [Act.put, List.setIfInBounds_toArray, List.set_cons_zero, List.set_cons_succ]
                refine wpAnyL_take (i := 13) (oi := ⟨some 69, .move (.tmp 1), 23, "tape.go:244", #[], none⟩) (v := ?_) rfl (by kernel_rfl) (by kernel_rfl) (by kernel_rfl) (fun _ _ _ h => h) (Or.inl ⟨by rfl, ?hyr4x13q38⟩) (by kernel_rfl) (by kernel_rfl) (by assumption) ?restr4x13q38
                case hyr4x13q38 => intro wq hSw; (go_simp); (try with_reducible rfl)
                try simp only [Act.put, List.setIfInBounds_toArray, List.set_cons_zero, List.set_cons_succ]
                refine wpAnyL_take (i := 15) (oi := ⟨some 71, .move (.tmp 0), 25, "tape.go:244", #[], none⟩) (v := ?_) rfl (by kernel_rfl) (by kernel_rfl) (by kernel_rfl) (fun _ _ _ h => h) (Or.inl ⟨by rfl, ?hyr4x15q41⟩) (by kernel_rfl) (by kernel_rfl) (by assumption) ?restr4x15q41
                case hyr4x15q41 => intro wq hSw; (go_simp); (try with_reducible rfl)
                try simp only [Act.put, List.setIfInBounds_toArray, List.set_cons_zero, List.set_cons_succ]
                refine wpAnyL_take (i := 16) (oi := ⟨some 72, .move (.tmp 1), 23, "tape.go:244", #[], none⟩) (v := ?_) rfl (by kernel_rfl) (by kernel_rfl) (by kernel_rfl) (fun _ _ _ h => h) (Or.inl ⟨by rfl, ?hyr4x16q44⟩) (by kernel_rfl) (by kernel_rfl) (by assumption) ?restr4x16q44
                case hyr4x16q44 => intro wq hSw; (go_simp); (try with_reducible rfl)
                try simp only [Act.put, List.setIfInBounds_toArray, List.set_cons_zero, List.set_cons_succ]
                refine wpAnyL_ready (rs := [8]) (by kernel_rfl) (by simp) ?_
                refine AllReadyL.cons (o := ⟨some 64, .call { callee := .value (.func 68), args := #[.tmp 62, .tmp 63], argTypes := #[25, 23] }, 3, "tape.go:244", #[⟨6, .data⟩, ⟨7, .data⟩], none⟩) rfl (fun K hK => ?_) AllReadyL.nil
                go_simp
                (refine (id_t _ _ _ l _ (T.nx hDrew) (HS.out.nxb (KWH.out.nxb hHeld)) hna HI.out).mono ?_)
                clear T
                rintro e wq1 ⟨i1, rfl, _, T, kk⟩
                replace hHeld := hHeld.nxb kk
                clear kk
                refine hK.out _ _ (hHeld) (fun hHeld => ?_)
                clear hK K
                try simp only [Act.put, List.setIfInBounds_toArray, List.set_cons_zero, List.set_cons_succ]
                refine wpAnyL_ready (rs := [11]) (by kernel_rfl) (by simp) ?_
                refine AllReadyL.cons (o := ⟨some 67, .call { callee := .value (.func 68), args := #[.tmp 65, .tmp 66], argTypes := #[25, 23] }, 3, "tape.go:244", #[⟨9, .data⟩, ⟨10, .data⟩, ⟨8, .chain⟩], none⟩) rfl (fun K hK => ?_) AllReadyL.nil
                go_simp
                (refine (id_t _ _ _ l _ T (HS.out.nxb (KWH.out.nxb hHeld)) hna HI.out).mono ?_)
                clear T
                rintro e wq2 ⟨i2, rfl, _, T, kk⟩
                replace hHeld := hHeld.nxb kk
                clear kk
                refine hK.out _ _ (hHeld) (fun hHeld => ?_)
                clear hK K
                try simp only [Act.put, List.setIfInBounds_toArray, List.set_cons_zero, List.set_cons_succ]
                refine wpAnyL_ready (rs := [14]) (by kernel_rfl) (by simp) ?_
                refine AllReadyL.cons (o := ⟨some 70, .call { callee := .value (.func 68), args := #[.tmp 68, .tmp 69], argTypes := #[25, 23] }, 3, "tape.go:244", #[⟨12, .data⟩, ⟨13, .data⟩, ⟨11, .chain⟩], none⟩) rfl (fun K hK => ?_) AllReadyL.nil
                go_simp
                (refine (id_t _ _ _ l _ T (HS.out.nxb (KWH.out.nxb hHeld)) hna HI.out).mono ?_)
                clear T
                rintro e wq3 ⟨i3, rfl, _, T, kk⟩
                replace hHeld := hHeld.nxb kk
                clear kk
                refine hK.out _ _ (hHeld) (fun hHeld => ?_)
                clear hK K
                try simp only [Act.put, List.setIfInBounds_toArray, List.set_cons_zero, List.set_cons_succ]
                refine wpAnyL_ready (rs := [17]) (by kernel_rfl) (by simp) ?_
                refine AllReadyL.cons (o := ⟨some 73, .call { callee := .value (.func 68), args := #[.tmp 71, .tmp 72], argTypes := #[25, 23] }, 3, "tape.go:244", #[⟨15, .data⟩, ⟨16, .data⟩, ⟨14, .chain⟩], none⟩) rfl (fun K hK => ?_) AllReadyL.nil
                go_simp
                (refine (id_t _ _ _ l _ T (HS.out.nxb (KWH.out.nxb hHeld)) hna HI.out).mono ?_)
                clear T
                rintro e wq ⟨i4, rfl, _, T, kk⟩
                replace hHeld := hHeld.nxb kk
                clear kk
                refine hK.out _ _ (hHeld) (fun hHeld => ?_)
                clear hK K
                try simp only [Act.put, List.setIfInBounds_toArray, List.set_cons_zero, List.set_cons_succ]
                refine wpAnyL_take (i := 18) (oi := ⟨some 74, .build 49 #[(0, .tmp 64), (1, .tmp 67), (2, .tmp 70), (3, .tmp 73)], 49, "tape.go:244", #[⟨8, .data⟩, ⟨11, .data⟩, ⟨14, .data⟩, ⟨17, .data⟩], none⟩) (v := ?_) rfl (by kernel_rfl) (by kernel_rfl) (by kernel_rfl) (fun _ _ _ h => h) (Or.inl ⟨by rfl, ?hyr4x18q91⟩) (by kernel_rfl) (by kernel_rfl) (by assumption) ?restr4x18q91
                case hyr4x18q91 => intro wq hSw; (go_simp); (try with_reducible rfl)
                try simp only [Act.put, List.setIfInBounds_toArray, List.set_cons_zero, List.set_cons_succ]
                refine wpAnyL_ready (rs := [19]) (by kernel_rfl) (by simp) ?_
                refine AllReadyL.consL (o := ⟨some 75, .indexAddr 43 (.tmp 57) (.tmp 61), 0, "tape.go:244", #[⟨1, .data⟩, ⟨5, .data⟩, ⟨0, .phase⟩, ⟨1, .phase⟩, ⟨2, .phase⟩, ⟨3, .phase⟩, ⟨4, .phase⟩, ⟨5, .phase⟩, ⟨6, .phase⟩, ⟨7, .phase⟩, ⟨8, .phase⟩, ⟨9, .phase⟩, ⟨10, .phase⟩, ⟨11, .phase⟩, ⟨12, .phase⟩, ⟨13, .phase⟩, ⟨14, .phase⟩, ⟨15, .phase⟩, ⟨16, .phase⟩, ⟨17, .phase⟩, ⟨18, .phase⟩], none⟩) rfl (by rfl) (fun K hK => ?_) AllReadyL.nil
                go_simp
                refine hK.out _ _ ?_
                clear hK K
                try simp only [Act.put, List.setIfInBounds_toArray, List.set_cons_zero, List.set_cons_succ]
                refine wpAnyL_ready (rs := [20]) (by kernel_rfl) (by simp) ?_
                refine AllReadyL.consL (o := ⟨none, .store 49 (.tmp 75) (.tmp 74), 0, "tape.go:244", #[⟨19, .data⟩, ⟨18, .data⟩, ⟨17, .chain⟩, ⟨0, .phase⟩, ⟨1, .phase⟩, ⟨2, .phase⟩, ⟨3, .phase⟩, ⟨4, .phase⟩, ⟨5, .phase⟩, ⟨6, .phase⟩, ⟨7, .phase⟩, ⟨8, .phase⟩, ⟨9, .phase⟩, ⟨10, .phase⟩, ⟨11, .phase⟩, ⟨12, .phase⟩, ⟨13, .phase⟩, ⟨14, .phase⟩, ⟨15, .phase⟩, ⟨16, .phase⟩, ⟨17, .phase⟩, ⟨18, .phase⟩], none⟩) rfl (by rfl) (fun K hK => ?_) AllReadyL.nil
                have N0 := NRY.out.nxb hbw hHeld
                have hy0 : (nr ++ [((0, 0, 0, 0) : Nr)])[nr.length]? = some (0, 0, 0, 0) := by simp
                obtain ⟨c0, c1, c2, c3, f0, f1, f2, f3, np⟩ := own_put4 N0 hy0
                go_simp
                clear c0 c1 c2 c3 f0 f1 f2 f3
                refine hK.out _ _ ?_
                clear hK K
                try simp only [Act.put, List.setIfInBounds_toArray, List.set_cons_zero, List.set_cons_succ]
                refine wpAnyL_done (by kernel_rfl) ?_ _
                have NF := np (i1, i2, i3, i4)
                obtain ⟨wv, hwv⟩ : ∃ wv, wv = (((wq.setCell ⟨gn, nr.length * 4, none⟩ (.int .i64 i1)).setCell ⟨gn, nr.length * 4 + 1, none⟩ (.int .i64 i2)).setCell ⟨gn, nr.length * 4 + 1 + 1, none⟩ (.int .i64 i3)).setCell ⟨gn, nr.length * 4 + 1 + 1 + 1, none⟩ (.int .i64 i4) := ⟨_, rfl⟩
                rw [← hwv]
                rw [show (nr ++ [((0, 0, 0, 0) : Nr)]).set nr.length (i1, i2, i3, i4) = nr ++ [((i1, i2, i3, i4) : Nr)] by simp, ← hwv] at NF
                have KS : Exb gn wq wv := by rw [hwv]; exact (((((Exb.refl gn wq).setB (p := ⟨gn, nr.length * 4, none⟩) _ rfl).setB (p := ⟨gn, nr.length * 4 + 1, none⟩) _ rfl).setB (p := ⟨gn, nr.length * 4 + 1 + 1, none⟩) _ rfl).setB (p := ⟨gn, nr.length * 4 + 1 + 1 + 1, none⟩) _ rfl)
                have B7v := (BPP.out.nxb n7b hHeld).nxb (fun h => N0.ne_blk (BPP.out.nxb n7b hHeld) (by decide) rfl h.symm) KS
                have B6v := (BSS.out.nxb n6b hHeld).nxb (fun h => N0.ne_blk (BSS.out.nxb n6b hHeld) (by decide) rfl h.symm) KS
                have own8 := (own.out.nxb hbw hHeld).apart N0 (by decide) rfl KS
                have Tv : TK wv b := by rw [hwv]; exact (((T.set (p := ⟨gn, nr.length * 4, none⟩) _ (show b < gn by omega)).set (p := ⟨gn, nr.length * 4 + 1, none⟩) _ (show b < gn by omega)).set (p := ⟨gn, nr.length * 4 + 1 + 1, none⟩) _ (show b < gn by omega)).set (p := ⟨gn, nr.length * 4 + 1 + 1 + 1, none⟩) _ (show b < gn by omega)
                have KWv : Exb b w wv := by rw [hwv]; exact ((((KWH.out.nxb hHeld).setNew (p := ⟨gn, nr.length * 4, none⟩) _ zgn).setNew (p := ⟨gn, nr.length * 4 + 1, none⟩) _ zgn).setNew (p := ⟨gn, nr.length * 4 + 1 + 1, none⟩) _ zgn).setNew (p := ⟨gn, nr.length * 4 + 1 + 1 + 1, none⟩) _ zgn
                have RR := Lib.hid (show P2Rel b g6 g7 (ht + 1) r0 lf rt (A, kn.length, c) kn w (.int .i64 ((q : Int) - 1)) wv from ⟨q - 1, some ⟨gn, 0, none⟩, _, C9, nr ++ [(i1, i2, i3, i4)], by rw [List.length_append, List.length_singleton]; omega, by rw [show ((q - 1 : Nat) : Int) = (q : Int) - 1 by omega], B7v, B6v, own8, NF, Tv, KWv⟩)
                clear NF np KS B7v B6v own8 Tv KWv hwv N0 hHeld T
                go_wp2_with fail
                exact ⟨RR.out, by simp [intOf]; omega⟩
            · have zq : ¬ (0 : Int) < (q : Int) := by omega
              obtain ⟨A', C', e9, _⟩ := nrow.rd (fun _ => rfl)
              simp only [Value.slice.injEq] at e9
              obtain ⟨rfl, rfl, rfl⟩ := e9
              have p0 := B7.cell 0 _ rfl
              have p1 := B7.cell 1 _ rfl
              have p2 := B7.cell 2 _ rfl
              have p3 := B7.cell 3 _ rfl
              have p4 := B7.cell 4 _ rfl
              have s0 := B6.cell 0 _ rfl
              have s1 := B6.cell 1 _ rfl
              have s2 := B6.cell 2 _ rfl
              have s3 := B6.cell 3 _ rfl
              have s4 := B6.cell 4 _ rfl
              have f0 := B6.free 0
              have f1 := B6.free 1
              have f2 := B6.free 2
              have f3 := B6.free 3
              have f4 := B6.free 4
              have KS : Exb g6 wo (((((wo.setCell ⟨g6, 0, none⟩ (.int .i64 r0)).setCell ⟨g6, 1, none⟩ (.slice A kn.length c)).setCell ⟨g6, 2, none⟩ (.int .i64 lf)).setCell ⟨g6, 3, none⟩ (.int .i64 rt)).setCell ⟨g6, 4, none⟩ (.slice A4 nr.length c4)) :=
                (((((Exb.refl g6 wo).setB (p := ⟨g6, 0, none⟩) _ rfl).setB (p := ⟨g6, 1, none⟩) _ rfl).setB (p := ⟨g6, 2, none⟩) _ rfl).setB (p := ⟨g6, 3, none⟩) _ rfl).setB (p := ⟨g6, 4, none⟩) _ rfl
              have O1 := Lib.hid (own.put B6 (by decide) KS)
              have O4 := Lib.hid (nrow.put B6 (by decide) KS)
              have KV := Lib.hid (((((KW.setNew (p := ⟨g6, 0, none⟩) (.int .i64 r0) zg6).setNew (p := ⟨g6, 1, none⟩) (.slice A kn.length c) zg6).setNew (p := ⟨g6, 2, none⟩) (.int .i64 lf) zg6).setNew (p := ⟨g6, 3, none⟩) (.int .i64 rt) zg6).setNew (p := ⟨g6, 4, none⟩) (.slice A4 nr.length c4) zg6)
              have TV := Lib.hid (((((T.set (p := ⟨g6, 0, none⟩) (.int .i64 r0) zb6).set (p := ⟨g6, 1, none⟩) (.slice A kn.length c) zb6).set (p := ⟨g6, 2, none⟩) (.int .i64 lf) zb6).set (p := ⟨g6, 3, none⟩) (.int .i64 rt) zb6).set (p := ⟨g6, 4, none⟩) (.slice A4 nr.length c4) zb6)
              have hnm : nr.length ≤ ht + 1 := by omega
              clear B6 B7 own nrow T KW KS hq hq0
              go_wp2_with fail
              refine bodyPost_ret (v := .agg #[.int .i64 r0, .slice A kn.length c, .int .i64 lf, .int .i64 rt, .slice A4 nr.length c4]) (by simp [results, Tryz.results32, go_sem, *]) rfl ⟨⟨r0, lf, rt, kn, nr⟩, (A, kn.length, c), (A4, nr.length, c4), rfl, O1.out, O4.out, hkl, hnm, hr0.out, TV.out, KV.out⟩

        | false =>
          obtain ⟨rt, hrt⟩ : ∃ rt : Int, rt = 0 := ⟨_, rfl⟩
          replace B7 : Blk w7 g7 [.int .i64 r0, .slice A kn.length c, .int .i64 lf, .int .i64 rt, .slice none 0 0] 45 := by rw [hrt]; exact B7
          clear hrt
          go_wp2_with fail
          refine (next_t ((ht : Int) + 2) _ T (by omega) (by omega)).mono ?_
          clear T
          rintro e w9 ⟨q2, rfl, q20, q21, T, kk⟩
          obtain ⟨q2, rfl⟩ := Int.eq_ofNat_of_zero_le q20
          replace KW := KW.nxb kk
          replace B6 := B6.nxb n6b kk
          replace B7 := B7.nxb n7b kk
          replace own := own.out.nxb hbw kk
          clear kk
          go_wp2_with fail
          go_loopw [9] (fun i wr => P2Rel b g6 g7 (ht + 1) r0 lf rt (A, kn.length, c) kn w i wr) (fun i _ => (intOf i).toNat)
          case atStart => exact ⟨q2, none, 0, 0, [], by simp; omega, rfl, B7, B6, own, OwnL.nil _ _ _ _ _, T, KW⟩
          case round =>
            clear B6 B7 T KW own
            obtain ⟨q, A4, m4, c4, nr, hq, rfl, B7, B6, own, nrow, T, KW⟩ := hrel
            simp only [Hdr.val] at B7 own
            obtain ⟨wo, rfl⟩ : ∃ wo : World, wo = wr := ⟨_, rfl⟩
            by_cases hq0 : 0 < q
            · obtain ⟨A', C', e9, _⟩ := nrow.rd (fun _ => rfl)
              simp only [Value.slice.injEq] at e9
              obtain ⟨rfl, rfl, rfl⟩ := e9
              have hnl : nr.length ≤ 100000000 := by omega
              have zk := KW.size
              have p4 := B7.cell 4 _ rfl
              have kl := Ex.new wo (.cells #[.int .i64 0, .int .i64 0, .int .i64 0, .int .i64 0] 49)
              have SX : Sl 4 encNr (wo.alloc (.cells #[.int .i64 0, .int .i64 0, .int .i64 0, .int .i64 0] 49)) (some ⟨wo.heap.size, 0, none⟩) 1 [((0, 0, 0, 0) : Nr)] := Sl.lit _ rfl rfl (fun _ => rfl) rfl
              have nrk := nrow.nx kl
              have zl := Nat.le_trans zk kl.size
              have B7k := B7.nx kl
              go_upto_region 14 with (at_builtin; (refine wpList_append_rq (enc := encNr) _ rfl (.tmp 49) (.tmp 51) 43 rfl w.heap.size 49 (.agg #[.int .i64 0, .int .i64 0, .int .i64 0, .int .i64 0]) 4 32 Tryz.underlying43 Tryz.infoNr rfl (by omega) (by omega) _ nr nrk rfl _ 1 1 [((0, 0, 0, 0) : Nr)] SX (fun _ => rfl) (by simp [encNr, Value.oneCell']) rfl hnl (by omega) zl ?_); intro v9 wz own9 ch0 ch1; have hl9 : (nr ++ [((0, 0, 0, 0) : Nr)]).length = nr.length + 1 := (by simp); obtain ⟨A9, C9, e9, _, _, _, some9⟩ := own9.rd (fun _ => rfl); obtain ⟨gn, rfl, zgn⟩ := some9 (by simp); rw [hl9] at e9; subst e9; have BZ := B7k.app nrk (by decide) ch0; have f4 := BZ.free 4; have r4 := BZ.cell 4 _ rfl)
              have KS : Exb g7 wz (wz.setCell ⟨g7, 4, none⟩ (.slice (some ⟨gn, 0, none⟩) (nr.length + 1) C9)) := (Exb.refl g7 wz).setB (p := ⟨g7, 4, none⟩) _ rfl
              obtain ⟨wy, hwy⟩ : ∃ wy, wy = wz.setCell ⟨g7, 4, none⟩ (.slice (some ⟨gn, 0, none⟩) (nr.length + 1) C9) := ⟨_, rfl⟩
              rw [← hwy] at KS ⊢
              have nry := own9.put BZ (by decide) KS
              have own := ((own.nx kl).app nrk (by decide) ch0).put BZ (by decide) KS
              have B6 := ((B6.nx kl).app nrk (by decide) ch0).nxb n67 KS
              have KW : Exb b w wy := Chg.trans (Chg.trans (KW.nxb (kl.b b)) (ch1.mono (fun x hx => hx.1))) (Chg.mono KS (fun x hx => ⟨Nat.lt_of_lt_of_le hx.1 (Nat.le_trans zl ch1.size), fun h => by have := hx.1; omega⟩))
              have T : TK wy b := by rw [hwy]; exact TK.set (show TK wz b from TP.chg (T.nx kl) ch1 (fun x hx => by omega)) (p := ⟨g7, 4, none⟩) _ zb7
              replace BZ : Blk wy g7 [.int .i64 r0, .slice A kn.length c, .int .i64 lf, .int .i64 rt, .slice (some ⟨gn, 0, none⟩) (nr.length + 1) C9] 45 := by rw [hwy]; exact BZ.set 4 _
              clear hwy KS ch0 ch1 nrk nrow B7 B7k SX own9 f4 r4 p4 kl zl
              replace own := Lib.hid own
              go_wp2_with fail
              (refine (bool_t 2 _ T (by omega) (by omega)).mono ?_)
              clear T
              rintro e w10 ⟨rb, rfl, T, kk⟩
              replace KW := KW.nxb kk
              replace B6 := B6.nxb n6b kk
              replace BZ := BZ.nxb n7b kk
              replace own := Lib.hid (own.out.nxb hbw kk)
              replace nry := nry.nxb hbw kk
              clear kk
              cases rb with
              | false =>
                have RR := Lib.hid (show P2Rel b g6 g7 (ht + 1) r0 lf rt (A, kn.length, c) kn w (.int .i64 ((q : Int) - 1)) w10 from ⟨q - 1, some ⟨gn, 0, none⟩, _, C9, nr ++ [(0, 0, 0, 0)], by rw [hl9]; omega, by rw [show ((q - 1 : Nat) : Int) = (q : Int) - 1 by omega], BZ, B6, own.out, nry, T, KW⟩)
                clear BZ B6 nry T KW
                go_wp2_with fail
                exact ⟨RR.out, by simp [intOf]; omega⟩
              | true =>
                have BPP := Lib.hid BZ
                have BSS := Lib.hid B6
                have NRY := Lib.hid nry
                have KWH := Lib.hid KW
                clear BZ B6 nry KW
                go_upto_region 15 with fail
                have wl1 : IntKind.i64.wrap (nr.length : Int) = (nr.length : Int) := IntWalk.i64_in _ (by omega)
                have wl2 : (nr.length : Int) < (nr.length : Int) + 1 := by omega
                refine wp_region_late_drew (S := Exb b w10) [19, 20] (by kernel_rfl) ((Exb.refl b w10).drew) (fun hHeld => ?_)
                obtain ⟨wd, hwdx⟩ : ∃ wd : World, wd = World.drew w10 := ⟨_, rfl⟩
                rw [← hwdx] at hHeld ⊢
                have hDrew : Ex w10 wd := by rw [hwdx]; exact (Ex.refl w10).drew
                clear hwdx
                refine wpAnyL_take (i := 0) (oi := ⟨some 56, .fieldAddr 45 (.tmp 7) 4, 0, "tape.go:244", #[], none⟩) (v := ?_) rfl (by kernel_rfl) (by kernel_rfl) (by kernel_rfl) (fun _ _ _ h => h) (Or.inl ⟨by rfl, ?hyr5x0q5⟩) (by kernel_rfl) (by kernel_rfl) (by assumption) ?restr5x0q5
                case hyr5x0q5 => intro wq hSw; (go_simp); (try with_reducible rfl)
                try simp only [Act.put, List.setIfInBounds_toArray, List.set_cons_zero, List.set_cons_succ]
                refine wpAnyL_take (i := 1) (oi := ⟨some 57, .load 43 (.tmp 56), 43, "tape.go:244", #[⟨0, .data⟩], none⟩) (v := ?_) rfl (by kernel_rfl) (by kernel_rfl) (by kernel_rfl) (fun _ _ _ h => h) (Or.inl ⟨by rfl, ?hyr5x1q8⟩) (by kernel_rfl) (by kernel_rfl) (by assumption) ?restr5x1q8
                case hyr5x1q8 => intro wq hSw; (have cq := (BPP.out.nxb n7b hSw).cell 4 _ rfl; go_simp); (try with_reducible rfl)
                try simp only [Act.put, List.setIfInBounds_toArray, List.set_cons_zero, List.set_cons_succ]
                refine wpAnyL_take (i := 2) (oi := ⟨some 58, .fieldAddr 45 (.tmp 7) 4, 0, "tape.go:244", #[], none⟩) (v := ?_) rfl (by kernel_rfl) (by kernel_rfl) (by kernel_rfl) (fun _ _ _ h => h) (Or.inl ⟨by rfl, ?hyr5x2q11⟩) (by kernel_rfl) (by kernel_rfl) (by assumption) ?restr5x2q11
                case hyr5x2q11 => intro wq hSw; (go_simp); (try with_reducible rfl)
                try simp only [Act.put, List.setIfInBounds_toArray, List.set_cons_zero, List.set_cons_succ]
                refine wpAnyL_take (i := 3) (oi := ⟨some 59, .load 43 (.tmp 58), 43, "tape.go:244", #[⟨2, .data⟩], none⟩) (v := ?_) rfl (by kernel_rfl) (by kernel_rfl) (by kernel_rfl) (fun _ _ _ h => h) (Or.inl ⟨by rfl, ?hyr5x3q14⟩) (by kernel_rfl) (by kernel_rfl) (by assumption) ?restr5x3q14
                case hyr5x3q14 => intro wq hSw; (have cq := (BPP.out.nxb n7b hSw).cell 4 _ rfl; go_simp); (try with_reducible rfl)
                try simp only [Act.put, List.setIfInBounds_toArray, List.set_cons_zero, List.set_cons_succ]
                refine wpAnyL_take (i := 4) (oi := ⟨some 60, .call { callee := .builtin .len, args := #[.tmp 59], argTypes := #[43] }, 3, "tape.go:244", #[⟨3, .data⟩], none⟩) (v := ?_) rfl (by kernel_rfl) (by kernel_rfl) (by kernel_rfl) (fun _ _ _ h => h) (Or.inl ⟨by rfl, ?hyr5x4q17⟩) (by kernel_rfl) (by kernel_rfl) (by assumption) ?restr5x4q17
                case hyr5x4q17 => intro wq hSw; (go_simp); (try with_reducible rfl)
                try simp only [Act.put, List.setIfInBounds_toArray, List.set_cons_zero, List.set_cons_succ]
                refine wpAnyL_take (i := 5) (oi := ⟨some 61, .binOp .sub 3 (.tmp 60) (.const (.int .i64 1)) 3, 3, "tape.go:244", #[⟨4, .data⟩], none⟩) (v := ?_) rfl (by kernel_rfl) (by kernel_rfl) (by kernel_rfl) (fun _ _ _ h => h) (Or.inl ⟨by rfl, ?hyr5x5q20⟩) (by kernel_rfl) (by kernel_rfl) (by assumption) ?restr5x5q20
                case hyr5x5q20 => intro wq hSw; (go_simp); (try with_reducible rfl)
                try simp only [Act.put, List.setIfInBounds_toArray, List.set_cons_zero, List.set_cons_succ]
                refine wpAnyL_take (i := 6) (oi := ⟨some 62, .move (.tmp 0), 25, "tape.go:244", #[], none⟩) (v := ?_) rfl (by kernel_rfl) (by kernel_rfl) (by kernel_rfl) (fun _ _ _ h => h) (Or.inl ⟨by rfl, ?hyr5x6q23⟩) (by kernel_rfl) (by kernel_rfl) (by assumption) ?restr5x6q23
                case hyr5x6q23 => intro wq hSw; (go_simp); (try with_reducible rfl)
                try simp only [Act.put, List.setIfInBounds_toArray, List.set_cons_zero, List.set_cons_succ]
                refine wpAnyL_take (i := 7) (oi := ⟨some 63, .move (.tmp 1), 23, "tape.go:244", #[], none⟩) (v := ?_) rfl (by kernel_rfl) (by kernel_rfl) (by kernel_rfl) (fun _ _ _ h => h) (Or.inl ⟨by rfl, ?hyr5x7q26⟩) (by kernel_rfl) (by kernel_rfl) (by assumption) ?restr5x7q26
                case hyr5x7q26 => intro wq hSw; (go_simp); (try with_reducible rfl)
                try simp only [Act.put, List.setIfInBounds_toArray, List.set_cons_zero, List.set_cons_succ]
                refine wpAnyL_take (i := 9) (oi := ⟨some 65, .move (.tmp 0), 25, "tape.go:244", #[], none⟩) (v := ?_) rfl (by kernel_rfl) (by kernel_rfl) (by kernel_rfl) (fun _ _ _ h => h) (Or.inl ⟨by rfl, ?hyr5x9q29⟩) (by kernel_rfl) (by kernel_rfl) (by assumption) ?restr5x9q29
                case hyr5x9q29 => intro wq hSw; (go_simp); (try with_reducible rfl)
                try simp only [Act.put, List.setIfInBounds_toArray, List.set_cons_zero, List.set_cons_succ]
                refine wpAnyL_take (i := 10) (oi := ⟨some 66, .move (.tmp 1), 23, "tape.go:244", #[], none⟩) (v := ?_) rfl (by kernel_rfl) (by kernel_rfl) (by kernel_rfl) (fun _ _ _ h => h) (Or.inl ⟨by rfl, ?hyr5x10q32⟩) (by kernel_rfl) (by kernel_rfl) (by assumption) ?restr5x10q32
                case hyr5x10q32 => intro wq hSw; (go_simp); (try with_reducible rfl)
                try simp only [Act.put, List.setIfInBounds_toArray, List.set_cons_zero, List.set_cons_succ]
                refine wpAnyL_take (i := 12) (oi := ⟨some 68, .move (.tmp 0), 25, "tape.go:244", #[], none⟩) (v := ?_) rfl (by kernel_rfl) (by kernel_rfl) (by kernel_rfl) (fun _ _ _ h => h) (Or.inl ⟨by rfl, ?hyr5x12q35⟩) (by kernel_rfl) (by kernel_rfl) (by assumption) ?restr5x12q35
                case hyr5x12q35 => intro wq hSw; (go_simp); (try with_reducible rfl)
                try simp only [Act.put, List.setIfInBounds_toArray, List.set_cons_zero, List.set_cons_succ]
                refine wpAnyL_take (i := 13) (oi := ⟨some 69, .move (.tmp 1), 23, "tape.go:244", #[], none⟩) (v := ?_) rfl (by kernel_rfl) (by kernel_rfl) (by kernel_rfl) (fun _ _ _ h => h) (Or.inl ⟨by rfl, ?hyr5x13q38⟩) (by kernel_rfl) (by kernel_rfl) (by assumption) ?restr5x13q38
                case hyr5x13q38 => intro wq hSw; (go_simp); (try with_reducible rfl)
                try simp only [Act.put, List.setIfInBounds_toArray, List.set_cons_zero, List.set_cons_succ]
                refine wpAnyL_take (i := 15) (oi := ⟨some 71, .move (.tmp 0), 25, "tape.go:244", #[], none⟩) (v := ?_) rfl (by kernel_rfl) (by kernel_rfl) (by kernel_rfl) (fun _ _ _ h => h) (Or.inl ⟨by rfl, ?hyr5x15q41⟩) (by kernel_rfl) (by kernel_rfl) (by assumption) ?restr5x15q41
                case hyr5x15q41 => intro wq hSw; (go_simp); (try with_reducible rfl)
                try simp only [Act.put, List.setIfInBounds_toArray, List.set_cons_zero, List.set_cons_succ]
                refine wpAnyL_take (i := 16) (oi := ⟨some 72, .move (.tmp 1), 23, "tape.go:244", #[], none⟩) (v := ?_) rfl (by kernel_rfl) (by kernel_rfl) (by kernel_rfl) (fun _ _ _ h => h) (Or.inl ⟨by rfl, ?hyr5x16q44⟩) (by kernel_rfl) (by kernel_rfl) (by assumption) ?restr5x16q44
                case hyr5x16q44 => intro wq hSw; (go_simp); (try with_reducible rfl)
                try simp only [Act.put, List.setIfInBounds_toArray, List.set_cons_zero, List.set_cons_succ]
                refine wpAnyL_ready (rs := [8]) (by kernel_rfl) (by simp) ?_
                refine AllReadyL.cons (o := ⟨some 64, .call { callee := .value (.func 68), args := #[.tmp 62, .tmp 63], argTypes := #[25, 23] }, 3, "tape.go:244", #[⟨6, .data⟩, ⟨7, .data⟩], none⟩) rfl (fun K hK => ?_) AllReadyL.nil
                go_simp
                (refine (id_t _ _ _ l _ (T.nx hDrew) (HS.out.nxb (KWH.out.nxb hHeld)) hna HI.out).mono ?_)
                clear T
                rintro e wq1 ⟨i1, rfl, _, T, kk⟩
                replace hHeld := hHeld.nxb kk
                clear kk
                refine hK.out _ _ (hHeld) (fun hHeld => ?_)
                clear hK K
                try simp only [Act.put, List.setIfInBounds_toArray, List.set_cons_zero, List.set_cons_succ]
                refine wpAnyL_ready (rs := [11]) (by kernel_rfl) (by simp) ?_
                refine AllReadyL.cons (o := ⟨some 67, .call { callee := .value (.func 68), args := #[.tmp 65, .tmp 66], argTypes := #[25, 23] }, 3, "tape.go:244", #[⟨9, .data⟩, ⟨10, .data⟩, ⟨8, .chain⟩], none⟩) rfl (fun K hK => ?_) AllReadyL.nil
                go_simp
                (refine (id_t _ _ _ l _ T (HS.out.nxb (KWH.out.nxb hHeld)) hna HI.out).mono ?_)
                clear T
                rintro e wq2 ⟨i2, rfl, _, T, kk⟩
                replace hHeld := hHeld.nxb kk
                clear kk
                refine hK.out _ _ (hHeld) (fun hHeld => ?_)
                clear hK K
                try simp only [Act.put, List.setIfInBounds_toArray, List.set_cons_zero, List.set_cons_succ]
                refine wpAnyL_ready (rs := [14]) (by kernel_rfl) (by simp) ?_
                refine AllReadyL.cons (o := ⟨some 70, .call { callee := .value (.func 68), args := #[.tmp 68, .tmp 69], argTypes := #[25, 23] }, 3, "tape.go:244", #[⟨12, .data⟩, ⟨13, .data⟩, ⟨11, .chain⟩], none⟩) rfl (fun K hK => ?_) AllReadyL.nil
                go_simp
                (refine (id_t _ _ _ l _ T (HS.out.nxb (KWH.out.nxb hHeld)) hna HI.out).mono ?_)
                clear T
                rintro e wq3 ⟨i3, rfl, _, T, kk⟩
                replace hHeld := hHeld.nxb kk
                clear kk
                refine hK.out _ _ (hHeld) (fun hHeld => ?_)
                clear hK K
                try simp only [Act.put, List.setIfInBounds_toArray, List.set_cons_zero, List.set_cons_succ]
                refine wpAnyL_ready (rs := [17]) (by kernel_rfl) (by simp) ?_
                refine AllReadyL.cons (o := ⟨some 73, .call { callee := .value (.func 68), args := #[.tmp 71, .tmp 72], argTypes := #[25, 23] }, 3, "tape.go:244", #[⟨15, .data⟩, ⟨16, .data⟩, ⟨14, .chain⟩], none⟩) rfl (fun K hK => ?_) AllReadyL.nil
                go_simp
                (refine (id_t _ _ _ l _ T (HS.out.nxb (KWH.out.nxb hHeld)) hna HI.out).mono ?_)
                clear T
                rintro e wq ⟨i4, rfl, _, T, kk⟩
                replace hHeld := hHeld.nxb kk
                clear kk
                refine hK.out _ _ (hHeld) (fun hHeld => ?_)
                clear hK K
                try simp only [Act.put, List.setIfInBounds_toArray, List.set_cons_zero, List.set_cons_succ]
                refine wpAnyL_take (i := 18) (oi := ⟨some 74, .build 49 #[(0, .tmp 64), (1, .tmp 67), (2, .tmp 70), (3, .tmp 73)], 49, "tape.go:244", #[⟨8, .data⟩, ⟨11, .data⟩, ⟨14, .data⟩, ⟨17, .data⟩], none⟩) (v := ?_) rfl (by kernel_rfl) (by kernel_rfl) (by kernel_rfl) (fun _ _ _ h => h) (Or.inl ⟨by rfl, ?hyr5x18q91⟩) (by kernel_rfl) (by kernel_rfl) (by assumption) ?restr5x18q91
                case hyr5x18q91 => intro wq hSw; (go_simp); (try with_reducible rfl)
                try simp only [Act.put, List.setIfInBounds_toArray, List.set_cons_zero, List.set_cons_succ]
                refine wpAnyL_ready (rs := [19]) (by kernel_rfl) (by simp) ?_
                refine AllReadyL.consL (o := ⟨some 75, .indexAddr 43 (.tmp 57) (.tmp 61), 0, "tape.go:244", #[⟨1, .data⟩, ⟨5, .data⟩, ⟨0, .phase⟩, ⟨1, .phase⟩, ⟨2, .phase⟩, ⟨3, .phase⟩, ⟨4, .phase⟩, ⟨5, .phase⟩, ⟨6, .phase⟩, ⟨7, .phase⟩, ⟨8, .phase⟩, ⟨9, .phase⟩, ⟨10, .phase⟩, ⟨11, .phase⟩, ⟨12, .phase⟩, ⟨13, .phase⟩, ⟨14, .phase⟩, ⟨15, .phase⟩, ⟨16, .phase⟩, ⟨17, .phase⟩, ⟨18, .phase⟩], none⟩) rfl (by rfl) (fun K hK => ?_) AllReadyL.nil
                go_simp
                refine hK.out _ _ ?_
                clear hK K
                try simp only [Act.put, List.setIfInBounds_toArray, List.set_cons_zero, List.set_cons_succ]
                refine wpAnyL_ready (rs := [20]) (by kernel_rfl) (by simp) ?_
                refine AllReadyL.consL (o := ⟨none, .store 49 (.tmp 75) (.tmp 74), 0, "tape.go:244", #[⟨19, .data⟩, ⟨18, .data⟩, ⟨17, .chain⟩, ⟨0, .phase⟩, ⟨1, .phase⟩, ⟨2, .phase⟩, ⟨3, .phase⟩, ⟨4, .phase⟩, ⟨5, .phase⟩, ⟨6, .phase⟩, ⟨7, .phase⟩, ⟨8, .phase⟩, ⟨9, .phase⟩, ⟨10, .phase⟩, ⟨11, .phase⟩, ⟨12, .phase⟩, ⟨13, .phase⟩, ⟨14, .phase⟩, ⟨15, .phase⟩, ⟨16, .phase⟩, ⟨17, .phase⟩, ⟨18, .phase⟩], none⟩) rfl (by rfl) (fun K hK => ?_) AllReadyL.nil
                have N0 := NRY.out.nxb hbw hHeld
                have hy0 : (nr ++ [((0, 0, 0, 0) : Nr)])[nr.length]? = some (0, 0, 0, 0) := by simp
                obtain ⟨c0, c1, c2, c3, f0, f1, f2, f3, np⟩ := own_put4 N0 hy0
                go_simp
                clear c0 c1 c2 c3 f0 f1 f2 f3
                refine hK.out _ _ ?_
                clear hK K
                try simp only [Act.put, List.setIfInBounds_toArray, List.set_cons_zero, List.set_cons_succ]
                refine wpAnyL_done (by kernel_rfl) ?_ _
                have NF := np (i1, i2, i3, i4)
                obtain ⟨wv, hwv⟩ : ∃ wv, wv = (((wq.setCell ⟨gn, nr.length * 4, none⟩ (.int .i64 i1)).setCell ⟨gn, nr.length * 4 + 1, none⟩ (.int .i64 i2)).setCell ⟨gn, nr.length * 4 + 1 + 1, none⟩ (.int .i64 i3)).setCell ⟨gn, nr.length * 4 + 1 + 1 + 1, none⟩ (.int .i64 i4) := ⟨_, rfl⟩
                rw [← hwv]
                rw [show (nr ++ [((0, 0, 0, 0) : Nr)]).set nr.length (i1, i2, i3, i4) = nr ++ [((i1, i2, i3, i4) : Nr)] by simp, ← hwv] at NF
                have KS : Exb gn wq wv := by rw [hwv]; exact (((((Exb.refl gn wq).setB (p := ⟨gn, nr.length * 4, none⟩) _ rfl).setB (p := ⟨gn, nr.length * 4 + 1, none⟩) _ rfl).setB (p := ⟨gn, nr.length * 4 + 1 + 1, none⟩) _ rfl).setB (p := ⟨gn, nr.length * 4 + 1 + 1 + 1, none⟩) _ rfl)
                have B7v := (BPP.out.nxb n7b hHeld).nxb (fun h => N0.ne_blk (BPP.out.nxb n7b hHeld) (by decide) rfl h.symm) KS
                have B6v := (BSS.out.nxb n6b hHeld).nxb (fun h => N0.ne_blk (BSS.out.nxb n6b hHeld) (by decide) rfl h.symm) KS
                have own8 := (own.out.nxb hbw hHeld).apart N0 (by decide) rfl KS
                have Tv : TK wv b := by rw [hwv]; exact (((T.set (p := ⟨gn, nr.length * 4, none⟩) _ (show b < gn by omega)).set (p := ⟨gn, nr.length * 4 + 1, none⟩) _ (show b < gn by omega)).set (p := ⟨gn, nr.length * 4 + 1 + 1, none⟩) _ (show b < gn by omega)).set (p := ⟨gn, nr.length * 4 + 1 + 1 + 1, none⟩) _ (show b < gn by omega)
                have KWv : Exb b w wv := by rw [hwv]; exact ((((KWH.out.nxb hHeld).setNew (p := ⟨gn, nr.length * 4, none⟩) _ zgn).setNew (p := ⟨gn, nr.length * 4 + 1, none⟩) _ zgn).setNew (p := ⟨gn, nr.length * 4 + 1 + 1, none⟩) _ zgn).setNew (p := ⟨gn, nr.length * 4 + 1 + 1 + 1, none⟩) _ zgn
                have RR := Lib.hid (show P2Rel b g6 g7 (ht + 1) r0 lf rt (A, kn.length, c) kn w (.int .i64 ((q : Int) - 1)) wv from ⟨q - 1, some ⟨gn, 0, none⟩, _, C9, nr ++ [(i1, i2, i3, i4)], by rw [List.length_append, List.length_singleton]; omega, by rw [show ((q - 1 : Nat) : Int) = (q : Int) - 1 by omega], B7v, B6v, own8, NF, Tv, KWv⟩)
                clear NF np KS B7v B6v own8 Tv KWv hwv N0 hHeld T
                go_wp2_with fail
                exact ⟨RR.out, by simp [intOf]; omega⟩
            · have zq : ¬ (0 : Int) < (q : Int) := by omega
              obtain ⟨A', C', e9, _⟩ := nrow.rd (fun _ => rfl)
              simp only [Value.slice.injEq] at e9
              obtain ⟨rfl, rfl, rfl⟩ := e9
              have p0 := B7.cell 0 _ rfl
              have p1 := B7.cell 1 _ rfl
              have p2 := B7.cell 2 _ rfl
              have p3 := B7.cell 3 _ rfl
              have p4 := B7.cell 4 _ rfl
              have s0 := B6.cell 0 _ rfl
              have s1 := B6.cell 1 _ rfl
              have s2 := B6.cell 2 _ rfl
              have s3 := B6.cell 3 _ rfl
              have s4 := B6.cell 4 _ rfl
              have f0 := B6.free 0
              have f1 := B6.free 1
              have f2 := B6.free 2
              have f3 := B6.free 3
              have f4 := B6.free 4
              have KS : Exb g6 wo (((((wo.setCell ⟨g6, 0, none⟩ (.int .i64 r0)).setCell ⟨g6, 1, none⟩ (.slice A kn.length c)).setCell ⟨g6, 2, none⟩ (.int .i64 lf)).setCell ⟨g6, 3, none⟩ (.int .i64 rt)).setCell ⟨g6, 4, none⟩ (.slice A4 nr.length c4)) :=
                (((((Exb.refl g6 wo).setB (p := ⟨g6, 0, none⟩) _ rfl).setB (p := ⟨g6, 1, none⟩) _ rfl).setB (p := ⟨g6, 2, none⟩) _ rfl).setB (p := ⟨g6, 3, none⟩) _ rfl).setB (p := ⟨g6, 4, none⟩) _ rfl
              have O1 := Lib.hid (own.put B6 (by decide) KS)
              have O4 := Lib.hid (nrow.put B6 (by decide) KS)
              have KV := Lib.hid (((((KW.setNew (p := ⟨g6, 0, none⟩) (.int .i64 r0) zg6).setNew (p := ⟨g6, 1, none⟩) (.slice A kn.length c) zg6).setNew (p := ⟨g6, 2, none⟩) (.int .i64 lf) zg6).setNew (p := ⟨g6, 3, none⟩) (.int .i64 rt) zg6).setNew (p := ⟨g6, 4, none⟩) (.slice A4 nr.length c4) zg6)
              have TV := Lib.hid (((((T.set (p := ⟨g6, 0, none⟩) (.int .i64 r0) zb6).set (p := ⟨g6, 1, none⟩) (.slice A kn.length c) zb6).set (p := ⟨g6, 2, none⟩) (.int .i64 lf) zb6).set (p := ⟨g6, 3, none⟩) (.int .i64 rt) zb6).set (p := ⟨g6, 4, none⟩) (.slice A4 nr.length c4) zb6)
              have hnm : nr.length ≤ ht + 1 := by omega
              clear B6 B7 own nrow T KW KS hq hq0
              go_wp2_with fail
              refine bodyPost_ret (v := .agg #[.int .i64 r0, .slice A kn.length c, .int .i64 lf, .int .i64 rt, .slice A4 nr.length c4]) (by simp [results, Tryz.results32, go_sem, *]) rfl ⟨⟨r0, lf, rt, kn, nr⟩, (A, kn.length, c), (A4, nr.length, c4), rfl, O1.out, O4.out, hkl, hnm, hr0.out, TV.out, KV.out⟩

end Go.Proofs.YtbnbjiddffihoaaGreatDoor
