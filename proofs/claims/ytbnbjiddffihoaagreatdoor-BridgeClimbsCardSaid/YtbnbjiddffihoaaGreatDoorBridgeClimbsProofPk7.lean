/- Texts for the statement BridgeClimbsProof, part 7 of 12: BriB, RedC, RedH, RedI. -/
import Derived.BigRegion
import Derived.Test.YtbnbjiddffihoaaGreatDoorBridgeClimbsProofPk6

/- Link of the package bridge. -/
namespace Go.Proofs.YtbnbjiddffihoaaGreatDoor
open Go.RowKit

theorem link_no {N : List Nd} {p : Pr} {lev : Int} (h : ¬ ((findN N p.id).2 = true ∧ checkN N = 0 ∧ lvlN lev = true ∧ lev ≤ p.near.length)) : linkB N p lev = (0, 0) := by unfold linkB; rw [if_neg h]
theorem link_zero {N : List Nd} {p : Pr} {lev : Int} (h : (findN N p.id).2 = true ∧ checkN N = 0 ∧ lvlN lev = true ∧ lev ≤ p.near.length) (h0 : lev = 0) : linkB N p lev = (otherN N p.left p.id, otherN N p.right p.id) := by unfold linkB; rw [if_pos h, if_pos h0]
theorem link_bit {N : List Nd} {p : Pr} {lev : Int} {x : Nr} (h : (findN N p.id).2 = true ∧ checkN N = 0 ∧ lvlN lev = true ∧ lev ≤ p.near.length) (h0 : ¬ lev = 0) (hx : nearAt p (lev - 1).toNat = x) :
    (bitN (findN N p.id).1.word (lev - 1) = 1 → linkB N p lev = (otherN N x.2.1 p.id, otherN N x.2.2.2 p.id)) ∧ (¬ bitN (findN N p.id).1.word (lev - 1) = 1 → linkB N p lev = (otherN N x.1 p.id, otherN N x.2.2.1 p.id)) := by
  unfold linkB
  rw [if_pos h, if_neg h0, hx]
  exact ⟨fun hb => by rw [if_pos hb], fun hb => by rw [if_neg hb]⟩
theorem lvl_of {lev : Int} (h0 : 0 ≤ lev) (h1 : lev ≤ 16) : lvlN lev = true := by unfold lvlN; simp; omega
set_option maxRecDepth 100000 in
set_option maxHeartbeats 4000000 in
theorem link_p (a : Option Addr) (n c : Nat) (N : List Nd) (p : Pr) (a1 : Option Addr) (n1 c1 : Nat) (a2 : Option Addr) (n2 c2 : Nat) (lev : Int) (w : World) (h : Sl 3 encN w a n N) (hn : n ≤ 1000) (hc : n ≤ c) (hm : c ≤ maxLen) (hw : ∀ x ∈ N, x.word < 4294967296) (h2 : Sl 4 encNr w a2 n2 p.near) (hn2 : n2 ≤ 4000000000000000000) :
    Calls Tryz.prog 47 #[.slice a n c, .agg #[.int .i64 p.id, .slice a1 n1 c1, .int .i64 p.left, .int .i64 p.right, .slice a2 n2 c2], .int .i64 lev] w fun e w' => e = .returned (.agg #[.int .i64 (linkB N p lev).1, .int .i64 (linkB N p lev).2]) ∧ Ex w w' := by
  have EX := Ex.refl w
  have H0 := Lib.hid h
  have FW := Lib.hid (find_word hw p.id)
  have LN := Lib.hid (link_no (N := N) (p := p) (lev := lev))
  have LZ := Lib.hid (link_zero (N := N) (p := p) (lev := lev))
  have LB := Lib.hid (fun x => link_bit (N := N) (p := p) (lev := lev) (x := x))
  have hml := h2.len
  rw [hml] at LN LZ LB
  clear hw
  generalize hLB : linkB N p lev = L at LN LZ LB ⊢
  clear hLB
  obtain ⟨g4, hg4⟩ : ∃ g4, g4 = w.heap.size := ⟨_, rfl⟩
  obtain ⟨g6, hg6⟩ : ∃ g6, g6 = (w.heap.size + 1) := ⟨_, rfl⟩
  obtain ⟨w1, hw1⟩ : ∃ w1, w1 = ((w.alloc (.cells #[.int .i64 p.id, .slice a1 n1 c1, .int .i64 p.left, .int .i64 p.right, .slice a2 n2 c2] 45)).alloc (.cells #[.int .i64 0, .int .i64 0] 65)) := ⟨_, rfl⟩
  have kk : Ex w w1 := by rw [hw1]; exact (((Ex.refl w).alloc (.cells #[.int .i64 p.id, .slice a1 n1 c1, .int .i64 p.left, .int .i64 p.right, .slice a2 n2 c2] 45)).alloc (.cells #[.int .i64 0, .int .i64 0] 65))
  have B4 : Blk w1 g4 [.int .i64 p.id, .slice a1 n1 c1, .int .i64 p.left, .int .i64 p.right, .slice a2 n2 c2] 45 := by rw [hw1]; simp only [hg4, hg6]; have hbk := ((Blk.new w [.int .i64 p.id, .slice a1 n1 c1, .int .i64 p.left, .int .i64 p.right, .slice a2 n2 c2] 45).nx (Ex.new _ (.cells #[.int .i64 0, .int .i64 0] 65))); simpa using hbk
  have B6 : Blk w1 g6 [.int .i64 0, .int .i64 0] 65 := by rw [hw1]; simp only [hg4, hg6]; have hbk := (Blk.new (w.alloc (.cells #[.int .i64 p.id, .slice a1 n1 c1, .int .i64 p.left, .int .i64 p.right, .slice a2 n2 c2] 45)) [.int .i64 0, .int .i64 0] 65); simpa using hbk
  have Hw1 := Lib.hid hw1
  have Hg4 := Lib.hid hg4
  have Hg6 := Lib.hid hg6
  replace h := h.nx kk
  replace h2 := h2.nx kk
  replace EX := EX.nx kk
  have zg6 : w.heap.size ≤ g6 := by omega
  clear kk hw1 hg4 hg6
  go_enter Tryz.func47, Tryz.ntmps47
  go_upto_region 1 with fail
  rw [← Hw1.out, ← Hg6.out, ← Hg4.out]
  clear Hw1 Hg6 Hg4
  have q0 := B4.cell 0 _ rfl
  go_wp2_with fail
  (with_reducible refine (find_p _ _ _ _ p.id _ h (by omega)).mono ?_)
  rintro e w2 ⟨rfl, kk⟩
  replace h := h.nx kk
  replace h2 := h2.nx kk
  replace EX := EX.nx kk
  replace B4 := B4.nx kk
  replace B6 := B6.nx kk
  clear kk
  replace FW := FW.out
  replace LN := LN.out
  replace LZ := LZ.out
  replace LB := LB.out
  obtain ⟨F, hF⟩ : ∃ F, F = findN N p.id := ⟨_, rfl⟩
  rw [← hF] at FW LN LZ LB ⊢
  clear hF q0
  obtain ⟨⟨xi, xk, xw⟩, ok⟩ := F
  replace FW := Lib.hid FW
  replace LN := Lib.hid LN
  replace LZ := Lib.hid LZ
  replace LB := Lib.hid LB
  have B7 := Blk.new w2 [.int .i64 xi, .string xk, .int .u32 xw] 57
  have kk := Ex.new w2 (.cells #[.int .i64 xi, .string xk, .int .u32 xw] 57)
  obtain ⟨w3, hw3⟩ : ∃ w3, w3 = w2.alloc (.cells #[.int .i64 xi, .string xk, .int .u32 xw] 57) := ⟨_, rfl⟩
  obtain ⟨g7, hg7⟩ : ∃ g7, g7 = w2.heap.size := ⟨_, rfl⟩
  replace B7 : Blk w3 g7 [.int .i64 xi, .string xk, .int .u32 xw] 57 := by rw [hw3, hg7]; exact B7
  rw [← hw3] at kk
  have Hw3 := Lib.hid hw3
  have Hg7 := Lib.hid hg7
  replace h := h.nx kk
  replace h2 := h2.nx kk
  replace EX := EX.nx kk
  replace B4 := B4.nx kk
  replace B6 := B6.nx kk
  clear kk hw3 hg7
  simp only [Nd.val]
  go_upto_region 2 with fail
  rw [← Hg7.out, ← Hw3.out]
  clear Hg7 Hw3
  have FAIL : ∀ wz, wz = w3 → 1 = 1 := fun _ _ => rfl
  clear FAIL
  by_cases hok : ok = true
  case neg =>
    obtain rfl : ok = false := by simpa using hok
    have E0 : Hid (L = (0, 0)) := Lib.hid (LN.out (fun hh => by cases hh.1))
    have r0 := B6.cell 0 _ rfl
    have r1 := B6.cell 1 _ rfl
    have f0 := B6.free 0
    have f1 := B6.free 1
    have KE := Lib.hid ((EX.setNew (p := ⟨g6, 0, none⟩) (.int .i64 0) zg6).setNew (p := ⟨g6, 1, none⟩) (.int .i64 0) zg6)
    clear h h2 EX B4 B6 B7 hok
    go_wp2_with fail
    refine bodyPost_ret (v := .agg #[.int .i64 0, .int .i64 0]) (by simp [results, Tryz.results47, go_sem, *]) rfl ⟨by rw [E0.out], KE.out⟩
  subst hok
  go_wp2_with fail
  (with_reducible refine (check_p _ _ _ _ _ h (by omega) hc hm).mono ?_)
  rintro e w4 ⟨rfl, kk⟩
  replace h := h.nx kk
  replace h2 := h2.nx kk
  replace EX := EX.nx kk
  replace B4 := B4.nx kk
  replace B6 := B6.nx kk
  replace B7 := B7.nx kk
  clear kk
  by_cases hbad : ¬ checkN N = 0 ∨ lev < 0 ∨ 16 < lev ∨ (n2 : Int) < lev
  case pos =>
    have E0 : Hid (L = (0, 0)) := Lib.hid (LN.out (fun hh => by
      rcases hbad with hb | hb | hb | hb
      · exact hb hh.2.1
      · have := hh.2.2.1; unfold lvlN at this; simp at this; omega
      · have := hh.2.2.1; unfold lvlN at this; simp at this; omega
      · have := hh.2.2.2; omega))
    have p4 := B4.cell 4 _ rfl
    have r0 := B6.cell 0 _ rfl
    have r1 := B6.cell 1 _ rfl
    have f0 := B6.free 0
    have f1 := B6.free 1
    have KE := Lib.hid ((EX.setNew (p := ⟨g6, 0, none⟩) (.int .i64 0) zg6).setNew (p := ⟨g6, 1, none⟩) (.int .i64 0) zg6)
    clear h h2 EX B4 B6 B7
    have HB : ((checkN N != 0) || (decide (lev < 0) || (decide (lev > 16) || decide (lev > (n2 : Int))))) = true := by
      rcases hbad with hb | hb | hb | hb
      · have : (checkN N != 0) = true := by simpa using hb
        rw [this]; rfl
      · have : decide (lev < 0) = true := by simpa using hb
        rw [this]; simp
      · have : decide (lev > 16) = true := by simpa using hb
        rw [this]; simp
      · have : decide (lev > (n2 : Int)) = true := by simpa using hb
        rw [this]; simp
    clear hbad
    by_cases b1 : checkN N = 0
    case neg =>
      have d1 : (checkN N != 0) = true := by simpa using b1
      clear HB b1
      go_wp2_with fail
      refine bodyPost_ret (v := .agg #[.int .i64 0, .int .i64 0]) (by simp [results, Tryz.results47, go_sem, *]) rfl ⟨by rw [E0.out], KE.out⟩
    have d1 : (checkN N != 0) = false := by simpa using b1
    rw [d1] at HB
    clear b1
    by_cases b2 : lev < 0
    · clear HB
      go_wp2_with fail
      refine bodyPost_ret (v := .agg #[.int .i64 0, .int .i64 0]) (by simp [results, Tryz.results47, go_sem, *]) rfl ⟨by rw [E0.out], KE.out⟩
    by_cases b3 : lev > 16
    · clear HB
      go_wp2_with fail
      refine bodyPost_ret (v := .agg #[.int .i64 0, .int .i64 0]) (by simp [results, Tryz.results47, go_sem, *]) rfl ⟨by rw [E0.out], KE.out⟩
    have b4 : lev > (n2 : Int) := by
      have e2 : decide (lev < 0) = false := by simpa using b2
      have e3 : decide (lev > 16) = false := by simpa using b3
      rw [e2, e3] at HB
      simpa using HB
    clear HB
    go_wp2_with fail
    refine bodyPost_ret (v := .agg #[.int .i64 0, .int .i64 0]) (by simp [results, Tryz.results47, go_sem, *]) rfl ⟨by rw [E0.out], KE.out⟩
  have hck : checkN N = 0 := Decidable.byContradiction (fun h => hbad (.inl h))
  have hl0 : 0 ≤ lev := by omega
  have hl1 : lev ≤ 16 := by omega
  have hl2 : lev ≤ (n2 : Int) := by omega
  have CND : Hid (True ∧ checkN N = 0 ∧ lvlN lev = true ∧ lev ≤ (n2 : Int)) := Lib.hid ⟨trivial, hck, lvl_of hl0 hl1, hl2⟩
  have d1 : (checkN N != 0) = false := by simpa using hck
  have d2 : decide (lev < 0) = false := by simp; omega
  have d3 : decide (lev > 16) = false := by simp; omega
  have d4 : decide (lev > (n2 : Int)) = false := by simp; omega
  have FWh := FW.out trivial
  clear hbad hck LN FW
  obtain ⟨k, rfl⟩ := Int.eq_ofNat_of_zero_le hl0
  have p2 := B4.cell 2 _ rfl
  have p3 := B4.cell 3 _ rfl
  have p4 := B4.cell 4 _ rfl
  go_upto_region 4 with fail
  by_cases h0 : (k : Int) = 0
  · have E0 := Lib.hid (LZ.out CND.out h0)
    have hk0 : k = 0 := by omega
    subst hk0
    have B9 := Blk.new w4 [.int .i64 p.left, .int .i64 p.right] 65
    have kk := Ex.new w4 (.cells #[.int .i64 p.left, .int .i64 p.right] 65)
    obtain ⟨w5, hw5⟩ : ∃ w5, w5 = w4.alloc (.cells #[.int .i64 p.left, .int .i64 p.right] 65) := ⟨_, rfl⟩
    obtain ⟨g9, hg9⟩ : ∃ g9, g9 = w4.heap.size := ⟨_, rfl⟩
    replace B9 : Blk w5 g9 [.int .i64 p.left, .int .i64 p.right] 65 := by rw [hw5, hg9]; exact B9
    rw [← hw5] at kk
    have Hw5 := Lib.hid hw5
    have Hg9 := Lib.hid hg9
    replace EX := EX.nx kk
    replace B4 := B4.nx kk
    replace B6 := B6.nx kk
    clear kk hw5 hg9
    clear h h2 B7 LZ LB h0
    go_upto_region 10 with fail
    clear p2 p3 p4
    rw [← Hg9.out, ← Hw5.out]
    clear Hg9 Hw5
    have Y0 : Hid (∀ wq, Ex w5 wq → wq.cell? ⟨g9, 0, none⟩ = some (.int .i64 p.left)) := Lib.hid (fun wq kq => (B9.nx kq).cell 0 _ rfl)
    have Y1 : Hid (∀ wq, Ex w5 wq → wq.cell? ⟨g9, 1, none⟩ = some (.int .i64 p.right)) := Lib.hid (fun wq kq => (B9.nx kq).cell 1 _ rfl)
    have QI : Hid (∀ wq, Ex w5 wq → wq.cell? ⟨g4, 0, none⟩ = some (.int .i64 p.id)) := Lib.hid (fun wq kq => (B4.nx kq).cell 0 _ rfl)
    have HS := Lib.hid (H0.out.nx EX)
    have K := Lib.hid EX
    replace B6 := Lib.hid B6
    clear B9 B4 EX
    refine wp_region_late_drew (S := Ex w5) [13] (by kernel_rfl) ((Ex.refl w5).drew) (fun hHeld => ?_)
    obtain ⟨wd, hwdx⟩ : ∃ wd : World, wd = World.drew w5 := ⟨_, rfl⟩
    rw [← hwdx] at hHeld ⊢
    have hDrew : Ex w5 wd := by rw [hwdx]; exact (Ex.refl w5).drew
    clear hwdx
    refine wpAnyL_take (i := 0) (oi := ⟨some 70, .move (.tmp 0), 23, "bridge.go:36", #[], none⟩) (v := ?_) rfl (by kernel_rfl) (by kernel_rfl) (by kernel_rfl) (fun _ _ _ h => h) (Or.inl ⟨by rfl, ?hyr1x0q5⟩) (by kernel_rfl) (by kernel_rfl) (by assumption) ?restr1x0q5
    case hyr1x0q5 => intro wq hSw; (go_simp); (try with_reducible rfl)
    try simp only [Act.put, List.setIfInBounds_toArray, List.set_cons_zero, List.set_cons_succ]
    refine wpAnyL_take (i := 1) (oi := ⟨some 71, .fieldAddr 65 (.tmp 9) 0, 0, "bridge.go:36", #[], none⟩) (v := ?_) rfl (by kernel_rfl) (by kernel_rfl) (by kernel_rfl) (fun _ _ _ h => h) (Or.inl ⟨by rfl, ?hyr1x1q8⟩) (by kernel_rfl) (by kernel_rfl) (by assumption) ?restr1x1q8
    case hyr1x1q8 => intro wq hSw; (go_simp); (try with_reducible rfl)
    try simp only [Act.put, List.setIfInBounds_toArray, List.set_cons_zero, List.set_cons_succ]
    refine wpAnyL_take (i := 2) (oi := ⟨some 72, .load 3 (.tmp 71), 3, "bridge.go:36", #[⟨1, .data⟩], none⟩) (v := ?_) rfl (by kernel_rfl) (by kernel_rfl) (by kernel_rfl) (fun _ _ _ h => h) (Or.inl ⟨by rfl, ?hyr1x2q11⟩) (by kernel_rfl) (by kernel_rfl) (by assumption) ?restr1x2q11
    case hyr1x2q11 => intro wq hSw; (have cq := Y0.out wq hSw; go_simp); (try with_reducible rfl)
    try simp only [Act.put, List.setIfInBounds_toArray, List.set_cons_zero, List.set_cons_succ]
    refine wpAnyL_take (i := 3) (oi := ⟨some 73, .fieldAddr 45 (.tmp 4) 0, 0, "bridge.go:36", #[], none⟩) (v := ?_) rfl (by kernel_rfl) (by kernel_rfl) (by kernel_rfl) (fun _ _ _ h => h) (Or.inl ⟨by rfl, ?hyr1x3q14⟩) (by kernel_rfl) (by kernel_rfl) (by assumption) ?restr1x3q14
    case hyr1x3q14 => intro wq hSw; (go_simp); (try with_reducible rfl)
    try simp only [Act.put, List.setIfInBounds_toArray, List.set_cons_zero, List.set_cons_succ]
    refine wpAnyL_take (i := 4) (oi := ⟨some 74, .load 3 (.tmp 73), 3, "bridge.go:36", #[⟨3, .data⟩], none⟩) (v := ?_) rfl (by kernel_rfl) (by kernel_rfl) (by kernel_rfl) (fun _ _ _ h => h) (Or.inl ⟨by rfl, ?hyr1x4q17⟩) (by kernel_rfl) (by kernel_rfl) (by assumption) ?restr1x4q17
    case hyr1x4q17 => intro wq hSw; (have cq := QI.out wq hSw; go_simp); (try with_reducible rfl)
    try simp only [Act.put, List.setIfInBounds_toArray, List.set_cons_zero, List.set_cons_succ]
    refine wpAnyL_take (i := 6) (oi := ⟨some 76, .move (.tmp 0), 23, "bridge.go:36", #[], none⟩) (v := ?_) rfl (by kernel_rfl) (by kernel_rfl) (by kernel_rfl) (fun _ _ _ h => h) (Or.inl ⟨by rfl, ?hyr1x6q20⟩) (by kernel_rfl) (by kernel_rfl) (by assumption) ?restr1x6q20
    case hyr1x6q20 => intro wq hSw; (go_simp); (try with_reducible rfl)
    try simp only [Act.put, List.setIfInBounds_toArray, List.set_cons_zero, List.set_cons_succ]
    refine wpAnyL_take (i := 7) (oi := ⟨some 77, .fieldAddr 65 (.tmp 9) 1, 0, "bridge.go:36", #[], none⟩) (v := ?_) rfl (by kernel_rfl) (by kernel_rfl) (by kernel_rfl) (fun _ _ _ h => h) (Or.inl ⟨by rfl, ?hyr1x7q23⟩) (by kernel_rfl) (by kernel_rfl) (by assumption) ?restr1x7q23
    case hyr1x7q23 => intro wq hSw; (go_simp); (try with_reducible rfl)
    try simp only [Act.put, List.setIfInBounds_toArray, List.set_cons_zero, List.set_cons_succ]
    refine wpAnyL_take (i := 8) (oi := ⟨some 78, .load 3 (.tmp 77), 3, "bridge.go:36", #[⟨7, .data⟩], none⟩) (v := ?_) rfl (by kernel_rfl) (by kernel_rfl) (by kernel_rfl) (fun _ _ _ h => h) (Or.inl ⟨by rfl, ?hyr1x8q26⟩) (by kernel_rfl) (by kernel_rfl) (by assumption) ?restr1x8q26
    case hyr1x8q26 => intro wq hSw; (have cq := Y1.out wq hSw; go_simp); (try with_reducible rfl)
    try simp only [Act.put, List.setIfInBounds_toArray, List.set_cons_zero, List.set_cons_succ]
    refine wpAnyL_take (i := 9) (oi := ⟨some 79, .fieldAddr 45 (.tmp 4) 0, 0, "bridge.go:36", #[], none⟩) (v := ?_) rfl (by kernel_rfl) (by kernel_rfl) (by kernel_rfl) (fun _ _ _ h => h) (Or.inl ⟨by rfl, ?hyr1x9q29⟩) (by kernel_rfl) (by kernel_rfl) (by assumption) ?restr1x9q29
    case hyr1x9q29 => intro wq hSw; (go_simp); (try with_reducible rfl)
    try simp only [Act.put, List.setIfInBounds_toArray, List.set_cons_zero, List.set_cons_succ]
    refine wpAnyL_take (i := 10) (oi := ⟨some 80, .load 3 (.tmp 79), 3, "bridge.go:36", #[⟨9, .data⟩], none⟩) (v := ?_) rfl (by kernel_rfl) (by kernel_rfl) (by kernel_rfl) (fun _ _ _ h => h) (Or.inl ⟨by rfl, ?hyr1x10q32⟩) (by kernel_rfl) (by kernel_rfl) (by assumption) ?restr1x10q32
    case hyr1x10q32 => intro wq hSw; (have cq := QI.out wq hSw; go_simp); (try with_reducible rfl)
    try simp only [Act.put, List.setIfInBounds_toArray, List.set_cons_zero, List.set_cons_succ]
    refine wpAnyL_ready (rs := [5]) (by kernel_rfl) (by simp) ?_
    refine AllReadyL.cons (o := ⟨some 75, .call { callee := .value (.func 84), args := #[.tmp 70, .tmp 72, .tmp 74], argTypes := #[23, 3, 3] }, 3, "bridge.go:36", #[⟨0, .data⟩, ⟨2, .data⟩, ⟨4, .data⟩], none⟩) rfl (fun K hK => ?_) AllReadyL.nil
    go_simp
    (with_reducible refine (other_p _ _ _ N p.left p.id _ (HS.out.nx hHeld) hn).mono ?_)
    rintro e wb ⟨rfl, kk⟩
    replace hHeld := hHeld.nx kk
    clear kk
    refine hK.out _ _ (hHeld) (fun hHeld => ?_)
    clear hK K
    try simp only [Act.put, List.setIfInBounds_toArray, List.set_cons_zero, List.set_cons_succ]
    refine wpAnyL_ready (rs := [11]) (by kernel_rfl) (by simp) ?_
    refine AllReadyL.cons (o := ⟨some 81, .call { callee := .value (.func 84), args := #[.tmp 76, .tmp 78, .tmp 80], argTypes := #[23, 3, 3] }, 3, "bridge.go:36", #[⟨6, .data⟩, ⟨8, .data⟩, ⟨10, .data⟩, ⟨5, .chain⟩], none⟩) rfl (fun K hK => ?_) AllReadyL.nil
    go_simp
    (with_reducible refine (other_p _ _ _ N p.right p.id _ (HS.out.nx hHeld) hn).mono ?_)
    rintro e wc ⟨rfl, kk⟩
    replace hHeld := hHeld.nx kk
    clear kk
    have B6z := B6.out.nx hHeld
    have f0 := B6z.free 0
    have f1 := B6z.free 1
    have r0 := B6z.cell 0 _ rfl
    have r1 := B6z.cell 1 _ rfl
    refine hK.out _ _ (hHeld) (fun hHeld => ?_)
    clear hK K
    try simp only [Act.put, List.setIfInBounds_toArray, List.set_cons_zero, List.set_cons_succ]
    refine wpAnyL_take (i := 12) (oi := ⟨some 82, .build 65 #[(0, .tmp 75), (1, .tmp 81)], 65, "bridge.go:36", #[⟨5, .data⟩, ⟨11, .data⟩], none⟩) (v := ?_) rfl (by kernel_rfl) (by kernel_rfl) (by kernel_rfl) (fun _ _ _ h => h) (Or.inl ⟨by rfl, ?hyr1x12q60⟩) (by kernel_rfl) (by kernel_rfl) (by assumption) ?restr1x12q60
    case hyr1x12q60 => intro wq hSw; (go_simp); (try with_reducible rfl)
    try simp only [Act.put, List.setIfInBounds_toArray, List.set_cons_zero, List.set_cons_succ]
    refine wpAnyL_ready (rs := [13]) (by kernel_rfl) (by simp) ?_
    refine AllReadyL.consL (o := ⟨none, .store 65 (.tmp 6) (.tmp 82), 0, "bridge.go:36", #[⟨12, .data⟩, ⟨11, .chain⟩, ⟨0, .phase⟩, ⟨1, .phase⟩, ⟨2, .phase⟩, ⟨3, .phase⟩, ⟨4, .phase⟩, ⟨5, .phase⟩, ⟨6, .phase⟩, ⟨7, .phase⟩, ⟨8, .phase⟩, ⟨9, .phase⟩, ⟨10, .phase⟩, ⟨11, .phase⟩, ⟨12, .phase⟩], none⟩) rfl (by rfl) (fun K hK => ?_) AllReadyL.nil
    go_simp
    refine hK.out _ _ ?_
    clear hK K
    try simp only [Act.put, List.setIfInBounds_toArray, List.set_cons_zero, List.set_cons_succ]
    refine wpAnyL_done (by kernel_rfl) ?_ _
    have KE := Lib.hid (((K.out.nx hHeld).setNew (p := ⟨g6, 0, none⟩) (.int .i64 (otherN N p.left p.id)) zg6).setNew (p := ⟨g6, 1, none⟩) (.int .i64 (otherN N p.right p.id)) zg6)
    clear hDrew hHeld B6z
    go_wp2_with fail
    refine bodyPost_ret (v := .agg #[.int .i64 (otherN N p.left p.id), .int .i64 (otherN N p.right p.id)]) (by simp [results, Tryz.results47, go_sem, *]) rfl ⟨by rw [E0.out], KE.out⟩
  · obtain ⟨x6, o6, ny, rfl, hx6, hny, hc6⟩ := h2.at (show k - 1 < n2 by omega)
    have LX := Lib.hid (LB.out ny CND.out h0 (by rw [show ((k : Int) - 1).toNat = k - 1 by omega]; exact near_at hny))
    have r0 : w4.cell? ⟨x6, o6 + (k - 1) * 4, none⟩ = some (.int .i64 ny.1) := hc6 0 _ rfl
    have r1 : w4.cell? ⟨x6, o6 + (k - 1) * 4 + 1, none⟩ = some (.int .i64 ny.2.1) := hc6 1 _ rfl
    have r2 : w4.cell? ⟨x6, o6 + (k - 1) * 4 + 1 + 1, none⟩ = some (.int .i64 ny.2.2.1) := by simpa [Nat.add_assoc] using hc6 2 _ rfl
    have r3 : w4.cell? ⟨x6, o6 + (k - 1) * 4 + 1 + 1 + 1, none⟩ = some (.int .i64 ny.2.2.2) := by simpa [Nat.add_assoc] using hc6 3 _ rfl
    have hkp : (0 : Int) < (k : Int) := by omega
    have hwk : IntKind.i64.wrap ((k : Int) - 1) = (k : Int) - 1 := IntWalk.i64_in _ (by omega)
    have h01 : (1 : Int) ≤ (k : Int) := by omega
    have h02 : (k : Int) - 1 < (n2 : Int) := by omega
    have hl4 := B4.lt
    have hl6 := B6.lt
    have hl7 := B7.lt
    have zz := EX.size
    have B9 := Blk.new w4 [.int .i64 p.left, .int .i64 p.right] 65
    have kk := Ex.new w4 (.cells #[.int .i64 p.left, .int .i64 p.right] 65)
    obtain ⟨w5, hw5⟩ : ∃ w5, w5 = w4.alloc (.cells #[.int .i64 p.left, .int .i64 p.right] 65) := ⟨_, rfl⟩
    obtain ⟨g9, hg9⟩ : ∃ g9, g9 = w4.heap.size := ⟨_, rfl⟩
    replace B9 : Blk w5 g9 [.int .i64 p.left, .int .i64 p.right] 65 := by rw [hw5, hg9]; exact B9
    rw [← hw5] at kk
    have Hw5 := Lib.hid hw5
    have Hg9 := Lib.hid hg9
    replace EX := EX.nx kk
    replace B4 := B4.nx kk
    replace B6 := B6.nx kk
    replace B7 := B7.nx kk
    have zg9 : w.heap.size ≤ g9 := by omega
    have h49 : ¬ g4 = g9 := by omega
    have h69 : ¬ g6 = g9 := by omega
    have h79 : ¬ g7 = g9 := by omega
    have t0 := Chg.cellv kk r0 hx6
    have t1 := Chg.cellv kk r1 hx6
    have t2 := Chg.cellv kk r2 hx6
    have t3 := Chg.cellv kk r3 hx6
    clear r0 r1 r2 r3 kk hw5 hg9 h h2 hc6 hny LB LZ h0 hl4 hl6 hl7 zz
    go_upto_region 5 with fail
    rw [← Hg9.out, ← Hw5.out]
    clear Hg9 Hw5
    have p4 := B4.cell 4 _ rfl
    clear p2 p3
    have hl9 := B9.lt
    have B10 := Blk.new w5 [.int .i64 ny.1, .int .i64 ny.2.1, .int .i64 ny.2.2.1, .int .i64 ny.2.2.2] 49
    have kk := Ex.new w5 (.cells #[.int .i64 ny.1, .int .i64 ny.2.1, .int .i64 ny.2.2.1, .int .i64 ny.2.2.2] 49)
    obtain ⟨w6, hw6⟩ : ∃ w6, w6 = w5.alloc (.cells #[.int .i64 ny.1, .int .i64 ny.2.1, .int .i64 ny.2.2.1, .int .i64 ny.2.2.2] 49) := ⟨_, rfl⟩
    obtain ⟨g10, hg10⟩ : ∃ g10, g10 = w5.heap.size := ⟨_, rfl⟩
    replace B10 : Blk w6 g10 [.int .i64 ny.1, .int .i64 ny.2.1, .int .i64 ny.2.2.1, .int .i64 ny.2.2.2] 49 := by rw [hw6, hg10]; exact B10
    rw [← hw6] at kk
    have Hw6 := Lib.hid hw6
    have Hg10 := Lib.hid hg10
    replace EX := EX.nx kk
    replace B4 := B4.nx kk
    replace B6 := B6.nx kk
    replace B7 := B7.nx kk
    replace B9 := B9.nx kk
    have h10 : ¬ g10 = g9 := by omega
    clear kk hw6 hg10 hl9
    go_upto_region 7 with fail
    rw [← Hg10.out, ← Hw6.out]
    clear Hg10 Hw6
    clear t0 t1 t2 t3 p4
    have u0 := B10.cell 0 _ rfl
    have u2 := B10.cell 2 _ rfl
    have f0 := B9.free 0
    have f1 := B9.free 1
    have v0 := B9.cell 0 _ rfl
    have v1 := B9.cell 1 _ rfl
    have KB0 : Exb g9 w6 ((w6.setCell ⟨g9, 0, none⟩ (.int .i64 ny.1)).setCell ⟨g9, 1, none⟩ (.int .i64 ny.2.2.1)) := ((Exb.refl g9 w6).setB (p := ⟨g9, 0, none⟩) _ rfl).setB (p := ⟨g9, 1, none⟩) _ rfl
    have BS0 : Blk ((w6.setCell ⟨g9, 0, none⟩ (.int .i64 ny.1)).setCell ⟨g9, 1, none⟩ (.int .i64 ny.2.2.1)) g9 [.int .i64 ny.1, .int .i64 ny.2.2.1] 65 := (B9.set 0 (.int .i64 ny.1)).set 1 (.int .i64 ny.2.2.1)
    have KS0 : Ex w ((w6.setCell ⟨g9, 0, none⟩ (.int .i64 ny.1)).setCell ⟨g9, 1, none⟩ (.int .i64 ny.2.2.1)) := (EX.setNew (p := ⟨g9, 0, none⟩) _ zg9).setNew (p := ⟨g9, 1, none⟩) _ zg9
    replace B4 := Lib.hid B4
    replace B6 := Lib.hid B6
    replace B7 := Lib.hid B7
    replace B10 := Lib.hid B10
    replace KB0 := Lib.hid KB0
    replace BS0 := Lib.hid BS0
    replace KS0 := Lib.hid KS0
    clear B9 EX
    go_upto_region 8 with fail
    obtain ⟨w7, hw7⟩ : ∃ w7, w7 = ((w6.setCell ⟨g9, 0, none⟩ (.int .i64 ny.1)).setCell ⟨g9, 1, none⟩ (.int .i64 ny.2.2.1)) := ⟨_, rfl⟩
    rw [← hw7] at KB0 BS0 KS0 ⊢
    have B9 := BS0.out
    have EX := KS0.out
    replace B4 := B4.out.nxb h49 KB0.out
    replace B6 := B6.out.nxb h69 KB0.out
    replace B7 := B7.out.nxb h79 KB0.out
    replace B10 := B10.out.nxb h10 KB0.out
    clear hw7 KB0 BS0 KS0 f0 f1 v0 v1
    clear u0 u2
    have q2 := B7.cell 2 _ rfl
    go_wp2_with fail
    refine (bit_p xw ((k : Int) - 1) _ FWh (by omega) (by omega)).mono ?_
    rintro e w8 ⟨rfl, rfl⟩
    by_cases hb : bitN xw ((k : Int) - 1) = 1
    · have E0 := Lib.hid (LX.out.1 hb)
      have db : (((bitN xw ((k : Int) - 1) : Nat) : Int) == 1) = true := by rw [hb]; rfl
      clear hb FWh LX
      have u0 := B10.cell 1 _ rfl
      have u2 := B10.cell 3 _ rfl
      have f0 := B9.free 0
      have f1 := B9.free 1
      have v0 := B9.cell 0 _ rfl
      have v1 := B9.cell 1 _ rfl
      have KB0 : Exb g9 w7 ((w7.setCell ⟨g9, 0, none⟩ (.int .i64 ny.2.1)).setCell ⟨g9, 1, none⟩ (.int .i64 ny.2.2.2)) := ((Exb.refl g9 w7).setB (p := ⟨g9, 0, none⟩) _ rfl).setB (p := ⟨g9, 1, none⟩) _ rfl
      have BS0 : Blk ((w7.setCell ⟨g9, 0, none⟩ (.int .i64 ny.2.1)).setCell ⟨g9, 1, none⟩ (.int .i64 ny.2.2.2)) g9 [.int .i64 ny.2.1, .int .i64 ny.2.2.2] 65 := (B9.set 0 (.int .i64 ny.2.1)).set 1 (.int .i64 ny.2.2.2)
      have KS0 : Ex w ((w7.setCell ⟨g9, 0, none⟩ (.int .i64 ny.2.1)).setCell ⟨g9, 1, none⟩ (.int .i64 ny.2.2.2)) := (EX.setNew (p := ⟨g9, 0, none⟩) _ zg9).setNew (p := ⟨g9, 1, none⟩) _ zg9
      replace B4 := Lib.hid B4
      replace B6 := Lib.hid B6
      replace B7 := Lib.hid B7
      replace B10 := Lib.hid B10
      replace KB0 := Lib.hid KB0
      replace BS0 := Lib.hid BS0
      replace KS0 := Lib.hid KS0
      clear B9 EX
      go_upto_region 10 with fail
      obtain ⟨w9, hw9⟩ : ∃ w9, w9 = ((w7.setCell ⟨g9, 0, none⟩ (.int .i64 ny.2.1)).setCell ⟨g9, 1, none⟩ (.int .i64 ny.2.2.2)) := ⟨_, rfl⟩
      rw [← hw9] at KB0 BS0 KS0 ⊢
      have B9 := BS0.out
      have EX := KS0.out
      replace B4 := B4.out.nxb h49 KB0.out
      replace B6 := B6.out.nxb h69 KB0.out
      replace B7 := B7.out.nxb h79 KB0.out
      replace B10 := B10.out.nxb h10 KB0.out
      clear hw9 KB0 BS0 KS0 f0 f1 v0 v1
      clear u0 u2 q2 B7 B10
      have Y0 : Hid (∀ wq, Ex w9 wq → wq.cell? ⟨g9, 0, none⟩ = some (.int .i64 ny.2.1)) := Lib.hid (fun wq kq => (B9.nx kq).cell 0 _ rfl)
      have Y1 : Hid (∀ wq, Ex w9 wq → wq.cell? ⟨g9, 1, none⟩ = some (.int .i64 ny.2.2.2)) := Lib.hid (fun wq kq => (B9.nx kq).cell 1 _ rfl)
      have QI : Hid (∀ wq, Ex w9 wq → wq.cell? ⟨g4, 0, none⟩ = some (.int .i64 p.id)) := Lib.hid (fun wq kq => (B4.nx kq).cell 0 _ rfl)
      have HS := Lib.hid (H0.out.nx EX)
      have K := Lib.hid EX
      replace B6 := Lib.hid B6
      clear B9 B4 EX
      refine wp_region_late_drew (S := Ex w9) [13] (by kernel_rfl) ((Ex.refl w9).drew) (fun hHeld => ?_)
      obtain ⟨wd, hwdx⟩ : ∃ wd : World, wd = World.drew w9 := ⟨_, rfl⟩
      rw [← hwdx] at hHeld ⊢
      have hDrew : Ex w9 wd := by rw [hwdx]; exact (Ex.refl w9).drew
      clear hwdx
      refine wpAnyL_take (i := 0) (oi := ⟨some 70, .move (.tmp 0), 23, "bridge.go:36", #[], none⟩) (v := ?_) rfl (by kernel_rfl) (by kernel_rfl) (by kernel_rfl) (fun _ _ _ h => h) (Or.inl ⟨by rfl, ?hyr2x0q5⟩) (by kernel_rfl) (by kernel_rfl) (by assumption) ?restr2x0q5
      case hyr2x0q5 => intro wq hSw; (go_simp); (try with_reducible rfl)
      try simp only [Act.put, List.setIfInBounds_toArray, List.set_cons_zero, List.set_cons_succ]
      refine wpAnyL_take (i := 1) (oi := ⟨some 71, .fieldAddr 65 (.tmp 9) 0, 0, "bridge.go:36", #[], none⟩) (v := ?_) rfl (by kernel_rfl) (by kernel_rfl) (by kernel_rfl) (fun _ _ _ h => h) (Or.inl ⟨by rfl, ?hyr2x1q8⟩) (by kernel_rfl) (by kernel_rfl) (by assumption) ?restr2x1q8
      case hyr2x1q8 => intro wq hSw; (go_simp); (try with_reducible rfl)
      try simp only [Act.put, List.setIfInBounds_toArray, List.set_cons_zero, List.set_cons_succ]
      refine wpAnyL_take (i := 2) (oi := ⟨some 72, .load 3 (.tmp 71), 3, "bridge.go:36", #[⟨1, .data⟩], none⟩) (v := ?_) rfl (by kernel_rfl) (by kernel_rfl) (by kernel_rfl) (fun _ _ _ h => h) (Or.inl ⟨by rfl, ?hyr2x2q11⟩) (by kernel_rfl) (by kernel_rfl) (by assumption) ?restr2x2q11
      case hyr2x2q11 => intro wq hSw; (have cq := Y0.out wq hSw; go_simp); (try with_reducible rfl)
      try simp only [Act.put, List.setIfInBounds_toArray, List.set_cons_zero, List.set_cons_succ]
      refine wpAnyL_take (i := 3) (oi := ⟨some 73, .fieldAddr 45 (.tmp 4) 0, 0, "bridge.go:36", #[], none⟩) (v := ?_) rfl (by kernel_rfl) (by kernel_rfl) (by kernel_rfl) (fun _ _ _ h => h) (Or.inl ⟨by rfl, ?hyr2x3q14⟩) (by kernel_rfl) (by kernel_rfl) (by assumption) ?restr2x3q14
      case hyr2x3q14 => intro wq hSw; (go_simp); (try with_reducible rfl)
      try simp only [Act.put, List.setIfInBounds_toArray, List.set_cons_zero, List.set_cons_succ]
      refine wpAnyL_take (i := 4) (oi := ⟨some 74, .load 3 (.tmp 73), 3, "bridge.go:36", #[⟨3, .data⟩], none⟩) (v := ?_) rfl (by kernel_rfl) (by kernel_rfl) (by kernel_rfl) (fun _ _ _ h => h) (Or.inl ⟨by rfl, ?hyr2x4q17⟩) (by kernel_rfl) (by kernel_rfl) (by assumption) ?restr2x4q17
      case hyr2x4q17 => intro wq hSw; (have cq := QI.out wq hSw; go_simp); (try with_reducible rfl)
      try simp only [Act.put, List.setIfInBounds_toArray, List.set_cons_zero, List.set_cons_succ]
      refine wpAnyL_take (i := 6) (oi := ⟨some 76, .move (.tmp 0), 23, "bridge.go:36", #[], none⟩) (v := ?_) rfl (by kernel_rfl) (by kernel_rfl) (by kernel_rfl) (fun _ _ _ h => h) (Or.inl ⟨by rfl, ?hyr2x6q20⟩) (by kernel_rfl) (by kernel_rfl) (by assumption) ?restr2x6q20
      case hyr2x6q20 => intro wq hSw; (go_simp); (try with_reducible rfl)
      try simp only [Act.put, List.setIfInBounds_toArray, List.set_cons_zero, List.set_cons_succ]
      refine wpAnyL_take (i := 7) (oi := ⟨some 77, .fieldAddr 65 (.tmp 9) 1, 0, "bridge.go:36", #[], none⟩) (v := ?_) rfl (by kernel_rfl) (by kernel_rfl) (by kernel_rfl) (fun _ _ _ h => h) (Or.inl ⟨by rfl, ?hyr2x7q23⟩) (by kernel_rfl) (by kernel_rfl) (by assumption) ?restr2x7q23
      case hyr2x7q23 => intro wq hSw; (go_simp); (try with_reducible rfl)
      try simp only [Act.put, List.setIfInBounds_toArray, List.set_cons_zero, List.set_cons_succ]
      refine wpAnyL_take (i := 8) (oi := ⟨some 78, .load 3 (.tmp 77), 3, "bridge.go:36", #[⟨7, .data⟩], none⟩) (v := ?_) rfl (by kernel_rfl) (by kernel_rfl) (by kernel_rfl) (fun _ _ _ h => h) (Or.inl ⟨by rfl, ?hyr2x8q26⟩) (by kernel_rfl) (by kernel_rfl) (by assumption) ?restr2x8q26
      case hyr2x8q26 => intro wq hSw; (have cq := Y1.out wq hSw; go_simp); (try with_reducible rfl)
      try simp only [Act.put, List.setIfInBounds_toArray, List.set_cons_zero, List.set_cons_succ]
      refine wpAnyL_take (i := 9) (oi := ⟨some 79, .fieldAddr 45 (.tmp 4) 0, 0, "bridge.go:36", #[], none⟩) (v := ?_) rfl (by kernel_rfl) (by kernel_rfl) (by kernel_rfl) (fun _ _ _ h => h) (Or.inl ⟨by rfl, ?hyr2x9q29⟩) (by kernel_rfl) (by kernel_rfl) (by assumption) ?restr2x9q29
      case hyr2x9q29 => intro wq hSw; (go_simp); (try with_reducible rfl)
      try simp only [Act.put, List.setIfInBounds_toArray, List.set_cons_zero, List.set_cons_succ]
      refine wpAnyL_take (i := 10) (oi := ⟨some 80, .load 3 (.tmp 79), 3, "bridge.go:36", #[⟨9, .data⟩], none⟩) (v := ?_) rfl (by kernel_rfl) (by kernel_rfl) (by kernel_rfl) (fun _ _ _ h => h) (Or.inl ⟨by rfl, ?hyr2x10q32⟩) (by kernel_rfl) (by kernel_rfl) (by assumption) ?restr2x10q32
      case hyr2x10q32 => intro wq hSw; (have cq := QI.out wq hSw; go_simp); (try with_reducible rfl)
      try simp only [Act.put, List.setIfInBounds_toArray, List.set_cons_zero, List.set_cons_succ]
      refine wpAnyL_ready (rs := [5]) (by kernel_rfl) (by simp) ?_
      refine AllReadyL.cons (o := ⟨some 75, .call { callee := .value (.func 84), args := #[.tmp 70, .tmp 72, .tmp 74], argTypes := #[23, 3, 3] }, 3, "bridge.go:36", #[⟨0, .data⟩, ⟨2, .data⟩, ⟨4, .data⟩], none⟩) rfl (fun K hK => ?_) AllReadyL.nil
      go_simp
      (with_reducible refine (other_p _ _ _ N ny.2.1 p.id _ (HS.out.nx hHeld) hn).mono ?_)
      rintro e wb ⟨rfl, kk⟩
      replace hHeld := hHeld.nx kk
      clear kk
      refine hK.out _ _ (hHeld) (fun hHeld => ?_)
      clear hK K
      try simp only [Act.put, List.setIfInBounds_toArray, List.set_cons_zero, List.set_cons_succ]
      refine wpAnyL_ready (rs := [11]) (by kernel_rfl) (by simp) ?_
      refine AllReadyL.cons (o := ⟨some 81, .call { callee := .value (.func 84), args := #[.tmp 76, .tmp 78, .tmp 80], argTypes := #[23, 3, 3] }, 3, "bridge.go:36", #[⟨6, .data⟩, ⟨8, .data⟩, ⟨10, .data⟩, ⟨5, .chain⟩], none⟩) rfl (fun K hK => ?_) AllReadyL.nil
      go_simp
      (with_reducible refine (other_p _ _ _ N ny.2.2.2 p.id _ (HS.out.nx hHeld) hn).mono ?_)
      rintro e wc ⟨rfl, kk⟩
      replace hHeld := hHeld.nx kk
      clear kk
      have B6z := B6.out.nx hHeld
      have f0 := B6z.free 0
      have f1 := B6z.free 1
      have r0 := B6z.cell 0 _ rfl
      have r1 := B6z.cell 1 _ rfl
      refine hK.out _ _ (hHeld) (fun hHeld => ?_)
      clear hK K
      try simp only [Act.put, List.setIfInBounds_toArray, List.set_cons_zero, List.set_cons_succ]
      refine wpAnyL_take (i := 12) (oi := ⟨some 82, .build 65 #[(0, .tmp 75), (1, .tmp 81)], 65, "bridge.go:36", #[⟨5, .data⟩, ⟨11, .data⟩], none⟩) (v := ?_) rfl (by kernel_rfl) (by kernel_rfl) (by kernel_rfl) (fun _ _ _ h => h) (Or.inl ⟨by rfl, ?hyr2x12q60⟩) (by kernel_rfl) (by kernel_rfl) (by assumption) ?restr2x12q60
      case hyr2x12q60 => intro wq hSw; (go_simp); (try with_reducible rfl)
      try simp only [Act.put, List.setIfInBounds_toArray, List.set_cons_zero, List.set_cons_succ]
      refine wpAnyL_ready (rs := [13]) (by kernel_rfl) (by simp) ?_
      refine AllReadyL.consL (o := ⟨none, .store 65 (.tmp 6) (.tmp 82), 0, "bridge.go:36", #[⟨12, .data⟩, ⟨11, .chain⟩, ⟨0, .phase⟩, ⟨1, .phase⟩, ⟨2, .phase⟩, ⟨3, .phase⟩, ⟨4, .phase⟩, ⟨5, .phase⟩, ⟨6, .phase⟩, ⟨7, .phase⟩, ⟨8, .phase⟩, ⟨9, .phase⟩, ⟨10, .phase⟩, ⟨11, .phase⟩, ⟨12, .phase⟩], none⟩) rfl (by rfl) (fun K hK => ?_) AllReadyL.nil
      go_simp
      refine hK.out _ _ ?_
      clear hK K
      try simp only [Act.put, List.setIfInBounds_toArray, List.set_cons_zero, List.set_cons_succ]
      refine wpAnyL_done (by kernel_rfl) ?_ _
      have KE := Lib.hid (((K.out.nx hHeld).setNew (p := ⟨g6, 0, none⟩) (.int .i64 (otherN N ny.2.1 p.id)) zg6).setNew (p := ⟨g6, 1, none⟩) (.int .i64 (otherN N ny.2.2.2 p.id)) zg6)
      clear hDrew hHeld B6z
      go_wp2_with fail
      refine bodyPost_ret (v := .agg #[.int .i64 (otherN N ny.2.1 p.id), .int .i64 (otherN N ny.2.2.2 p.id)]) (by simp [results, Tryz.results47, go_sem, *]) rfl ⟨by rw [E0.out], KE.out⟩
    · have E0 := Lib.hid (LX.out.2 hb)
      have db : (((bitN xw ((k : Int) - 1) : Nat) : Int) == 1) = false := by simp; omega
      clear hb FWh LX
      go_upto_region 10 with fail
      clear q2 B7 B10
      have Y0 : Hid (∀ wq, Ex w7 wq → wq.cell? ⟨g9, 0, none⟩ = some (.int .i64 ny.1)) := Lib.hid (fun wq kq => (B9.nx kq).cell 0 _ rfl)
      have Y1 : Hid (∀ wq, Ex w7 wq → wq.cell? ⟨g9, 1, none⟩ = some (.int .i64 ny.2.2.1)) := Lib.hid (fun wq kq => (B9.nx kq).cell 1 _ rfl)
      have QI : Hid (∀ wq, Ex w7 wq → wq.cell? ⟨g4, 0, none⟩ = some (.int .i64 p.id)) := Lib.hid (fun wq kq => (B4.nx kq).cell 0 _ rfl)
      have HS := Lib.hid (H0.out.nx EX)
      have K := Lib.hid EX
      replace B6 := Lib.hid B6
      clear B9 B4 EX
      refine wp_region_late_drew (S := Ex w7) [13] (by kernel_rfl) ((Ex.refl w7).drew) (fun hHeld => ?_)
      obtain ⟨wd, hwdx⟩ : ∃ wd : World, wd = World.drew w7 := ⟨_, rfl⟩
      rw [← hwdx] at hHeld ⊢
      have hDrew : Ex w7 wd := by rw [hwdx]; exact (Ex.refl w7).drew
      clear hwdx
      refine wpAnyL_take (i := 0) (oi := ⟨some 70, .move (.tmp 0), 23, "bridge.go:36", #[], none⟩) (v := ?_) rfl (by kernel_rfl) (by kernel_rfl) (by kernel_rfl) (fun _ _ _ h => h) (Or.inl ⟨by rfl, ?hyr3x0q5⟩) (by kernel_rfl) (by kernel_rfl) (by assumption) ?restr3x0q5
      case hyr3x0q5 => intro wq hSw; (go_simp); (try with_reducible rfl)
      try simp only [Act.put, List.setIfInBounds_toArray, List.set_cons_zero, List.set_cons_succ]
      refine wpAnyL_take (i := 1) (oi := ⟨some 71, .fieldAddr 65 (.tmp 9) 0, 0, "bridge.go:36", #[], none⟩) (v := ?_) rfl (by kernel_rfl) (by kernel_rfl) (by kernel_rfl) (fun _ _ _ h => h) (Or.inl ⟨by rfl, ?hyr3x1q8⟩) (by kernel_rfl) (by kernel_rfl) (by assumption) ?restr3x1q8
      case hyr3x1q8 => intro wq hSw; (go_simp); (try with_reducible rfl)
      try simp only [Act.put, List.setIfInBounds_toArray, List.set_cons_zero, List.set_cons_succ]
      refine wpAnyL_take (i := 2) (oi := ⟨some 72, .load 3 (.tmp 71), 3, "bridge.go:36", #[⟨1, .data⟩], none⟩) (v := ?_) rfl (by kernel_rfl) (by kernel_rfl) (by kernel_rfl) (fun _ _ _ h => h) (Or.inl ⟨by rfl, ?hyr3x2q11⟩) (by kernel_rfl) (by kernel_rfl) (by assumption) ?restr3x2q11
      case hyr3x2q11 => intro wq hSw; (have cq := Y0.out wq hSw; go_simp); (try with_reducible rfl)
      try simp only [Act.put, List.setIfInBounds_toArray, List.set_cons_zero, List.set_cons_succ]
      refine wpAnyL_take (i := 3) (oi := ⟨some 73, .fieldAddr 45 (.tmp 4) 0, 0, "bridge.go:36", #[], none⟩) (v := ?_) rfl (by kernel_rfl) (by kernel_rfl) (by kernel_rfl) (fun _ _ _ h => h) (Or.inl ⟨by rfl, ?hyr3x3q14⟩) (by kernel_rfl) (by kernel_rfl) (by assumption) ?restr3x3q14
      case hyr3x3q14 => intro wq hSw; (go_simp); (try with_reducible rfl)
      try simp only [Act.put, List.setIfInBounds_toArray, List.set_cons_zero, List.set_cons_succ]
      refine wpAnyL_take (i := 4) (oi := ⟨some 74, .load 3 (.tmp 73), 3, "bridge.go:36", #[⟨3, .data⟩], none⟩) (v := ?_) rfl (by kernel_rfl) (by kernel_rfl) (by kernel_rfl) (fun _ _ _ h => h) (Or.inl ⟨by rfl, ?hyr3x4q17⟩) (by kernel_rfl) (by kernel_rfl) (by assumption) ?restr3x4q17
      case hyr3x4q17 => intro wq hSw; (have cq := QI.out wq hSw; go_simp); (try with_reducible rfl)
      try simp only [Act.put, List.setIfInBounds_toArray, List.set_cons_zero, List.set_cons_succ]
      refine wpAnyL_take (i := 6) (oi := ⟨some 76, .move (.tmp 0), 23, "bridge.go:36", #[], none⟩) (v := ?_) rfl (by kernel_rfl) (by kernel_rfl) (by kernel_rfl) (fun _ _ _ h => h) (Or.inl ⟨by rfl, ?hyr3x6q20⟩) (by kernel_rfl) (by kernel_rfl) (by assumption) ?restr3x6q20
      case hyr3x6q20 => intro wq hSw; (go_simp); (try with_reducible rfl)
      try simp only [Act.put, List.setIfInBounds_toArray, List.set_cons_zero, List.set_cons_succ]
      refine wpAnyL_take (i := 7) (oi := ⟨some 77, .fieldAddr 65 (.tmp 9) 1, 0, "bridge.go:36", #[], none⟩) (v := ?_) rfl (by kernel_rfl) (by kernel_rfl) (by kernel_rfl) (fun _ _ _ h => h) (Or.inl ⟨by rfl, ?hyr3x7q23⟩) (by kernel_rfl) (by kernel_rfl) (by assumption) ?restr3x7q23
      case hyr3x7q23 => intro wq hSw; (go_simp); (try with_reducible rfl)
      try simp only [Act.put, List.setIfInBounds_toArray, List.set_cons_zero, List.set_cons_succ]
      refine wpAnyL_take (i := 8) (oi := ⟨some 78, .load 3 (.tmp 77), 3, "bridge.go:36", #[⟨7, .data⟩], none⟩) (v := ?_) rfl (by kernel_rfl) (by kernel_rfl) (by kernel_rfl) (fun _ _ _ h => h) (Or.inl ⟨by rfl, ?hyr3x8q26⟩) (by kernel_rfl) (by kernel_rfl) (by assumption) ?restr3x8q26
      case hyr3x8q26 => intro wq hSw; (have cq := Y1.out wq hSw; go_simp); (try with_reducible rfl)
      try simp only [Act.put, List.setIfInBounds_toArray, List.set_cons_zero, List.set_cons_succ]
      refine wpAnyL_take (i := 9) (oi := ⟨some 79, .fieldAddr 45 (.tmp 4) 0, 0, "bridge.go:36", #[], none⟩) (v := ?_) rfl (by kernel_rfl) (by kernel_rfl) (by kernel_rfl) (fun _ _ _ h => h) (Or.inl ⟨by rfl, ?hyr3x9q29⟩) (by kernel_rfl) (by kernel_rfl) (by assumption) ?restr3x9q29
      case hyr3x9q29 => intro wq hSw; (go_simp); (try with_reducible rfl)
      try simp only [Act.put, List.setIfInBounds_toArray, List.set_cons_zero, List.set_cons_succ]
      refine wpAnyL_take (i := 10) (oi := ⟨some 80, .load 3 (.tmp 79), 3, "bridge.go:36", #[⟨9, .data⟩], none⟩) (v := ?_) rfl (by kernel_rfl) (by kernel_rfl) (by kernel_rfl) (fun _ _ _ h => h) (Or.inl ⟨by rfl, ?hyr3x10q32⟩) (by kernel_rfl) (by kernel_rfl) (by assumption) ?restr3x10q32
      case hyr3x10q32 => intro wq hSw; (have cq := QI.out wq hSw; go_simp); (try with_reducible rfl)
      try simp only [Act.put, List.setIfInBounds_toArray, List.set_cons_zero, List.set_cons_succ]
      refine wpAnyL_ready (rs := [5]) (by kernel_rfl) (by simp) ?_
      refine AllReadyL.cons (o := ⟨some 75, .call { callee := .value (.func 84), args := #[.tmp 70, .tmp 72, .tmp 74], argTypes := #[23, 3, 3] }, 3, "bridge.go:36", #[⟨0, .data⟩, ⟨2, .data⟩, ⟨4, .data⟩], none⟩) rfl (fun K hK => ?_) AllReadyL.nil
      go_simp
      (with_reducible refine (other_p _ _ _ N ny.1 p.id _ (HS.out.nx hHeld) hn).mono ?_)
      rintro e wb ⟨rfl, kk⟩
      replace hHeld := hHeld.nx kk
      clear kk
      refine hK.out _ _ (hHeld) (fun hHeld => ?_)
      clear hK K
      try simp only [Act.put, List.setIfInBounds_toArray, List.set_cons_zero, List.set_cons_succ]
      refine wpAnyL_ready (rs := [11]) (by kernel_rfl) (by simp) ?_
      refine AllReadyL.cons (o := ⟨some 81, .call { callee := .value (.func 84), args := #[.tmp 76, .tmp 78, .tmp 80], argTypes := #[23, 3, 3] }, 3, "bridge.go:36", #[⟨6, .data⟩, ⟨8, .data⟩, ⟨10, .data⟩, ⟨5, .chain⟩], none⟩) rfl (fun K hK => ?_) AllReadyL.nil
      go_simp
      (with_reducible refine (other_p _ _ _ N ny.2.2.1 p.id _ (HS.out.nx hHeld) hn).mono ?_)
      rintro e wc ⟨rfl, kk⟩
      replace hHeld := hHeld.nx kk
      clear kk
      have B6z := B6.out.nx hHeld
      have f0 := B6z.free 0
      have f1 := B6z.free 1
      have r0 := B6z.cell 0 _ rfl
      have r1 := B6z.cell 1 _ rfl
      refine hK.out _ _ (hHeld) (fun hHeld => ?_)
      clear hK K
      try simp only [Act.put, List.setIfInBounds_toArray, List.set_cons_zero, List.set_cons_succ]
      refine wpAnyL_take (i := 12) (oi := ⟨some 82, .build 65 #[(0, .tmp 75), (1, .tmp 81)], 65, "bridge.go:36", #[⟨5, .data⟩, ⟨11, .data⟩], none⟩) (v := ?_) rfl (by kernel_rfl) (by kernel_rfl) (by kernel_rfl) (fun _ _ _ h => h) (Or.inl ⟨by rfl, ?hyr3x12q60⟩) (by kernel_rfl) (by kernel_rfl) (by assumption) ?restr3x12q60
      case hyr3x12q60 => intro wq hSw; (go_simp); (try with_reducible rfl)
      try simp only [Act.put, List.setIfInBounds_toArray, List.set_cons_zero, List.set_cons_succ]
      refine wpAnyL_ready (rs := [13]) (by kernel_rfl) (by simp) ?_
      refine AllReadyL.consL (o := ⟨none, .store 65 (.tmp 6) (.tmp 82), 0, "bridge.go:36", #[⟨12, .data⟩, ⟨11, .chain⟩, ⟨0, .phase⟩, ⟨1, .phase⟩, ⟨2, .phase⟩, ⟨3, .phase⟩, ⟨4, .phase⟩, ⟨5, .phase⟩, ⟨6, .phase⟩, ⟨7, .phase⟩, ⟨8, .phase⟩, ⟨9, .phase⟩, ⟨10, .phase⟩, ⟨11, .phase⟩, ⟨12, .phase⟩], none⟩) rfl (by rfl) (fun K hK => ?_) AllReadyL.nil
      go_simp
      refine hK.out _ _ ?_
      clear hK K
      try simp only [Act.put, List.setIfInBounds_toArray, List.set_cons_zero, List.set_cons_succ]
      refine wpAnyL_done (by kernel_rfl) ?_ _
      have KE := Lib.hid (((K.out.nx hHeld).setNew (p := ⟨g6, 0, none⟩) (.int .i64 (otherN N ny.1 p.id)) zg6).setNew (p := ⟨g6, 1, none⟩) (.int .i64 (otherN N ny.2.2.1 p.id)) zg6)
      clear hDrew hHeld B6z
      go_wp2_with fail
      refine bodyPost_ret (v := .agg #[.int .i64 (otherN N ny.1 p.id), .int .i64 (otherN N ny.2.2.1 p.id)]) (by simp [results, Tryz.results47, go_sem, *]) rfl ⟨by rw [E0.out], KE.out⟩
end Go.Proofs.YtbnbjiddffihoaaGreatDoor

/- The nearest nodes of the package redundant. -/
namespace Go.Proofs.YtbnbjiddffihoaaGreatDoor
open Go.RowKit

def nearF (x : Nd) (i : Nat) (s : Nr) (y : Nd) : Nr :=
  if Op.bytesLess y.key.toList x.key.toList = true then (if bitN y.word i = 0 then (y.id, s.2.1, s.2.2.1, s.2.2.2) else (s.1, y.id, s.2.2.1, s.2.2.2))
  else if y.key.toList = x.key.toList then s
  else if bitN y.word i = 0 then (if s.2.2.1 = 0 then (s.1, s.2.1, y.id, s.2.2.2) else s) else (if s.2.2.2 = 0 then (s.1, s.2.1, s.2.2.1, y.id) else s)
def lastD (d : Int) (l : List Nd) : Int := match l.getLast? with
  | some y => y.id
  | none => d
theorem lastD_cons (d : Int) (y : Nd) (l : List Nd) : lastD d (y :: l) = lastD y.id l := by
  unfold lastD
  cases l with
  | nil => rfl
  | cons z l => rw [List.getLast?_cons_cons]; cases h : (z :: l).getLast? with
    | none => simp at h
    | some u => rfl
theorem lastD_zero (l : List Nd) : lastD 0 l = lastI l := by
  unfold lastD lastI
  cases h : l.getLast? with
  | none => rfl
  | some u => rfl
theorem bit_two (a : Nat) (i : Int) : bitN a i = 0 ∨ bitN a i = 1 := by
  unfold bitN
  split
  · exact .inl rfl
  · omega
theorem near_left {x : Nd} {i : Nat} : ∀ (A : List Nd) (s : Nr), (∀ y ∈ A, Op.bytesLess y.key.toList x.key.toList = true) → A.foldl (nearF x i) s = (lastD s.1 (A.filter (bitIs i 0)), lastD s.2.1 (A.filter (bitIs i 1)), s.2.2.1, s.2.2.2)
  | [], s, _ => rfl
  | y :: A, s, h => by
    rw [List.foldl_cons, near_left A _ (fun z hz => h z (List.mem_cons_of_mem _ hz))]
    unfold nearF
    rw [if_pos (h y List.mem_cons_self)]
    rcases bit_two y.word i with hb | hb
    · rw [if_pos hb, List.filter_cons_of_pos (by simp [bitIs, hb]), List.filter_cons_of_neg (by simp [bitIs, hb]), lastD_cons]
    · rw [if_neg (by omega), List.filter_cons_of_neg (by simp [bitIs, hb]), List.filter_cons_of_pos (by simp [bitIs, hb]), lastD_cons]
theorem headI_cons (y : Nd) (l : List Nd) : headI (y :: l) = y.id := rfl
theorem near_right {x : Nd} {i : Nat} : ∀ (B : List Nd) (s : Nr), (∀ y ∈ B, Op.bytesLess x.key.toList y.key.toList = true ∧ y.id ≠ 0) →
    B.foldl (nearF x i) s = (s.1, s.2.1, if s.2.2.1 = 0 then headI (B.filter (bitIs i 0)) else s.2.2.1, if s.2.2.2 = 0 then headI (B.filter (bitIs i 1)) else s.2.2.2)
  | [], s, _ => by
    obtain ⟨s1, s2, s3, s4⟩ := s
    have : headI ([] : List Nd) = 0 := rfl
    simp only [List.foldl_nil, List.filter_nil, this, Prod.mk.injEq, true_and]
    constructor <;> split <;> simp_all
  | y :: B, s, h => by
    rw [List.foldl_cons, near_right B _ (fun z hz => h z (List.mem_cons_of_mem _ hz))]
    obtain ⟨hl, hid⟩ := h y List.mem_cons_self
    have h1 := bl_asymm hl
    have h2 : ¬ y.key.toList = x.key.toList := by
      intro he
      rw [he, bytesLess_irrefl] at hl
      cases hl
    unfold nearF
    rw [if_neg (by rw [h1]; simp), if_neg h2]
    rcases bit_two y.word i with hb | hb
    · rw [if_pos hb, List.filter_cons_of_pos (by simp [bitIs, hb]), List.filter_cons_of_neg (by simp [bitIs, hb]), headI_cons]
      by_cases h3 : s.2.2.1 = 0
      · rw [if_pos h3]; simp [h3, hid]
      · rw [if_neg h3]; simp [h3]
    · rw [if_neg (by omega), List.filter_cons_of_neg (by simp [bitIs, hb]), List.filter_cons_of_pos (by simp [bitIs, hb]), headI_cons]
      by_cases h3 : s.2.2.2 = 0
      · rw [if_pos h3]; simp [h3, hid]
      · rw [if_neg h3]; simp [h3]
theorem near_fold {N : List Nd} (h0 : checkN N = 0) {x : Nd} {i : Nat} {A B : List Nd} (e : grpS N i x.word = A ++ x :: B) : (grpS N i x.word).foldl (nearF x i) (0, 0, 0, 0) = nearG N x i := by
  rw [nearG_at h0 e]
  have ha := grp_asc h0 (i : Int) x.word
  rw [e] at ha ⊢
  have hp := List.pairwise_append.1 ha
  rw [List.foldl_append, near_left A _ (fun y hy => (hp.2.2 y hy x List.mem_cons_self).1), List.foldl_cons]
  have hs : ∀ s : Nr, nearF x i s x = s := fun s => by unfold nearF; rw [bytesLess_irrefl]; simp
  rw [hs, near_right B _ (fun y hy => ⟨((List.pairwise_cons.1 hp.2.1).1 y hy).1, ?_⟩)]
  · simp only [lastD_zero, if_true]
  · have hm : y ∈ grpS N i x.word := by rw [e]; simp [hy]
    have := (roster_ok h0 y (grp_mem.1 hm).1).2.1
    omega

def NrRel (G : List Nd) (x : Nd) (i g7 : Nat) (w : World) (p : Value) (wr : World) : Prop :=
  ∃ (j : Nat) (s : Nr), j ≤ G.length ∧ p = .int .i64 j ∧ s = (G.take j).foldl (nearF x i) (0, 0, 0, 0) ∧ Blk wr g7 (encNr s) 49 ∧ Exb g7 w wr
theorem nr_snoc {G : List Nd} {x y : Nd} {i j : Nat} (hy : G[j]? = some y) : (G.take (j + 1)).foldl (nearF x i) (0, 0, 0, 0) = nearF x i ((G.take j).foldl (nearF x i) (0, 0, 0, 0)) y := by
  rw [take_snocN G j y hy, List.foldl_append]; rfl
set_option maxRecDepth 100000 in
set_option maxHeartbeats 8000000 in
theorem near_p (a : Option Addr) (n c : Nat) (N : List Nd) (x : Nd) (i : Nat) (w : World) (h : Sl 3 encN w a n (sortN N)) (hn : n ≤ 1000) (h0 : checkN N = 0) (hw : ∀ x ∈ N, x.word < 4294967296) (hx : x ∈ N) (hi : i < 16) (hT : TabG w) :
    Calls Tryz.prog 90 #[.slice a n c, .agg #[.int .i64 x.id, .string x.key, .int .u32 x.word], .int .i64 i] w fun e w' => e = .returned (.agg (encNr (nearG N x i)).toArray) ∧ Ex w w' := by
  have HW := Lib.hid (sort_word hw)
  have hxw := hw x hx
  have EX := Ex.refl w
  have FO : Hid ((grpS N i x.word).foldl (nearF x i) (0, 0, 0, 0) = nearG N x i) := Lib.hid (by
    obtain ⟨A, B, e⟩ := grp_at hx (h := (i : Int)) (by unfold lvlN; simp; omega)
    exact near_fold h0 e)
  have HI : Hid (∀ y ∈ grpS N i x.word, I64 y.id ∧ y.word < 4294967296) := Lib.hid (fun y hy => ⟨(roster_ok h0 y (grp_mem.1 hy).1).1.1, hw y (grp_mem.1 hy).1⟩)
  obtain ⟨g4, hg4⟩ : ∃ g4, g4 = w.heap.size := ⟨_, rfl⟩
  obtain ⟨g6, hg6⟩ : ∃ g6, g6 = (w.heap.size + 1) := ⟨_, rfl⟩
  obtain ⟨g7, hg7⟩ : ∃ g7, g7 = (w.heap.size + 1 + 1) := ⟨_, rfl⟩
  obtain ⟨g8, hg8⟩ : ∃ g8, g8 = (w.heap.size + 1 + 1 + 1) := ⟨_, rfl⟩
  obtain ⟨g9, hg9⟩ : ∃ g9, g9 = (w.heap.size + 1 + 1 + 1 + 1) := ⟨_, rfl⟩
  obtain ⟨w1, hw1⟩ : ∃ w1, w1 = (((((w.alloc (.cells #[.int .i64 x.id, .string x.key, .int .u32 x.word] 57)).alloc (.cells #[.int .i64 0, .int .i64 0, .int .i64 0, .int .i64 0] 49)).alloc (.cells #[.int .i64 0, .int .i64 0, .int .i64 0, .int .i64 0] 49)).alloc (.cells #[.pointer (some ⟨(w.heap.size + 1 + 1), 0, none⟩), .pointer (some ⟨(w.heap.size + 1 + 1), 1, none⟩)] 141)).alloc (.cells #[.pointer (some ⟨(w.heap.size + 1 + 1), 2, none⟩), .pointer (some ⟨(w.heap.size + 1 + 1), 3, none⟩)] 141)) := ⟨_, rfl⟩
  have kk : Ex w w1 := by rw [hw1]; exact ((((((Ex.refl w).alloc (.cells #[.int .i64 x.id, .string x.key, .int .u32 x.word] 57)).alloc (.cells #[.int .i64 0, .int .i64 0, .int .i64 0, .int .i64 0] 49)).alloc (.cells #[.int .i64 0, .int .i64 0, .int .i64 0, .int .i64 0] 49)).alloc (.cells #[.pointer (some ⟨(w.heap.size + 1 + 1), 0, none⟩), .pointer (some ⟨(w.heap.size + 1 + 1), 1, none⟩)] 141)).alloc (.cells #[.pointer (some ⟨(w.heap.size + 1 + 1), 2, none⟩), .pointer (some ⟨(w.heap.size + 1 + 1), 3, none⟩)] 141))
  have B4 : Blk w1 g4 [.int .i64 x.id, .string x.key, .int .u32 x.word] 57 := by rw [hw1]; simp only [hg4, hg6, hg7, hg8, hg9]; have hbk := (((((Blk.new w [.int .i64 x.id, .string x.key, .int .u32 x.word] 57).nx (Ex.new _ (.cells #[.int .i64 0, .int .i64 0, .int .i64 0, .int .i64 0] 49))).nx (Ex.new _ (.cells #[.int .i64 0, .int .i64 0, .int .i64 0, .int .i64 0] 49))).nx (Ex.new _ (.cells #[.pointer (some ⟨(w.heap.size + 1 + 1), 0, none⟩), .pointer (some ⟨(w.heap.size + 1 + 1), 1, none⟩)] 141))).nx (Ex.new _ (.cells #[.pointer (some ⟨(w.heap.size + 1 + 1), 2, none⟩), .pointer (some ⟨(w.heap.size + 1 + 1), 3, none⟩)] 141))); simpa using hbk
  have B6 : Blk w1 g6 [.int .i64 0, .int .i64 0, .int .i64 0, .int .i64 0] 49 := by rw [hw1]; simp only [hg4, hg6, hg7, hg8, hg9]; have hbk := ((((Blk.new (w.alloc (.cells #[.int .i64 x.id, .string x.key, .int .u32 x.word] 57)) [.int .i64 0, .int .i64 0, .int .i64 0, .int .i64 0] 49).nx (Ex.new _ (.cells #[.int .i64 0, .int .i64 0, .int .i64 0, .int .i64 0] 49))).nx (Ex.new _ (.cells #[.pointer (some ⟨(w.heap.size + 1 + 1), 0, none⟩), .pointer (some ⟨(w.heap.size + 1 + 1), 1, none⟩)] 141))).nx (Ex.new _ (.cells #[.pointer (some ⟨(w.heap.size + 1 + 1), 2, none⟩), .pointer (some ⟨(w.heap.size + 1 + 1), 3, none⟩)] 141))); simpa using hbk
  have B7 : Blk w1 g7 [.int .i64 0, .int .i64 0, .int .i64 0, .int .i64 0] 49 := by rw [hw1]; simp only [hg4, hg6, hg7, hg8, hg9]; have hbk := (((Blk.new ((w.alloc (.cells #[.int .i64 x.id, .string x.key, .int .u32 x.word] 57)).alloc (.cells #[.int .i64 0, .int .i64 0, .int .i64 0, .int .i64 0] 49)) [.int .i64 0, .int .i64 0, .int .i64 0, .int .i64 0] 49).nx (Ex.new _ (.cells #[.pointer (some ⟨(w.heap.size + 1 + 1), 0, none⟩), .pointer (some ⟨(w.heap.size + 1 + 1), 1, none⟩)] 141))).nx (Ex.new _ (.cells #[.pointer (some ⟨(w.heap.size + 1 + 1), 2, none⟩), .pointer (some ⟨(w.heap.size + 1 + 1), 3, none⟩)] 141))); simpa using hbk
  have B8 : Blk w1 g8 [.pointer (some ⟨g7, 0, none⟩), .pointer (some ⟨g7, 1, none⟩)] 141 := by rw [hw1]; simp only [hg4, hg6, hg7, hg8, hg9]; have hbk := ((Blk.new (((w.alloc (.cells #[.int .i64 x.id, .string x.key, .int .u32 x.word] 57)).alloc (.cells #[.int .i64 0, .int .i64 0, .int .i64 0, .int .i64 0] 49)).alloc (.cells #[.int .i64 0, .int .i64 0, .int .i64 0, .int .i64 0] 49)) [.pointer (some ⟨(w.heap.size + 1 + 1), 0, none⟩), .pointer (some ⟨(w.heap.size + 1 + 1), 1, none⟩)] 141).nx (Ex.new _ (.cells #[.pointer (some ⟨(w.heap.size + 1 + 1), 2, none⟩), .pointer (some ⟨(w.heap.size + 1 + 1), 3, none⟩)] 141))); simpa using hbk
  have B9 : Blk w1 g9 [.pointer (some ⟨g7, 2, none⟩), .pointer (some ⟨g7, 3, none⟩)] 141 := by rw [hw1]; simp only [hg4, hg6, hg7, hg8, hg9]; have hbk := (Blk.new ((((w.alloc (.cells #[.int .i64 x.id, .string x.key, .int .u32 x.word] 57)).alloc (.cells #[.int .i64 0, .int .i64 0, .int .i64 0, .int .i64 0] 49)).alloc (.cells #[.int .i64 0, .int .i64 0, .int .i64 0, .int .i64 0] 49)).alloc (.cells #[.pointer (some ⟨(w.heap.size + 1 + 1), 0, none⟩), .pointer (some ⟨(w.heap.size + 1 + 1), 1, none⟩)] 141)) [.pointer (some ⟨(w.heap.size + 1 + 1), 2, none⟩), .pointer (some ⟨(w.heap.size + 1 + 1), 3, none⟩)] 141); simpa using hbk
  have Hw1 := Lib.hid hw1
  have Hg4 := Lib.hid hg4
  have Hg6 := Lib.hid hg6
  have Hg7 := Lib.hid hg7
  have Hg8 := Lib.hid hg8
  have Hg9 := Lib.hid hg9
  replace h := h.nx kk
  replace hT := hT.nx kk
  replace EX := EX.nx kk
  have n47 : g4 ≠ g7 := by omega
  have n67 : g6 ≠ g7 := by omega
  have n87 : g8 ≠ g7 := by omega
  have n97 : g9 ≠ g7 := by omega
  have hw7 : w.heap.size ≤ g7 := by omega
  have hw6 : w.heap.size ≤ g6 := by omega
  clear kk hw hx h0 hw1 hg4 hg6 hg7 hg8 hg9
  go_enter Tryz.func90, Tryz.ntmps90
  go_upto_region 4 with fail
  rw [← Hw1.out, ← Hg9.out, ← Hg8.out, ← Hg7.out, ← Hg6.out, ← Hg4.out]
  clear Hw1 Hg9 Hg8 Hg7 Hg6 Hg4
  have hb7 := B7.lt
  have q0 := B4.cell 0 _ rfl
  have q1 := B4.cell 1 _ rfl
  have q2 := B4.cell 2 _ rfl
  go_wp2_with fail
  (with_reducible refine (group_q _ _ _ (sortN N) i x.word _ h (by omega) HW.out hxw hT).mono ?_)
  rintro e w6 ⟨a3, c3, rfl, r3, kk⟩
  replace EX := EX.nx kk
  replace B4 := B4.nx kk
  replace B6 := B6.nx kk
  replace B7 := B7.nx kk
  replace B8 := B8.nx kk
  replace B9 := B9.nx kk
  clear kk
  have hG : groupN (sortN N) i x.word = grpS N i x.word := rfl
  have hgl : (groupN (sortN N) i x.word).length ≤ 1000 := by have := groupN_length (sortN N) i x.word; have := h.len; omega
  rw [hG] at r3 hgl ⊢
  generalize grpS N i x.word = G at r3 hgl FO HI ⊢
  have G3 := Lib.hid (r3.slb hb7)
  replace EX := Lib.hid EX
  replace B4 := Lib.hid B4
  replace B6 := Lib.hid B6
  replace B8 := Lib.hid B8
  replace B9 := Lib.hid B9
  clear r3 hG h hT q0 q1 q2 HW
  go_wp2_with fail
  go_loopw [25] (fun p wr => NrRel G x i g7 w6 p wr) (fun p _ => G.length - (intOf p).toNat)
  case atStart => exact ⟨0, (0, 0, 0, 0), by omega, rfl, rfl, B7, Exb.refl _ _⟩
  case round =>
    clear B7
    obtain ⟨j, s, hj, rfl, hs, B7, kw⟩ := hrel
    obtain ⟨wo, rfl⟩ : ∃ wo : World, wo = wr := ⟨_, rfl⟩
    by_cases hjl : j < G.length
    · obtain ⟨x3, o3, y, rfl, hx3, hy, hc3⟩ := (G3.out.nxb kw).sl.at (j := j) hjl
      have e0 : wo.cell? ⟨x3, o3 + j * 3, none⟩ = some (.int .i64 y.id) := hc3 0 _ rfl
      have e1 : wo.cell? ⟨x3, o3 + j * 3 + 1, none⟩ = some (.string y.key) := hc3 1 _ rfl
      have e2 : wo.cell? ⟨x3, o3 + j * 3 + 1 + 1, none⟩ = some (.int .u32 y.word) := by simpa [Nat.add_assoc] using hc3 2 _ rfl
      have SN := Lib.hid (nr_snoc (x := x) (i := i) hy)
      rw [← hs] at SN
      obtain ⟨hyi, hyw⟩ := HI.out y (List.mem_of_getElem? hy)
      have hg7w := B7.lt
      have Q8 := B8.out.nxb n87 kw
      have Q9 := B9.out.nxb n97 kw
      have Q4 := B4.out.nxb n47 kw
      have KV := Lib.hid kw
      clear hc3 hy kw hs
      have B11 := Blk.new wo [.int .i64 y.id, .string y.key, .int .u32 y.word] 57
      have kk := Ex.new wo (.cells #[.int .i64 y.id, .string y.key, .int .u32 y.word] 57)
      obtain ⟨w8, hw8⟩ : ∃ w8, w8 = wo.alloc (.cells #[.int .i64 y.id, .string y.key, .int .u32 y.word] 57) := ⟨_, rfl⟩
      obtain ⟨g11, hg11⟩ : ∃ g11, g11 = wo.heap.size := ⟨_, rfl⟩
      replace B11 : Blk w8 g11 [.int .i64 y.id, .string y.key, .int .u32 y.word] 57 := by rw [hw8, hg11]; exact B11
      rw [← hw8] at kk
      have Hw8 := Lib.hid hw8
      have Hg11 := Lib.hid hg11
      replace B7 := B7.nx kk
      replace Q8 := Q8.nx kk
      replace Q9 := Q9.nx kk
      replace Q4 := Q4.nx kk
      replace KV := Lib.hid (KV.out.nxb (kk.b g7))
      have hn11 : ¬ g11 = g7 := by omega
      clear kk hw8 hg11
      go_upto_region 7 with fail
      rw [← Hg11.out, ← Hw8.out]
      clear Hg11 Hw8
      have p0 := B11.cell 0 _ rfl
      have p1 := B11.cell 1 _ rfl
      have p2 := B11.cell 2 _ rfl
      have q1 := Q4.cell 1 _ rfl
      have l0 := Q8.cell 0 _ rfl
      have l1 := Q8.cell 1 _ rfl
      have m0 := Q9.cell 0 _ rfl
      have m1 := Q9.cell 1 _ rfl
      have r0 := B7.cell 0 _ rfl
      have r1 := B7.cell 1 _ rfl
      have r2 := B7.cell 2 _ rfl
      have r3 := B7.cell 3 _ rfl
      have f0 := B7.free 0
      have f1 := B7.free 1
      have f2 := B7.free 2
      have f3 := B7.free 3
      have HB := Lib.hid B7
      clear e0 e1 e2 B7 B11 Q8 Q9 Q4
      go_wp2_with fail
      (with_reducible refine (bit_p y.word i _ hyw (by omega) (by omega)).mono ?_)
      rintro e w9 ⟨rfl, rfl⟩
      have hb2 := bit_two y.word i
      have HBT : Hid (nearF x i s y = if Op.bytesLess y.key.toList x.key.toList = true then (if bitN y.word i = 0 then (y.id, s.2.1, s.2.2.1, s.2.2.2) else (s.1, y.id, s.2.2.1, s.2.2.2))
          else if y.key.toList = x.key.toList then s else if bitN y.word i = 0 then (if s.2.2.1 = 0 then (s.1, s.2.1, y.id, s.2.2.2) else s) else (if s.2.2.2 = 0 then (s.1, s.2.1, s.2.2.1, y.id) else s)) := Lib.hid rfl
      generalize bitN y.word i = bt at hb2 HBT ⊢
      have RR : Hid (∀ (s' : Nr) wx, nearF x i s y = s' → Blk wx g7 (encNr s') 49 → Exb g7 w6 wx → NrRel G x i g7 w6 (.int .i64 ((j : Int) + 1)) wx) := Lib.hid (fun s' wx h1 h2 h3 => ⟨j + 1, s', by omega, by go_num, by rw [SN.out, h1], h2, h3⟩)
      cases hle : Op.bytesLess y.key.toList x.key.toList with
      | true =>
        rcases hb2 with rfl | rfl
        · have NF : Hid (nearF x i s y = (y.id, s.2.1, s.2.2.1, s.2.2.2)) := Lib.hid (by rw [HBT.out, if_pos hle]; rfl)
          clear HBT
          go_wp2_with fail
          go_region
          go_wp2_with fail
          exact ⟨RR.out _ _ NF.out (HB.out.set 0 _) (KV.out.drew.setB (p := ⟨g7, 0, none⟩) _ rfl), by simp [intOf]; omega⟩
        · have NF : Hid (nearF x i s y = (s.1, y.id, s.2.2.1, s.2.2.2)) := Lib.hid (by rw [HBT.out, if_pos hle]; rfl)
          clear HBT
          go_wp2_with fail
          go_region
          go_wp2_with fail
          exact ⟨RR.out _ _ NF.out (HB.out.set 1 _) (KV.out.drew.setB (p := ⟨g7, 1, none⟩) _ rfl), by simp [intOf]; omega⟩
      | false =>
        by_cases hke : y.key.toList = x.key.toList
        · have hkb : (y.key.toList == x.key.toList) = true := by rw [hke]; exact beq_self_eq_true _
          have NF := Lib.hid (RR.out s w8 (by rw [HBT.out, if_neg (by rw [hle]; simp), if_pos hke]) HB.out KV.out)
          clear HBT hke
          go_wp2_with fail
          exact ⟨NF.out, by simp [intOf]; omega⟩
        · have hkb : (y.key.toList == x.key.toList) = false := by rw [beq_eq_false_iff_ne]; exact hke
          have HN : Hid (nearF x i s y = if bt = 0 then (if s.2.2.1 = 0 then (s.1, s.2.1, y.id, s.2.2.2) else s) else (if s.2.2.2 = 0 then (s.1, s.2.1, s.2.2.1, y.id) else s)) := Lib.hid (by rw [HBT.out, if_neg (by rw [hle]; simp), if_neg hke])
          clear HBT hke
          rcases hb2 with rfl | rfl
          · by_cases hz : s.2.2.1 = 0
            · have NF : Hid (nearF x i s y = (s.1, s.2.1, y.id, s.2.2.2)) := Lib.hid (by rw [HN.out, if_pos rfl, if_pos hz])
              clear HN
              go_wp2_with fail
              go_region
              go_wp2_with fail
              exact ⟨RR.out _ _ NF.out (HB.out.set 2 _) (KV.out.drew.setB (p := ⟨g7, 2, none⟩) _ rfl), by simp [intOf]; omega⟩
            · have hzb : (s.2.2.1 == 0) = false := by simpa using hz
              have NF := Lib.hid (RR.out s w8 (by rw [HN.out, if_pos rfl, if_neg hz]) HB.out KV.out)
              clear HN hz
              go_wp2_with fail
              exact ⟨NF.out, by simp [intOf]; omega⟩
          · by_cases hz : s.2.2.2 = 0
            · have NF : Hid (nearF x i s y = (s.1, s.2.1, s.2.2.1, y.id)) := Lib.hid (by rw [HN.out, if_neg (by omega), if_pos hz])
              clear HN
              go_wp2_with fail
              go_region
              go_wp2_with fail
              exact ⟨RR.out _ _ NF.out (HB.out.set 3 _) (KV.out.drew.setB (p := ⟨g7, 3, none⟩) _ rfl), by simp [intOf]; omega⟩
            · have hzb : (s.2.2.2 == 0) = false := by simpa using hz
              have NF := Lib.hid (RR.out s w8 (by rw [HN.out, if_neg (by omega), if_neg hz]) HB.out KV.out)
              clear HN hz
              go_wp2_with fail
              exact ⟨NF.out, by simp [intOf]; omega⟩
    · obtain rfl : j = G.length := by omega
      have FS : Hid (s = nearG N x i) := Lib.hid (by rw [← FO.out, hs, List.take_of_length_le (Nat.le_refl _)])
      have r0 := B7.cell 0 _ rfl
      have r1 := B7.cell 1 _ rfl
      have r2 := B7.cell 2 _ rfl
      have r3 := B7.cell 3 _ rfl
      have Q6 := B6.out.nxb n67 kw
      have z0 := Q6.cell 0 _ rfl
      have z1 := Q6.cell 1 _ rfl
      have z2 := Q6.cell 2 _ rfl
      have z3 := Q6.cell 3 _ rfl
      have f0 := Q6.free 0
      have f1 := Q6.free 1
      have f2 := Q6.free 2
      have f3 := Q6.free 3
      have EF : Ex w wo := (Exl.nxb (b := g7) (w := w) ⟨EX.out, hw7⟩ kw).1
      have KE := Lib.hid ((((EF.setNew (p := ⟨g6, 0, none⟩) (.int .i64 s.1) hw6).setNew (p := ⟨g6, 1, none⟩) (.int .i64 s.2.1) hw6).setNew (p := ⟨g6, 2, none⟩) (.int .i64 s.2.2.1) hw6).setNew (p := ⟨g6, 3, none⟩) (.int .i64 s.2.2.2) hw6)
      clear hj hjl kw hs B7 Q6 EF
      go_wp2_with fail
      refine bodyPost_ret (v := .agg #[.int .i64 s.1, .int .i64 s.2.1, .int .i64 s.2.2.1, .int .i64 s.2.2.2]) (by simp [results, Tryz.results90, go_sem, *]) rfl ⟨by rw [← FS.out]; rfl, KE.out⟩
end Go.Proofs.YtbnbjiddffihoaaGreatDoor

/- Refs, Contacts and nearest of the reference. -/
namespace Go.Proofs.YtbnbjiddffihoaaGreatDoor
open Go.RowKit

/-- behind w6 a row of the call's own (base β) has grown, which does not lie among the blocks from lo to hi -/
def Acc (β lo hi : Nat) (w6 wr : World) (o : Value) : Prop := Chg (fun k => k < hi ∧ (k < β ∨ lo ≤ k)) w6 wr ∧ hi ≤ wr.heap.size ∧ ∀ g, o.ownBlock = some g → g < lo ∨ hi ≤ g
theorem Acc.start {β lo hi : Nat} {w : World} {o : Value} (hs : hi ≤ w.heap.size) (ho : ∀ g, o.ownBlock = some g → g < lo ∨ hi ≤ g) : Acc β lo hi w w o := ⟨Chg.refl _ _, hs, ho⟩
theorem Acc.step {β lo hi : Nat} {w6 wr w9 : World} {o o' : Value} (h : Acc β lo hi w6 wr o) (hb : ∀ g, o.ownBlock = some g → β ≤ g) (k : Chg (fun k => k < wr.heap.size ∧ ¬ o.ownBlock = some k) wr w9) (ho : o'.ownBlock = o.ownBlock ∨ ∀ g, o'.ownBlock = some g → wr.heap.size ≤ g) : Acc β lo hi w6 w9 o' := by
  refine ⟨h.1.trans (k.mono fun x hx => ⟨Nat.lt_of_lt_of_le hx.1 h.2.1, fun hv => ?_⟩), Nat.le_trans h.2.1 k.size, fun g hg => ?_⟩
  · have h1 := hb x hv
    have h2 := h.2.2 x hv
    have h3 := hx.2
    have h4 := hx.1
    omega
  · rcases ho with h1 | h1
    · exact h.2.2 g (by rw [← h1]; exact hg)
    · have := h1 g hg; have := h.2.1; omega
theorem Acc.nx {β lo hi : Nat} {w6 wr w9 : World} {o : Value} (h : Acc β lo hi w6 wr o) (k : Ex wr w9) : Acc β lo hi w6 w9 o :=
  ⟨h.1.trans (Chg.mono k fun x hx => Nat.lt_of_lt_of_le hx.1 h.2.1), Nat.le_trans h.2.1 k.size, h.2.2⟩
theorem Acc.sl {α : Type} {sz n : Nat} {enc : α → List Value} {a : Option Addr} {l : List α} {β : Nat} {w5 w6 wr : World} {o : Value} (h : Acc β w5.heap.size w6.heap.size w6 wr o) (s : Slf sz enc w5 w6 a n l) : Sl sz enc wr a n l :=
  (Rd.chg s h.1 (fun _ hk => ⟨hk.2, .inr hk.1⟩)).mono fun _ hk => Nat.lt_of_lt_of_le hk.2 h.2.1
theorem Acc.ex {w2 w6 wr : World} {lo : Nat} {o : Value} (h : Acc w2.heap.size lo w6.heap.size w6 wr o) (k : Ex w2 w6) : Ex w2 wr :=
  Chg.trans k (Chg.mono h.1 fun _ hk => ⟨Nat.lt_of_lt_of_le hk k.size, .inl hk⟩)
theorem OwnW.blk_lt {α : Type} {sz e base : Nat} {enc : α → List Value} {w : World} {v : Value} {l : List α} (h : OwnW sz enc e base w v l) {g : Nat} (hg : v.ownBlock = some g) : g < w.heap.size := by
  obtain ⟨_, cur, hh⟩ := h.blk hg
  exact heap_lt hh
def CxRel (N : List Nd) (id width : Int) (hh : Nat) (w : World) (o i : Value) (wr : World) : Prop :=
  ∃ j : Nat, j ≤ hh ∧ i = .int .i64 j ∧ OwnW 1 encI 3 w.heap.size wr o ((List.range j).flatMap fun h : Nat => besideN (throughN N id h).1 (throughN N id h).2.1 width) ∧ Ex w wr
def CyRel (G : List Nd) (k : Nat) (m : Int) (C : List Int) (β lo : Nat) (w : World) (o i : Value) (wr : World) : Prop :=
  ∃ j : Nat, j ≤ G.length ∧ i = .int .i64 j ∧ OwnW 1 encI 3 β wr o (C ++ besP G k m j) ∧ Acc β lo w.heap.size w wr o
theorem through_le (N : List Nd) (id : Int) (h : Int) : (throughN N id h).1.length ≤ N.length ∧ (throughN N id h).2.1 ≤ N.length := by
  unfold throughN
  split
  · rename_i hc
    have := groupN_length (sortN N) h (findN N id).1.word
    rw [sortN_length] at this
    unfold thrG at hc ⊢
    exact ⟨this, by show idxI _ id ≤ _; omega⟩
  · exact ⟨Nat.zero_le _, Nat.zero_le _⟩
theorem besF_len (N : List Nd) (id width : Int) (j : Nat) : ((List.range j).flatMap fun h : Nat => besideN (throughN N id h).1 (throughN N id h).2.1 width).length ≤ j * N.length := by
  induction j with
  | zero => simp
  | succ j ih =>
    rw [List.range_succ, List.flatMap_append, List.length_append, Nat.succ_mul]
    have h1 := beside_le (throughN N id j).1 (throughN N id j).2.1 width
    have h2 := (through_le N id j).1
    simp only [List.flatMap_cons, List.flatMap_nil, List.append_nil]
    omega
set_option maxRecDepth 100000 in
set_option maxHeartbeats 8000000 in
theorem contacts_r (a : Option Addr) (n c : Nat) (N : List Nd) (id width height : Int) (w : World) (h : Sl 3 encN w a n N) (hn : n ≤ 1000) (hw : ∀ x ∈ N, x.word < 4294967296) (hw2 : width ≤ 9223372036854775807) :
    Calls Tryz.prog 91 #[.slice a n c, .int .i64 id, .int .i64 width, .int .i64 height] w (OiPost (contactsN N id width height) w) := by
  have HL := Lib.hid h.len
  have hNn : N.length ≤ 1000 := by have := h.len; omega
  have HW := Lib.hid hw
  have EX := Ex.refl w
  clear hw
  go_enter Tryz.func91, Tryz.ntmps91
  have NO : Hid (width < 1 ∨ lvlN height = false ∨ checkN N ≠ 0 → ∀ wx, Ex w wx → OiPost (contactsN N id width height) w (.returned (.slice none 0 0)) wx) := Lib.hid (fun hh wx kx => by unfold contactsN; rw [if_pos hh]; exact ⟨_, rfl, OwnL.nil _ _ _ _ _, kx⟩)
  by_cases hw1 : width < 1
  · have FI := Lib.hid (NO.out (.inl hw1) _ EX)
    clear h NO EX
    go_wp2_with fail
    go_ret
    exact FI.out
  go_wp2_with fail
  (with_reducible refine (level_r height _).mono ?_)
  rintro e w1 ⟨rfl, rfl⟩
  cases hlv : lvlN height with
  | false =>
    have FI := Lib.hid (NO.out (.inr (.inl hlv)) _ EX)
    clear h NO EX hlv
    go_wp2_with fail
    go_ret
    exact FI.out
  | true =>
    go_wp2_with fail
    (with_reducible refine (is_r _ _ _ _ _ h (by omega)).mono ?_)
    rintro e w2 ⟨rfl, kk⟩
    replace h := h.nx kk
    replace EX := EX.nx kk
    clear kk
    by_cases hck : checkN N = 0
    case neg =>
      have d1 : (checkN N == 0) = false := by simpa using hck
      have FI := Lib.hid (NO.out (.inr (.inr hck)) _ EX)
      rw [d1]
      clear h NO EX hlv hck d1
      go_wp2_with fail
      go_ret
      exact FI.out
    have d1 : (checkN N == 0) = true := by simpa using hck
    rw [d1]
    obtain ⟨hh, rfl⟩ := Int.eq_ofNat_of_zero_le (show 0 ≤ height by unfold lvlN at hlv; simp at hlv; omega)
    have hh16 : hh ≤ 16 := by unfold lvlN at hlv; simp at hlv; omega
    have FIN : Hid (contactsN N id width hh = ordN N ((List.range (hh + 1)).flatMap fun h : Nat => besideN (throughN N id h).1 (throughN N id h).2.1 width) id) := Lib.hid (by
      unfold contactsN
      rw [if_neg (by
        rintro (h | h | h)
        · omega
        · rw [hlv] at h; cases h
        · exact h hck)]
      rfl)
    clear hck d1 hlv NO
    have HS := Lib.hid h
    have EX := Lib.hid EX
    clear h
    go_wp2_with fail
    go_loopw [9, 10] (fun o i wr => CxRel N id width (hh + 1) w2 o i wr) (fun _ i _ => hh + 1 - (intOf i).toNat)
    case atStart => exact ⟨0, by omega, rfl, OwnW.nil _ _ _ _ _, Ex.refl _⟩
    case round =>
      obtain ⟨i, hi, rfl, own, kw⟩ := hrel
      obtain ⟨wo, rfl⟩ : ∃ wo : World, wo = wr := ⟨_, rfl⟩
      by_cases hlt : i < hh + 1
      · have SC := Lib.hid (besF_len N id width (i + 1))
        have SS : Hid (((List.range (i + 1)).flatMap fun h : Nat => besideN (throughN N id h).1 (throughN N id h).2.1 width) = ((List.range i).flatMap fun h : Nat => besideN (throughN N id h).1 (throughN N id h).2.1 width) ++ besideN (throughN N id i).1 (throughN N id i).2.1 width) := Lib.hid (by
          rw [List.range_succ, List.flatMap_append]; simp)
        have cl : ((List.range i).flatMap fun h : Nat => besideN (throughN N id h).1 (throughN N id h).2.1 width).length ≤ 17 * 1000 := Nat.le_trans (besF_len N id width i) (Nat.mul_le_mul (by omega) hNn)
        generalize ((List.range i).flatMap fun h : Nat => besideN (throughN N id h).1 (throughN N id h).2.1 width) = C at own SS cl
        have KW := Lib.hid kw
        have hz := kw.size
        have di : (i : Int) ≤ (hh : Int) := by omega
        have BLO := Lib.hid (fun g hg => own.blk_lt (g := g) hg)
        have hzo := kw.size
        clear SC kw
        go_wp2_with fail
        (with_reducible refine (through_f _ _ _ N id i _ (HS.out.nx KW.out) hn HW.out).mono ?_)
        rintro e w6 ⟨a3, c3, rfl, G3, kk⟩
        replace own := own.nx kk
        obtain ⟨tl1, tl2⟩ := through_le N id i
        generalize hr : throughN N id i = r at G3 SS tl1 tl2 ⊢
        obtain ⟨G, k, okr⟩ := r
        simp only at G3 SS tl1 tl2 ⊢
        have G3 := Lib.hid G3
        replace KW := Lib.hid (KW.out.nx kk)
        have hz6 := KW.out.size
        have A0 := Lib.hid (Acc.start (β := w2.heap.size) (lo := wo.heap.size) (Nat.le_refl w6.heap.size) (fun g hg => .inl (BLO.out g hg)))
        clear kk hr BLO
        go_wp2_with fail
        go_loopw [9, 14] (fun o i wr => CyRel G k width C w2.heap.size wo.heap.size w6 o i wr) (fun _ i _ => G.length - (intOf i).toNat)
        case atStart => exact ⟨0, by omega, rfl, by simpa [besP] using own, A0.out⟩
        case round =>
          clear own A0
          obtain ⟨j, hj, rfl, own, ac⟩ := hrel
          obtain ⟨wp, rfl⟩ : ∃ wp : World, wp = wr := ⟨_, rfl⟩
          by_cases hjl : j < G.length
          · obtain ⟨x3, o3, y, rfl, hx3, hy, hc3⟩ := (ac.sl G3.out).at (j := j) hjl
            have e0 : wp.cell? ⟨x3, o3 + j * 3, none⟩ = some (.int .i64 y.id) := hc3 0 _ rfl
            have SN := Lib.hid (besP_snoc (k := k) (m := width) hy)
            have bl := besP_len G k width j
            have zb := (ac.ex KW.out).size
            have AC := Lib.hid ac
            clear hc3 hy ac
            generalize besP G k width j = R at own SN bl
            have OWN := Lib.hid own
            clear own
            by_cases hp : j ≠ k ∧ (j : Int) ≥ k - width ∧ (j : Int) ≤ k + width
            · have SN : Hid (besP G k width (j + 1) = R ++ [y.id]) := Lib.hid (by rw [SN.out, if_pos hp])
              have hl7 : (C ++ R).length ≤ 1000000 := by rw [List.length_append]; omega
              generalize y.id = yi at SN e0
              have kl := Ex.new wp (.cells #[.int .i64 yi] 3)
              have own7 := OWN.out.nx kl
              have zc := Nat.le_trans zb kl.size
              have hne : j ≠ k := hp.1
              have g1 : (k : Int) - j ≤ width := by omega
              have g2 : (j : Int) - k ≤ width := by omega
              rcases Nat.lt_or_ge j k with hlt | hge
              · have d2 : (j : Int) < (k : Int) := by omega
                clear hp hne
                go_wp2_with (at_builtin; (refine wpList_append_W (enc := encI) _ rfl _ _ 22 rfl w2.heap.size 3 (.int .i64 0) 1 8 Tryz.underlying22 Tryz.infoI6 rfl (by omega) (by omega) _ _ own7 rfl _ 1 1 [yi] (Sl.lit _ rfl rfl (fun _ => rfl) rfl) (fun _ => rfl) (by simp [encI, Value.oneCell']) rfl hl7 (by omega) zc ?_); intro v6 w9 own9 ch0 ch1 hv)
                exact ⟨⟨j + 1, by omega, by go_num, by rw [SN.out, ← List.append_assoc]; exact own9, (AC.out.nx kl).step (fun g hg => (own7.blk hg).1) ch0 hv⟩, by simp [intOf]; omega⟩
              · have d2 : ¬ (j : Int) < (k : Int) := by omega
                have d3 : (j : Int) > (k : Int) := by omega
                clear hp hne
                go_wp2_with (at_builtin; (refine wpList_append_W (enc := encI) _ rfl _ _ 22 rfl w2.heap.size 3 (.int .i64 0) 1 8 Tryz.underlying22 Tryz.infoI6 rfl (by omega) (by omega) _ _ own7 rfl _ 1 1 [yi] (Sl.lit _ rfl rfl (fun _ => rfl) rfl) (fun _ => rfl) (by simp [encI, Value.oneCell']) rfl hl7 (by omega) zc ?_); intro v6 w9 own9 ch0 ch1 hv)
                exact ⟨⟨j + 1, by omega, by go_num, by rw [SN.out, ← List.append_assoc]; exact own9, (AC.out.nx kl).step (fun g hg => (own7.blk hg).1) ch0 hv⟩, by simp [intOf]; omega⟩
            · have SN : Hid (besP G k width (j + 1) = R) := Lib.hid (by rw [SN.out, if_neg hp, List.append_nil])
              have RR := Lib.hid (show CyRel G k width C w2.heap.size wo.heap.size w6 u9 (.int .i64 ((j : Int) + 1)) wp from ⟨j + 1, by omega, by go_num, by rw [SN.out]; exact OWN.out, AC.out⟩)
              rcases Nat.lt_trichotomy j k with hlt | heq | hgt
              · have d2 : (j : Int) < (k : Int) := by omega
                have d3 : ¬ (j : Int) > (k : Int) := by omega
                have g1 : ¬ (k : Int) - j ≤ width := by omega
                clear hp
                go_wp2_with fail
                exact ⟨RR.out, by simp [intOf]; omega⟩
              · have d2 : ¬ (j : Int) < (k : Int) := by omega
                have d3 : ¬ (j : Int) > (k : Int) := by omega
                clear hp heq
                go_wp2_with fail
                exact ⟨RR.out, by simp [intOf]; omega⟩
              · have d2 : ¬ (j : Int) < (k : Int) := by omega
                have d3 : (j : Int) > (k : Int) := by omega
                have g1 : ¬ (j : Int) - k ≤ width := by omega
                clear hp
                go_wp2_with fail
                exact ⟨RR.out, by simp [intOf]; omega⟩
          · obtain rfl : j = G.length := by omega
            have KV := ac.ex KW.out
            have RR := Lib.hid (show CxRel N id width (hh + 1) w2 u9 (.int .i64 ((i : Int) + 1)) wp from ⟨i + 1, by omega, by go_num, by rw [SS.out, ← besP_all]; exact own, KV⟩)
            clear own ac KV
            go_wp2_with fail
            exact ⟨RR.out, by simp [intOf]; omega⟩
      · obtain rfl : i = hh + 1 := by omega
        have hgo : ¬ ((hh + 1 : Nat) : Int) ≤ (hh : Int) := by omega
        have cl : ((List.range (hh + 1)).flatMap fun h : Nat => besideN (throughN N id h).1 (throughN N id h).2.1 width).length ≤ 17 * 1000 := Nat.le_trans (besF_len N id width (hh + 1)) (Nat.mul_le_mul (by omega) hNn)
        generalize ((List.range (hh + 1)).flatMap fun h : Nat => besideN (throughN N id h).1 (throughN N id h).2.1 width) = C at own FIN cl
        obtain ⟨a4, c4, rfl, r4, _, _, _, _⟩ := own.rd (fun _ => rfl)
        have S4 : Sl 1 encI wo a4 C.length C := Rd.mono r4 (fun _ hk => hk.2)
        have EF := Lib.hid (EX.out.nx kw)
        clear own r4 hi hlt
        go_wp2_with fail
        (with_reducible refine (ordered_r _ _ _ N _ _ _ C id _ (HS.out.nx kw) hn S4 (by omega)).mono ?_)
        rintro e wz ⟨vz, rfl, oz, kk⟩
        have OZ := Lib.hid (oz.base EF.out.size)
        have KZ := Lib.hid (EF.out.nx kk)
        clear oz kk S4 kw
        go_wp2_with fail
        go_ret
        exact ⟨_, rfl, by rw [FIN.out]; exact OZ.out, KZ.out⟩
end Go.Proofs.YtbnbjiddffihoaaGreatDoor

/- nearest of the reference (printed by gen_nst.py). -/
namespace Go.Proofs.YtbnbjiddffihoaaGreatDoor
open Go.RowKit

def nearLf (i : Nat) (y : Nd) (s : Nr) : Nr :=
  if bitN y.word i = 0 then (if s.1 = 0 then (y.id, s.2.1, s.2.2.1, s.2.2.2) else s) else (if s.2.1 = 0 then (s.1, y.id, s.2.2.1, s.2.2.2) else s)
def nearRf (i : Nat) (y : Nd) (s : Nr) : Nr :=
  if bitN y.word i = 0 then (if s.2.2.1 = 0 then (s.1, s.2.1, y.id, s.2.2.2) else s) else (if s.2.2.2 = 0 then (s.1, s.2.1, s.2.2.1, y.id) else s)
theorem lastI_cons (y : Nd) (l : List Nd) (hid : ∀ z ∈ y :: l, z.id ≠ 0) : lastI (y :: l) = if lastI l = 0 then y.id else lastI l := by
  cases l with
  | nil => rfl
  | cons z l =>
    have h1 : lastI (y :: z :: l) = lastI (z :: l) := by unfold lastI; rw [List.getLast?_cons_cons]
    have h2 : lastI (z :: l) ≠ 0 := by
      unfold lastI
      have := List.getLast?_eq_some_getLast (l := z :: l) (by simp)
      rw [this]
      exact hid _ (List.mem_cons_of_mem _ (List.getLast_mem _))
    rw [h1, if_neg h2]
theorem nearL_fold {i : Nat} : ∀ A : List Nd, (∀ y ∈ A, y.id ≠ 0) → A.foldr (nearLf i) (0, 0, 0, 0) = (lastI (A.filter (bitIs i 0)), lastI (A.filter (bitIs i 1)), 0, 0)
  | [], _ => rfl
  | y :: A, h => by
    rw [List.foldr_cons, nearL_fold A (fun z hz => h z (List.mem_cons_of_mem _ hz))]
    have hf : ∀ b, ∀ z ∈ y :: A.filter (bitIs i b), z.id ≠ 0 := fun b z hz => by
      rcases List.mem_cons.1 hz with rfl | hz
      · exact h _ List.mem_cons_self
      · exact h z (List.mem_cons_of_mem _ (List.mem_filter.1 hz).1)
    unfold nearLf
    rcases bit_two y.word i with hb | hb
    · rw [if_pos hb, List.filter_cons_of_pos (by simp [bitIs, hb]), List.filter_cons_of_neg (by simp [bitIs, hb]), lastI_cons _ _ (hf 0)]
      simp only
      split <;> rfl
    · rw [if_neg (by omega), List.filter_cons_of_neg (by simp [bitIs, hb]), List.filter_cons_of_pos (by simp [bitIs, hb]), lastI_cons _ _ (hf 1)]
      simp only
      split <;> rfl
theorem nearR_fold {i : Nat} : ∀ (B : List Nd) (s : Nr), (∀ y ∈ B, y.id ≠ 0) → B.foldl (fun s y => nearRf i y s) s = (s.1, s.2.1, if s.2.2.1 = 0 then headI (B.filter (bitIs i 0)) else s.2.2.1, if s.2.2.2 = 0 then headI (B.filter (bitIs i 1)) else s.2.2.2)
  | [], s, _ => by
    obtain ⟨s1, s2, s3, s4⟩ := s
    have : headI ([] : List Nd) = 0 := rfl
    simp only [List.foldl_nil, List.filter_nil, this, Prod.mk.injEq, true_and]
    constructor <;> split <;> simp_all
  | y :: B, s, h => by
    rw [List.foldl_cons, nearR_fold B _ (fun z hz => h z (List.mem_cons_of_mem _ hz))]
    have hid := h y List.mem_cons_self
    unfold nearRf
    rcases bit_two y.word i with hb | hb
    · rw [if_pos hb, List.filter_cons_of_pos (by simp [bitIs, hb]), List.filter_cons_of_neg (by simp [bitIs, hb]), headI_cons]
      by_cases h3 : s.2.2.1 = 0
      · rw [if_pos h3]; simp [h3, hid]
      · rw [if_neg h3]; simp [h3]
    · rw [if_neg (by omega), List.filter_cons_of_neg (by simp [bitIs, hb]), List.filter_cons_of_pos (by simp [bitIs, hb]), headI_cons]
      by_cases h3 : s.2.2.2 = 0
      · rw [if_pos h3]; simp [h3, hid]
      · rw [if_neg h3]; simp [h3]
theorem nst_fold {N : List Nd} (h0 : checkN N = 0) {x : Nd} {i : Nat} {A B : List Nd} (e : grpS N i x.word = A ++ x :: B) : B.foldl (fun s y => nearRf i y s) (A.foldr (nearLf i) (0, 0, 0, 0)) = nearG N x i := by
  have hid : ∀ y ∈ grpS N i x.word, y.id ≠ 0 := fun y hy => by
    have := (roster_ok h0 y (grp_mem.1 hy).1).2.1
    omega
  rw [nearG_at h0 e, nearL_fold A (fun y hy => hid y (by rw [e]; simp [hy])), nearR_fold B _ (fun y hy => hid y (by rw [e]; simp [hy]))]
  simp
def NlRel (G : List Nd) (k i g10 : Nat) (w : World) (p : Value) (wr : World) : Prop :=
  ∃ (j : Nat) (s : Nr), j ≤ k ∧ p = .int .i64 ((j : Int) - 1) ∧ s = ((G.take k).drop j).foldr (nearLf i) (0, 0, 0, 0) ∧ Blk wr g10 (encNr s) 49 ∧ Exb g10 w wr
def NrRl (G : List Nd) (k i g10 : Nat) (s0 : Nr) (w : World) (p : Value) (wr : World) : Prop :=
  ∃ (j : Nat) (s : Nr), k + 1 ≤ j ∧ j ≤ G.length ∧ p = .int .i64 j ∧ s = ((G.take j).drop (k + 1)).foldl (fun s y => nearRf i y s) s0 ∧ Blk wr g10 (encNr s) 49 ∧ Exb g10 w wr
theorem nl_snoc {G : List Nd} {k i j : Nat} {y : Nd} (hy : G[j]? = some y) (hj : j < k) : ((G.take k).drop j).foldr (nearLf i) (0, 0, 0, 0) = nearLf i y (((G.take k).drop (j + 1)).foldr (nearLf i) (0, 0, 0, 0)) := by
  have h1 : (G.take k)[j]? = some y := by rw [List.getElem?_take, if_pos hj]; exact hy
  obtain ⟨hl, he⟩ := List.getElem?_eq_some_iff.1 h1
  rw [List.drop_eq_getElem_cons hl, he, List.foldr_cons]
theorem nr_snoc2 {G : List Nd} {k i j : Nat} {s0 : Nr} {y : Nd} (hy : G[j]? = some y) (hj : k + 1 ≤ j) : ((G.take (j + 1)).drop (k + 1)).foldl (fun s y => nearRf i y s) s0 = nearRf i y (((G.take j).drop (k + 1)).foldl (fun s y => nearRf i y s) s0) := by
  have hl := (List.getElem?_eq_some_iff.1 hy).1
  rw [take_snocN G j y hy, List.drop_append_of_le_length (by rw [List.length_take]; omega), List.foldl_append]
  rfl
set_option maxRecDepth 100000 in
set_option maxHeartbeats 8000000 in
theorem nearest_r (a : Option Addr) (n c : Nat) (N : List Nd) (x : Nd) (i : Nat) (w : World) (h : Sl 3 encN w a n N) (hn : n ≤ 1000) (h0 : checkN N = 0) (hw : ∀ x ∈ N, x.word < 4294967296) (hx : x ∈ N) (hi : i < 16) :
    Calls Tryz.prog 92 #[.slice a n c, .int .i64 x.id, .int .i64 i] w fun e w' => e = .returned (.agg (encNr (nearG N x i)).toArray) ∧ Ex w w' := by
  have hNn : N.length ≤ 1000 := by have := h.len; omega
  obtain ⟨ht, hat⟩ := thr_at h0 hx (h := i) (by omega)
  have EX := Ex.refl w
  have B6 := Blk.new w [.int .i64 0, .int .i64 0, .int .i64 0, .int .i64 0] 49
  have kk := Ex.new w (.cells #[.int .i64 0, .int .i64 0, .int .i64 0, .int .i64 0] 49)
  obtain ⟨w1, hw1⟩ : ∃ w1, w1 = w.alloc (.cells #[.int .i64 0, .int .i64 0, .int .i64 0, .int .i64 0] 49) := ⟨_, rfl⟩
  obtain ⟨g6, hg6⟩ : ∃ g6, g6 = w.heap.size := ⟨_, rfl⟩
  replace B6 : Blk w1 g6 [.int .i64 0, .int .i64 0, .int .i64 0, .int .i64 0] 49 := by rw [hw1, hg6]; exact B6
  rw [← hw1] at kk
  have Hw1 := Lib.hid hw1
  have Hg6 := Lib.hid hg6
  replace h := h.nx kk
  replace EX := EX.nx kk
  have hw6 : w.heap.size ≤ g6 := by omega
  clear kk hw1 hg6
  go_enter Tryz.func92, Tryz.ntmps92
  go_upto_region 1 with fail
  rw [← Hg6.out, ← Hw1.out]
  clear Hg6 Hw1
  go_wp2_with fail
  (with_reducible refine (through_r _ _ _ N x.id i _ h hn hw).mono ?_)
  rintro e w2 ⟨a3, c3, rfl, G3, kk⟩
  replace B6 := B6.nx kk
  replace EX := EX.nx kk
  clear kk
  rw [ht] at G3 ⊢
  simp only at G3 ⊢
  have FO : Hid (∀ A B, grpS N i x.word = A ++ x :: B → B.foldl (fun s y => nearRf i y s) (A.foldr (nearLf i) (0, 0, 0, 0)) = nearG N x i) := Lib.hid (fun A B e => nst_fold h0 e)
  have HWG : Hid (∀ y ∈ grpS N i x.word, y.word < 4294967296) := Lib.hid (fun y hy => hw y (grp_mem.1 hy).1)
  have hgl := grpS_le N i x.word
  generalize idxI (grpS N i x.word) x.id = k at hat ⊢
  generalize grpS N i x.word = G at G3 FO HWG hat hgl ⊢
  have hkG : k < G.length := (List.getElem?_eq_some_iff.1 hat).1
  have FIN : Hid ((G.drop (k + 1)).foldl (fun s y => nearRf i y s) ((G.take k).foldr (nearLf i) (0, 0, 0, 0)) = nearG N x i) := Lib.hid (FO.out _ _ (by
    obtain ⟨hl, he⟩ := List.getElem?_eq_some_iff.1 hat
    conv => lhs; rw [← List.take_append_drop k G, List.drop_eq_getElem_cons hl, he]))
  clear h hw h0 hx ht hat FO
  have g610 := B6.lt
  have B10 := Blk.new w2 [.int .i64 0, .int .i64 0, .int .i64 0, .int .i64 0] 49
  have kk := Ex.new w2 (.cells #[.int .i64 0, .int .i64 0, .int .i64 0, .int .i64 0] 49)
  obtain ⟨w4, hw4⟩ : ∃ w4, w4 = w2.alloc (.cells #[.int .i64 0, .int .i64 0, .int .i64 0, .int .i64 0] 49) := ⟨_, rfl⟩
  obtain ⟨g10, hg10⟩ : ∃ g10, g10 = w2.heap.size := ⟨_, rfl⟩
  replace B10 : Blk w4 g10 [.int .i64 0, .int .i64 0, .int .i64 0, .int .i64 0] 49 := by rw [hw4, hg10]; exact B10
  rw [← hw4] at kk
  have Hw4 := Lib.hid hw4
  have Hg10 := Lib.hid hg10
  replace B6 := B6.nx kk
  replace EX := EX.nx kk
  have n610 : g6 ≠ g10 := by omega
  have hw10 : w.heap.size ≤ g10 := by omega
  have G3 := Lib.hid ((G3.slb (show w2.heap.size ≤ g10 by omega)).nxb (kk.b g10))
  clear kk hw4 hg10
  go_upto_region 3 with fail
  rw [← Hg10.out, ← Hw4.out]
  clear Hg10 Hw4
  replace B6 := Lib.hid B6
  replace EX := Lib.hid EX
  go_wp2_with fail
  go_loopw [11] (fun p wr => NlRel G k i g10 w4 p wr) (fun p _ => (intOf p + 1).toNat)
  case atStart => exact ⟨k, (0, 0, 0, 0), by omega, rfl, by rw [List.drop_of_length_le (by rw [List.length_take]; omega)]; rfl, B10, Exb.refl _ _⟩
  case round =>
    clear B10
    obtain ⟨j, s, hj, rfl, hs, B, kw⟩ := hrel
    obtain ⟨wo, rfl⟩ : ∃ wo : World, wo = wr := ⟨_, rfl⟩
    have HS := Lib.hid hs
    clear hs
    rcases j with _ | j
    case zero =>
      have HSE : Hid (s = (G.take k).foldr (nearLf i) (0, 0, 0, 0)) := Lib.hid (by rw [HS.out]; rfl)
      have KW := Lib.hid kw
      obtain ⟨s0, hs0⟩ : ∃ s0 : Nr, s0 = s := ⟨_, rfl⟩
      rw [← hs0] at HSE B
      clear hs0 HS kw hj
      obtain ⟨w5, hw5⟩ : ∃ w5 : World, w5 = wo := ⟨_, rfl⟩
      rw [← hw5] at KW B ⊢
      clear hw5
      rw [show (((0 : Nat) : Int) - 1) = -1 from rfl]
      go_wp2_with fail
      go_loopw [13] (fun p wr => NrRl G k i g10 s0 w5 p wr) (fun p _ => G.length - (intOf p).toNat)
      case atStart => exact ⟨k + 1, s0, by omega, by omega, by go_num, by rw [List.drop_of_length_le (by rw [List.length_take]; omega)]; rfl, B, Exb.refl _ _⟩
      case round =>
        clear B
        obtain ⟨j, s, hkj, hj, rfl, hs, B, kw⟩ := hrel
        obtain ⟨wo, rfl⟩ : ∃ wo : World, wo = wr := ⟨_, rfl⟩
        have HS := Lib.hid hs
        clear hs
        by_cases hjl : j < G.length
        · obtain ⟨x3, o3, y, rfl, hx3, hy, hc3⟩ := ((G3.out.nxb KW.out).nxb kw).sl.at (j := j) hjl
          have e0 : wo.cell? ⟨x3, o3 + j * 3, none⟩ = some (.int .i64 y.id) := hc3 0 _ rfl
          have e2 : wo.cell? ⟨x3, o3 + j * 3 + 2, none⟩ = some (.int .u32 y.word) := hc3 2 _ rfl
          have hyw := HWG.out y (List.mem_of_getElem? hy)
          have SN := Lib.hid (nr_snoc2 (k := k) (i := i) (s0 := s0) hy hkj)
          rw [← HS.out] at SN
          have r2 := B.cell 2 _ rfl
          have f2 := B.free 2
          have r3 := B.cell 3 _ rfl
          have f3 := B.free 3
          have HB := Lib.hid B
          have KV := Lib.hid kw
          clear hc3 hy kw B HS
          go_wp2_with fail
          (with_reducible refine (bit_r y.word i _ hyw (by omega) (by omega)).mono ?_)
          rintro e w9 ⟨rfl, rfl⟩
          have FIN2 : Hid (∀ s2 w2, nearRf i y s = s2 → Blk w2 g10 (encNr s2) 49 → Exb g10 w5 w2 → NrRl G k i g10 s0 w5 (.int .i64 ((j : Int) + 1)) w2) := Lib.hid (fun s2 w2 h1 h2 h3 => ⟨j + 1, s2, by omega, by omega, by go_num, by rw [SN.out, h1], h2, h3⟩)
          rcases bit_two y.word i with hb | hb
          · have NFB : Hid (nearRf i y s = if s.2.2.1 = 0 then (s.1, s.2.1, y.id, s.2.2.2) else s) := Lib.hid (by unfold nearRf; rw [if_pos hb])
            rw [hb]
            clear hb
            by_cases hz : s.2.2.1 = 0
            · have hzb : (s.2.2.1 == 0) = true := by simpa using hz
              have RR := Lib.hid (FIN2.out (s.1, s.2.1, y.id, s.2.2.2) _ (by rw [NFB.out, if_pos hz]) (HB.out.set 2 _) (KV.out.setB (p := ⟨g10, 2, none⟩) (.int .i64 y.id) rfl))
              clear HB hz NFB FIN2
              go_wp2_with fail
              exact ⟨RR.out, by simp [intOf]; omega⟩
            · have hzb : (s.2.2.1 == 0) = false := by simpa using hz
              have RR := Lib.hid (FIN2.out s _ (by rw [NFB.out, if_neg hz]) HB.out KV.out)
              clear HB hz NFB FIN2
              go_wp2_with fail
              exact ⟨RR.out, by simp [intOf]; omega⟩
          · have NFB : Hid (nearRf i y s = if s.2.2.2 = 0 then (s.1, s.2.1, s.2.2.1, y.id) else s) := Lib.hid (by unfold nearRf; rw [if_neg (by omega)])
            rw [hb]
            clear hb
            by_cases hz : s.2.2.2 = 0
            · have hzb : (s.2.2.2 == 0) = true := by simpa using hz
              have RR := Lib.hid (FIN2.out (s.1, s.2.1, s.2.2.1, y.id) _ (by rw [NFB.out, if_pos hz]) (HB.out.set 3 _) (KV.out.setB (p := ⟨g10, 3, none⟩) (.int .i64 y.id) rfl))
              clear HB hz NFB FIN2
              go_wp2_with fail
              exact ⟨RR.out, by simp [intOf]; omega⟩
            · have hzb : (s.2.2.2 == 0) = false := by simpa using hz
              have RR := Lib.hid (FIN2.out s _ (by rw [NFB.out, if_neg hz]) HB.out KV.out)
              clear HB hz NFB FIN2
              go_wp2_with fail
              exact ⟨RR.out, by simp [intOf]; omega⟩
        · obtain rfl : j = G.length := by omega
          have FS : Hid (s = nearG N x i) := Lib.hid (by rw [HS.out, List.take_of_length_le (Nat.le_refl _), HSE.out]; exact FIN.out)
          have r0 := B.cell 0 _ rfl
          have r1 := B.cell 1 _ rfl
          have r2 := B.cell 2 _ rfl
          have r3 := B.cell 3 _ rfl
          have Q6 := B6.out.nxb n610 (KW.out.nxb kw)
          have z0 := Q6.cell 0 _ rfl
          have z1 := Q6.cell 1 _ rfl
          have z2 := Q6.cell 2 _ rfl
          have z3 := Q6.cell 3 _ rfl
          have f0 := Q6.free 0
          have f1 := Q6.free 1
          have f2 := Q6.free 2
          have f3 := Q6.free 3
          have EF : Ex w wo := (Exl.nxb (b := g10) (w := w) ⟨EX.out, hw10⟩ (KW.out.nxb kw)).1
          have KE := Lib.hid ((((EF.setNew (p := ⟨g6, 0, none⟩) (.int .i64 s.1) hw6).setNew (p := ⟨g6, 1, none⟩) (.int .i64 s.2.1) hw6).setNew (p := ⟨g6, 2, none⟩) (.int .i64 s.2.2.1) hw6).setNew (p := ⟨g6, 3, none⟩) (.int .i64 s.2.2.2) hw6)
          clear hj hjl kw HS B Q6 EF hkj
          go_wp2_with fail
          refine bodyPost_ret (v := .agg #[.int .i64 s.1, .int .i64 s.2.1, .int .i64 s.2.2.1, .int .i64 s.2.2.2]) (by simp [results, Tryz.results92, go_sem, *]) rfl ⟨by rw [← FS.out]; rfl, KE.out⟩
    case succ =>
      rw [show (((j + 1 : Nat) : Int) - 1) = (j : Int) by omega]
      have hj : j < k := by omega
      obtain ⟨x3, o3, y, rfl, hx3, hy, hc3⟩ := (G3.out.nxb kw).sl.at (j := j) (by omega)
      have e0 : wo.cell? ⟨x3, o3 + j * 3, none⟩ = some (.int .i64 y.id) := hc3 0 _ rfl
      have e2 : wo.cell? ⟨x3, o3 + j * 3 + 2, none⟩ = some (.int .u32 y.word) := hc3 2 _ rfl
      have hyw := HWG.out y (List.mem_of_getElem? hy)
      have SN := Lib.hid (nl_snoc (k := k) (i := i) hy hj)
      rw [← HS.out] at SN
      have r0 := B.cell 0 _ rfl
      have f0 := B.free 0
      have r1 := B.cell 1 _ rfl
      have f1 := B.free 1
      have HB := Lib.hid B
      have KV := Lib.hid kw
      clear hc3 hy kw B HS
      go_wp2_with fail
      (with_reducible refine (bit_r y.word i _ hyw (by omega) (by omega)).mono ?_)
      rintro e w9 ⟨rfl, rfl⟩
      have FIN2 : Hid (∀ s2 w2, nearLf i y s = s2 → Blk w2 g10 (encNr s2) 49 → Exb g10 w4 w2 → NlRel G k i g10 w4 (.int .i64 ((j : Int) - 1)) w2) := Lib.hid (fun s2 w2 h1 h2 h3 => ⟨j, s2, by omega, rfl, by rw [SN.out, h1], h2, h3⟩)
      rcases bit_two y.word i with hb | hb
      · have NFB : Hid (nearLf i y s = if s.1 = 0 then (y.id, s.2.1, s.2.2.1, s.2.2.2) else s) := Lib.hid (by unfold nearLf; rw [if_pos hb])
        rw [hb]
        clear hb
        by_cases hz : s.1 = 0
        · have hzb : (s.1 == 0) = true := by simpa using hz
          have RR := Lib.hid (FIN2.out (y.id, s.2.1, s.2.2.1, s.2.2.2) _ (by rw [NFB.out, if_pos hz]) (HB.out.set 0 _) (KV.out.setB (p := ⟨g10, 0, none⟩) (.int .i64 y.id) rfl))
          clear HB hz NFB FIN2
          go_wp2_with fail
          exact ⟨RR.out, by simp [intOf]⟩
        · have hzb : (s.1 == 0) = false := by simpa using hz
          have RR := Lib.hid (FIN2.out s _ (by rw [NFB.out, if_neg hz]) HB.out KV.out)
          clear HB hz NFB FIN2
          go_wp2_with fail
          exact ⟨RR.out, by simp [intOf]⟩
      · have NFB : Hid (nearLf i y s = if s.2.1 = 0 then (s.1, y.id, s.2.2.1, s.2.2.2) else s) := Lib.hid (by unfold nearLf; rw [if_neg (by omega)])
        rw [hb]
        clear hb
        by_cases hz : s.2.1 = 0
        · have hzb : (s.2.1 == 0) = true := by simpa using hz
          have RR := Lib.hid (FIN2.out (s.1, y.id, s.2.2.1, s.2.2.2) _ (by rw [NFB.out, if_pos hz]) (HB.out.set 1 _) (KV.out.setB (p := ⟨g10, 1, none⟩) (.int .i64 y.id) rfl))
          clear HB hz NFB FIN2
          go_wp2_with fail
          exact ⟨RR.out, by simp [intOf]⟩
        · have hzb : (s.2.1 == 0) = false := by simpa using hz
          have RR := Lib.hid (FIN2.out s _ (by rw [NFB.out, if_neg hz]) HB.out KV.out)
          clear HB hz NFB FIN2
          go_wp2_with fail
          exact ⟨RR.out, by simp [intOf]⟩
end Go.Proofs.YtbnbjiddffihoaaGreatDoor
