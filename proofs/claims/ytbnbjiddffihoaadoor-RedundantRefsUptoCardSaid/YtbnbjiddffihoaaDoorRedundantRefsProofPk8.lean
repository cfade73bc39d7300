/- Texts for the statement RedundantRefsProof, part 8 of 10: PrQ, Sane14. -/
import Derived.Test.YtbnbjiddffihoaaDoorRedundantRefsProofPk5
import Derived.Test.YtbnbjiddffihoaaDoorRedundantRefsProofPk6
import Derived.Test.YtbnbjiddffihoaaDoorRedundantRefsProofPk7

/- Numbers and Refs of the reference, whatever capacity a nil list bears. -/
namespace Go.Proofs.YtbnbjiddffihoaaDoor
open Go.RowKit

set_option maxRecDepth 100000 in
set_option maxHeartbeats 8000000 in
theorem numbers_q (p : Pr) (a1 : Option Addr) (n1 c1 : Nat) (a2 : Option Addr) (n2 c2 : Nat) (w : World) (h1 : Sl 1 encI w a1 n1 p.known) (h2 : Sl 4 encNr w a2 n2 p.near) (hn1 : n1 ≤ 2000000) (hn2 : n2 ≤ 2000000) :
    Calls Tryd.prog 67 #[.agg #[.int .i64 p.id, .slice a1 n1 c1, .int .i64 p.left, .int .i64 p.right, .slice a2 n2 c2]] w (OiPost (numsP p) w) := by
  obtain ⟨id, lf, rt, kn, nr⟩ := p
  have HN : Hid (numsP ⟨id, lf, rt, kn, nr⟩ = (kn ++ [lf, rt]) ++ nr.flatMap nums4) := Lib.hid rfl
  have hkl : kn.length ≤ 2000000 := by have : kn.length = n1 := h1.len; omega
  have hnl : nr.length = n2 := h2.len
  have hw0 := Nat.le_refl w.heap.size
  simp only at h1 h2 ⊢
  have B1 := Blk.new w [.int .i64 id, .slice a1 n1 c1, .int .i64 lf, .int .i64 rt, .slice a2 n2 c2] 41
  have kk := Ex.new w (.cells #[.int .i64 id, .slice a1 n1 c1, .int .i64 lf, .int .i64 rt, .slice a2 n2 c2] 41)
  obtain ⟨w1, hw1⟩ : ∃ w1, w1 = w.alloc (.cells #[.int .i64 id, .slice a1 n1 c1, .int .i64 lf, .int .i64 rt, .slice a2 n2 c2] 41) := ⟨_, rfl⟩
  obtain ⟨g, hg⟩ : ∃ g, g = w.heap.size := ⟨_, rfl⟩
  replace B1 : Blk w1 g [.int .i64 id, .slice a1 n1 c1, .int .i64 lf, .int .i64 rt, .slice a2 n2 c2] 41 := by rw [hw1, hg]; exact B1
  rw [← hw1] at kk
  have Hw1 := Lib.hid hw1
  have Hg := Lib.hid hg
  replace h1 := h1.nx kk
  replace h2 := h2.nx kk
  have hz1 := kk.size
  have K1 := Lib.hid kk
  have S1 := Lib.hid h1
  have S2 := Lib.hid h2
  clear h1 h2 kk hw1 hg
  go_enter Tryd.func67, Tryd.ntmps67
  go_upto_region 1 with fail
  rw [← Hg.out, ← Hw1.out]
  clear Hg Hw1
  have BH := Lib.hid B1
  clear B1
  go_cut [3] from 5 to 14 (fun s3 wx => NmCut (kn ++ [lf, rt]) w1 s3 wx)
  case first =>
    refine wp_region_held_drew (S := Ex w1) (by kernel_rfl) ((Ex.refl w1).drew) (fun hHeld => ?_)
    refine wpAnyH_take (i := 0) (oi := ⟨some 5, .fieldAddr 41 (.tmp 1) 1, 0, "ref.go:117", #[], none⟩) (v := ?_) rfl (by kernel_rfl) (by kernel_rfl) (by kernel_rfl) (fun _ _ _ h => h) (Or.inl ⟨by rfl, ?hyr1x0q1⟩) (by assumption) ?restr1x0q1
    case hyr1x0q1 => intro wq hSw; (go_simp); (try with_reducible rfl)
    try simp only [Act.put, List.setIfInBounds_toArray, List.set_cons_zero, List.set_cons_succ]
    refine wpAnyH_take (i := 1) (oi := ⟨some 6, .load 22 (.tmp 5), 22, "ref.go:117", #[⟨0, .data⟩], none⟩) (v := ?_) rfl (by kernel_rfl) (by kernel_rfl) (by kernel_rfl) (fun _ _ _ h => h) (Or.inl ⟨by rfl, ?hyr1x1q4⟩) (by assumption) ?restr1x1q4
    case hyr1x1q4 => intro wq hSw; (have cq := (BH.out.nx hSw).cell 1 _ rfl; go_simp); (try with_reducible rfl)
    try simp only [Act.put, List.setIfInBounds_toArray, List.set_cons_zero, List.set_cons_succ]
    refine wpAnyH_take (i := 3) (oi := ⟨some 8, .fieldAddr 41 (.tmp 1) 2, 0, "ref.go:117", #[], none⟩) (v := ?_) rfl (by kernel_rfl) (by kernel_rfl) (by kernel_rfl) (fun _ _ _ h => h) (Or.inl ⟨by rfl, ?hyr1x3q7⟩) (by assumption) ?restr1x3q7
    case hyr1x3q7 => intro wq hSw; (go_simp); (try with_reducible rfl)
    try simp only [Act.put, List.setIfInBounds_toArray, List.set_cons_zero, List.set_cons_succ]
    refine wpAnyH_take (i := 4) (oi := ⟨some 9, .load 3 (.tmp 8), 3, "ref.go:117", #[⟨3, .data⟩], none⟩) (v := ?_) rfl (by kernel_rfl) (by kernel_rfl) (by kernel_rfl) (fun _ _ _ h => h) (Or.inl ⟨by rfl, ?hyr1x4q10⟩) (by assumption) ?restr1x4q10
    case hyr1x4q10 => intro wq hSw; (have cq := (BH.out.nx hSw).cell 2 _ rfl; go_simp); (try with_reducible rfl)
    try simp only [Act.put, List.setIfInBounds_toArray, List.set_cons_zero, List.set_cons_succ]
    refine wpAnyH_take (i := 5) (oi := ⟨some 10, .fieldAddr 41 (.tmp 1) 3, 0, "ref.go:117", #[], none⟩) (v := ?_) rfl (by kernel_rfl) (by kernel_rfl) (by kernel_rfl) (fun _ _ _ h => h) (Or.inl ⟨by rfl, ?hyr1x5q13⟩) (by assumption) ?restr1x5q13
    case hyr1x5q13 => intro wq hSw; (go_simp); (try with_reducible rfl)
    try simp only [Act.put, List.setIfInBounds_toArray, List.set_cons_zero, List.set_cons_succ]
    refine wpAnyH_take (i := 6) (oi := ⟨some 11, .load 3 (.tmp 10), 3, "ref.go:117", #[⟨5, .data⟩], none⟩) (v := ?_) rfl (by kernel_rfl) (by kernel_rfl) (by kernel_rfl) (fun _ _ _ h => h) (Or.inl ⟨by rfl, ?hyr1x6q16⟩) (by assumption) ?restr1x6q16
    case hyr1x6q16 => intro wq hSw; (have cq := (BH.out.nx hSw).cell 3 _ rfl; go_simp); (try with_reducible rfl)
    try simp only [Act.put, List.setIfInBounds_toArray, List.set_cons_zero, List.set_cons_succ]
    refine wpAnyH_ready (rs := [2, 7]) (by kernel_rfl) (by simp) ?_
    refine AllReadyH.cons (o := ⟨some 7, .call { callee := .builtin .append, args := #[.const (.slice none 0 0), .tmp 6], argTypes := #[22, 22] }, 22, "ref.go:117", #[⟨1, .data⟩], none⟩) rfl (fun K hK => ?_) ?_
    · rw [if_pos (by rfl)]
      have s0 := S1.out.nx hHeld
      have z0 := Ex.size hHeld
      refine wp_append_rq (enc := encI) _ (.const (.slice none 0 0)) (.tmp 6) 22 rfl w1.heap.size 3 (.int .i64 0) 1 8 Tryd.underlying22 Tryd.infoI6 rfl (by omega) (by omega) _ [] (OwnL.nil _ _ _ _ _) rfl _ n1 c1 kn s0 (fun _ => rfl) (by simp [encI, Value.oneCell']) rfl (by simp) (by omega) z0 ?_
      intro v7 w7 own7 ch0 ch1
      have k7 : Ex _ w7 := ch0.mono (fun k hk => ⟨hk, by simp [Value.ownBlock]⟩)
      (try replace L8 := L8.nx k7)
      have j7 : Ex w1 w7 := Chg.trans hHeld ch1
      rw [List.nil_append] at own7
      clear ch0 ch1 s0 z0 k7 hHeld
      have hHeld := j7
      clear j7
      refine hK.out _ _ (hHeld) (fun hHeld => ?_)
      clear hK K
      try simp only [Act.put, List.setIfInBounds_toArray, List.set_cons_zero, List.set_cons_succ]
      refine wpAnyH_ready (rs := [7]) (by kernel_rfl) (by simp) ?_
      refine AllReadyH.cons (o := ⟨some 12, .buildSlice 22 2 #[(0, .tmp 9), (1, .tmp 11)], 22, "ref.go:117", #[⟨4, .data⟩, ⟨6, .data⟩], none⟩) rfl (fun K hK => ?_) AllReadyH.nil
      go_simp
      obtain ⟨g8, u8, hg8, hu8, L8, k8, j8⟩ := lit2 hHeld lf rt
      (try replace own7 := own7.nx k8)
      (first | rw [← hg8, ← hu8] | (rw [show w1.drew.heap.size = w1.heap.size from rfl] at hg8; rw [← hg8, show ∀ o, (w1.alloc o).drew = w1.drew.alloc o from fun _ => rfl, ← hu8]))
      clear hg8 hu8 k8 hHeld
      have hHeld := j8
      clear j8
      refine hK.out _ _ (hHeld) (fun hHeld => ?_)
      clear hK K
      try simp only [Act.put, List.setIfInBounds_toArray, List.set_cons_zero, List.set_cons_succ]
      refine wpAnyH_ready (rs := [8]) (by kernel_rfl) (by simp) ?_
      refine AllReadyH.cons (o := ⟨some 13, .call { callee := .builtin .append, args := #[.tmp 7, .tmp 12], argTypes := #[22, 22] }, 22, "ref.go:117", #[⟨2, .data⟩, ⟨7, .data⟩, ⟨2, .chain⟩], none⟩) rfl (fun K hK => ?_) AllReadyH.nil
      rw [if_pos (by rfl)]
      have z0 := Ex.size hHeld
      refine wp_append_rd (enc := encI) _ (.tmp 7) (.tmp 12) 22 rfl w1.heap.size 3 (.int .i64 0) 1 8 Tryd.underlying22 Tryd.infoI6 rfl (by omega) (by omega) _ kn own7 rfl _ _ 2 2 [lf, rt] L8 (fun h => by cases h) (fun _ => rfl) (by simp [encI, Value.oneCell']) rfl (by omega) (by omega) z0 ?_
      intro v9 w9 own9 ch0 ch1
      have j9 : Ex w1 w9 := Chg.trans hHeld ch1
      clear ch0 ch1 z0 own7 L8 hHeld
      have hHeld := j9
      clear j9
      refine hK.out _ _ (hHeld) (fun hHeld => ?_)
      clear hK K
      try simp only [Act.put, List.setIfInBounds_toArray, List.set_cons_zero, List.set_cons_succ]
      refine wpAnyH_take (i := 9) (oi := ⟨some 3, .assign (.tmp 13), 22, "ref.go:117", #[⟨8, .data⟩, ⟨8, .chain⟩, ⟨0, .phase⟩, ⟨1, .phase⟩, ⟨2, .phase⟩, ⟨3, .phase⟩, ⟨4, .phase⟩, ⟨5, .phase⟩, ⟨6, .phase⟩, ⟨7, .phase⟩, ⟨8, .phase⟩], none⟩) (v := ?_) rfl (by kernel_rfl) (by kernel_rfl) (by kernel_rfl) (fun _ _ _ h => h) (Or.inl ⟨by rfl, ?hyr1x9q61⟩) (by assumption) ?restr1x9q61
      case hyr1x9q61 => intro wq hSw; (go_simp); (try with_reducible rfl)
      try simp only [Act.put, List.setIfInBounds_toArray, List.set_cons_zero, List.set_cons_succ]
      refine wpAnyH_done (by kernel_rfl) ?_ _
      go_wp2_with fail
      go_meet
      exact ⟨own9, hHeld⟩
    refine AllReadyH.cons (o := ⟨some 12, .buildSlice 22 2 #[(0, .tmp 9), (1, .tmp 11)], 22, "ref.go:117", #[⟨4, .data⟩, ⟨6, .data⟩], none⟩) rfl (fun K hK => ?_) AllReadyH.nil
    · go_simp
      obtain ⟨g8, u8, hg8, hu8, L8, k8, j8⟩ := lit2 hHeld lf rt
      (try replace own7 := own7.nx k8)
      (first | rw [← hg8, ← hu8] | (rw [show w1.drew.heap.size = w1.heap.size from rfl] at hg8; rw [← hg8, show ∀ o, (w1.alloc o).drew = w1.drew.alloc o from fun _ => rfl, ← hu8]))
      clear hg8 hu8 k8 hHeld
      have hHeld := j8
      clear j8
      refine hK.out _ _ (hHeld) (fun hHeld => ?_)
      clear hK K
      try simp only [Act.put, List.setIfInBounds_toArray, List.set_cons_zero, List.set_cons_succ]
      refine wpAnyH_ready (rs := [2]) (by kernel_rfl) (by simp) ?_
      refine AllReadyH.cons (o := ⟨some 7, .call { callee := .builtin .append, args := #[.const (.slice none 0 0), .tmp 6], argTypes := #[22, 22] }, 22, "ref.go:117", #[⟨1, .data⟩], none⟩) rfl (fun K hK => ?_) AllReadyH.nil
      rw [if_pos (by rfl)]
      have s0 := S1.out.nx hHeld
      have z0 := Ex.size hHeld
      refine wp_append_rq (enc := encI) _ (.const (.slice none 0 0)) (.tmp 6) 22 rfl w1.heap.size 3 (.int .i64 0) 1 8 Tryd.underlying22 Tryd.infoI6 rfl (by omega) (by omega) _ [] (OwnL.nil _ _ _ _ _) rfl _ n1 c1 kn s0 (fun _ => rfl) (by simp [encI, Value.oneCell']) rfl (by simp) (by omega) z0 ?_
      intro v7 w7 own7 ch0 ch1
      have k7 : Ex _ w7 := ch0.mono (fun k hk => ⟨hk, by simp [Value.ownBlock]⟩)
      (try replace L8 := L8.nx k7)
      have j7 : Ex w1 w7 := Chg.trans hHeld ch1
      rw [List.nil_append] at own7
      clear ch0 ch1 s0 z0 k7 hHeld
      have hHeld := j7
      clear j7
      refine hK.out _ _ (hHeld) (fun hHeld => ?_)
      clear hK K
      try simp only [Act.put, List.setIfInBounds_toArray, List.set_cons_zero, List.set_cons_succ]
      refine wpAnyH_ready (rs := [8]) (by kernel_rfl) (by simp) ?_
      refine AllReadyH.cons (o := ⟨some 13, .call { callee := .builtin .append, args := #[.tmp 7, .tmp 12], argTypes := #[22, 22] }, 22, "ref.go:117", #[⟨2, .data⟩, ⟨7, .data⟩, ⟨2, .chain⟩], none⟩) rfl (fun K hK => ?_) AllReadyH.nil
      rw [if_pos (by rfl)]
      have z0 := Ex.size hHeld
      refine wp_append_rd (enc := encI) _ (.tmp 7) (.tmp 12) 22 rfl w1.heap.size 3 (.int .i64 0) 1 8 Tryd.underlying22 Tryd.infoI6 rfl (by omega) (by omega) _ kn own7 rfl _ _ 2 2 [lf, rt] L8 (fun h => by cases h) (fun _ => rfl) (by simp [encI, Value.oneCell']) rfl (by omega) (by omega) z0 ?_
      intro v9 w9 own9 ch0 ch1
      have j9 : Ex w1 w9 := Chg.trans hHeld ch1
      clear ch0 ch1 z0 own7 L8 hHeld
      have hHeld := j9
      clear j9
      refine hK.out _ _ (hHeld) (fun hHeld => ?_)
      clear hK K
      try simp only [Act.put, List.setIfInBounds_toArray, List.set_cons_zero, List.set_cons_succ]
      refine wpAnyH_take (i := 9) (oi := ⟨some 3, .assign (.tmp 13), 22, "ref.go:117", #[⟨8, .data⟩, ⟨8, .chain⟩, ⟨0, .phase⟩, ⟨1, .phase⟩, ⟨2, .phase⟩, ⟨3, .phase⟩, ⟨4, .phase⟩, ⟨5, .phase⟩, ⟨6, .phase⟩, ⟨7, .phase⟩, ⟨8, .phase⟩], none⟩) (v := ?_) rfl (by kernel_rfl) (by kernel_rfl) (by kernel_rfl) (fun _ _ _ h => h) (Or.inl ⟨by rfl, ?hyr1x9q107⟩) (by assumption) ?restr1x9q107
      case hyr1x9q107 => intro wq hSw; (go_simp); (try with_reducible rfl)
      try simp only [Act.put, List.setIfInBounds_toArray, List.set_cons_zero, List.set_cons_succ]
      refine wpAnyH_done (by kernel_rfl) ?_ _
      go_wp2_with fail
      go_meet
      exact ⟨own9, hHeld⟩
  case rest =>
    obtain ⟨own, kk⟩ := hcut
    have hl0 : (kn ++ [lf, rt]).length ≤ 2000002 := by simp; omega
    generalize kn ++ [lf, rt] = l0 at own HN hl0
    have OWN := Lib.hid own
    have KC := Lib.hid kk
    clear own kk
    go_wp2_with fail
    go_loopw [3, 4] (fun o i wr => NmRel l0 nr w1 o i wr) (fun _ i _ => nr.length - (intOf i).toNat)
    case atStart => exact ⟨0, by omega, rfl, by simpa using OWN.out, KC.out⟩
    case round =>
      obtain ⟨j, hj, rfl, own, ki⟩ := hrel
      obtain ⟨wi, rfl⟩ : ∃ wi : World, wi = wr := ⟨_, rfl⟩
      have b4 := (BH.out.nx ki).cell 4 _ rfl
      by_cases hjm : j < n2
      · obtain ⟨x3, o3, y, rfl, hx3, hy, hc3⟩ := S2.out.at hjm
        have e0 : w1.cell? ⟨x3, o3 + j * 4, none⟩ = some (.int .i64 y.1) := hc3 0 _ rfl
        have e1 : w1.cell? ⟨x3, o3 + j * 4 + 1, none⟩ = some (.int .i64 y.2.1) := hc3 1 _ rfl
        have e2 : w1.cell? ⟨x3, o3 + j * 4 + 2, none⟩ = some (.int .i64 y.2.2.1) := hc3 2 _ rfl
        have e3 : w1.cell? ⟨x3, o3 + j * 4 + 3, none⟩ = some (.int .i64 y.2.2.2) := hc3 3 _ rfl
        have SN := Lib.hid (nm_snoc (l0 := l0) hy)
        have hrl : (l0 ++ (nr.take j).flatMap nums4).length ≤ 50000000 := by
          rw [List.length_append, nums_len, List.length_take]
          omega
        generalize l0 ++ (nr.take j).flatMap nums4 = row at own SN hrl
        have E := Lib.hid (show ∀ wq, Ex w1 wq → wq.cell? ⟨x3, o3 + j * 4, none⟩ = some (.int .i64 y.1) ∧ wq.cell? ⟨x3, o3 + j * 4 + 1, none⟩ = some (.int .i64 y.2.1) ∧ wq.cell? ⟨x3, o3 + j * 4 + 2, none⟩ = some (.int .i64 y.2.2.1) ∧ wq.cell? ⟨x3, o3 + j * 4 + 3, none⟩ = some (.int .i64 y.2.2.2) from fun wq k => ⟨Chg.cellv k e0 hx3, Chg.cellv k e1 hx3, Chg.cellv k e2 hx3, Chg.cellv k e3 hx3⟩)
        have zb := ki.size
        have KI := Lib.hid ki
        have OWN := Lib.hid (own.nx (Ex.drew (Ex.refl wi)))
        clear hy hc3 e0 e1 e2 e3 own ki
        go_upto_region 5 with fail
        clear b4
        refine wp_region_held_drew (S := Ex w1) (by kernel_rfl) (KI.out.drew) (fun hHeld => ?_)
        refine wpAnyH_take (i := 0) (oi := ⟨some 21, .move (.tmp 3), 22, "ref.go:119", #[], none⟩) (v := ?_) rfl (by kernel_rfl) (by kernel_rfl) (by kernel_rfl) (fun _ _ _ h => h) (Or.inl ⟨by rfl, ?hyr2x0q1⟩) (by assumption) ?restr2x0q1
        case hyr2x0q1 => intro wq hSw; (go_simp); (try with_reducible rfl)
        try simp only [Act.put, List.setIfInBounds_toArray, List.set_cons_zero, List.set_cons_succ]
        refine wpAnyH_take (i := 1) (oi := ⟨some 22, .fieldAddr 41 (.tmp 1) 4, 0, "ref.go:119", #[], none⟩) (v := ?_) rfl (by kernel_rfl) (by kernel_rfl) (by kernel_rfl) (fun _ _ _ h => h) (Or.inl ⟨by rfl, ?hyr2x1q4⟩) (by assumption) ?restr2x1q4
        case hyr2x1q4 => intro wq hSw; (go_simp); (try with_reducible rfl)
        try simp only [Act.put, List.setIfInBounds_toArray, List.set_cons_zero, List.set_cons_succ]
        refine wpAnyH_take (i := 2) (oi := ⟨some 23, .load 39 (.tmp 22), 39, "ref.go:119", #[⟨1, .data⟩], none⟩) (v := ?_) rfl (by kernel_rfl) (by kernel_rfl) (by kernel_rfl) (fun _ _ _ h => h) (Or.inl ⟨by rfl, ?hyr2x2q7⟩) (by assumption) ?restr2x2q7
        case hyr2x2q7 => intro wq hSw; (have cq := (BH.out.nx hSw).cell 4 _ rfl; go_simp); (try with_reducible rfl)
        try simp only [Act.put, List.setIfInBounds_toArray, List.set_cons_zero, List.set_cons_succ]
        refine wpAnyH_take (i := 3) (oi := ⟨some 24, .move (.tmp 4), 3, "ref.go:119", #[], none⟩) (v := ?_) rfl (by kernel_rfl) (by kernel_rfl) (by kernel_rfl) (fun _ _ _ h => h) (Or.inl ⟨by rfl, ?hyr2x3q10⟩) (by assumption) ?restr2x3q10
        case hyr2x3q10 => intro wq hSw; (go_simp); (try with_reducible rfl)
        try simp only [Act.put, List.setIfInBounds_toArray, List.set_cons_zero, List.set_cons_succ]
        refine wpAnyH_take (i := 4) (oi := ⟨some 25, .indexAddr 39 (.tmp 23) (.tmp 24), 0, "ref.go:119", #[⟨2, .data⟩, ⟨3, .data⟩], none⟩) (v := ?_) rfl (by kernel_rfl) (by kernel_rfl) (by kernel_rfl) (fun _ _ _ h => h) (Or.inl ⟨by rfl, ?hyr2x4q13⟩) (by assumption) ?restr2x4q13
        case hyr2x4q13 => intro wq hSw; (go_simp); (try with_reducible rfl)
        try simp only [Act.put, List.setIfInBounds_toArray, List.set_cons_zero, List.set_cons_succ]
        refine wpAnyH_take (i := 5) (oi := ⟨some 26, .fieldAddr 77 (.tmp 25) 0, 0, "ref.go:119", #[⟨4, .data⟩], none⟩) (v := ?_) rfl (by kernel_rfl) (by kernel_rfl) (by kernel_rfl) (fun _ _ _ h => h) (Or.inl ⟨by rfl, ?hyr2x5q16⟩) (by assumption) ?restr2x5q16
        case hyr2x5q16 => intro wq hSw; (go_simp); (try with_reducible rfl)
        try simp only [Act.put, List.setIfInBounds_toArray, List.set_cons_zero, List.set_cons_succ]
        refine wpAnyH_take (i := 6) (oi := ⟨some 27, .load 3 (.tmp 26), 3, "ref.go:119", #[⟨5, .data⟩], none⟩) (v := ?_) rfl (by kernel_rfl) (by kernel_rfl) (by kernel_rfl) (fun _ _ _ h => h) (Or.inl ⟨by rfl, ?hyr2x6q19⟩) (by assumption) ?restr2x6q19
        case hyr2x6q19 => intro wq hSw; ((obtain ⟨q0, q1, q2, q3⟩ := E.out _ hSw); go_simp); (try with_reducible rfl)
        try simp only [Act.put, List.setIfInBounds_toArray, List.set_cons_zero, List.set_cons_succ]
        refine wpAnyH_take (i := 7) (oi := ⟨some 28, .fieldAddr 41 (.tmp 1) 4, 0, "ref.go:119", #[], none⟩) (v := ?_) rfl (by kernel_rfl) (by kernel_rfl) (by kernel_rfl) (fun _ _ _ h => h) (Or.inl ⟨by rfl, ?hyr2x7q22⟩) (by assumption) ?restr2x7q22
        case hyr2x7q22 => intro wq hSw; (go_simp); (try with_reducible rfl)
        try simp only [Act.put, List.setIfInBounds_toArray, List.set_cons_zero, List.set_cons_succ]
        refine wpAnyH_take (i := 8) (oi := ⟨some 29, .load 39 (.tmp 28), 39, "ref.go:119", #[⟨7, .data⟩], none⟩) (v := ?_) rfl (by kernel_rfl) (by kernel_rfl) (by kernel_rfl) (fun _ _ _ h => h) (Or.inl ⟨by rfl, ?hyr2x8q25⟩) (by assumption) ?restr2x8q25
        case hyr2x8q25 => intro wq hSw; (have cq := (BH.out.nx hSw).cell 4 _ rfl; go_simp); (try with_reducible rfl)
        try simp only [Act.put, List.setIfInBounds_toArray, List.set_cons_zero, List.set_cons_succ]
        refine wpAnyH_take (i := 9) (oi := ⟨some 30, .move (.tmp 4), 3, "ref.go:119", #[], none⟩) (v := ?_) rfl (by kernel_rfl) (by kernel_rfl) (by kernel_rfl) (fun _ _ _ h => h) (Or.inl ⟨by rfl, ?hyr2x9q28⟩) (by assumption) ?restr2x9q28
        case hyr2x9q28 => intro wq hSw; (go_simp); (try with_reducible rfl)
        try simp only [Act.put, List.setIfInBounds_toArray, List.set_cons_zero, List.set_cons_succ]
        refine wpAnyH_take (i := 10) (oi := ⟨some 31, .indexAddr 39 (.tmp 29) (.tmp 30), 0, "ref.go:119", #[⟨8, .data⟩, ⟨9, .data⟩], none⟩) (v := ?_) rfl (by kernel_rfl) (by kernel_rfl) (by kernel_rfl) (fun _ _ _ h => h) (Or.inl ⟨by rfl, ?hyr2x10q31⟩) (by assumption) ?restr2x10q31
        case hyr2x10q31 => intro wq hSw; (go_simp); (try with_reducible rfl)
        try simp only [Act.put, List.setIfInBounds_toArray, List.set_cons_zero, List.set_cons_succ]
        refine wpAnyH_take (i := 11) (oi := ⟨some 32, .fieldAddr 77 (.tmp 31) 1, 0, "ref.go:119", #[⟨10, .data⟩], none⟩) (v := ?_) rfl (by kernel_rfl) (by kernel_rfl) (by kernel_rfl) (fun _ _ _ h => h) (Or.inl ⟨by rfl, ?hyr2x11q34⟩) (by assumption) ?restr2x11q34
        case hyr2x11q34 => intro wq hSw; (go_simp); (try with_reducible rfl)
        try simp only [Act.put, List.setIfInBounds_toArray, List.set_cons_zero, List.set_cons_succ]
        refine wpAnyH_take (i := 12) (oi := ⟨some 33, .load 3 (.tmp 32), 3, "ref.go:119", #[⟨11, .data⟩], none⟩) (v := ?_) rfl (by kernel_rfl) (by kernel_rfl) (by kernel_rfl) (fun _ _ _ h => h) (Or.inl ⟨by rfl, ?hyr2x12q37⟩) (by assumption) ?restr2x12q37
        case hyr2x12q37 => intro wq hSw; ((obtain ⟨q0, q1, q2, q3⟩ := E.out _ hSw); go_simp); (try with_reducible rfl)
        try simp only [Act.put, List.setIfInBounds_toArray, List.set_cons_zero, List.set_cons_succ]
        refine wpAnyH_take (i := 13) (oi := ⟨some 34, .fieldAddr 41 (.tmp 1) 4, 0, "ref.go:119", #[], none⟩) (v := ?_) rfl (by kernel_rfl) (by kernel_rfl) (by kernel_rfl) (fun _ _ _ h => h) (Or.inl ⟨by rfl, ?hyr2x13q40⟩) (by assumption) ?restr2x13q40
        case hyr2x13q40 => intro wq hSw; (go_simp); (try with_reducible rfl)
        try simp only [Act.put, List.setIfInBounds_toArray, List.set_cons_zero, List.set_cons_succ]
        refine wpAnyH_take (i := 14) (oi := ⟨some 35, .load 39 (.tmp 34), 39, "ref.go:119", #[⟨13, .data⟩], none⟩) (v := ?_) rfl (by kernel_rfl) (by kernel_rfl) (by kernel_rfl) (fun _ _ _ h => h) (Or.inl ⟨by rfl, ?hyr2x14q43⟩) (by assumption) ?restr2x14q43
        case hyr2x14q43 => intro wq hSw; (have cq := (BH.out.nx hSw).cell 4 _ rfl; go_simp); (try with_reducible rfl)
        try simp only [Act.put, List.setIfInBounds_toArray, List.set_cons_zero, List.set_cons_succ]
        refine wpAnyH_take (i := 15) (oi := ⟨some 36, .move (.tmp 4), 3, "ref.go:119", #[], none⟩) (v := ?_) rfl (by kernel_rfl) (by kernel_rfl) (by kernel_rfl) (fun _ _ _ h => h) (Or.inl ⟨by rfl, ?hyr2x15q46⟩) (by assumption) ?restr2x15q46
        case hyr2x15q46 => intro wq hSw; (go_simp); (try with_reducible rfl)
        try simp only [Act.put, List.setIfInBounds_toArray, List.set_cons_zero, List.set_cons_succ]
        refine wpAnyH_take (i := 16) (oi := ⟨some 37, .indexAddr 39 (.tmp 35) (.tmp 36), 0, "ref.go:119", #[⟨14, .data⟩, ⟨15, .data⟩], none⟩) (v := ?_) rfl (by kernel_rfl) (by kernel_rfl) (by kernel_rfl) (fun _ _ _ h => h) (Or.inl ⟨by rfl, ?hyr2x16q49⟩) (by assumption) ?restr2x16q49
        case hyr2x16q49 => intro wq hSw; (go_simp); (try with_reducible rfl)
        try simp only [Act.put, List.setIfInBounds_toArray, List.set_cons_zero, List.set_cons_succ]
        refine wpAnyH_take (i := 17) (oi := ⟨some 38, .fieldAddr 77 (.tmp 37) 2, 0, "ref.go:119", #[⟨16, .data⟩], none⟩) (v := ?_) rfl (by kernel_rfl) (by kernel_rfl) (by kernel_rfl) (fun _ _ _ h => h) (Or.inl ⟨by rfl, ?hyr2x17q52⟩) (by assumption) ?restr2x17q52
        case hyr2x17q52 => intro wq hSw; (go_simp); (try with_reducible rfl)
        try simp only [Act.put, List.setIfInBounds_toArray, List.set_cons_zero, List.set_cons_succ]
        refine wpAnyH_take (i := 18) (oi := ⟨some 39, .load 3 (.tmp 38), 3, "ref.go:119", #[⟨17, .data⟩], none⟩) (v := ?_) rfl (by kernel_rfl) (by kernel_rfl) (by kernel_rfl) (fun _ _ _ h => h) (Or.inl ⟨by rfl, ?hyr2x18q55⟩) (by assumption) ?restr2x18q55
        case hyr2x18q55 => intro wq hSw; ((obtain ⟨q0, q1, q2, q3⟩ := E.out _ hSw); go_simp); (try with_reducible rfl)
        try simp only [Act.put, List.setIfInBounds_toArray, List.set_cons_zero, List.set_cons_succ]
        refine wpAnyH_take (i := 19) (oi := ⟨some 40, .fieldAddr 41 (.tmp 1) 4, 0, "ref.go:119", #[], none⟩) (v := ?_) rfl (by kernel_rfl) (by kernel_rfl) (by kernel_rfl) (fun _ _ _ h => h) (Or.inl ⟨by rfl, ?hyr2x19q58⟩) (by assumption) ?restr2x19q58
        case hyr2x19q58 => intro wq hSw; (go_simp); (try with_reducible rfl)
        try simp only [Act.put, List.setIfInBounds_toArray, List.set_cons_zero, List.set_cons_succ]
        refine wpAnyH_take (i := 20) (oi := ⟨some 41, .load 39 (.tmp 40), 39, "ref.go:119", #[⟨19, .data⟩], none⟩) (v := ?_) rfl (by kernel_rfl) (by kernel_rfl) (by kernel_rfl) (fun _ _ _ h => h) (Or.inl ⟨by rfl, ?hyr2x20q61⟩) (by assumption) ?restr2x20q61
        case hyr2x20q61 => intro wq hSw; (have cq := (BH.out.nx hSw).cell 4 _ rfl; go_simp); (try with_reducible rfl)
        try simp only [Act.put, List.setIfInBounds_toArray, List.set_cons_zero, List.set_cons_succ]
        refine wpAnyH_take (i := 21) (oi := ⟨some 42, .move (.tmp 4), 3, "ref.go:119", #[], none⟩) (v := ?_) rfl (by kernel_rfl) (by kernel_rfl) (by kernel_rfl) (fun _ _ _ h => h) (Or.inl ⟨by rfl, ?hyr2x21q64⟩) (by assumption) ?restr2x21q64
        case hyr2x21q64 => intro wq hSw; (go_simp); (try with_reducible rfl)
        try simp only [Act.put, List.setIfInBounds_toArray, List.set_cons_zero, List.set_cons_succ]
        refine wpAnyH_take (i := 22) (oi := ⟨some 43, .indexAddr 39 (.tmp 41) (.tmp 42), 0, "ref.go:119", #[⟨20, .data⟩, ⟨21, .data⟩], none⟩) (v := ?_) rfl (by kernel_rfl) (by kernel_rfl) (by kernel_rfl) (fun _ _ _ h => h) (Or.inl ⟨by rfl, ?hyr2x22q67⟩) (by assumption) ?restr2x22q67
        case hyr2x22q67 => intro wq hSw; (go_simp); (try with_reducible rfl)
        try simp only [Act.put, List.setIfInBounds_toArray, List.set_cons_zero, List.set_cons_succ]
        refine wpAnyH_take (i := 23) (oi := ⟨some 44, .fieldAddr 77 (.tmp 43) 3, 0, "ref.go:119", #[⟨22, .data⟩], none⟩) (v := ?_) rfl (by kernel_rfl) (by kernel_rfl) (by kernel_rfl) (fun _ _ _ h => h) (Or.inl ⟨by rfl, ?hyr2x23q70⟩) (by assumption) ?restr2x23q70
        case hyr2x23q70 => intro wq hSw; (go_simp); (try with_reducible rfl)
        try simp only [Act.put, List.setIfInBounds_toArray, List.set_cons_zero, List.set_cons_succ]
        refine wpAnyH_take (i := 24) (oi := ⟨some 45, .load 3 (.tmp 44), 3, "ref.go:119", #[⟨23, .data⟩], none⟩) (v := ?_) rfl (by kernel_rfl) (by kernel_rfl) (by kernel_rfl) (fun _ _ _ h => h) (Or.inl ⟨by rfl, ?hyr2x24q73⟩) (by assumption) ?restr2x24q73
        case hyr2x24q73 => intro wq hSw; ((obtain ⟨q0, q1, q2, q3⟩ := E.out _ hSw); go_simp); (try with_reducible rfl)
        try simp only [Act.put, List.setIfInBounds_toArray, List.set_cons_zero, List.set_cons_succ]
        refine wpAnyH_ready (rs := [25]) (by kernel_rfl) (by simp) ?_
        refine AllReadyH.cons (o := ⟨some 46, .buildSlice 22 4 #[(0, .tmp 27), (1, .tmp 33), (2, .tmp 39), (3, .tmp 45)], 22, "ref.go:119", #[⟨6, .data⟩, ⟨12, .data⟩, ⟨18, .data⟩, ⟨24, .data⟩], none⟩) rfl (fun K hK => ?_) AllReadyH.nil
        go_simp
        obtain ⟨g8, u8, hg8, hu8, L8, k8, j8⟩ := lit4 hHeld y
        replace OWN := Lib.hid (OWN.out.nx k8)
        (first | rw [← hg8, ← hu8] | (rw [show wi.drew.heap.size = wi.heap.size from rfl] at hg8; rw [← hg8, show ∀ o, (wi.alloc o).drew = wi.drew.alloc o from fun _ => rfl, ← hu8]))
        clear hg8 hu8 k8 hHeld
        have hHeld := j8
        clear j8
        refine hK.out _ _ (hHeld) (fun hHeld => ?_)
        clear hK K
        try simp only [Act.put, List.setIfInBounds_toArray, List.set_cons_zero, List.set_cons_succ]
        refine wpAnyH_ready (rs := [26]) (by kernel_rfl) (by simp) ?_
        refine AllReadyH.cons (o := ⟨some 47, .call { callee := .builtin .append, args := #[.tmp 21, .tmp 46], argTypes := #[22, 22] }, 22, "ref.go:119", #[⟨0, .data⟩, ⟨25, .data⟩], none⟩) rfl (fun K hK => ?_) AllReadyH.nil
        rw [if_pos (by rfl)]
        have z0 := Ex.size hHeld
        refine wp_append_rd (enc := encI) _ (.tmp 21) (.tmp 46) 22 rfl w1.heap.size 3 (.int .i64 0) 1 8 Tryd.underlying22 Tryd.infoI6 rfl (by omega) (by omega) _ row OWN.out rfl _ _ 4 4 (nums4 y) L8 (fun h => by cases h) (fun _ => rfl) (by simp [encI, Value.oneCell']) rfl (by omega) (by omega) z0 ?_
        intro v9 w9 own9 ch0 ch1
        have j9 : Ex w1 w9 := Chg.trans hHeld ch1
        clear ch0 ch1 z0 L8 hHeld
        have hHeld := j9
        clear j9
        refine hK.out _ _ (hHeld) (fun hHeld => ?_)
        clear hK K
        try simp only [Act.put, List.setIfInBounds_toArray, List.set_cons_zero, List.set_cons_succ]
        refine wpAnyH_take (i := 27) (oi := ⟨some 3, .assign (.tmp 47), 22, "ref.go:119", #[⟨26, .data⟩, ⟨26, .chain⟩, ⟨0, .phase⟩, ⟨1, .phase⟩, ⟨2, .phase⟩, ⟨3, .phase⟩, ⟨4, .phase⟩, ⟨5, .phase⟩, ⟨6, .phase⟩, ⟨7, .phase⟩, ⟨8, .phase⟩, ⟨9, .phase⟩, ⟨10, .phase⟩, ⟨11, .phase⟩, ⟨12, .phase⟩, ⟨13, .phase⟩, ⟨14, .phase⟩, ⟨15, .phase⟩, ⟨16, .phase⟩, ⟨17, .phase⟩, ⟨18, .phase⟩, ⟨19, .phase⟩, ⟨20, .phase⟩, ⟨21, .phase⟩, ⟨22, .phase⟩, ⟨23, .phase⟩, ⟨24, .phase⟩, ⟨25, .phase⟩, ⟨26, .phase⟩], none⟩) (v := ?_) rfl (by kernel_rfl) (by kernel_rfl) (by kernel_rfl) (fun _ _ _ h => h) (Or.inl ⟨by rfl, ?hyr2x27q101⟩) (by assumption) ?restr2x27q101
        case hyr2x27q101 => intro wq hSw; (go_simp); (try with_reducible rfl)
        try simp only [Act.put, List.setIfInBounds_toArray, List.set_cons_zero, List.set_cons_succ]
        refine wpAnyH_done (by kernel_rfl) ?_ _
        skip
        go_wp2_with fail
        exact ⟨⟨j + 1, by omega, by go_num, by rw [SN.out]; exact own9, hHeld⟩, by simp [intOf]; omega⟩
      · obtain rfl : j = n2 := by omega
        rw [List.take_of_length_le (by omega)] at own
        have own := Lib.hid (own.base hz1)
        have KE := Lib.hid (K1.out.nx ki)
        clear hj hjm ki
        go_wp2_with fail
        go_ret
        exact ⟨_, rfl, by rw [HN.out]; exact own.out, KE.out⟩
set_option maxRecDepth 100000 in
set_option maxHeartbeats 4000000 in
theorem refs_q (a : Option Addr) (n c : Nat) (N : List Nd) (p : Pr) (a1 : Option Addr) (n1 c1 : Nat) (a2 : Option Addr) (n2 c2 : Nat) (w : World) (h : Sl 3 encN w a n N) (hn : n ≤ 1000) (h1 : Sl 1 encI w a1 n1 p.known) (h2 : Sl 4 encNr w a2 n2 p.near) (hn1 : n1 ≤ 2000000) (hn2 : n2 ≤ 2000000) :
    Calls Tryd.prog 26 #[.slice a n c, .agg #[.int .i64 p.id, .slice a1 n1 c1, .int .i64 p.left, .int .i64 p.right, .slice a2 n2 c2]] w (OiPost (refsN N p) w) := by
  have EX := Ex.refl w
  have hl1 : p.known.length = n1 := h1.len
  have hl2 : p.near.length = n2 := h2.len
  have HNL := Lib.hid (nums_len_p p)
  have B3 := Blk.new w [.int .i64 p.id, .slice a1 n1 c1, .int .i64 p.left, .int .i64 p.right, .slice a2 n2 c2] 41
  have kk := Ex.new w (.cells #[.int .i64 p.id, .slice a1 n1 c1, .int .i64 p.left, .int .i64 p.right, .slice a2 n2 c2] 41)
  obtain ⟨w1, hw1⟩ : ∃ w1, w1 = w.alloc (.cells #[.int .i64 p.id, .slice a1 n1 c1, .int .i64 p.left, .int .i64 p.right, .slice a2 n2 c2] 41) := ⟨_, rfl⟩
  obtain ⟨g3, hg3⟩ : ∃ g3, g3 = w.heap.size := ⟨_, rfl⟩
  replace B3 : Blk w1 g3 [.int .i64 p.id, .slice a1 n1 c1, .int .i64 p.left, .int .i64 p.right, .slice a2 n2 c2] 41 := by rw [hw1, hg3]; exact B3
  rw [← hw1] at kk
  have Hw1 := Lib.hid hw1
  have Hg3 := Lib.hid hg3
  replace h := h.nx kk
  replace h1 := h1.nx kk
  replace h2 := h2.nx kk
  replace EX := EX.nx kk
  clear kk hw1 hg3
  go_enter Tryd.func26, Tryd.ntmps26
  go_upto_region 1 with fail
  rw [← Hg3.out, ← Hw1.out]
  clear Hg3 Hw1
  go_wp2_with fail
  (with_reducible refine (is_r _ _ _ _ _ h (by omega)).mono ?_)
  rintro e w2 ⟨rfl, kk⟩
  replace h := h.nx kk
  replace h1 := h1.nx kk
  replace h2 := h2.nx kk
  replace EX := EX.nx kk
  replace B3 := B3.nx kk
  clear kk
  by_cases hck : checkN N = 0
  case neg =>
    have d1 : (checkN N == 0) = false := by simpa using hck
    have E0 : Hid (refsN N p = []) := Lib.hid (by unfold refsN; rw [if_neg hck])
    rw [d1]
    clear h h1 h2 hck B3
    go_wp2_with fail
    go_ret
    exact ⟨_, rfl, by rw [E0.out]; exact OwnL.nil _ _ _ _ _, EX⟩
  have d1 : (checkN N == 0) = true := by simpa using hck
  have E0 : Hid (refsN N p = ordN N (numsP p) p.id) := Lib.hid (by unfold refsN; rw [if_pos hck])
  rw [d1]
  clear hck d1
  have HB := Lib.hid B3
  have HN := Lib.hid h
  have H1 := Lib.hid h1
  have H2 := Lib.hid h2
  have EXH := Lib.hid EX
  clear B3 h h1 h2 EX
  go_upto_region 3 with fail
  refine wp_region_held_drew (S := Ex w2) (by kernel_rfl) ((Ex.refl w2).drew) (fun hHeld => ?_)
  refine wpAnyH_take (i := 0) (oi := ⟨some 8, .move (.tmp 0), 23, "ref.go:129", #[], none⟩) (v := ?_) rfl (by kernel_rfl) (by kernel_rfl) (by kernel_rfl) (fun _ _ _ h => h) (Or.inl ⟨by rfl, ?hyr3x0q1⟩) (by assumption) ?restr3x0q1
  case hyr3x0q1 => intro wq hSw; (go_simp); (try with_reducible rfl)
  try simp only [Act.put, List.setIfInBounds_toArray, List.set_cons_zero, List.set_cons_succ]
  refine wpAnyH_take (i := 1) (oi := ⟨some 9, .load 41 (.tmp 3), 41, "ref.go:129", #[], none⟩) (v := ?_) rfl (by kernel_rfl) (by kernel_rfl) (by kernel_rfl) (fun _ _ _ h => h) (Or.inl ⟨by rfl, ?hyr3x1q4⟩) (by assumption) ?restr3x1q4
  case hyr3x1q4 => intro wq hSw; (have B := HB.out.nx hSw; have c0 := B.cell 0 _ rfl; have c1 := B.cell 1 _ rfl; have c2 := B.cell 2 _ rfl; have c3 := B.cell 3 _ rfl; have c4 := B.cell 4 _ rfl; go_simp); (try with_reducible rfl)
  try simp only [Act.put, List.setIfInBounds_toArray, List.set_cons_zero, List.set_cons_succ]
  refine wpAnyH_take (i := 3) (oi := ⟨some 11, .fieldAddr 41 (.tmp 3) 0, 0, "ref.go:129", #[], none⟩) (v := ?_) rfl (by kernel_rfl) (by kernel_rfl) (by kernel_rfl) (fun _ _ _ h => h) (Or.inl ⟨by rfl, ?hyr3x3q7⟩) (by assumption) ?restr3x3q7
  case hyr3x3q7 => intro wq hSw; (go_simp); (try with_reducible rfl)
  try simp only [Act.put, List.setIfInBounds_toArray, List.set_cons_zero, List.set_cons_succ]
  refine wpAnyH_take (i := 4) (oi := ⟨some 12, .load 3 (.tmp 11), 3, "ref.go:129", #[⟨3, .data⟩], none⟩) (v := ?_) rfl (by kernel_rfl) (by kernel_rfl) (by kernel_rfl) (fun _ _ _ h => h) (Or.inl ⟨by rfl, ?hyr3x4q10⟩) (by assumption) ?restr3x4q10
  case hyr3x4q10 => intro wq hSw; (have c0 := (HB.out.nx hSw).cell 0 _ rfl; go_simp); (try with_reducible rfl)
  try simp only [Act.put, List.setIfInBounds_toArray, List.set_cons_zero, List.set_cons_succ]
  refine wpAnyH_ready (rs := [2]) (by kernel_rfl) (by simp) ?_
  refine AllReadyH.cons (o := ⟨some 10, .call { callee := .value (.func 67), args := #[.tmp 9], argTypes := #[41] }, 22, "ref.go:129", #[⟨1, .data⟩], none⟩) rfl (fun K hK => ?_) AllReadyH.nil
  go_simp
  (with_reducible refine (numbers_q p _ _ _ _ _ _ _ (H1.out.nx hHeld) (H2.out.nx hHeld) hn1 hn2).mono ?_)
  rintro e w5 ⟨v5, rfl, own5, kk⟩
  obtain ⟨A5, C5, rfl, sl5, _, _, _⟩ := own5.slf (fun _ => rfl)
  have sl5 := Lib.hid sl5.sl
  replace hHeld := hHeld.nx kk
  clear kk own5
  refine hK.out _ _ (hHeld) (fun hHeld => ?_)
  clear hK K
  try simp only [Act.put, List.setIfInBounds_toArray, List.set_cons_zero, List.set_cons_succ]
  refine wpAnyH_ready (rs := [5]) (by kernel_rfl) (by simp) ?_
  refine AllReadyH.cons (o := ⟨some 13, .call { callee := .value (.func 66), args := #[.tmp 8, .tmp 10, .tmp 12], argTypes := #[23, 22, 3] }, 22, "ref.go:129", #[⟨0, .data⟩, ⟨2, .data⟩, ⟨4, .data⟩, ⟨2, .chain⟩], none⟩) rfl (fun K hK => ?_) AllReadyH.nil
  go_simp
  (with_reducible refine (ordered_r _ _ _ N _ _ _ (numsP p) p.id _ (HN.out.nx hHeld) hn sl5.out (by rw [HNL.out]; omega)).mono ?_)
  rintro e w6 ⟨v6, rfl, own6, kk⟩
  have own6 := Lib.hid (own6.base (EXH.out.nx hHeld).size)
  replace hHeld := hHeld.nx kk
  clear kk
  refine hK.out _ _ (hHeld) (fun hHeld => ?_)
  clear hK K
  try simp only [Act.put, List.setIfInBounds_toArray, List.set_cons_zero, List.set_cons_succ]
  refine wpAnyH_take (i := 6) (oi := ⟨some 4, .assign (.tmp 13), 22, "ref.go:129", #[⟨5, .data⟩, ⟨5, .chain⟩, ⟨0, .phase⟩, ⟨1, .phase⟩, ⟨2, .phase⟩, ⟨3, .phase⟩, ⟨4, .phase⟩, ⟨5, .phase⟩], none⟩) (v := ?_) rfl (by kernel_rfl) (by kernel_rfl) (by kernel_rfl) (fun _ _ _ h => h) (Or.inl ⟨by rfl, ?hyr3x6q36⟩) (by assumption) ?restr3x6q36
  case hyr3x6q36 => intro wq hSw; (go_simp); (try with_reducible rfl)
  try simp only [Act.put, List.setIfInBounds_toArray, List.set_cons_zero, List.set_cons_succ]
  refine wpAnyH_done (by kernel_rfl) ?_ _
  have KE := Lib.hid (EXH.out.nx hHeld)
  clear hHeld
  go_wp2_with fail
  go_ret
  exact ⟨_, rfl, by rw [E0.out]; exact own6.out, KE.out⟩
end Go.Proofs.YtbnbjiddffihoaaDoor

/- The sanity check of chapter 14 (printed by gen_l14.py). -/
namespace Go.Proofs.YtbnbjiddffihoaaDoor
open Go.RowKit

def fiveN : List Nd := [⟨1, ⟨#[97]⟩, 0⟩, ⟨2, ⟨#[98]⟩, 1⟩, ⟨3, ⟨#[99]⟩, 2⟩, ⟨4, ⟨#[100]⟩, 3⟩, ⟨5, ⟨#[101]⟩, 4⟩]
theorem five_con : contactsN fiveN 3 2 0 = [1, 2, 4, 5] := by decide +kernel
theorem five_len : (peersN fiveN 2 1).length = 5 := by decide +kernel
theorem five_gap : gapN fiveN [2, 3] = 2 := by decide +kernel
theorem five_conn : connB fiveN (peersN fiveN 2 1) = true := by decide +kernel
theorem five_crash : (crashN (peersN fiveN 2 1) [1]).length = 4 := by decide +kernel
theorem fiveW : ∀ x ∈ fiveN, x.word < 4294967296 := by decide +kernel
theorem five_all : (peersN fiveN 2 1).all (fun p => decide (p.known.length ≤ 1000) && decide (p.near.length ≤ 1000)) = true := by decide +kernel
theorem five_small2 : SmallP (peersN fiveN 2 1) := fun p hp => by
  have h := List.all_eq_true.1 five_all p hp
  simp only [Bool.and_eq_true, decide_eq_true_eq] at h
  omega
theorem five_small : ∀ p ∈ peersN fiveN 2 1, p.known.length ≤ 4000000000000000000 ∧ p.near.length ≤ 4000000000000000000 := fun p hp => by have := five_small2 p hp; omega
theorem five_at2 : ((peersN fiveN 2 1)[2]?).map (fun p => (p.left, p.near.length, (p.near[0]?).map fun x => x.1)) = some (2, 1, some 1) := by decide +kernel
theorem five_two {y : Pr} (hy : (peersN fiveN 2 1)[2]? = some y) : y.left = 2 ∧ y.near.length = 1 ∧ ∃ z : Nr, y.near[0]? = some z ∧ z.1 = 1 := by
  have h := five_at2
  rw [hy] at h
  simp only [Option.map_some, Option.some.injEq, Prod.mk.injEq] at h
  obtain ⟨h1, h2, h3⟩ := h
  refine ⟨h1, h2, ?_⟩
  cases hz : y.near[0]? with
  | none => rw [hz] at h3; cases h3
  | some z => rw [hz] at h3; exact ⟨z, rfl, Option.some.inj h3⟩
theorem five_at0 : ((peersN fiveN 2 1)[0]?).map (fun p => decide (0 < (refsN fiveN p).length)) = some true := by decide +kernel
theorem five_one {y : Pr} (hy : (peersN fiveN 2 1)[0]? = some y) : 0 < (refsN fiveN y).length := by
  have h := five_at0
  rw [hy] at h
  simpa using h
theorem litE {w0 u : World} (_ : Ex w0 u) (x : Int) : ∃ g v, g = u.heap.size ∧ v = u.alloc (.cells #[.int .i64 x] 3) ∧ Sl 1 encI v (some ⟨g, 0, none⟩) 1 [x] ∧ Ex u v :=
  ⟨_, _, rfl, rfl, Sl.lit [x] rfl rfl (fun _ => rfl) rfl, Ex.new _ _⟩
def ThPost5 (w : World) (e : Ending) (w' : World) : Prop := ∃ a, e = .returned (.slice a 5 5) ∧ Sl 3 encN w' a 5 fiveN ∧ Ex w w'
theorem five_x (w : World) : Calls Tryd.prog 57 #[] w (ThPost5 w) := by
  go_enter Tryd.func57, Tryd.ntmps57
  go_wp2_with fail
  go_ret
  exact ⟨_, rfl, Sl.lit fiveN rfl rfl (fun _ => rfl) rfl, Ex.new _ _⟩
set_option maxRecDepth 100000 in
set_option maxHeartbeats 8000000 in
theorem sane14_x (w : World) (hT : TabG w) : Calls Tryd.prog 20 #[] w fun e w' => e = .returned (.bool true) ∧ Ex w w' := by
  go_enter Tryd.func20, Tryd.ntmps20
  have k := Ex.refl w
  have T := hT
  clear hT
  go_wp2_with fail
  (with_reducible refine (five_x _).mono ?_)
  rintro e w1 ⟨a1, rfl, s1, kk⟩
  replace k := k.nx kk
  replace T := T.nx kk
  clear kk
  go_wp2_with fail
  (with_reducible refine (contacts_p _ _ _ fiveN 3 2 0 _ s1 (by omega) (by omega) (by unfold maxLen; omega) fiveW T).mono ?_)
  rintro e w2 ⟨v, rfl, own, kk⟩
  replace k := k.nx kk
  replace T := T.nx kk
  replace s1 := s1.nx kk
  clear kk
  rw [five_con] at own
  obtain ⟨aC, cC, rfl, C, _, _, _⟩ := own.slf (fun _ => rfl)
  have C := C.sl
  simp only [List.length_cons, List.length_nil, Nat.zero_add, Nat.reduceAdd] at C ⊢
  clear own s1
  replace C := Lib.hid C
  go_wp2_with fail
  (with_reducible refine (five_x _).mono ?_)
  rintro e w3 ⟨a1, rfl, s1, kk⟩
  replace k := k.nx kk
  replace T := T.nx kk
  replace C := Lib.hid (C.out.nx kk)
  clear kk
  go_wp2_with fail
  (with_reducible refine (peers_p _ _ _ fiveN 2 1 _ s1 (by omega) (by omega) (by unfold maxLen; omega) fiveW T).mono ?_)
  rintro e w4 ⟨v, qs, rfl, own, kk⟩
  replace k := k.nx kk
  replace T := T.nx kk
  replace C := Lib.hid (C.out.nx kk)
  replace s1 := s1.nx kk
  clear kk
  obtain ⟨aP, cP, rfl, P, _, _, _⟩ := own.pl
  have hP5 := Lib.hid five_len
  rw [five_len] at P ⊢
  clear own s1
  replace P := Lib.hid P
  obtain ⟨x1, o1, y1, rfl, hx1, hy1, hc1⟩ := C.out.at (j := 0) (by omega)
  obtain ⟨x2, o2, y2, he, _, hy2, hc2⟩ := C.out.at (j := 3) (by omega)
  cases he
  cases hy1
  cases hy2
  have e0 : w4.cell? ⟨x1, o1, none⟩ = some (.int .i64 1) := by simpa using hc1 0 _ rfl
  have e1 : w4.cell? ⟨x1, o1 + 3, none⟩ = some (.int .i64 5) := by simpa using hc2 0 _ rfl
  have C0 := Lib.hid (fun wq (k : Ex w4 wq) => Chg.cellv k e0 hx1)
  have C3 := Lib.hid (fun wq (k : Ex w4 wq) => Chg.cellv k e1 hx1)
  clear hc1 hc2 e0 e1 hx1 C
  obtain ⟨xp, op, b1, m1, d1, b4, m4, d4, y, rfl, hxp, hy, p0, p1, p2, p3, p4, _, s4⟩ := P.out.rd (j := 2) (by omega)
  obtain ⟨hyl, hyn, z, hz, hzl⟩ := five_two hy
  have hm4 : m4 = 1 := s4.len.symm.trans hyn
  subst hm4
  obtain ⟨xn, on, z', rfl, hxn, hz', hcz⟩ := s4.at (j := 0) (by omega)
  obtain rfl : z = z' := Option.some.inj (hz.symm.trans hz')
  have q0 : w4.cell? ⟨xn, on, none⟩ = some (.int .i64 1) := by have h := hcz 0 _ rfl; rw [hzl] at h; simpa using h
  have e2 : w4.cell? ⟨xp, op + 10 + 1 + 1, none⟩ = some (.int .i64 2) := by rw [hyl] at p2; simpa using p2
  have e4 : w4.cell? ⟨xp, op + 10 + 1 + 1 + 1 + 1, none⟩ = some (.slice (some ⟨xn, on, none⟩) 1 d4) := by simpa using p4
  have Q0 := Lib.hid (fun wq (k : Ex w4 wq) => Chg.cellv k q0 hxn)
  have P2 := Lib.hid (fun wq (k : Ex w4 wq) => Chg.cellv k e2 hxp)
  have P4 := Lib.hid (fun wq (k : Ex w4 wq) => Chg.cellv k e4 hxp)
  clear p0 p1 p2 p3 p4 hy hyl hyn hz hz' hzl hcz s4 hxn q0 e2 e4
  obtain ⟨xp', op', b1', m1', d1', b4', m4', d4', y', he, _, hy', p0, p1, p2, p3, p4, r1, r4⟩ := P.out.rd (j := 0) (by omega)
  cases he
  have hy1 := Lib.hid (five_one hy')
  have p0 : w4.cell? ⟨xp, op, none⟩ = some (.int .i64 y'.id) := by simpa using p0
  have p1 : w4.cell? ⟨xp, op + 1, none⟩ = some (.slice b1' m1' d1') := by simpa using p1
  have p2 : w4.cell? ⟨xp, op + 1 + 1, none⟩ = some (.int .i64 y'.left) := by simpa using p2
  have p3 : w4.cell? ⟨xp, op + 1 + 1 + 1, none⟩ = some (.int .i64 y'.right) := by simpa using p3
  have p4 : w4.cell? ⟨xp, op + 1 + 1 + 1 + 1, none⟩ = some (.slice b4' m4' d4') := by simpa using p4
  have R0 := Lib.hid (fun wq (k : Ex w4 wq) => Chg.cellv k p0 hxp)
  have R1 := Lib.hid (fun wq (k : Ex w4 wq) => Chg.cellv k p1 hxp)
  have R2 := Lib.hid (fun wq (k : Ex w4 wq) => Chg.cellv k p2 hxp)
  have R3 := Lib.hid (fun wq (k : Ex w4 wq) => Chg.cellv k p3 hxp)
  have R4 := Lib.hid (fun wq (k : Ex w4 wq) => Chg.cellv k p4 hxp)
  have hl1 : m1' ≤ 4000000000000000000 := by have := r1.len; have := (five_small y' (List.mem_of_getElem? hy')).1; omega
  have hl4 : m4' ≤ 4000000000000000000 := by have := r4.len; have := (five_small y' (List.mem_of_getElem? hy')).2; omega
  have r1 := Lib.hid r1
  have r4 := Lib.hid r4
  clear hy' hxp p0 p1 p2 p3 p4
  have K4 := Lib.hid k
  clear k T
  go_upto_region 3 with fail
  refine wp_region_held_drew (S := Ex w4) (by kernel_rfl) ((Ex.refl w4).drew) (fun hHeld => ?_)
  obtain ⟨wd, hwdx⟩ : ∃ wd : World, wd = World.drew w4 := ⟨_, rfl⟩
  rw [← hwdx] at hHeld ⊢
  have hDrew : Ex w4 wd := by rw [hwdx]; exact (Ex.refl w4).drew
  clear hwdx
  refine wpAnyH_take (i := 0) (oi := ⟨some 7, .move (.tmp 1), 22, "law.go:23", #[], none⟩) (v := ?_) rfl (by kernel_rfl) (by kernel_rfl) (by kernel_rfl) (fun _ _ _ h => h) (Or.inl ⟨by rfl, ?hyr1x0q5⟩) (by assumption) ?restr1x0q5
  case hyr1x0q5 => intro wq hSw; (go_simp); (try with_reducible rfl)
  try simp only [Act.put, List.setIfInBounds_toArray, List.set_cons_zero, List.set_cons_succ]
  refine wpAnyH_take (i := 1) (oi := ⟨some 8, .call { callee := .builtin .len, args := #[.tmp 7], argTypes := #[22] }, 3, "law.go:23", #[⟨0, .data⟩], none⟩) (v := ?_) rfl (by kernel_rfl) (by kernel_rfl) (by kernel_rfl) (fun _ _ _ h => h) (Or.inl ⟨by rfl, ?hyr1x1q8⟩) (by assumption) ?restr1x1q8
  case hyr1x1q8 => intro wq hSw; (go_simp); (try with_reducible rfl)
  try simp only [Act.put, List.setIfInBounds_toArray, List.set_cons_zero, List.set_cons_succ]
  refine wpAnyH_take (i := 2) (oi := ⟨some 9, .binOp .eql 3 (.tmp 8) (.const (.int .i64 4)) 3, 4, "law.go:23", #[⟨1, .data⟩], none⟩) (v := ?_) rfl (by kernel_rfl) (by kernel_rfl) (by kernel_rfl) (fun _ _ _ h => h) (Or.inl ⟨by rfl, ?hyr1x2q11⟩) (by assumption) ?restr1x2q11
  case hyr1x2q11 => intro wq hSw; (go_simp); (try with_reducible rfl)
  try simp only [Act.put, List.setIfInBounds_toArray, List.set_cons_zero, List.set_cons_succ]
  refine wpAnyH_take (i := 3) (oi := ⟨some 10, .move (.tmp 9), 4, "law.go:23", #[⟨2, .data⟩], none⟩) (v := ?_) rfl (by kernel_rfl) (by kernel_rfl) (by kernel_rfl) (fun _ _ _ h => h) (Or.inl ⟨by rfl, ?hyr1x3q14⟩) (by assumption) ?restr1x3q14
  case hyr1x3q14 => intro wq hSw; (go_simp); (try with_reducible rfl)
  try simp only [Act.put, List.setIfInBounds_toArray, List.set_cons_zero, List.set_cons_succ]
  refine wpAnyH_take (i := 4) (oi := ⟨some 11, .move (.tmp 1), 22, "law.go:23", #[⟨3, .guard⟩], some (3, true)⟩) (v := ?_) rfl (by kernel_rfl) (by kernel_rfl) (by kernel_rfl) (fun _ _ _ h => h) (Or.inl ⟨by rfl, ?hyr1x4q17⟩) (by assumption) ?restr1x4q17
  case hyr1x4q17 => intro wq hSw; (go_simp); (try with_reducible rfl)
  try simp only [Act.put, List.setIfInBounds_toArray, List.set_cons_zero, List.set_cons_succ]
  refine wpAnyH_take (i := 5) (oi := ⟨some 12, .indexAddr 22 (.tmp 11) (.const (.int .i64 0)), 0, "law.go:23", #[⟨4, .data⟩, ⟨3, .guard⟩], some (3, true)⟩) (v := ?_) rfl (by kernel_rfl) (by kernel_rfl) (by kernel_rfl) (fun _ _ _ h => h) (Or.inl ⟨by rfl, ?hyr1x5q20⟩) (by assumption) ?restr1x5q20
  case hyr1x5q20 => intro wq hSw; (go_simp); (try with_reducible rfl)
  try simp only [Act.put, List.setIfInBounds_toArray, List.set_cons_zero, List.set_cons_succ]
  refine wpAnyH_take (i := 6) (oi := ⟨some 13, .load 3 (.tmp 12), 3, "law.go:23", #[⟨5, .data⟩, ⟨3, .guard⟩], some (3, true)⟩) (v := ?_) rfl (by kernel_rfl) (by kernel_rfl) (by kernel_rfl) (fun _ _ _ h => h) (Or.inl ⟨by rfl, ?hyr1x6q23⟩) (by assumption) ?restr1x6q23
  case hyr1x6q23 => intro wq hSw; (have cq := C0.out wq hSw; go_simp); (try with_reducible rfl)
  try simp only [Act.put, List.setIfInBounds_toArray, List.set_cons_zero, List.set_cons_succ]
  refine wpAnyH_take (i := 7) (oi := ⟨some 14, .binOp .eql 3 (.tmp 13) (.const (.int .i64 1)) 3, 4, "law.go:23", #[⟨6, .data⟩, ⟨3, .guard⟩], some (3, true)⟩) (v := ?_) rfl (by kernel_rfl) (by kernel_rfl) (by kernel_rfl) (fun _ _ _ h => h) (Or.inl ⟨by rfl, ?hyr1x7q26⟩) (by assumption) ?restr1x7q26
  case hyr1x7q26 => intro wq hSw; (go_simp); (try with_reducible rfl)
  try simp only [Act.put, List.setIfInBounds_toArray, List.set_cons_zero, List.set_cons_succ]
  refine wpAnyH_take (i := 8) (oi := ⟨some 15, .pick (.tmp 10) (.tmp 14) (.const (.bool false)), 4, "law.go:23", #[⟨3, .data⟩, ⟨7, .data⟩], none⟩) (v := ?_) rfl (by kernel_rfl) (by kernel_rfl) (by kernel_rfl) (fun _ _ _ h => h) (Or.inl ⟨by rfl, ?hyr1x8q29⟩) (by assumption) ?restr1x8q29
  case hyr1x8q29 => intro wq hSw; (go_simp); (try with_reducible rfl)
  try simp only [Act.put, List.setIfInBounds_toArray, List.set_cons_zero, List.set_cons_succ]
  refine wpAnyH_take (i := 9) (oi := ⟨some 16, .move (.tmp 15), 4, "law.go:23", #[⟨8, .data⟩, ⟨3, .chain⟩], none⟩) (v := ?_) rfl (by kernel_rfl) (by kernel_rfl) (by kernel_rfl) (fun _ _ _ h => h) (Or.inl ⟨by rfl, ?hyr1x9q32⟩) (by assumption) ?restr1x9q32
  case hyr1x9q32 => intro wq hSw; (go_simp); (try with_reducible rfl)
  try simp only [Act.put, List.setIfInBounds_toArray, List.set_cons_zero, List.set_cons_succ]
  refine wpAnyH_take (i := 10) (oi := ⟨some 17, .move (.tmp 1), 22, "law.go:23", #[⟨9, .guard⟩], some (9, true)⟩) (v := ?_) rfl (by kernel_rfl) (by kernel_rfl) (by kernel_rfl) (fun _ _ _ h => h) (Or.inl ⟨by rfl, ?hyr1x10q35⟩) (by assumption) ?restr1x10q35
  case hyr1x10q35 => intro wq hSw; (go_simp); (try with_reducible rfl)
  try simp only [Act.put, List.setIfInBounds_toArray, List.set_cons_zero, List.set_cons_succ]
  refine wpAnyH_take (i := 11) (oi := ⟨some 18, .indexAddr 22 (.tmp 17) (.const (.int .i64 3)), 0, "law.go:23", #[⟨10, .data⟩, ⟨9, .guard⟩], some (9, true)⟩) (v := ?_) rfl (by kernel_rfl) (by kernel_rfl) (by kernel_rfl) (fun _ _ _ h => h) (Or.inl ⟨by rfl, ?hyr1x11q38⟩) (by assumption) ?restr1x11q38
  case hyr1x11q38 => intro wq hSw; (go_simp); (try with_reducible rfl)
  try simp only [Act.put, List.setIfInBounds_toArray, List.set_cons_zero, List.set_cons_succ]
  refine wpAnyH_take (i := 12) (oi := ⟨some 19, .load 3 (.tmp 18), 3, "law.go:23", #[⟨11, .data⟩, ⟨9, .guard⟩], some (9, true)⟩) (v := ?_) rfl (by kernel_rfl) (by kernel_rfl) (by kernel_rfl) (fun _ _ _ h => h) (Or.inl ⟨by rfl, ?hyr1x12q41⟩) (by assumption) ?restr1x12q41
  case hyr1x12q41 => intro wq hSw; (have cq := C3.out wq hSw; go_simp); (try with_reducible rfl)
  try simp only [Act.put, List.setIfInBounds_toArray, List.set_cons_zero, List.set_cons_succ]
  refine wpAnyH_take (i := 13) (oi := ⟨some 20, .binOp .eql 3 (.tmp 19) (.const (.int .i64 5)) 3, 4, "law.go:23", #[⟨12, .data⟩, ⟨9, .guard⟩], some (9, true)⟩) (v := ?_) rfl (by kernel_rfl) (by kernel_rfl) (by kernel_rfl) (fun _ _ _ h => h) (Or.inl ⟨by rfl, ?hyr1x13q44⟩) (by assumption) ?restr1x13q44
  case hyr1x13q44 => intro wq hSw; (go_simp); (try with_reducible rfl)
  try simp only [Act.put, List.setIfInBounds_toArray, List.set_cons_zero, List.set_cons_succ]
  refine wpAnyH_take (i := 14) (oi := ⟨some 21, .pick (.tmp 16) (.tmp 20) (.const (.bool false)), 4, "law.go:23", #[⟨9, .data⟩, ⟨13, .data⟩], none⟩) (v := ?_) rfl (by kernel_rfl) (by kernel_rfl) (by kernel_rfl) (fun _ _ _ h => h) (Or.inl ⟨by rfl, ?hyr1x14q47⟩) (by assumption) ?restr1x14q47
  case hyr1x14q47 => intro wq hSw; (go_simp); (try with_reducible rfl)
  try simp only [Act.put, List.setIfInBounds_toArray, List.set_cons_zero, List.set_cons_succ]
  refine wpAnyH_take (i := 15) (oi := ⟨some 22, .move (.tmp 21), 4, "law.go:23", #[⟨14, .data⟩, ⟨9, .chain⟩], none⟩) (v := ?_) rfl (by kernel_rfl) (by kernel_rfl) (by kernel_rfl) (fun _ _ _ h => h) (Or.inl ⟨by rfl, ?hyr1x15q50⟩) (by assumption) ?restr1x15q50
  case hyr1x15q50 => intro wq hSw; (go_simp); (try with_reducible rfl)
  try simp only [Act.put, List.setIfInBounds_toArray, List.set_cons_zero, List.set_cons_succ]
  refine wpAnyH_ready (rs := [16, 17]) (by kernel_rfl) (by simp) ?_
  refine AllReadyH.cons (o := ⟨some 23, .call { callee := .value (.func 57), args := #[], argTypes := #[] }, 23, "law.go:23", #[⟨15, .chain⟩, ⟨15, .guard⟩], some (15, true)⟩) rfl (fun K hK => ?_) ?_
  · go_simp
    (with_reducible refine (five_x _).mono ?_)
    rintro e w5 ⟨a5, rfl, s5, kk⟩
    (try replace SB := SB.nx kk)
    replace hHeld := hHeld.nx kk
    clear kk
    refine hK.out _ _ (hHeld) (fun hHeld => ?_)
    clear hK K
    try simp only [Act.put, List.setIfInBounds_toArray, List.set_cons_zero, List.set_cons_succ]
    refine wpAnyH_ready (rs := [17]) (by kernel_rfl) (by simp) ?_
    refine AllReadyH.cons (o := ⟨some 24, .buildSlice 22 2 #[(0, .const (.int .i64 2)), (1, .const (.int .i64 3))], 22, "law.go:23", #[⟨15, .guard⟩], some (15, true)⟩) rfl (fun K hK => ?_) AllReadyH.nil
    go_simp
    obtain ⟨gB, wB, hgB, hwB, SB, kk, jj⟩ := lit2 hHeld 2 3
    rw [← hgB, ← hwB]
    clear hgB hwB jj
    (try replace s5 := s5.nx kk)
    replace hHeld := hHeld.nx kk
    clear kk
    refine hK.out _ _ (hHeld) (fun hHeld => ?_)
    clear hK K
    try simp only [Act.put, List.setIfInBounds_toArray, List.set_cons_zero, List.set_cons_succ]
    refine wpAnyH_ready (rs := [18]) (by kernel_rfl) (by simp) ?_
    refine AllReadyH.cons (o := ⟨some 25, .call { callee := .value (.func 53), args := #[.tmp 23, .tmp 24], argTypes := #[23, 22] }, 3, "law.go:23", #[⟨16, .data⟩, ⟨17, .data⟩, ⟨16, .chain⟩, ⟨15, .guard⟩], some (15, true)⟩) rfl (fun K hK => ?_) AllReadyH.nil
    go_simp
    (with_reducible refine (gap_p _ _ _ fiveN _ _ _ [2, 3] _ s5 (by omega) (by omega) (by unfold maxLen; omega) SB (by omega)).mono ?_)
    rintro e w6 ⟨rfl, kk⟩
    rw [five_gap]
    replace hHeld := hHeld.nx kk
    clear kk s5 SB
    refine hK.out _ _ (hHeld) (fun hHeld => ?_)
    clear hK K
    try simp only [Act.put, List.setIfInBounds_toArray, List.set_cons_zero, List.set_cons_succ]
    refine wpAnyH_take (i := 19) (oi := ⟨some 26, .binOp .eql 3 (.tmp 25) (.const (.int .i64 2)) 3, 4, "law.go:23", #[⟨18, .data⟩, ⟨15, .guard⟩], some (15, true)⟩) (v := ?_) rfl (by kernel_rfl) (by kernel_rfl) (by kernel_rfl) (fun _ _ _ h => h) (Or.inl ⟨by rfl, ?hyr1x19q87⟩) (by assumption) ?restr1x19q87
    case hyr1x19q87 => intro wq hSw; (go_simp); (try with_reducible rfl)
    try simp only [Act.put, List.setIfInBounds_toArray, List.set_cons_zero, List.set_cons_succ]
    refine wpAnyH_take (i := 20) (oi := ⟨some 27, .pick (.tmp 22) (.tmp 26) (.const (.bool false)), 4, "law.go:23", #[⟨15, .data⟩, ⟨19, .data⟩], none⟩) (v := ?_) rfl (by kernel_rfl) (by kernel_rfl) (by kernel_rfl) (fun _ _ _ h => h) (Or.inl ⟨by rfl, ?hyr1x20q90⟩) (by assumption) ?restr1x20q90
    case hyr1x20q90 => intro wq hSw; (go_simp); (try with_reducible rfl)
    try simp only [Act.put, List.setIfInBounds_toArray, List.set_cons_zero, List.set_cons_succ]
    refine wpAnyH_take (i := 21) (oi := ⟨some 28, .move (.tmp 27), 4, "law.go:23", #[⟨20, .data⟩, ⟨18, .chain⟩], none⟩) (v := ?_) rfl (by kernel_rfl) (by kernel_rfl) (by kernel_rfl) (fun _ _ _ h => h) (Or.inl ⟨by rfl, ?hyr1x21q93⟩) (by assumption) ?restr1x21q93
    case hyr1x21q93 => intro wq hSw; (go_simp); (try with_reducible rfl)
    try simp only [Act.put, List.setIfInBounds_toArray, List.set_cons_zero, List.set_cons_succ]
    refine wpAnyH_take (i := 22) (oi := ⟨some 29, .move (.tmp 2), 36, "law.go:23", #[⟨21, .guard⟩], some (21, true)⟩) (v := ?_) rfl (by kernel_rfl) (by kernel_rfl) (by kernel_rfl) (fun _ _ _ h => h) (Or.inl ⟨by rfl, ?hyr1x22q96⟩) (by assumption) ?restr1x22q96
    case hyr1x22q96 => intro wq hSw; (go_simp); (try with_reducible rfl)
    try simp only [Act.put, List.setIfInBounds_toArray, List.set_cons_zero, List.set_cons_succ]
    refine wpAnyH_take (i := 23) (oi := ⟨some 30, .call { callee := .builtin .len, args := #[.tmp 29], argTypes := #[36] }, 3, "law.go:23", #[⟨22, .data⟩, ⟨21, .guard⟩], some (21, true)⟩) (v := ?_) rfl (by kernel_rfl) (by kernel_rfl) (by kernel_rfl) (fun _ _ _ h => h) (Or.inl ⟨by rfl, ?hyr1x23q99⟩) (by assumption) ?restr1x23q99
    case hyr1x23q99 => intro wq hSw; (go_simp); (try with_reducible rfl)
    try simp only [Act.put, List.setIfInBounds_toArray, List.set_cons_zero, List.set_cons_succ]
    refine wpAnyH_take (i := 24) (oi := ⟨some 31, .binOp .eql 3 (.tmp 30) (.const (.int .i64 5)) 3, 4, "law.go:23", #[⟨23, .data⟩, ⟨21, .guard⟩], some (21, true)⟩) (v := ?_) rfl (by kernel_rfl) (by kernel_rfl) (by kernel_rfl) (fun _ _ _ h => h) (Or.inl ⟨by rfl, ?hyr1x24q102⟩) (by assumption) ?restr1x24q102
    case hyr1x24q102 => intro wq hSw; (go_simp); (try with_reducible rfl)
    try simp only [Act.put, List.setIfInBounds_toArray, List.set_cons_zero, List.set_cons_succ]
    refine wpAnyH_take (i := 25) (oi := ⟨some 32, .pick (.tmp 28) (.tmp 31) (.const (.bool false)), 4, "law.go:23", #[⟨21, .data⟩, ⟨24, .data⟩], none⟩) (v := ?_) rfl (by kernel_rfl) (by kernel_rfl) (by kernel_rfl) (fun _ _ _ h => h) (Or.inl ⟨by rfl, ?hyr1x25q105⟩) (by assumption) ?restr1x25q105
    case hyr1x25q105 => intro wq hSw; (go_simp); (try with_reducible rfl)
    try simp only [Act.put, List.setIfInBounds_toArray, List.set_cons_zero, List.set_cons_succ]
    refine wpAnyH_take (i := 26) (oi := ⟨some 33, .move (.tmp 32), 4, "law.go:23", #[⟨25, .data⟩, ⟨21, .chain⟩], none⟩) (v := ?_) rfl (by kernel_rfl) (by kernel_rfl) (by kernel_rfl) (fun _ _ _ h => h) (Or.inl ⟨by rfl, ?hyr1x26q108⟩) (by assumption) ?restr1x26q108
    case hyr1x26q108 => intro wq hSw; (go_simp); (try with_reducible rfl)
    try simp only [Act.put, List.setIfInBounds_toArray, List.set_cons_zero, List.set_cons_succ]
    refine wpAnyH_take (i := 27) (oi := ⟨some 34, .move (.tmp 2), 36, "law.go:23", #[⟨26, .guard⟩], some (26, true)⟩) (v := ?_) rfl (by kernel_rfl) (by kernel_rfl) (by kernel_rfl) (fun _ _ _ h => h) (Or.inl ⟨by rfl, ?hyr1x27q111⟩) (by assumption) ?restr1x27q111
    case hyr1x27q111 => intro wq hSw; (go_simp); (try with_reducible rfl)
    try simp only [Act.put, List.setIfInBounds_toArray, List.set_cons_zero, List.set_cons_succ]
    refine wpAnyH_take (i := 28) (oi := ⟨some 35, .indexAddr 36 (.tmp 34) (.const (.int .i64 2)), 0, "law.go:23", #[⟨27, .data⟩, ⟨26, .guard⟩], some (26, true)⟩) (v := ?_) rfl (by kernel_rfl) (by kernel_rfl) (by kernel_rfl) (fun _ _ _ h => h) (Or.inl ⟨by rfl, ?hyr1x28q114⟩) (by assumption) ?restr1x28q114
    case hyr1x28q114 => intro wq hSw; (go_simp); (try with_reducible rfl)
    try simp only [Act.put, List.setIfInBounds_toArray, List.set_cons_zero, List.set_cons_succ]
    refine wpAnyH_take (i := 29) (oi := ⟨some 36, .fieldAddr 41 (.tmp 35) 2, 0, "law.go:23", #[⟨28, .data⟩, ⟨26, .guard⟩], some (26, true)⟩) (v := ?_) rfl (by kernel_rfl) (by kernel_rfl) (by kernel_rfl) (fun _ _ _ h => h) (Or.inl ⟨by rfl, ?hyr1x29q117⟩) (by assumption) ?restr1x29q117
    case hyr1x29q117 => intro wq hSw; (go_simp); (try with_reducible rfl)
    try simp only [Act.put, List.setIfInBounds_toArray, List.set_cons_zero, List.set_cons_succ]
    refine wpAnyH_take (i := 30) (oi := ⟨some 37, .load 3 (.tmp 36), 3, "law.go:23", #[⟨29, .data⟩, ⟨26, .guard⟩], some (26, true)⟩) (v := ?_) rfl (by kernel_rfl) (by kernel_rfl) (by kernel_rfl) (fun _ _ _ h => h) (Or.inl ⟨by rfl, ?hyr1x30q120⟩) (by assumption) ?restr1x30q120
    case hyr1x30q120 => intro wq hSw; (have cq := P2.out wq hSw; go_simp); (try with_reducible rfl)
    try simp only [Act.put, List.setIfInBounds_toArray, List.set_cons_zero, List.set_cons_succ]
    refine wpAnyH_take (i := 31) (oi := ⟨some 38, .binOp .eql 3 (.tmp 37) (.const (.int .i64 2)) 3, 4, "law.go:23", #[⟨30, .data⟩, ⟨26, .guard⟩], some (26, true)⟩) (v := ?_) rfl (by kernel_rfl) (by kernel_rfl) (by kernel_rfl) (fun _ _ _ h => h) (Or.inl ⟨by rfl, ?hyr1x31q123⟩) (by assumption) ?restr1x31q123
    case hyr1x31q123 => intro wq hSw; (go_simp); (try with_reducible rfl)
    try simp only [Act.put, List.setIfInBounds_toArray, List.set_cons_zero, List.set_cons_succ]
    refine wpAnyH_take (i := 32) (oi := ⟨some 39, .pick (.tmp 33) (.tmp 38) (.const (.bool false)), 4, "law.go:23", #[⟨26, .data⟩, ⟨31, .data⟩], none⟩) (v := ?_) rfl (by kernel_rfl) (by kernel_rfl) (by kernel_rfl) (fun _ _ _ h => h) (Or.inl ⟨by rfl, ?hyr1x32q126⟩) (by assumption) ?restr1x32q126
    case hyr1x32q126 => intro wq hSw; (go_simp); (try with_reducible rfl)
    try simp only [Act.put, List.setIfInBounds_toArray, List.set_cons_zero, List.set_cons_succ]
    refine wpAnyH_take (i := 33) (oi := ⟨some 40, .move (.tmp 39), 4, "law.go:23", #[⟨32, .data⟩, ⟨26, .chain⟩], none⟩) (v := ?_) rfl (by kernel_rfl) (by kernel_rfl) (by kernel_rfl) (fun _ _ _ h => h) (Or.inl ⟨by rfl, ?hyr1x33q129⟩) (by assumption) ?restr1x33q129
    case hyr1x33q129 => intro wq hSw; (go_simp); (try with_reducible rfl)
    try simp only [Act.put, List.setIfInBounds_toArray, List.set_cons_zero, List.set_cons_succ]
    refine wpAnyH_take (i := 34) (oi := ⟨some 41, .move (.tmp 2), 36, "law.go:23", #[⟨33, .guard⟩], some (33, true)⟩) (v := ?_) rfl (by kernel_rfl) (by kernel_rfl) (by kernel_rfl) (fun _ _ _ h => h) (Or.inl ⟨by rfl, ?hyr1x34q132⟩) (by assumption) ?restr1x34q132
    case hyr1x34q132 => intro wq hSw; (go_simp); (try with_reducible rfl)
    try simp only [Act.put, List.setIfInBounds_toArray, List.set_cons_zero, List.set_cons_succ]
    refine wpAnyH_take (i := 35) (oi := ⟨some 42, .indexAddr 36 (.tmp 41) (.const (.int .i64 2)), 0, "law.go:23", #[⟨34, .data⟩, ⟨33, .guard⟩], some (33, true)⟩) (v := ?_) rfl (by kernel_rfl) (by kernel_rfl) (by kernel_rfl) (fun _ _ _ h => h) (Or.inl ⟨by rfl, ?hyr1x35q135⟩) (by assumption) ?restr1x35q135
    case hyr1x35q135 => intro wq hSw; (go_simp); (try with_reducible rfl)
    try simp only [Act.put, List.setIfInBounds_toArray, List.set_cons_zero, List.set_cons_succ]
    refine wpAnyH_take (i := 36) (oi := ⟨some 43, .fieldAddr 41 (.tmp 42) 4, 0, "law.go:23", #[⟨35, .data⟩, ⟨33, .guard⟩], some (33, true)⟩) (v := ?_) rfl (by kernel_rfl) (by kernel_rfl) (by kernel_rfl) (fun _ _ _ h => h) (Or.inl ⟨by rfl, ?hyr1x36q138⟩) (by assumption) ?restr1x36q138
    case hyr1x36q138 => intro wq hSw; (go_simp); (try with_reducible rfl)
    try simp only [Act.put, List.setIfInBounds_toArray, List.set_cons_zero, List.set_cons_succ]
    refine wpAnyH_take (i := 37) (oi := ⟨some 44, .load 39 (.tmp 43), 39, "law.go:23", #[⟨36, .data⟩, ⟨33, .guard⟩], some (33, true)⟩) (v := ?_) rfl (by kernel_rfl) (by kernel_rfl) (by kernel_rfl) (fun _ _ _ h => h) (Or.inl ⟨by rfl, ?hyr1x37q141⟩) (by assumption) ?restr1x37q141
    case hyr1x37q141 => intro wq hSw; (have cq := P4.out wq hSw; go_simp); (try with_reducible rfl)
    try simp only [Act.put, List.setIfInBounds_toArray, List.set_cons_zero, List.set_cons_succ]
    refine wpAnyH_take (i := 38) (oi := ⟨some 45, .call { callee := .builtin .len, args := #[.tmp 44], argTypes := #[39] }, 3, "law.go:23", #[⟨37, .data⟩, ⟨33, .guard⟩], some (33, true)⟩) (v := ?_) rfl (by kernel_rfl) (by kernel_rfl) (by kernel_rfl) (fun _ _ _ h => h) (Or.inl ⟨by rfl, ?hyr1x38q144⟩) (by assumption) ?restr1x38q144
    case hyr1x38q144 => intro wq hSw; (go_simp); (try with_reducible rfl)
    try simp only [Act.put, List.setIfInBounds_toArray, List.set_cons_zero, List.set_cons_succ]
    refine wpAnyH_take (i := 39) (oi := ⟨some 46, .binOp .eql 3 (.tmp 45) (.const (.int .i64 1)) 3, 4, "law.go:23", #[⟨38, .data⟩, ⟨33, .guard⟩], some (33, true)⟩) (v := ?_) rfl (by kernel_rfl) (by kernel_rfl) (by kernel_rfl) (fun _ _ _ h => h) (Or.inl ⟨by rfl, ?hyr1x39q147⟩) (by assumption) ?restr1x39q147
    case hyr1x39q147 => intro wq hSw; (go_simp); (try with_reducible rfl)
    try simp only [Act.put, List.setIfInBounds_toArray, List.set_cons_zero, List.set_cons_succ]
    refine wpAnyH_take (i := 40) (oi := ⟨some 47, .pick (.tmp 40) (.tmp 46) (.const (.bool false)), 4, "law.go:23", #[⟨33, .data⟩, ⟨39, .data⟩], none⟩) (v := ?_) rfl (by kernel_rfl) (by kernel_rfl) (by kernel_rfl) (fun _ _ _ h => h) (Or.inl ⟨by rfl, ?hyr1x40q150⟩) (by assumption) ?restr1x40q150
    case hyr1x40q150 => intro wq hSw; (go_simp); (try with_reducible rfl)
    try simp only [Act.put, List.setIfInBounds_toArray, List.set_cons_zero, List.set_cons_succ]
    refine wpAnyH_take (i := 41) (oi := ⟨some 48, .move (.tmp 47), 4, "law.go:23", #[⟨40, .data⟩, ⟨33, .chain⟩], none⟩) (v := ?_) rfl (by kernel_rfl) (by kernel_rfl) (by kernel_rfl) (fun _ _ _ h => h) (Or.inl ⟨by rfl, ?hyr1x41q153⟩) (by assumption) ?restr1x41q153
    case hyr1x41q153 => intro wq hSw; (go_simp); (try with_reducible rfl)
    try simp only [Act.put, List.setIfInBounds_toArray, List.set_cons_zero, List.set_cons_succ]
    refine wpAnyH_take (i := 42) (oi := ⟨some 49, .move (.tmp 2), 36, "law.go:23", #[⟨41, .guard⟩], some (41, true)⟩) (v := ?_) rfl (by kernel_rfl) (by kernel_rfl) (by kernel_rfl) (fun _ _ _ h => h) (Or.inl ⟨by rfl, ?hyr1x42q156⟩) (by assumption) ?restr1x42q156
    case hyr1x42q156 => intro wq hSw; (go_simp); (try with_reducible rfl)
    try simp only [Act.put, List.setIfInBounds_toArray, List.set_cons_zero, List.set_cons_succ]
    refine wpAnyH_take (i := 43) (oi := ⟨some 50, .indexAddr 36 (.tmp 49) (.const (.int .i64 2)), 0, "law.go:23", #[⟨42, .data⟩, ⟨41, .guard⟩], some (41, true)⟩) (v := ?_) rfl (by kernel_rfl) (by kernel_rfl) (by kernel_rfl) (fun _ _ _ h => h) (Or.inl ⟨by rfl, ?hyr1x43q159⟩) (by assumption) ?restr1x43q159
    case hyr1x43q159 => intro wq hSw; (go_simp); (try with_reducible rfl)
    try simp only [Act.put, List.setIfInBounds_toArray, List.set_cons_zero, List.set_cons_succ]
    refine wpAnyH_take (i := 44) (oi := ⟨some 51, .fieldAddr 41 (.tmp 50) 4, 0, "law.go:23", #[⟨43, .data⟩, ⟨41, .guard⟩], some (41, true)⟩) (v := ?_) rfl (by kernel_rfl) (by kernel_rfl) (by kernel_rfl) (fun _ _ _ h => h) (Or.inl ⟨by rfl, ?hyr1x44q162⟩) (by assumption) ?restr1x44q162
    case hyr1x44q162 => intro wq hSw; (go_simp); (try with_reducible rfl)
    try simp only [Act.put, List.setIfInBounds_toArray, List.set_cons_zero, List.set_cons_succ]
    refine wpAnyH_take (i := 45) (oi := ⟨some 52, .load 39 (.tmp 51), 39, "law.go:23", #[⟨44, .data⟩, ⟨41, .guard⟩], some (41, true)⟩) (v := ?_) rfl (by kernel_rfl) (by kernel_rfl) (by kernel_rfl) (fun _ _ _ h => h) (Or.inl ⟨by rfl, ?hyr1x45q165⟩) (by assumption) ?restr1x45q165
    case hyr1x45q165 => intro wq hSw; (have cq := P4.out wq hSw; go_simp); (try with_reducible rfl)
    try simp only [Act.put, List.setIfInBounds_toArray, List.set_cons_zero, List.set_cons_succ]
    refine wpAnyH_take (i := 46) (oi := ⟨some 53, .indexAddr 39 (.tmp 52) (.const (.int .i64 0)), 0, "law.go:23", #[⟨45, .data⟩, ⟨41, .guard⟩], some (41, true)⟩) (v := ?_) rfl (by kernel_rfl) (by kernel_rfl) (by kernel_rfl) (fun _ _ _ h => h) (Or.inl ⟨by rfl, ?hyr1x46q168⟩) (by assumption) ?restr1x46q168
    case hyr1x46q168 => intro wq hSw; (go_simp); (try with_reducible rfl)
    try simp only [Act.put, List.setIfInBounds_toArray, List.set_cons_zero, List.set_cons_succ]
    refine wpAnyH_take (i := 47) (oi := ⟨some 54, .fieldAddr 77 (.tmp 53) 0, 0, "law.go:23", #[⟨46, .data⟩, ⟨41, .guard⟩], some (41, true)⟩) (v := ?_) rfl (by kernel_rfl) (by kernel_rfl) (by kernel_rfl) (fun _ _ _ h => h) (Or.inl ⟨by rfl, ?hyr1x47q171⟩) (by assumption) ?restr1x47q171
    case hyr1x47q171 => intro wq hSw; (go_simp); (try with_reducible rfl)
    try simp only [Act.put, List.setIfInBounds_toArray, List.set_cons_zero, List.set_cons_succ]
    refine wpAnyH_take (i := 48) (oi := ⟨some 55, .load 3 (.tmp 54), 3, "law.go:23", #[⟨47, .data⟩, ⟨41, .guard⟩], some (41, true)⟩) (v := ?_) rfl (by kernel_rfl) (by kernel_rfl) (by kernel_rfl) (fun _ _ _ h => h) (Or.inl ⟨by rfl, ?hyr1x48q174⟩) (by assumption) ?restr1x48q174
    case hyr1x48q174 => intro wq hSw; (have cq := Q0.out wq hSw; go_simp); (try with_reducible rfl)
    try simp only [Act.put, List.setIfInBounds_toArray, List.set_cons_zero, List.set_cons_succ]
    refine wpAnyH_take (i := 49) (oi := ⟨some 56, .binOp .eql 3 (.tmp 55) (.const (.int .i64 1)) 3, 4, "law.go:23", #[⟨48, .data⟩, ⟨41, .guard⟩], some (41, true)⟩) (v := ?_) rfl (by kernel_rfl) (by kernel_rfl) (by kernel_rfl) (fun _ _ _ h => h) (Or.inl ⟨by rfl, ?hyr1x49q177⟩) (by assumption) ?restr1x49q177
    case hyr1x49q177 => intro wq hSw; (go_simp); (try with_reducible rfl)
    try simp only [Act.put, List.setIfInBounds_toArray, List.set_cons_zero, List.set_cons_succ]
    refine wpAnyH_take (i := 50) (oi := ⟨some 57, .pick (.tmp 48) (.tmp 56) (.const (.bool false)), 4, "law.go:23", #[⟨41, .data⟩, ⟨49, .data⟩], none⟩) (v := ?_) rfl (by kernel_rfl) (by kernel_rfl) (by kernel_rfl) (fun _ _ _ h => h) (Or.inl ⟨by rfl, ?hyr1x50q180⟩) (by assumption) ?restr1x50q180
    case hyr1x50q180 => intro wq hSw; (go_simp); (try with_reducible rfl)
    try simp only [Act.put, List.setIfInBounds_toArray, List.set_cons_zero, List.set_cons_succ]
    refine wpAnyH_take (i := 51) (oi := ⟨some 58, .move (.tmp 57), 4, "law.go:23", #[⟨50, .data⟩, ⟨41, .chain⟩], none⟩) (v := ?_) rfl (by kernel_rfl) (by kernel_rfl) (by kernel_rfl) (fun _ _ _ h => h) (Or.inl ⟨by rfl, ?hyr1x51q183⟩) (by assumption) ?restr1x51q183
    case hyr1x51q183 => intro wq hSw; (go_simp); (try with_reducible rfl)
    try simp only [Act.put, List.setIfInBounds_toArray, List.set_cons_zero, List.set_cons_succ]
    refine wpAnyH_take (i := 53) (oi := ⟨some 60, .move (.tmp 2), 36, "law.go:23", #[⟨51, .guard⟩], some (51, true)⟩) (v := ?_) rfl (by kernel_rfl) (by kernel_rfl) (by kernel_rfl) (fun _ _ _ h => h) (Or.inl ⟨by rfl, ?hyr1x53q186⟩) (by assumption) ?restr1x53q186
    case hyr1x53q186 => intro wq hSw; (go_simp); (try with_reducible rfl)
    try simp only [Act.put, List.setIfInBounds_toArray, List.set_cons_zero, List.set_cons_succ]
    refine wpAnyH_ready (rs := [52]) (by kernel_rfl) (by simp) ?_
    refine AllReadyH.cons (o := ⟨some 59, .call { callee := .value (.func 57), args := #[], argTypes := #[] }, 23, "law.go:23", #[⟨51, .chain⟩, ⟨51, .guard⟩], some (51, true)⟩) rfl (fun K hK => ?_) AllReadyH.nil
    go_simp
    (with_reducible refine (five_x _).mono ?_)
    rintro e w7 ⟨a5, rfl, s5, kk⟩
    replace hHeld := hHeld.nx kk
    clear kk
    refine hK.out _ _ (hHeld) (fun hHeld => ?_)
    clear hK K
    try simp only [Act.put, List.setIfInBounds_toArray, List.set_cons_zero, List.set_cons_succ]
    refine wpAnyH_ready (rs := [54]) (by kernel_rfl) (by simp) ?_
    refine AllReadyH.cons (o := ⟨some 61, .call { callee := .value (.func 22), args := #[.tmp 59, .tmp 60], argTypes := #[23, 36] }, 4, "law.go:23", #[⟨52, .data⟩, ⟨53, .data⟩, ⟨52, .chain⟩, ⟨51, .guard⟩], some (51, true)⟩) rfl (fun K hK => ?_) AllReadyH.nil
    go_simp
    (with_reducible refine (connected_p _ _ _ fiveN _ _ _ _ _ s5 (by omega) (by omega) (by unfold maxLen; omega) (P.out.nx hHeld) (by omega) five_small).mono ?_)
    rintro e w8 ⟨rfl, kk⟩
    rw [five_conn]
    replace hHeld := hHeld.nx kk
    clear kk s5
    refine hK.out _ _ (hHeld) (fun hHeld => ?_)
    clear hK K
    try simp only [Act.put, List.setIfInBounds_toArray, List.set_cons_zero, List.set_cons_succ]
    refine wpAnyH_take (i := 55) (oi := ⟨some 62, .pick (.tmp 58) (.tmp 61) (.const (.bool false)), 4, "law.go:23", #[⟨51, .data⟩, ⟨54, .data⟩], none⟩) (v := ?_) rfl (by kernel_rfl) (by kernel_rfl) (by kernel_rfl) (fun _ _ _ h => h) (Or.inl ⟨by rfl, ?hyr1x55q210⟩) (by assumption) ?restr1x55q210
    case hyr1x55q210 => intro wq hSw; (go_simp); (try with_reducible rfl)
    try simp only [Act.put, List.setIfInBounds_toArray, List.set_cons_zero, List.set_cons_succ]
    refine wpAnyH_take (i := 56) (oi := ⟨some 63, .move (.tmp 62), 4, "law.go:23", #[⟨55, .data⟩, ⟨54, .chain⟩], none⟩) (v := ?_) rfl (by kernel_rfl) (by kernel_rfl) (by kernel_rfl) (fun _ _ _ h => h) (Or.inl ⟨by rfl, ?hyr1x56q213⟩) (by assumption) ?restr1x56q213
    case hyr1x56q213 => intro wq hSw; (go_simp); (try with_reducible rfl)
    try simp only [Act.put, List.setIfInBounds_toArray, List.set_cons_zero, List.set_cons_succ]
    refine wpAnyH_take (i := 58) (oi := ⟨some 65, .move (.tmp 2), 36, "law.go:23", #[⟨56, .guard⟩], some (56, true)⟩) (v := ?_) rfl (by kernel_rfl) (by kernel_rfl) (by kernel_rfl) (fun _ _ _ h => h) (Or.inl ⟨by rfl, ?hyr1x58q216⟩) (by assumption) ?restr1x58q216
    case hyr1x58q216 => intro wq hSw; (go_simp); (try with_reducible rfl)
    try simp only [Act.put, List.setIfInBounds_toArray, List.set_cons_zero, List.set_cons_succ]
    refine wpAnyH_take (i := 59) (oi := ⟨some 66, .indexAddr 36 (.tmp 65) (.const (.int .i64 0)), 0, "law.go:23", #[⟨58, .data⟩, ⟨56, .guard⟩], some (56, true)⟩) (v := ?_) rfl (by kernel_rfl) (by kernel_rfl) (by kernel_rfl) (fun _ _ _ h => h) (Or.inl ⟨by rfl, ?hyr1x59q219⟩) (by assumption) ?restr1x59q219
    case hyr1x59q219 => intro wq hSw; (go_simp); (try with_reducible rfl)
    try simp only [Act.put, List.setIfInBounds_toArray, List.set_cons_zero, List.set_cons_succ]
    refine wpAnyH_take (i := 60) (oi := ⟨some 67, .load 41 (.tmp 66), 41, "law.go:23", #[⟨59, .data⟩, ⟨56, .guard⟩], some (56, true)⟩) (v := ?_) rfl (by kernel_rfl) (by kernel_rfl) (by kernel_rfl) (fun _ _ _ h => h) (Or.inl ⟨by rfl, ?hyr1x60q222⟩) (by assumption) ?restr1x60q222
    case hyr1x60q222 => intro wq hSw; (have c0 := R0.out wq hSw; have c1 := R1.out wq hSw; have c2 := R2.out wq hSw; have c3 := R3.out wq hSw; have c4 := R4.out wq hSw; go_simp); (try with_reducible rfl)
    try simp only [Act.put, List.setIfInBounds_toArray, List.set_cons_zero, List.set_cons_succ]
    refine wpAnyH_ready (rs := [57]) (by kernel_rfl) (by simp) ?_
    refine AllReadyH.cons (o := ⟨some 64, .call { callee := .value (.func 57), args := #[], argTypes := #[] }, 23, "law.go:23", #[⟨56, .chain⟩, ⟨56, .guard⟩], some (56, true)⟩) rfl (fun K hK => ?_) AllReadyH.nil
    go_simp
    (with_reducible refine (five_x _).mono ?_)
    rintro e w9 ⟨a5, rfl, s5, kk⟩
    replace hHeld := hHeld.nx kk
    clear kk
    refine hK.out _ _ (hHeld) (fun hHeld => ?_)
    clear hK K
    try simp only [Act.put, List.setIfInBounds_toArray, List.set_cons_zero, List.set_cons_succ]
    refine wpAnyH_ready (rs := [61]) (by kernel_rfl) (by simp) ?_
    refine AllReadyH.cons (o := ⟨some 68, .call { callee := .value (.func 25), args := #[.tmp 64, .tmp 67], argTypes := #[23, 41] }, 22, "law.go:23", #[⟨57, .data⟩, ⟨60, .data⟩, ⟨57, .chain⟩, ⟨56, .guard⟩], some (56, true)⟩) rfl (fun K hK => ?_) AllReadyH.nil
    go_simp
    (with_reducible refine (refs_p _ _ _ fiveN y' _ _ _ _ _ _ _ s5 (by omega) (by omega) (by unfold maxLen; omega) (r1.out.nx hHeld) (r4.out.nx hHeld) hl1 hl4).mono ?_)
    rintro e w10 ⟨v, rfl, own, kk⟩
    obtain ⟨aR, cR, rfl, R, _, _, _⟩ := own.slf (fun _ => rfl)
    have hR := hy1.out
    generalize (refsN fiveN y').length = nr at R hR ⊢
    have hR' : (0 : Int) < (nr : Int) := by omega
    replace hHeld := hHeld.nx kk
    clear kk s5 own R
    refine hK.out _ _ (hHeld) (fun hHeld => ?_)
    clear hK K
    try simp only [Act.put, List.setIfInBounds_toArray, List.set_cons_zero, List.set_cons_succ]
    refine wpAnyH_take (i := 62) (oi := ⟨some 69, .call { callee := .builtin .len, args := #[.tmp 68], argTypes := #[22] }, 3, "law.go:23", #[⟨61, .data⟩, ⟨56, .guard⟩], some (56, true)⟩) (v := ?_) rfl (by kernel_rfl) (by kernel_rfl) (by kernel_rfl) (fun _ _ _ h => h) (Or.inl ⟨by rfl, ?hyr1x62q249⟩) (by assumption) ?restr1x62q249
    case hyr1x62q249 => intro wq hSw; (go_simp); (try with_reducible rfl)
    try simp only [Act.put, List.setIfInBounds_toArray, List.set_cons_zero, List.set_cons_succ]
    refine wpAnyH_take (i := 63) (oi := ⟨some 70, .binOp .gtr 3 (.tmp 69) (.const (.int .i64 0)) 3, 4, "law.go:23", #[⟨62, .data⟩, ⟨56, .guard⟩], some (56, true)⟩) (v := ?_) rfl (by kernel_rfl) (by kernel_rfl) (by kernel_rfl) (fun _ _ _ h => h) (Or.inl ⟨by rfl, ?hyr1x63q252⟩) (by assumption) ?restr1x63q252
    case hyr1x63q252 => intro wq hSw; (go_simp); (try with_reducible rfl)
    try simp only [Act.put, List.setIfInBounds_toArray, List.set_cons_zero, List.set_cons_succ]
    refine wpAnyH_take (i := 64) (oi := ⟨some 71, .pick (.tmp 63) (.tmp 70) (.const (.bool false)), 4, "law.go:23", #[⟨56, .data⟩, ⟨63, .data⟩], none⟩) (v := ?_) rfl (by kernel_rfl) (by kernel_rfl) (by kernel_rfl) (fun _ _ _ h => h) (Or.inl ⟨by rfl, ?hyr1x64q255⟩) (by assumption) ?restr1x64q255
    case hyr1x64q255 => intro wq hSw; (go_simp); (try with_reducible rfl)
    try simp only [Act.put, List.setIfInBounds_toArray, List.set_cons_zero, List.set_cons_succ]
    refine wpAnyH_take (i := 65) (oi := ⟨some 72, .move (.tmp 71), 4, "law.go:23", #[⟨64, .data⟩, ⟨61, .chain⟩], none⟩) (v := ?_) rfl (by kernel_rfl) (by kernel_rfl) (by kernel_rfl) (fun _ _ _ h => h) (Or.inl ⟨by rfl, ?hyr1x65q258⟩) (by assumption) ?restr1x65q258
    case hyr1x65q258 => intro wq hSw; (go_simp); (try with_reducible rfl)
    try simp only [Act.put, List.setIfInBounds_toArray, List.set_cons_zero, List.set_cons_succ]
    refine wpAnyH_take (i := 66) (oi := ⟨some 73, .move (.tmp 2), 36, "law.go:23", #[⟨65, .guard⟩], some (65, true)⟩) (v := ?_) rfl (by kernel_rfl) (by kernel_rfl) (by kernel_rfl) (fun _ _ _ h => h) (Or.inl ⟨by rfl, ?hyr1x66q261⟩) (by assumption) ?restr1x66q261
    case hyr1x66q261 => intro wq hSw; (go_simp); (try with_reducible rfl)
    try simp only [Act.put, List.setIfInBounds_toArray, List.set_cons_zero, List.set_cons_succ]
    refine wpAnyH_ready (rs := [67]) (by kernel_rfl) (by simp) ?_
    refine AllReadyH.cons (o := ⟨some 74, .buildSlice 22 1 #[(0, .const (.int .i64 1))], 22, "law.go:23", #[⟨65, .guard⟩], some (65, true)⟩) rfl (fun K hK => ?_) AllReadyH.nil
    go_simp
    obtain ⟨gB, wB, hgB, hwB, SB, kk⟩ := litE hHeld 1
    rw [← hgB, ← hwB]
    clear hgB hwB
    replace hHeld := hHeld.nx kk
    clear kk
    refine hK.out _ _ (hHeld) (fun hHeld => ?_)
    clear hK K
    try simp only [Act.put, List.setIfInBounds_toArray, List.set_cons_zero, List.set_cons_succ]
    refine wpAnyH_ready (rs := [68]) (by kernel_rfl) (by simp) ?_
    refine AllReadyH.cons (o := ⟨some 75, .call { callee := .value (.func 55), args := #[.tmp 73, .tmp 74], argTypes := #[36, 22] }, 36, "law.go:23", #[⟨66, .data⟩, ⟨67, .data⟩, ⟨65, .chain⟩, ⟨65, .guard⟩], some (65, true)⟩) rfl (fun K hK => ?_) AllReadyH.nil
    go_simp
    (with_reducible refine (crash_p _ _ _ _ _ _ _ [1] _ (P.out.nx hHeld) (by omega) five_small2 SB (by omega)).mono ?_)
    rintro e w11 ⟨v, qs', rfl, own, kk⟩
    obtain ⟨aQ, cQ, rfl, Q, _, _, _⟩ := own.pl
    rw [five_crash]
    replace hHeld := hHeld.nx kk
    clear kk own Q SB
    refine hK.out _ _ (hHeld) (fun hHeld => ?_)
    clear hK K
    try simp only [Act.put, List.setIfInBounds_toArray, List.set_cons_zero, List.set_cons_succ]
    refine wpAnyH_take (i := 69) (oi := ⟨some 76, .call { callee := .builtin .len, args := #[.tmp 75], argTypes := #[36] }, 3, "law.go:23", #[⟨68, .data⟩, ⟨65, .guard⟩], some (65, true)⟩) (v := ?_) rfl (by kernel_rfl) (by kernel_rfl) (by kernel_rfl) (fun _ _ _ h => h) (Or.inl ⟨by rfl, ?hyr1x69q287⟩) (by assumption) ?restr1x69q287
    case hyr1x69q287 => intro wq hSw; (go_simp); (try with_reducible rfl)
    try simp only [Act.put, List.setIfInBounds_toArray, List.set_cons_zero, List.set_cons_succ]
    refine wpAnyH_take (i := 70) (oi := ⟨some 77, .binOp .eql 3 (.tmp 76) (.const (.int .i64 4)) 3, 4, "law.go:23", #[⟨69, .data⟩, ⟨65, .guard⟩], some (65, true)⟩) (v := ?_) rfl (by kernel_rfl) (by kernel_rfl) (by kernel_rfl) (fun _ _ _ h => h) (Or.inl ⟨by rfl, ?hyr1x70q290⟩) (by assumption) ?restr1x70q290
    case hyr1x70q290 => intro wq hSw; (go_simp); (try with_reducible rfl)
    try simp only [Act.put, List.setIfInBounds_toArray, List.set_cons_zero, List.set_cons_succ]
    refine wpAnyH_take (i := 71) (oi := ⟨some 78, .pick (.tmp 72) (.tmp 77) (.const (.bool false)), 4, "law.go:23", #[⟨65, .data⟩, ⟨70, .data⟩], none⟩) (v := ?_) rfl (by kernel_rfl) (by kernel_rfl) (by kernel_rfl) (fun _ _ _ h => h) (Or.inl ⟨by rfl, ?hyr1x71q293⟩) (by assumption) ?restr1x71q293
    case hyr1x71q293 => intro wq hSw; (go_simp); (try with_reducible rfl)
    try simp only [Act.put, List.setIfInBounds_toArray, List.set_cons_zero, List.set_cons_succ]
    refine wpAnyH_take (i := 72) (oi := ⟨some 0, .assign (.tmp 78), 4, "law.go:23", (#[⟨71, .data⟩, ⟨68, .chain⟩, ⟨0, .phase⟩, ⟨1, .phase⟩, ⟨2, .phase⟩, ⟨3, .phase⟩, ⟨4, .phase⟩, ⟨5, .phase⟩, ⟨6, .phase⟩, ⟨7, .phase⟩, ⟨8, .phase⟩, ⟨9, .phase⟩, ⟨10, .phase⟩, ⟨11, .phase⟩, ⟨12, .phase⟩, ⟨13, .phase⟩, ⟨14, .phase⟩, ⟨15, .phase⟩, ⟨16, .phase⟩, ⟨17, .phase⟩, ⟨18, .phase⟩, ⟨19, .phase⟩, ⟨20, .phase⟩, ⟨21, .phase⟩, ⟨22, .phase⟩, ⟨23, .phase⟩, ⟨24, .phase⟩, ⟨25, .phase⟩, ⟨26, .phase⟩, ⟨27, .phase⟩, ⟨28, .phase⟩, ⟨29, .phase⟩, ⟨30, .phase⟩, ⟨31, .phase⟩, ⟨32, .phase⟩, ⟨33, .phase⟩, ⟨34, .phase⟩, ⟨35, .phase⟩, ⟨36, .phase⟩, ⟨37, .phase⟩, ⟨38, .phase⟩, ⟨39, .phase⟩, ⟨40, .phase⟩, ⟨41, .phase⟩, ⟨42, .phase⟩, ⟨43, .phase⟩, ⟨44, .phase⟩, ⟨45, .phase⟩, ⟨46, .phase⟩, ⟨47, .phase⟩] ++ #[⟨48, .phase⟩, ⟨49, .phase⟩, ⟨50, .phase⟩, ⟨51, .phase⟩, ⟨52, .phase⟩, ⟨53, .phase⟩, ⟨54, .phase⟩, ⟨55, .phase⟩, ⟨56, .phase⟩, ⟨57, .phase⟩, ⟨58, .phase⟩, ⟨59, .phase⟩, ⟨60, .phase⟩, ⟨61, .phase⟩, ⟨62, .phase⟩, ⟨63, .phase⟩, ⟨64, .phase⟩, ⟨65, .phase⟩, ⟨66, .phase⟩, ⟨67, .phase⟩, ⟨68, .phase⟩, ⟨69, .phase⟩, ⟨70, .phase⟩, ⟨71, .phase⟩]), none⟩) (v := ?_) rfl (by kernel_rfl) (by kernel_rfl) (by kernel_rfl) (fun _ _ _ h => h) (Or.inl ⟨by rfl, ?hyr1x72q296⟩) (by assumption) ?restr1x72q296
    case hyr1x72q296 => intro wq hSw; (go_simp); (try with_reducible rfl)
    try simp only [Act.put, List.setIfInBounds_toArray, List.set_cons_zero, List.set_cons_succ]
    refine wpAnyH_done (by kernel_rfl) ?_ _
    have KE := K4.out.nx hHeld
    go_wp2_with fail
    go_ret
    exact ⟨rfl, KE⟩
  refine AllReadyH.cons (o := ⟨some 24, .buildSlice 22 2 #[(0, .const (.int .i64 2)), (1, .const (.int .i64 3))], 22, "law.go:23", #[⟨15, .guard⟩], some (15, true)⟩) rfl (fun K hK => ?_) AllReadyH.nil
  · go_simp
    obtain ⟨gB, wB, hgB, hwB, SB, kk, jj⟩ := lit2 hHeld 2 3
    rw [← hgB, ← hwB]
    clear hgB hwB jj
    (try replace s5 := s5.nx kk)
    replace hHeld := hHeld.nx kk
    clear kk
    refine hK.out _ _ (hHeld) (fun hHeld => ?_)
    clear hK K
    try simp only [Act.put, List.setIfInBounds_toArray, List.set_cons_zero, List.set_cons_succ]
    refine wpAnyH_ready (rs := [16]) (by kernel_rfl) (by simp) ?_
    refine AllReadyH.cons (o := ⟨some 23, .call { callee := .value (.func 57), args := #[], argTypes := #[] }, 23, "law.go:23", #[⟨15, .chain⟩, ⟨15, .guard⟩], some (15, true)⟩) rfl (fun K hK => ?_) AllReadyH.nil
    go_simp
    (with_reducible refine (five_x _).mono ?_)
    rintro e w5 ⟨a5, rfl, s5, kk⟩
    (try replace SB := SB.nx kk)
    replace hHeld := hHeld.nx kk
    clear kk
    refine hK.out _ _ (hHeld) (fun hHeld => ?_)
    clear hK K
    try simp only [Act.put, List.setIfInBounds_toArray, List.set_cons_zero, List.set_cons_succ]
    refine wpAnyH_ready (rs := [18]) (by kernel_rfl) (by simp) ?_
    refine AllReadyH.cons (o := ⟨some 25, .call { callee := .value (.func 53), args := #[.tmp 23, .tmp 24], argTypes := #[23, 22] }, 3, "law.go:23", #[⟨16, .data⟩, ⟨17, .data⟩, ⟨16, .chain⟩, ⟨15, .guard⟩], some (15, true)⟩) rfl (fun K hK => ?_) AllReadyH.nil
    go_simp
    (with_reducible refine (gap_p _ _ _ fiveN _ _ _ [2, 3] _ s5 (by omega) (by omega) (by unfold maxLen; omega) SB (by omega)).mono ?_)
    rintro e w6 ⟨rfl, kk⟩
    rw [five_gap]
    replace hHeld := hHeld.nx kk
    clear kk s5 SB
    refine hK.out _ _ (hHeld) (fun hHeld => ?_)
    clear hK K
    try simp only [Act.put, List.setIfInBounds_toArray, List.set_cons_zero, List.set_cons_succ]
    refine wpAnyH_take (i := 19) (oi := ⟨some 26, .binOp .eql 3 (.tmp 25) (.const (.int .i64 2)) 3, 4, "law.go:23", #[⟨18, .data⟩, ⟨15, .guard⟩], some (15, true)⟩) (v := ?_) rfl (by kernel_rfl) (by kernel_rfl) (by kernel_rfl) (fun _ _ _ h => h) (Or.inl ⟨by rfl, ?hyr1x19q334⟩) (by assumption) ?restr1x19q334
    case hyr1x19q334 => intro wq hSw; (go_simp); (try with_reducible rfl)
    try simp only [Act.put, List.setIfInBounds_toArray, List.set_cons_zero, List.set_cons_succ]
    refine wpAnyH_take (i := 20) (oi := ⟨some 27, .pick (.tmp 22) (.tmp 26) (.const (.bool false)), 4, "law.go:23", #[⟨15, .data⟩, ⟨19, .data⟩], none⟩) (v := ?_) rfl (by kernel_rfl) (by kernel_rfl) (by kernel_rfl) (fun _ _ _ h => h) (Or.inl ⟨by rfl, ?hyr1x20q337⟩) (by assumption) ?restr1x20q337
    case hyr1x20q337 => intro wq hSw; (go_simp); (try with_reducible rfl)
    try simp only [Act.put, List.setIfInBounds_toArray, List.set_cons_zero, List.set_cons_succ]
    refine wpAnyH_take (i := 21) (oi := ⟨some 28, .move (.tmp 27), 4, "law.go:23", #[⟨20, .data⟩, ⟨18, .chain⟩], none⟩) (v := ?_) rfl (by kernel_rfl) (by kernel_rfl) (by kernel_rfl) (fun _ _ _ h => h) (Or.inl ⟨by rfl, ?hyr1x21q340⟩) (by assumption) ?restr1x21q340
    case hyr1x21q340 => intro wq hSw; (go_simp); (try with_reducible rfl)
    try simp only [Act.put, List.setIfInBounds_toArray, List.set_cons_zero, List.set_cons_succ]
    refine wpAnyH_take (i := 22) (oi := ⟨some 29, .move (.tmp 2), 36, "law.go:23", #[⟨21, .guard⟩], some (21, true)⟩) (v := ?_) rfl (by kernel_rfl) (by kernel_rfl) (by kernel_rfl) (fun _ _ _ h => h) (Or.inl ⟨by rfl, ?hyr1x22q343⟩) (by assumption) ?restr1x22q343
    case hyr1x22q343 => intro wq hSw; (go_simp); (try with_reducible rfl)
    try simp only [Act.put, List.setIfInBounds_toArray, List.set_cons_zero, List.set_cons_succ]
    refine wpAnyH_take (i := 23) (oi := ⟨some 30, .call { callee := .builtin .len, args := #[.tmp 29], argTypes := #[36] }, 3, "law.go:23", #[⟨22, .data⟩, ⟨21, .guard⟩], some (21, true)⟩) (v := ?_) rfl (by kernel_rfl) (by kernel_rfl) (by kernel_rfl) (fun _ _ _ h => h) (Or.inl ⟨by rfl, ?hyr1x23q346⟩) (by assumption) ?restr1x23q346
    case hyr1x23q346 => intro wq hSw; (go_simp); (try with_reducible rfl)
    try simp only [Act.put, List.setIfInBounds_toArray, List.set_cons_zero, List.set_cons_succ]
    refine wpAnyH_take (i := 24) (oi := ⟨some 31, .binOp .eql 3 (.tmp 30) (.const (.int .i64 5)) 3, 4, "law.go:23", #[⟨23, .data⟩, ⟨21, .guard⟩], some (21, true)⟩) (v := ?_) rfl (by kernel_rfl) (by kernel_rfl) (by kernel_rfl) (fun _ _ _ h => h) (Or.inl ⟨by rfl, ?hyr1x24q349⟩) (by assumption) ?restr1x24q349
    case hyr1x24q349 => intro wq hSw; (go_simp); (try with_reducible rfl)
    try simp only [Act.put, List.setIfInBounds_toArray, List.set_cons_zero, List.set_cons_succ]
    refine wpAnyH_take (i := 25) (oi := ⟨some 32, .pick (.tmp 28) (.tmp 31) (.const (.bool false)), 4, "law.go:23", #[⟨21, .data⟩, ⟨24, .data⟩], none⟩) (v := ?_) rfl (by kernel_rfl) (by kernel_rfl) (by kernel_rfl) (fun _ _ _ h => h) (Or.inl ⟨by rfl, ?hyr1x25q352⟩) (by assumption) ?restr1x25q352
    case hyr1x25q352 => intro wq hSw; (go_simp); (try with_reducible rfl)
    try simp only [Act.put, List.setIfInBounds_toArray, List.set_cons_zero, List.set_cons_succ]
    refine wpAnyH_take (i := 26) (oi := ⟨some 33, .move (.tmp 32), 4, "law.go:23", #[⟨25, .data⟩, ⟨21, .chain⟩], none⟩) (v := ?_) rfl (by kernel_rfl) (by kernel_rfl) (by kernel_rfl) (fun _ _ _ h => h) (Or.inl ⟨by rfl, ?hyr1x26q355⟩) (by assumption) ?restr1x26q355
    case hyr1x26q355 => intro wq hSw; (go_simp); (try with_reducible rfl)
    try simp only [Act.put, List.setIfInBounds_toArray, List.set_cons_zero, List.set_cons_succ]
    refine wpAnyH_take (i := 27) (oi := ⟨some 34, .move (.tmp 2), 36, "law.go:23", #[⟨26, .guard⟩], some (26, true)⟩) (v := ?_) rfl (by kernel_rfl) (by kernel_rfl) (by kernel_rfl) (fun _ _ _ h => h) (Or.inl ⟨by rfl, ?hyr1x27q358⟩) (by assumption) ?restr1x27q358
    case hyr1x27q358 => intro wq hSw; (go_simp); (try with_reducible rfl)
    try simp only [Act.put, List.setIfInBounds_toArray, List.set_cons_zero, List.set_cons_succ]
    refine wpAnyH_take (i := 28) (oi := ⟨some 35, .indexAddr 36 (.tmp 34) (.const (.int .i64 2)), 0, "law.go:23", #[⟨27, .data⟩, ⟨26, .guard⟩], some (26, true)⟩) (v := ?_) rfl (by kernel_rfl) (by kernel_rfl) (by kernel_rfl) (fun _ _ _ h => h) (Or.inl ⟨by rfl, ?hyr1x28q361⟩) (by assumption) ?restr1x28q361
    case hyr1x28q361 => intro wq hSw; (go_simp); (try with_reducible rfl)
    try simp only [Act.put, List.setIfInBounds_toArray, List.set_cons_zero, List.set_cons_succ]
    refine wpAnyH_take (i := 29) (oi := ⟨some 36, .fieldAddr 41 (.tmp 35) 2, 0, "law.go:23", #[⟨28, .data⟩, ⟨26, .guard⟩], some (26, true)⟩) (v := ?_) rfl (by kernel_rfl) (by kernel_rfl) (by kernel_rfl) (fun _ _ _ h => h) (Or.inl ⟨by rfl, ?hyr1x29q364⟩) (by assumption) ?restr1x29q364
    case hyr1x29q364 => intro wq hSw; (go_simp); (try with_reducible rfl)
    try simp only [Act.put, List.setIfInBounds_toArray, List.set_cons_zero, List.set_cons_succ]
    refine wpAnyH_take (i := 30) (oi := ⟨some 37, .load 3 (.tmp 36), 3, "law.go:23", #[⟨29, .data⟩, ⟨26, .guard⟩], some (26, true)⟩) (v := ?_) rfl (by kernel_rfl) (by kernel_rfl) (by kernel_rfl) (fun _ _ _ h => h) (Or.inl ⟨by rfl, ?hyr1x30q367⟩) (by assumption) ?restr1x30q367
    case hyr1x30q367 => intro wq hSw; (have cq := P2.out wq hSw; go_simp); (try with_reducible rfl)
    try simp only [Act.put, List.setIfInBounds_toArray, List.set_cons_zero, List.set_cons_succ]
    refine wpAnyH_take (i := 31) (oi := ⟨some 38, .binOp .eql 3 (.tmp 37) (.const (.int .i64 2)) 3, 4, "law.go:23", #[⟨30, .data⟩, ⟨26, .guard⟩], some (26, true)⟩) (v := ?_) rfl (by kernel_rfl) (by kernel_rfl) (by kernel_rfl) (fun _ _ _ h => h) (Or.inl ⟨by rfl, ?hyr1x31q370⟩) (by assumption) ?restr1x31q370
    case hyr1x31q370 => intro wq hSw; (go_simp); (try with_reducible rfl)
    try simp only [Act.put, List.setIfInBounds_toArray, List.set_cons_zero, List.set_cons_succ]
    refine wpAnyH_take (i := 32) (oi := ⟨some 39, .pick (.tmp 33) (.tmp 38) (.const (.bool false)), 4, "law.go:23", #[⟨26, .data⟩, ⟨31, .data⟩], none⟩) (v := ?_) rfl (by kernel_rfl) (by kernel_rfl) (by kernel_rfl) (fun _ _ _ h => h) (Or.inl ⟨by rfl, ?hyr1x32q373⟩) (by assumption) ?restr1x32q373
    case hyr1x32q373 => intro wq hSw; (go_simp); (try with_reducible rfl)
    try simp only [Act.put, List.setIfInBounds_toArray, List.set_cons_zero, List.set_cons_succ]
    refine wpAnyH_take (i := 33) (oi := ⟨some 40, .move (.tmp 39), 4, "law.go:23", #[⟨32, .data⟩, ⟨26, .chain⟩], none⟩) (v := ?_) rfl (by kernel_rfl) (by kernel_rfl) (by kernel_rfl) (fun _ _ _ h => h) (Or.inl ⟨by rfl, ?hyr1x33q376⟩) (by assumption) ?restr1x33q376
    case hyr1x33q376 => intro wq hSw; (go_simp); (try with_reducible rfl)
    try simp only [Act.put, List.setIfInBounds_toArray, List.set_cons_zero, List.set_cons_succ]
    refine wpAnyH_take (i := 34) (oi := ⟨some 41, .move (.tmp 2), 36, "law.go:23", #[⟨33, .guard⟩], some (33, true)⟩) (v := ?_) rfl (by kernel_rfl) (by kernel_rfl) (by kernel_rfl) (fun _ _ _ h => h) (Or.inl ⟨by rfl, ?hyr1x34q379⟩) (by assumption) ?restr1x34q379
    case hyr1x34q379 => intro wq hSw; (go_simp); (try with_reducible rfl)
    try simp only [Act.put, List.setIfInBounds_toArray, List.set_cons_zero, List.set_cons_succ]
    refine wpAnyH_take (i := 35) (oi := ⟨some 42, .indexAddr 36 (.tmp 41) (.const (.int .i64 2)), 0, "law.go:23", #[⟨34, .data⟩, ⟨33, .guard⟩], some (33, true)⟩) (v := ?_) rfl (by kernel_rfl) (by kernel_rfl) (by kernel_rfl) (fun _ _ _ h => h) (Or.inl ⟨by rfl, ?hyr1x35q382⟩) (by assumption) ?restr1x35q382
    case hyr1x35q382 => intro wq hSw; (go_simp); (try with_reducible rfl)
    try simp only [Act.put, List.setIfInBounds_toArray, List.set_cons_zero, List.set_cons_succ]
    refine wpAnyH_take (i := 36) (oi := ⟨some 43, .fieldAddr 41 (.tmp 42) 4, 0, "law.go:23", #[⟨35, .data⟩, ⟨33, .guard⟩], some (33, true)⟩) (v := ?_) rfl (by kernel_rfl) (by kernel_rfl) (by kernel_rfl) (fun _ _ _ h => h) (Or.inl ⟨by rfl, ?hyr1x36q385⟩) (by assumption) ?restr1x36q385
    case hyr1x36q385 => intro wq hSw; (go_simp); (try with_reducible rfl)
    try simp only [Act.put, List.setIfInBounds_toArray, List.set_cons_zero, List.set_cons_succ]
    refine wpAnyH_take (i := 37) (oi := ⟨some 44, .load 39 (.tmp 43), 39, "law.go:23", #[⟨36, .data⟩, ⟨33, .guard⟩], some (33, true)⟩) (v := ?_) rfl (by kernel_rfl) (by kernel_rfl) (by kernel_rfl) (fun _ _ _ h => h) (Or.inl ⟨by rfl, ?hyr1x37q388⟩) (by assumption) ?restr1x37q388
    case hyr1x37q388 => intro wq hSw; (have cq := P4.out wq hSw; go_simp); (try with_reducible rfl)
    try simp only [Act.put, List.setIfInBounds_toArray, List.set_cons_zero, List.set_cons_succ]
    refine wpAnyH_take (i := 38) (oi := ⟨some 45, .call { callee := .builtin .len, args := #[.tmp 44], argTypes := #[39] }, 3, "law.go:23", #[⟨37, .data⟩, ⟨33, .guard⟩], some (33, true)⟩) (v := ?_) rfl (by kernel_rfl) (by kernel_rfl) (by kernel_rfl) (fun _ _ _ h => h) (Or.inl ⟨by rfl, ?hyr1x38q391⟩) (by assumption) ?restr1x38q391
    case hyr1x38q391 => intro wq hSw; (go_simp); (try with_reducible rfl)
    try simp only [Act.put, List.setIfInBounds_toArray, List.set_cons_zero, List.set_cons_succ]
    refine wpAnyH_take (i := 39) (oi := ⟨some 46, .binOp .eql 3 (.tmp 45) (.const (.int .i64 1)) 3, 4, "law.go:23", #[⟨38, .data⟩, ⟨33, .guard⟩], some (33, true)⟩) (v := ?_) rfl (by kernel_rfl) (by kernel_rfl) (by kernel_rfl) (fun _ _ _ h => h) (Or.inl ⟨by rfl, ?hyr1x39q394⟩) (by assumption) ?restr1x39q394
    case hyr1x39q394 => intro wq hSw; (go_simp); (try with_reducible rfl)
    try simp only [Act.put, List.setIfInBounds_toArray, List.set_cons_zero, List.set_cons_succ]
    refine wpAnyH_take (i := 40) (oi := ⟨some 47, .pick (.tmp 40) (.tmp 46) (.const (.bool false)), 4, "law.go:23", #[⟨33, .data⟩, ⟨39, .data⟩], none⟩) (v := ?_) rfl (by kernel_rfl) (by kernel_rfl) (by kernel_rfl) (fun _ _ _ h => h) (Or.inl ⟨by rfl, ?hyr1x40q397⟩) (by assumption) ?restr1x40q397
    case hyr1x40q397 => intro wq hSw; (go_simp); (try with_reducible rfl)
    try simp only [Act.put, List.setIfInBounds_toArray, List.set_cons_zero, List.set_cons_succ]
    refine wpAnyH_take (i := 41) (oi := ⟨some 48, .move (.tmp 47), 4, "law.go:23", #[⟨40, .data⟩, ⟨33, .chain⟩], none⟩) (v := ?_) rfl (by kernel_rfl) (by kernel_rfl) (by kernel_rfl) (fun _ _ _ h => h) (Or.inl ⟨by rfl, ?hyr1x41q400⟩) (by assumption) ?restr1x41q400
    case hyr1x41q400 => intro wq hSw; (go_simp); (try with_reducible rfl)
    try simp only [Act.put, List.setIfInBounds_toArray, List.set_cons_zero, List.set_cons_succ]
    refine wpAnyH_take (i := 42) (oi := ⟨some 49, .move (.tmp 2), 36, "law.go:23", #[⟨41, .guard⟩], some (41, true)⟩) (v := ?_) rfl (by kernel_rfl) (by kernel_rfl) (by kernel_rfl) (fun _ _ _ h => h) (Or.inl ⟨by rfl, ?hyr1x42q403⟩) (by assumption) ?restr1x42q403
    case hyr1x42q403 => intro wq hSw; (go_simp); (try with_reducible rfl)
    try simp only [Act.put, List.setIfInBounds_toArray, List.set_cons_zero, List.set_cons_succ]
    refine wpAnyH_take (i := 43) (oi := ⟨some 50, .indexAddr 36 (.tmp 49) (.const (.int .i64 2)), 0, "law.go:23", #[⟨42, .data⟩, ⟨41, .guard⟩], some (41, true)⟩) (v := ?_) rfl (by kernel_rfl) (by kernel_rfl) (by kernel_rfl) (fun _ _ _ h => h) (Or.inl ⟨by rfl, ?hyr1x43q406⟩) (by assumption) ?restr1x43q406
    case hyr1x43q406 => intro wq hSw; (go_simp); (try with_reducible rfl)
    try simp only [Act.put, List.setIfInBounds_toArray, List.set_cons_zero, List.set_cons_succ]
    refine wpAnyH_take (i := 44) (oi := ⟨some 51, .fieldAddr 41 (.tmp 50) 4, 0, "law.go:23", #[⟨43, .data⟩, ⟨41, .guard⟩], some (41, true)⟩) (v := ?_) rfl (by kernel_rfl) (by kernel_rfl) (by kernel_rfl) (fun _ _ _ h => h) (Or.inl ⟨by rfl, ?hyr1x44q409⟩) (by assumption) ?restr1x44q409
    case hyr1x44q409 => intro wq hSw; (go_simp); (try with_reducible rfl)
    try simp only [Act.put, List.setIfInBounds_toArray, List.set_cons_zero, List.set_cons_succ]
    refine wpAnyH_take (i := 45) (oi := ⟨some 52, .load 39 (.tmp 51), 39, "law.go:23", #[⟨44, .data⟩, ⟨41, .guard⟩], some (41, true)⟩) (v := ?_) rfl (by kernel_rfl) (by kernel_rfl) (by kernel_rfl) (fun _ _ _ h => h) (Or.inl ⟨by rfl, ?hyr1x45q412⟩) (by assumption) ?restr1x45q412
    case hyr1x45q412 => intro wq hSw; (have cq := P4.out wq hSw; go_simp); (try with_reducible rfl)
    try simp only [Act.put, List.setIfInBounds_toArray, List.set_cons_zero, List.set_cons_succ]
    refine wpAnyH_take (i := 46) (oi := ⟨some 53, .indexAddr 39 (.tmp 52) (.const (.int .i64 0)), 0, "law.go:23", #[⟨45, .data⟩, ⟨41, .guard⟩], some (41, true)⟩) (v := ?_) rfl (by kernel_rfl) (by kernel_rfl) (by kernel_rfl) (fun _ _ _ h => h) (Or.inl ⟨by rfl, ?hyr1x46q415⟩) (by assumption) ?restr1x46q415
    case hyr1x46q415 => intro wq hSw; (go_simp); (try with_reducible rfl)
    try simp only [Act.put, List.setIfInBounds_toArray, List.set_cons_zero, List.set_cons_succ]
    refine wpAnyH_take (i := 47) (oi := ⟨some 54, .fieldAddr 77 (.tmp 53) 0, 0, "law.go:23", #[⟨46, .data⟩, ⟨41, .guard⟩], some (41, true)⟩) (v := ?_) rfl (by kernel_rfl) (by kernel_rfl) (by kernel_rfl) (fun _ _ _ h => h) (Or.inl ⟨by rfl, ?hyr1x47q418⟩) (by assumption) ?restr1x47q418
    case hyr1x47q418 => intro wq hSw; (go_simp); (try with_reducible rfl)
    try simp only [Act.put, List.setIfInBounds_toArray, List.set_cons_zero, List.set_cons_succ]
    refine wpAnyH_take (i := 48) (oi := ⟨some 55, .load 3 (.tmp 54), 3, "law.go:23", #[⟨47, .data⟩, ⟨41, .guard⟩], some (41, true)⟩) (v := ?_) rfl (by kernel_rfl) (by kernel_rfl) (by kernel_rfl) (fun _ _ _ h => h) (Or.inl ⟨by rfl, ?hyr1x48q421⟩) (by assumption) ?restr1x48q421
    case hyr1x48q421 => intro wq hSw; (have cq := Q0.out wq hSw; go_simp); (try with_reducible rfl)
    try simp only [Act.put, List.setIfInBounds_toArray, List.set_cons_zero, List.set_cons_succ]
    refine wpAnyH_take (i := 49) (oi := ⟨some 56, .binOp .eql 3 (.tmp 55) (.const (.int .i64 1)) 3, 4, "law.go:23", #[⟨48, .data⟩, ⟨41, .guard⟩], some (41, true)⟩) (v := ?_) rfl (by kernel_rfl) (by kernel_rfl) (by kernel_rfl) (fun _ _ _ h => h) (Or.inl ⟨by rfl, ?hyr1x49q424⟩) (by assumption) ?restr1x49q424
    case hyr1x49q424 => intro wq hSw; (go_simp); (try with_reducible rfl)
    try simp only [Act.put, List.setIfInBounds_toArray, List.set_cons_zero, List.set_cons_succ]
    refine wpAnyH_take (i := 50) (oi := ⟨some 57, .pick (.tmp 48) (.tmp 56) (.const (.bool false)), 4, "law.go:23", #[⟨41, .data⟩, ⟨49, .data⟩], none⟩) (v := ?_) rfl (by kernel_rfl) (by kernel_rfl) (by kernel_rfl) (fun _ _ _ h => h) (Or.inl ⟨by rfl, ?hyr1x50q427⟩) (by assumption) ?restr1x50q427
    case hyr1x50q427 => intro wq hSw; (go_simp); (try with_reducible rfl)
    try simp only [Act.put, List.setIfInBounds_toArray, List.set_cons_zero, List.set_cons_succ]
    refine wpAnyH_take (i := 51) (oi := ⟨some 58, .move (.tmp 57), 4, "law.go:23", #[⟨50, .data⟩, ⟨41, .chain⟩], none⟩) (v := ?_) rfl (by kernel_rfl) (by kernel_rfl) (by kernel_rfl) (fun _ _ _ h => h) (Or.inl ⟨by rfl, ?hyr1x51q430⟩) (by assumption) ?restr1x51q430
    case hyr1x51q430 => intro wq hSw; (go_simp); (try with_reducible rfl)
    try simp only [Act.put, List.setIfInBounds_toArray, List.set_cons_zero, List.set_cons_succ]
    refine wpAnyH_take (i := 53) (oi := ⟨some 60, .move (.tmp 2), 36, "law.go:23", #[⟨51, .guard⟩], some (51, true)⟩) (v := ?_) rfl (by kernel_rfl) (by kernel_rfl) (by kernel_rfl) (fun _ _ _ h => h) (Or.inl ⟨by rfl, ?hyr1x53q433⟩) (by assumption) ?restr1x53q433
    case hyr1x53q433 => intro wq hSw; (go_simp); (try with_reducible rfl)
    try simp only [Act.put, List.setIfInBounds_toArray, List.set_cons_zero, List.set_cons_succ]
    refine wpAnyH_ready (rs := [52]) (by kernel_rfl) (by simp) ?_
    refine AllReadyH.cons (o := ⟨some 59, .call { callee := .value (.func 57), args := #[], argTypes := #[] }, 23, "law.go:23", #[⟨51, .chain⟩, ⟨51, .guard⟩], some (51, true)⟩) rfl (fun K hK => ?_) AllReadyH.nil
    go_simp
    (with_reducible refine (five_x _).mono ?_)
    rintro e w7 ⟨a5, rfl, s5, kk⟩
    replace hHeld := hHeld.nx kk
    clear kk
    refine hK.out _ _ (hHeld) (fun hHeld => ?_)
    clear hK K
    try simp only [Act.put, List.setIfInBounds_toArray, List.set_cons_zero, List.set_cons_succ]
    refine wpAnyH_ready (rs := [54]) (by kernel_rfl) (by simp) ?_
    refine AllReadyH.cons (o := ⟨some 61, .call { callee := .value (.func 22), args := #[.tmp 59, .tmp 60], argTypes := #[23, 36] }, 4, "law.go:23", #[⟨52, .data⟩, ⟨53, .data⟩, ⟨52, .chain⟩, ⟨51, .guard⟩], some (51, true)⟩) rfl (fun K hK => ?_) AllReadyH.nil
    go_simp
    (with_reducible refine (connected_p _ _ _ fiveN _ _ _ _ _ s5 (by omega) (by omega) (by unfold maxLen; omega) (P.out.nx hHeld) (by omega) five_small).mono ?_)
    rintro e w8 ⟨rfl, kk⟩
    rw [five_conn]
    replace hHeld := hHeld.nx kk
    clear kk s5
    refine hK.out _ _ (hHeld) (fun hHeld => ?_)
    clear hK K
    try simp only [Act.put, List.setIfInBounds_toArray, List.set_cons_zero, List.set_cons_succ]
    refine wpAnyH_take (i := 55) (oi := ⟨some 62, .pick (.tmp 58) (.tmp 61) (.const (.bool false)), 4, "law.go:23", #[⟨51, .data⟩, ⟨54, .data⟩], none⟩) (v := ?_) rfl (by kernel_rfl) (by kernel_rfl) (by kernel_rfl) (fun _ _ _ h => h) (Or.inl ⟨by rfl, ?hyr1x55q457⟩) (by assumption) ?restr1x55q457
    case hyr1x55q457 => intro wq hSw; (go_simp); (try with_reducible rfl)
    try simp only [Act.put, List.setIfInBounds_toArray, List.set_cons_zero, List.set_cons_succ]
    refine wpAnyH_take (i := 56) (oi := ⟨some 63, .move (.tmp 62), 4, "law.go:23", #[⟨55, .data⟩, ⟨54, .chain⟩], none⟩) (v := ?_) rfl (by kernel_rfl) (by kernel_rfl) (by kernel_rfl) (fun _ _ _ h => h) (Or.inl ⟨by rfl, ?hyr1x56q460⟩) (by assumption) ?restr1x56q460
    case hyr1x56q460 => intro wq hSw; (go_simp); (try with_reducible rfl)
    try simp only [Act.put, List.setIfInBounds_toArray, List.set_cons_zero, List.set_cons_succ]
    refine wpAnyH_take (i := 58) (oi := ⟨some 65, .move (.tmp 2), 36, "law.go:23", #[⟨56, .guard⟩], some (56, true)⟩) (v := ?_) rfl (by kernel_rfl) (by kernel_rfl) (by kernel_rfl) (fun _ _ _ h => h) (Or.inl ⟨by rfl, ?hyr1x58q463⟩) (by assumption) ?restr1x58q463
    case hyr1x58q463 => intro wq hSw; (go_simp); (try with_reducible rfl)
    try simp only [Act.put, List.setIfInBounds_toArray, List.set_cons_zero, List.set_cons_succ]
    refine wpAnyH_take (i := 59) (oi := ⟨some 66, .indexAddr 36 (.tmp 65) (.const (.int .i64 0)), 0, "law.go:23", #[⟨58, .data⟩, ⟨56, .guard⟩], some (56, true)⟩) (v := ?_) rfl (by kernel_rfl) (by kernel_rfl) (by kernel_rfl) (fun _ _ _ h => h) (Or.inl ⟨by rfl, ?hyr1x59q466⟩) (by assumption) ?restr1x59q466
    case hyr1x59q466 => intro wq hSw; (go_simp); (try with_reducible rfl)
    try simp only [Act.put, List.setIfInBounds_toArray, List.set_cons_zero, List.set_cons_succ]
    refine wpAnyH_take (i := 60) (oi := ⟨some 67, .load 41 (.tmp 66), 41, "law.go:23", #[⟨59, .data⟩, ⟨56, .guard⟩], some (56, true)⟩) (v := ?_) rfl (by kernel_rfl) (by kernel_rfl) (by kernel_rfl) (fun _ _ _ h => h) (Or.inl ⟨by rfl, ?hyr1x60q469⟩) (by assumption) ?restr1x60q469
    case hyr1x60q469 => intro wq hSw; (have c0 := R0.out wq hSw; have c1 := R1.out wq hSw; have c2 := R2.out wq hSw; have c3 := R3.out wq hSw; have c4 := R4.out wq hSw; go_simp); (try with_reducible rfl)
    try simp only [Act.put, List.setIfInBounds_toArray, List.set_cons_zero, List.set_cons_succ]
    refine wpAnyH_ready (rs := [57]) (by kernel_rfl) (by simp) ?_
    refine AllReadyH.cons (o := ⟨some 64, .call { callee := .value (.func 57), args := #[], argTypes := #[] }, 23, "law.go:23", #[⟨56, .chain⟩, ⟨56, .guard⟩], some (56, true)⟩) rfl (fun K hK => ?_) AllReadyH.nil
    go_simp
    (with_reducible refine (five_x _).mono ?_)
    rintro e w9 ⟨a5, rfl, s5, kk⟩
    replace hHeld := hHeld.nx kk
    clear kk
    refine hK.out _ _ (hHeld) (fun hHeld => ?_)
    clear hK K
    try simp only [Act.put, List.setIfInBounds_toArray, List.set_cons_zero, List.set_cons_succ]
    refine wpAnyH_ready (rs := [61]) (by kernel_rfl) (by simp) ?_
    refine AllReadyH.cons (o := ⟨some 68, .call { callee := .value (.func 25), args := #[.tmp 64, .tmp 67], argTypes := #[23, 41] }, 22, "law.go:23", #[⟨57, .data⟩, ⟨60, .data⟩, ⟨57, .chain⟩, ⟨56, .guard⟩], some (56, true)⟩) rfl (fun K hK => ?_) AllReadyH.nil
    go_simp
    (with_reducible refine (refs_p _ _ _ fiveN y' _ _ _ _ _ _ _ s5 (by omega) (by omega) (by unfold maxLen; omega) (r1.out.nx hHeld) (r4.out.nx hHeld) hl1 hl4).mono ?_)
    rintro e w10 ⟨v, rfl, own, kk⟩
    obtain ⟨aR, cR, rfl, R, _, _, _⟩ := own.slf (fun _ => rfl)
    have hR := hy1.out
    generalize (refsN fiveN y').length = nr at R hR ⊢
    have hR' : (0 : Int) < (nr : Int) := by omega
    replace hHeld := hHeld.nx kk
    clear kk s5 own R
    refine hK.out _ _ (hHeld) (fun hHeld => ?_)
    clear hK K
    try simp only [Act.put, List.setIfInBounds_toArray, List.set_cons_zero, List.set_cons_succ]
    refine wpAnyH_take (i := 62) (oi := ⟨some 69, .call { callee := .builtin .len, args := #[.tmp 68], argTypes := #[22] }, 3, "law.go:23", #[⟨61, .data⟩, ⟨56, .guard⟩], some (56, true)⟩) (v := ?_) rfl (by kernel_rfl) (by kernel_rfl) (by kernel_rfl) (fun _ _ _ h => h) (Or.inl ⟨by rfl, ?hyr1x62q496⟩) (by assumption) ?restr1x62q496
    case hyr1x62q496 => intro wq hSw; (go_simp); (try with_reducible rfl)
    try simp only [Act.put, List.setIfInBounds_toArray, List.set_cons_zero, List.set_cons_succ]
    refine wpAnyH_take (i := 63) (oi := ⟨some 70, .binOp .gtr 3 (.tmp 69) (.const (.int .i64 0)) 3, 4, "law.go:23", #[⟨62, .data⟩, ⟨56, .guard⟩], some (56, true)⟩) (v := ?_) rfl (by kernel_rfl) (by kernel_rfl) (by kernel_rfl) (fun _ _ _ h => h) (Or.inl ⟨by rfl, ?hyr1x63q499⟩) (by assumption) ?restr1x63q499
    case hyr1x63q499 => intro wq hSw; (go_simp); (try with_reducible rfl)
    try simp only [Act.put, List.setIfInBounds_toArray, List.set_cons_zero, List.set_cons_succ]
    refine wpAnyH_take (i := 64) (oi := ⟨some 71, .pick (.tmp 63) (.tmp 70) (.const (.bool false)), 4, "law.go:23", #[⟨56, .data⟩, ⟨63, .data⟩], none⟩) (v := ?_) rfl (by kernel_rfl) (by kernel_rfl) (by kernel_rfl) (fun _ _ _ h => h) (Or.inl ⟨by rfl, ?hyr1x64q502⟩) (by assumption) ?restr1x64q502
    case hyr1x64q502 => intro wq hSw; (go_simp); (try with_reducible rfl)
    try simp only [Act.put, List.setIfInBounds_toArray, List.set_cons_zero, List.set_cons_succ]
    refine wpAnyH_take (i := 65) (oi := ⟨some 72, .move (.tmp 71), 4, "law.go:23", #[⟨64, .data⟩, ⟨61, .chain⟩], none⟩) (v := ?_) rfl (by kernel_rfl) (by kernel_rfl) (by kernel_rfl) (fun _ _ _ h => h) (Or.inl ⟨by rfl, ?hyr1x65q505⟩) (by assumption) ?restr1x65q505
    case hyr1x65q505 => intro wq hSw; (go_simp); (try with_reducible rfl)
    try simp only [Act.put, List.setIfInBounds_toArray, List.set_cons_zero, List.set_cons_succ]
    refine wpAnyH_take (i := 66) (oi := ⟨some 73, .move (.tmp 2), 36, "law.go:23", #[⟨65, .guard⟩], some (65, true)⟩) (v := ?_) rfl (by kernel_rfl) (by kernel_rfl) (by kernel_rfl) (fun _ _ _ h => h) (Or.inl ⟨by rfl, ?hyr1x66q508⟩) (by assumption) ?restr1x66q508
    case hyr1x66q508 => intro wq hSw; (go_simp); (try with_reducible rfl)
    try simp only [Act.put, List.setIfInBounds_toArray, List.set_cons_zero, List.set_cons_succ]
    refine wpAnyH_ready (rs := [67]) (by kernel_rfl) (by simp) ?_
    refine AllReadyH.cons (o := ⟨some 74, .buildSlice 22 1 #[(0, .const (.int .i64 1))], 22, "law.go:23", #[⟨65, .guard⟩], some (65, true)⟩) rfl (fun K hK => ?_) AllReadyH.nil
    go_simp
    obtain ⟨gB, wB, hgB, hwB, SB, kk⟩ := litE hHeld 1
    rw [← hgB, ← hwB]
    clear hgB hwB
    replace hHeld := hHeld.nx kk
    clear kk
    refine hK.out _ _ (hHeld) (fun hHeld => ?_)
    clear hK K
    try simp only [Act.put, List.setIfInBounds_toArray, List.set_cons_zero, List.set_cons_succ]
    refine wpAnyH_ready (rs := [68]) (by kernel_rfl) (by simp) ?_
    refine AllReadyH.cons (o := ⟨some 75, .call { callee := .value (.func 55), args := #[.tmp 73, .tmp 74], argTypes := #[36, 22] }, 36, "law.go:23", #[⟨66, .data⟩, ⟨67, .data⟩, ⟨65, .chain⟩, ⟨65, .guard⟩], some (65, true)⟩) rfl (fun K hK => ?_) AllReadyH.nil
    go_simp
    (with_reducible refine (crash_p _ _ _ _ _ _ _ [1] _ (P.out.nx hHeld) (by omega) five_small2 SB (by omega)).mono ?_)
    rintro e w11 ⟨v, qs', rfl, own, kk⟩
    obtain ⟨aQ, cQ, rfl, Q, _, _, _⟩ := own.pl
    rw [five_crash]
    replace hHeld := hHeld.nx kk
    clear kk own Q SB
    refine hK.out _ _ (hHeld) (fun hHeld => ?_)
    clear hK K
    try simp only [Act.put, List.setIfInBounds_toArray, List.set_cons_zero, List.set_cons_succ]
    refine wpAnyH_take (i := 69) (oi := ⟨some 76, .call { callee := .builtin .len, args := #[.tmp 75], argTypes := #[36] }, 3, "law.go:23", #[⟨68, .data⟩, ⟨65, .guard⟩], some (65, true)⟩) (v := ?_) rfl (by kernel_rfl) (by kernel_rfl) (by kernel_rfl) (fun _ _ _ h => h) (Or.inl ⟨by rfl, ?hyr1x69q534⟩) (by assumption) ?restr1x69q534
    case hyr1x69q534 => intro wq hSw; (go_simp); (try with_reducible rfl)
    try simp only [Act.put, List.setIfInBounds_toArray, List.set_cons_zero, List.set_cons_succ]
    refine wpAnyH_take (i := 70) (oi := ⟨some 77, .binOp .eql 3 (.tmp 76) (.const (.int .i64 4)) 3, 4, "law.go:23", #[⟨69, .data⟩, ⟨65, .guard⟩], some (65, true)⟩) (v := ?_) rfl (by kernel_rfl) (by kernel_rfl) (by kernel_rfl) (fun _ _ _ h => h) (Or.inl ⟨by rfl, ?hyr1x70q537⟩) (by assumption) ?restr1x70q537
    case hyr1x70q537 => intro wq hSw; (go_simp); (try with_reducible rfl)
    try simp only [Act.put, List.setIfInBounds_toArray, List.set_cons_zero, List.set_cons_succ]
    refine wpAnyH_take (i := 71) (oi := ⟨some 78, .pick (.tmp 72) (.tmp 77) (.const (.bool false)), 4, "law.go:23", #[⟨65, .data⟩, ⟨70, .data⟩], none⟩) (v := ?_) rfl (by kernel_rfl) (by kernel_rfl) (by kernel_rfl) (fun _ _ _ h => h) (Or.inl ⟨by rfl, ?hyr1x71q540⟩) (by assumption) ?restr1x71q540
    case hyr1x71q540 => intro wq hSw; (go_simp); (try with_reducible rfl)
    try simp only [Act.put, List.setIfInBounds_toArray, List.set_cons_zero, List.set_cons_succ]
    refine wpAnyH_take (i := 72) (oi := ⟨some 0, .assign (.tmp 78), 4, "law.go:23", (#[⟨71, .data⟩, ⟨68, .chain⟩, ⟨0, .phase⟩, ⟨1, .phase⟩, ⟨2, .phase⟩, ⟨3, .phase⟩, ⟨4, .phase⟩, ⟨5, .phase⟩, ⟨6, .phase⟩, ⟨7, .phase⟩, ⟨8, .phase⟩, ⟨9, .phase⟩, ⟨10, .phase⟩, ⟨11, .phase⟩, ⟨12, .phase⟩, ⟨13, .phase⟩, ⟨14, .phase⟩, ⟨15, .phase⟩, ⟨16, .phase⟩, ⟨17, .phase⟩, ⟨18, .phase⟩, ⟨19, .phase⟩, ⟨20, .phase⟩, ⟨21, .phase⟩, ⟨22, .phase⟩, ⟨23, .phase⟩, ⟨24, .phase⟩, ⟨25, .phase⟩, ⟨26, .phase⟩, ⟨27, .phase⟩, ⟨28, .phase⟩, ⟨29, .phase⟩, ⟨30, .phase⟩, ⟨31, .phase⟩, ⟨32, .phase⟩, ⟨33, .phase⟩, ⟨34, .phase⟩, ⟨35, .phase⟩, ⟨36, .phase⟩, ⟨37, .phase⟩, ⟨38, .phase⟩, ⟨39, .phase⟩, ⟨40, .phase⟩, ⟨41, .phase⟩, ⟨42, .phase⟩, ⟨43, .phase⟩, ⟨44, .phase⟩, ⟨45, .phase⟩, ⟨46, .phase⟩, ⟨47, .phase⟩] ++ #[⟨48, .phase⟩, ⟨49, .phase⟩, ⟨50, .phase⟩, ⟨51, .phase⟩, ⟨52, .phase⟩, ⟨53, .phase⟩, ⟨54, .phase⟩, ⟨55, .phase⟩, ⟨56, .phase⟩, ⟨57, .phase⟩, ⟨58, .phase⟩, ⟨59, .phase⟩, ⟨60, .phase⟩, ⟨61, .phase⟩, ⟨62, .phase⟩, ⟨63, .phase⟩, ⟨64, .phase⟩, ⟨65, .phase⟩, ⟨66, .phase⟩, ⟨67, .phase⟩, ⟨68, .phase⟩, ⟨69, .phase⟩, ⟨70, .phase⟩, ⟨71, .phase⟩]), none⟩) (v := ?_) rfl (by kernel_rfl) (by kernel_rfl) (by kernel_rfl) (fun _ _ _ h => h) (Or.inl ⟨by rfl, ?hyr1x72q543⟩) (by assumption) ?restr1x72q543
    case hyr1x72q543 => intro wq hSw; (go_simp); (try with_reducible rfl)
    try simp only [Act.put, List.setIfInBounds_toArray, List.set_cons_zero, List.set_cons_succ]
    refine wpAnyH_done (by kernel_rfl) ?_ _
    have KE := K4.out.nx hHeld
    go_wp2_with fail
    go_ret
    exact ⟨rfl, KE⟩
end Go.Proofs.YtbnbjiddffihoaaDoor
