/- Texts for the statement BridgeKeepsProof, part 8 of 12: BriC, LinR, LinA, InsL, LinB, LinC, LinD, RedL, MapO, LinE. -/
import Derived.Shelf.Spec.SlicesInsertGrow
import Derived.Deep.LoopGhost
import Derived.Test.YtbnbjiddffihoaaGreatDoorBridgeKeepsProofPk4
import Derived.Test.YtbnbjiddffihoaaGreatDoorBridgeKeepsProofPk5
import Derived.Test.YtbnbjiddffihoaaGreatDoorBridgeKeepsProofPk6
import Derived.Test.YtbnbjiddffihoaaGreatDoorBridgeKeepsProofPk7

/- Next of the package bridge. -/
namespace Go.Proofs.YtbnbjiddffihoaaGreatDoor
open Go.RowKit

theorem mkNr0 (w : World) : (Instr.makeSlice 43 (.int .i64 0) (.int .i64 0)).run Tryz.prog w = .ok (.slice (some ⟨w.heap.size, 0, none⟩) 0 0) (w.alloc (.cells ((List.replicate 0 ((0, 0, 0, 0) : Nr)).flatMap encNr).toArray 49)) := by kernel_rfl
theorem mkNr1 (w : World) : (Instr.makeSlice 43 (.int .i64 1) (.int .i64 1)).run Tryz.prog w = .ok (.slice (some ⟨w.heap.size, 0, none⟩) 1 1) (w.alloc (.cells ((List.replicate 1 ((0, 0, 0, 0) : Nr)).flatMap encNr).toArray 49)) := by kernel_rfl
theorem mkNr2 (w : World) : (Instr.makeSlice 43 (.int .i64 2) (.int .i64 2)).run Tryz.prog w = .ok (.slice (some ⟨w.heap.size, 0, none⟩) 2 2) (w.alloc (.cells ((List.replicate 2 ((0, 0, 0, 0) : Nr)).flatMap encNr).toArray 49)) := by kernel_rfl
theorem mkNr3 (w : World) : (Instr.makeSlice 43 (.int .i64 3) (.int .i64 3)).run Tryz.prog w = .ok (.slice (some ⟨w.heap.size, 0, none⟩) 3 3) (w.alloc (.cells ((List.replicate 3 ((0, 0, 0, 0) : Nr)).flatMap encNr).toArray 49)) := by kernel_rfl
theorem mkNr4 (w : World) : (Instr.makeSlice 43 (.int .i64 4) (.int .i64 4)).run Tryz.prog w = .ok (.slice (some ⟨w.heap.size, 0, none⟩) 4 4) (w.alloc (.cells ((List.replicate 4 ((0, 0, 0, 0) : Nr)).flatMap encNr).toArray 49)) := by kernel_rfl
theorem mkNr5 (w : World) : (Instr.makeSlice 43 (.int .i64 5) (.int .i64 5)).run Tryz.prog w = .ok (.slice (some ⟨w.heap.size, 0, none⟩) 5 5) (w.alloc (.cells ((List.replicate 5 ((0, 0, 0, 0) : Nr)).flatMap encNr).toArray 49)) := by kernel_rfl
theorem mkNr6 (w : World) : (Instr.makeSlice 43 (.int .i64 6) (.int .i64 6)).run Tryz.prog w = .ok (.slice (some ⟨w.heap.size, 0, none⟩) 6 6) (w.alloc (.cells ((List.replicate 6 ((0, 0, 0, 0) : Nr)).flatMap encNr).toArray 49)) := by kernel_rfl
theorem mkNr7 (w : World) : (Instr.makeSlice 43 (.int .i64 7) (.int .i64 7)).run Tryz.prog w = .ok (.slice (some ⟨w.heap.size, 0, none⟩) 7 7) (w.alloc (.cells ((List.replicate 7 ((0, 0, 0, 0) : Nr)).flatMap encNr).toArray 49)) := by kernel_rfl
theorem mkNr8 (w : World) : (Instr.makeSlice 43 (.int .i64 8) (.int .i64 8)).run Tryz.prog w = .ok (.slice (some ⟨w.heap.size, 0, none⟩) 8 8) (w.alloc (.cells ((List.replicate 8 ((0, 0, 0, 0) : Nr)).flatMap encNr).toArray 49)) := by kernel_rfl
theorem mkNr9 (w : World) : (Instr.makeSlice 43 (.int .i64 9) (.int .i64 9)).run Tryz.prog w = .ok (.slice (some ⟨w.heap.size, 0, none⟩) 9 9) (w.alloc (.cells ((List.replicate 9 ((0, 0, 0, 0) : Nr)).flatMap encNr).toArray 49)) := by kernel_rfl
theorem mkNr10 (w : World) : (Instr.makeSlice 43 (.int .i64 10) (.int .i64 10)).run Tryz.prog w = .ok (.slice (some ⟨w.heap.size, 0, none⟩) 10 10) (w.alloc (.cells ((List.replicate 10 ((0, 0, 0, 0) : Nr)).flatMap encNr).toArray 49)) := by kernel_rfl
theorem mkNr11 (w : World) : (Instr.makeSlice 43 (.int .i64 11) (.int .i64 11)).run Tryz.prog w = .ok (.slice (some ⟨w.heap.size, 0, none⟩) 11 11) (w.alloc (.cells ((List.replicate 11 ((0, 0, 0, 0) : Nr)).flatMap encNr).toArray 49)) := by kernel_rfl
theorem mkNr12 (w : World) : (Instr.makeSlice 43 (.int .i64 12) (.int .i64 12)).run Tryz.prog w = .ok (.slice (some ⟨w.heap.size, 0, none⟩) 12 12) (w.alloc (.cells ((List.replicate 12 ((0, 0, 0, 0) : Nr)).flatMap encNr).toArray 49)) := by kernel_rfl
theorem mkNr13 (w : World) : (Instr.makeSlice 43 (.int .i64 13) (.int .i64 13)).run Tryz.prog w = .ok (.slice (some ⟨w.heap.size, 0, none⟩) 13 13) (w.alloc (.cells ((List.replicate 13 ((0, 0, 0, 0) : Nr)).flatMap encNr).toArray 49)) := by kernel_rfl
theorem mkNr14 (w : World) : (Instr.makeSlice 43 (.int .i64 14) (.int .i64 14)).run Tryz.prog w = .ok (.slice (some ⟨w.heap.size, 0, none⟩) 14 14) (w.alloc (.cells ((List.replicate 14 ((0, 0, 0, 0) : Nr)).flatMap encNr).toArray 49)) := by kernel_rfl
theorem mkNr15 (w : World) : (Instr.makeSlice 43 (.int .i64 15) (.int .i64 15)).run Tryz.prog w = .ok (.slice (some ⟨w.heap.size, 0, none⟩) 15 15) (w.alloc (.cells ((List.replicate 15 ((0, 0, 0, 0) : Nr)).flatMap encNr).toArray 49)) := by kernel_rfl
theorem mkNr16 (w : World) : (Instr.makeSlice 43 (.int .i64 16) (.int .i64 16)).run Tryz.prog w = .ok (.slice (some ⟨w.heap.size, 0, none⟩) 16 16) (w.alloc (.cells ((List.replicate 16 ((0, 0, 0, 0) : Nr)).flatMap encNr).toArray 49)) := by kernel_rfl
theorem mkNr (m : Nat) (hm : m ≤ 16) (w : World) : (Instr.makeSlice 43 (.int .i64 m) (.int .i64 m)).run Tryz.prog w = .ok (.slice (some ⟨w.heap.size, 0, none⟩) m m) (w.alloc (.cells ((List.replicate m ((0, 0, 0, 0) : Nr)).flatMap encNr).toArray 49)) := by
  match m, hm with
  | 0, _ => exact mkNr0 w
  | 1, _ => exact mkNr1 w
  | 2, _ => exact mkNr2 w
  | 3, _ => exact mkNr3 w
  | 4, _ => exact mkNr4 w
  | 5, _ => exact mkNr5 w
  | 6, _ => exact mkNr6 w
  | 7, _ => exact mkNr7 w
  | 8, _ => exact mkNr8 w
  | 9, _ => exact mkNr9 w
  | 10, _ => exact mkNr10 w
  | 11, _ => exact mkNr11 w
  | 12, _ => exact mkNr12 w
  | 13, _ => exact mkNr13 w
  | 14, _ => exact mkNr14 w
  | 15, _ => exact mkNr15 w
  | 16, _ => exact mkNr16 w
  | m + 17, h => exact absurd h (by omega)
theorem at_pE (a2 : Option Addr) (n2 c2 : Nat) (P : List Pr) (id : Int) (lev : Nat) (x : Nr) (hx : nearAt (peerN P id) lev = x) (w : World) (h2 : PL w a2 n2 P) (hn2 : n2 ≤ 4000000000000000000) (hP : ∀ p ∈ P, p.near.length ≤ 4000000000000000000) (hl : lev ≤ 16) :
    Calls Tryz.prog 98 #[.slice a2 n2 c2, .int .i64 id, .int .i64 lev] w fun e w' => e = .returned (.agg #[.int .i64 x.1, .int .i64 x.2.1, .int .i64 x.2.2.1, .int .i64 x.2.2.2]) ∧ Ex w w' := by
  have := at_p a2 n2 c2 P id lev w h2 hn2 hP hl
  rw [hx] at this
  exact this
theorem newNr {w0 u : World} (_ : Ex w0 u) : ∃ g v, g = u.heap.size ∧ v = u.alloc (.cells #[.int .i64 0, .int .i64 0, .int .i64 0, .int .i64 0] 49) ∧ Blk v g [.int .i64 0, .int .i64 0, .int .i64 0, .int .i64 0] 49 ∧ Ex u v :=
  ⟨_, _, rfl, rfl, Blk.new _ _ _, Ex.new _ _⟩
section
variable {e base g n cap j : Nat} {w : World} {L : List Nr} {y : Nr}
theorem near_setL (h : OwnL 4 encNr e base w (.slice (some ⟨g, 0, none⟩) n cap) L) (hy : L[j]? = some y) (a b : Int) :
    (w.cell? ⟨g, j * 4, none⟩ = some (.int .i64 y.1) ∧ w.cell? ⟨g, j * 4 + 1, none⟩ = some (.int .i64 y.2.1)) ∧ (w.frozen? ⟨g, j * 4, none⟩ = false ∧ w.frozen? ⟨g, j * 4 + 1, none⟩ = false) ∧
      OwnL 4 encNr e base ((w.setCell ⟨g, j * 4, none⟩ (.int .i64 a)).setCell ⟨g, j * 4 + 1, none⟩ (.int .i64 b)) (.slice (some ⟨g, 0, none⟩) n cap) (L.set j (a, b, y.2.2.1, y.2.2.2)) := by
  have hj := (List.getElem?_eq_some_iff.1 hy).1
  obtain ⟨s1, s2, s3⟩ := own_set1 (sz := 4) (enc := encNr) (fun _ => rfl) h hy (c := 0) (by omega)
  obtain ⟨t1, t2, _⟩ := own_set1 (sz := 4) (enc := encNr) (fun _ => rfl) h hy (c := 1) (by omega)
  have h4 := s3 (a, y.2) (.int .i64 a) rfl
  obtain ⟨_, _, u3⟩ := own_set1 (sz := 4) (enc := encNr) (fun _ => rfl) h4 (List.getElem?_set_self hj) (c := 1) (by omega)
  have h5 := u3 (a, b, y.2.2.1, y.2.2.2) (.int .i64 b) rfl
  rw [List.set_set] at h5
  exact ⟨⟨s1, t1⟩, ⟨s2, t2⟩, h5⟩
theorem near_setR (h : OwnL 4 encNr e base w (.slice (some ⟨g, 0, none⟩) n cap) L) (hy : L[j]? = some y) (a b : Int) :
    (w.cell? ⟨g, j * 4 + 2, none⟩ = some (.int .i64 y.2.2.1) ∧ w.cell? ⟨g, j * 4 + 3, none⟩ = some (.int .i64 y.2.2.2)) ∧ (w.frozen? ⟨g, j * 4 + 2, none⟩ = false ∧ w.frozen? ⟨g, j * 4 + 3, none⟩ = false) ∧
      OwnL 4 encNr e base ((w.setCell ⟨g, j * 4 + 2, none⟩ (.int .i64 a)).setCell ⟨g, j * 4 + 3, none⟩ (.int .i64 b)) (.slice (some ⟨g, 0, none⟩) n cap) (L.set j (y.1, y.2.1, a, b)) := by
  have hj := (List.getElem?_eq_some_iff.1 hy).1
  obtain ⟨s1, s2, s3⟩ := own_set1 (sz := 4) (enc := encNr) (fun _ => rfl) h hy (c := 2) (by omega)
  obtain ⟨t1, t2, _⟩ := own_set1 (sz := 4) (enc := encNr) (fun _ => rfl) h hy (c := 3) (by omega)
  have h4 := s3 (y.1, y.2.1, a, y.2.2.2) (.int .i64 a) rfl
  obtain ⟨_, _, u3⟩ := own_set1 (sz := 4) (enc := encNr) (fun _ => rfl) h4 (List.getElem?_set_self hj) (c := 3) (by omega)
  have h5 := u3 (y.1, y.2.1, a, b) (.int .i64 b) rfl
  rw [List.set_set] at h5
  exact ⟨⟨s1, t1⟩, ⟨s2, t2⟩, h5⟩
end
def rowB (F : Nat → Nr) (h j : Nat) : List Nr := (List.range j).map F ++ List.replicate (h - j) (0, 0, 0, 0)
theorem rowB_at (F : Nat → Nr) {h j : Nat} (hj : j < h) : (rowB F h j)[j]? = some (0, 0, 0, 0) := by
  unfold rowB
  rw [List.getElem?_append_right (by simp), List.length_map, List.length_range, Nat.sub_self, List.getElem?_replicate, if_pos (by omega)]
theorem rowB_set (F : Nat → Nr) {h j : Nat} (hj : j < h) : (rowB F h j).set j (F j) = rowB F h (j + 1) := by
  unfold rowB
  rw [List.set_append_right _ _ (by simp), List.length_map, List.length_range, Nat.sub_self, show h - j = h - (j + 1) + 1 by omega, List.replicate_succ, List.set_cons_zero, List.range_succ, List.map_append, List.append_assoc]
  rfl
theorem rowB_end (F : Nat → Nr) (h : Nat) : rowB F h h = (List.range h).map F := by unfold rowB; rw [Nat.sub_self, List.replicate_zero, List.append_nil]
def NxPost (L : List Nr) (w : World) (en : Ending) (w' : World) : Prop := ∃ v, en = .returned v ∧ OwnL 4 encNr 49 w.heap.size w' v L ∧ Ex w w'
def NxRel (F : Nat → Nr) (h g β : Nat) (w2 : World) (i : Value) (wr : World) : Prop :=
  ∃ j : Nat, j ≤ h ∧ i = .int .i64 j ∧ OwnL 4 encNr 49 β wr (.slice (some ⟨g, 0, none⟩) h h) (rowB F h j) ∧ Ex w2 wr
def NwCut (x y : Nr) (w6 : World) (s12 s13 : Value) (wx : World) : Prop :=
  ∃ g12 g13, s12 = .pointer (some ⟨g12, 0, none⟩) ∧ s13 = .pointer (some ⟨g13, 0, none⟩) ∧ w6.heap.size ≤ g12 ∧ w6.heap.size ≤ g13 ∧ Blk wx g12 [.int .i64 x.1, .int .i64 x.2.1, .int .i64 x.2.2.1, .int .i64 x.2.2.2] 49 ∧
    Blk wx g13 [.int .i64 y.1, .int .i64 y.2.1, .int .i64 y.2.2.1, .int .i64 y.2.2.2] 49 ∧ Ex w6 wx
theorem step_of (N : List Nd) (st : Int → Pr) (p : Pr) (j : Nat) {L : Int × Int} {x y : Nr} (hL : linkB N p j = L) (hx : nearAt (st L.1) j = x) (hy : nearAt (st L.2) j = y) :
    stepB N st p j = ((pairB N p.id L.1 j x.1 x.2.1).1, (pairB N p.id L.1 j x.1 x.2.1).2, (pairB N p.id L.2 j y.2.2.1 y.2.2.2).1, (pairB N p.id L.2 j y.2.2.1 y.2.2.2).2) := by
  unfold stepB
  rw [hL, hx, hy]
set_option maxRecDepth 100000 in
set_option maxHeartbeats 8000000 in
theorem next_p (a : Option Addr) (n c : Nat) (N : List Nd) (a2 : Option Addr) (n2 c2 : Nat) (P : List Pr) (p : Pr) (a1 : Option Addr) (n1 c1 : Nat) (a3 : Option Addr) (n3 c3 h : Nat) (w : World) (hs : Sl 3 encN w a n N) (hn : n ≤ 1000) (hc : n ≤ c) (hm : c ≤ maxLen) (hw : ∀ x ∈ N, x.word < 4294967296)
    (h2 : PL w a2 n2 P) (hn2 : n2 ≤ 4000000000000000000) (hP : ∀ p ∈ P, p.near.length ≤ 4000000000000000000) (h3 : Sl 4 encNr w a3 n3 p.near) (hn3 : n3 ≤ 4000000000000000000) (hh : h ≤ 16) :
    Calls Tryz.prog 61 #[.slice a n c, .slice a2 n2 c2, .agg #[.int .i64 p.id, .slice a1 n1 c1, .int .i64 p.left, .int .i64 p.right, .slice a3 n3 c3], .int .i64 h] w (NxPost (nextB N (peerN P) p h) w) := by
  have EX := Ex.refl w
  have HW := Lib.hid hw
  have HP := Lib.hid hP
  have NB : Hid (nextB N (peerN P) p h = rowB (stepB N (peerN P) p) h h) := Lib.hid (rowB_end _ _).symm
  rw [NB.out]
  clear hw hP NB
  obtain ⟨g6, hg6⟩ : ∃ g6, g6 = w.heap.size := ⟨_, rfl⟩
  obtain ⟨w2, hw2⟩ : ∃ w2, w2 = (w.alloc (.cells #[.int .i64 p.id, .slice a1 n1 c1, .int .i64 p.left, .int .i64 p.right, .slice a3 n3 c3] 45)) := ⟨_, rfl⟩
  have kk : Ex w w2 := by rw [hw2]; exact ((Ex.refl w).alloc (.cells #[.int .i64 p.id, .slice a1 n1 c1, .int .i64 p.left, .int .i64 p.right, .slice a3 n3 c3] 45))
  have B6 : Blk w2 g6 [.int .i64 p.id, .slice a1 n1 c1, .int .i64 p.left, .int .i64 p.right, .slice a3 n3 c3] 45 := by rw [hw2]; simp only [hg6]; have hbk := (Blk.new w [.int .i64 p.id, .slice a1 n1 c1, .int .i64 p.left, .int .i64 p.right, .slice a3 n3 c3] 45); simpa using hbk
  have Hw2 := Lib.hid hw2
  have Hg6 := Lib.hid hg6
  replace hs := hs.nx kk
  replace h2 := h2.nx kk
  replace h3 := h3.nx kk
  replace EX := EX.nx kk
  clear kk hw2 hg6
  go_enter Tryz.func61, Tryz.ntmps61
  go_upto_region 1 with fail
  rw [← Hw2.out, ← Hg6.out]
  clear Hw2 Hg6
  have z2 := EX.size
  have hrun := mkNr h hh w2
  have OW0 : OwnL 4 encNr 49 w2.heap.size (w2.alloc (.cells ((List.replicate h ((0, 0, 0, 0) : Nr)).flatMap encNr).toArray 49)) (.slice (some ⟨w2.heap.size, 0, none⟩) h h) (rowB (stepB N (peerN P) p) h 0) := by
    have := OwnL.lit (sz := 4) (enc := encNr) (e := 49) (base := w2.heap.size) (w := w2) (List.replicate h ((0, 0, 0, 0) : Nr)) (fun _ => rfl) (Nat.le_refl _) (by rw [List.length_replicate]; unfold maxLen; omega) rfl
    rw [List.length_replicate] at this
    exact this
  have k3 := Ex.new w2 (.cells ((List.replicate h ((0, 0, 0, 0) : Nr)).flatMap encNr).toArray 49)
  obtain ⟨w3, hw3⟩ : ∃ w3, w3 = w2.alloc (.cells ((List.replicate h ((0, 0, 0, 0) : Nr)).flatMap encNr).toArray 49) := ⟨_, rfl⟩
  obtain ⟨g9, hg9⟩ : ∃ g9, g9 = w2.heap.size := ⟨_, rfl⟩
  rw [← hw3] at hrun OW0 k3
  have zg9 : w2.heap.size ≤ g9 := by omega
  have OW0 : OwnL 4 encNr 49 w2.heap.size w3 (.slice (some ⟨g9, 0, none⟩) h h) (rowB (stepB N (peerN P) p) h 0) := by rw [hg9]; exact OW0
  replace hrun : (Instr.makeSlice 43 (.int .i64 h) (.int .i64 h)).run Tryz.prog w2 = .ok (.slice (some ⟨g9, 0, none⟩) h h) w3 := by rw [hg9]; exact hrun
  have H1 := Lib.hid hs
  have H2 := Lib.hid h2
  have H3 := Lib.hid h3
  have B6h := Lib.hid B6
  have EX := Lib.hid EX
  clear hw3 hg9 hs h2 h3 B6
  go_wp2_with fail
  clear hrun
  generalize hF : stepB N (peerN P) p = F at OW0 ⊢
  have FF : Hid (∀ j, stepB N (peerN P) p j = F j) := Lib.hid (fun j => by rw [hF])
  clear hF
  go_loopw [18] (fun i wr => NxRel F h g9 w2.heap.size w2 i wr) (fun i _ => h - (intOf i).toNat)
  case atStart => exact ⟨0, by omega, rfl, OW0, k3⟩
  case round =>
    clear OW0 k3
    obtain ⟨j, hj, rfl, own, ki⟩ := hrel
    obtain ⟨wi, rfl⟩ : ∃ wi : World, wi = wr := ⟨_, rfl⟩
    by_cases hjm : j < h
    · have q0 := (B6h.out.nx ki).cell 0 _ rfl
      have q1 := (B6h.out.nx ki).cell 1 _ rfl
      have q2 := (B6h.out.nx ki).cell 2 _ rfl
      have q3 := (B6h.out.nx ki).cell 3 _ rfl
      have q4 := (B6h.out.nx ki).cell 4 _ rfl
      have hj16 : j ≤ 16 := by omega
      obtain ⟨LK, hLK⟩ : ∃ LK, LK = linkB N p j := ⟨_, rfl⟩
      have KI := Lib.hid ki
      have OWN := Lib.hid own
      clear ki own
      go_wp2_with fail
      (with_reducible refine (link_p _ _ _ N p _ _ _ _ _ _ j _ (H1.out.nx KI.out) hn hc hm HW.out (H3.out.nx KI.out) hn3).mono ?_)
      rintro e w4 ⟨rfl, kk⟩
      replace OWN := Lib.hid (OWN.out.nx kk)
      replace KI := Lib.hid (KI.out.nx kk)
      clear kk q0 q1 q2 q3 q4
      rw [← hLK]
      obtain ⟨lkl, lkr⟩ := LK
      have zi := KI.out.size
      have B11 := Blk.new w4 [.int .i64 lkl, .int .i64 lkr] 65
      have kk := Ex.new w4 (.cells #[.int .i64 lkl, .int .i64 lkr] 65)
      obtain ⟨w6, hw6⟩ : ∃ w6, w6 = w4.alloc (.cells #[.int .i64 lkl, .int .i64 lkr] 65) := ⟨_, rfl⟩
      obtain ⟨g11, hg11⟩ : ∃ g11, g11 = w4.heap.size := ⟨_, rfl⟩
      replace B11 : Blk w6 g11 [.int .i64 lkl, .int .i64 lkr] 65 := by rw [hw6, hg11]; exact B11
      rw [← hw6] at kk
      have Hw6 := Lib.hid hw6
      have Hg11 := Lib.hid hg11
      replace OWN := Lib.hid (OWN.out.nx kk)
      have zg11 := Lib.hid (show w2.heap.size ≤ g11 by omega)
      replace KI := Lib.hid (KI.out.nx kk)
      have ne911 : ¬ g11 = g9 := fun hx => OWN.out.ne_blk B11 (by decide) rfl hx.symm
      have l9 := (OWN.out.lt g9 rfl).2
      clear kk hw6 hg11
      go_upto_region 6 with fail
      rw [← Hg11.out, ← Hw6.out]
      clear Hg11 Hw6
      obtain ⟨xlkl, hxlkl⟩ : ∃ x, nearAt (peerN P lkl) j = x := ⟨_, rfl⟩
      obtain ⟨xlkr, hxlkr⟩ : ∃ x, nearAt (peerN P lkr) j = x := ⟨_, rfl⟩
      have ST := Lib.hid ((FF.out j).symm.trans (step_of N (peerN P) p j hLK.symm hxlkl hxlkr))
      have B11h := Lib.hid B11
      have K6 := Lib.hid KI.out
      clear hLK B11
      go_cut [12, 13] from 25 to 34 (fun s12 s13 wx => NwCut xlkl xlkr w6 s12 s13 wx)
      case first =>
        refine wp_region_late_drew (S := Ex w6) [12, 13] (by kernel_rfl) ((Ex.refl w6).drew) (fun hHeld => ?_)
        obtain ⟨wd, hwdx⟩ : ∃ wd : World, wd = World.drew w6 := ⟨_, rfl⟩
        rw [← hwdx] at hHeld ⊢
        have hDrew : Ex w6 wd := by rw [hwdx]; exact (Ex.refl w6).drew
        clear hwdx
        refine wpAnyL_take (i := 0) (oi := ⟨some 25, .move (.tmp 1), 24, "bridge.go:65", #[], none⟩) (v := ?_) rfl (by kernel_rfl) (by kernel_rfl) (by kernel_rfl) (fun _ _ _ h => h) (Or.inl ⟨by rfl, ?hyr1x0q5⟩) (by kernel_rfl) (by kernel_rfl) (by assumption) ?restr1x0q5
        case hyr1x0q5 => intro wq hSw; (go_simp); (try with_reducible rfl)
        try simp only [Act.put, List.setIfInBounds_toArray, List.set_cons_zero, List.set_cons_succ]
        refine wpAnyL_take (i := 1) (oi := ⟨some 26, .fieldAddr 65 (.tmp 11) 0, 0, "bridge.go:65", #[], none⟩) (v := ?_) rfl (by kernel_rfl) (by kernel_rfl) (by kernel_rfl) (fun _ _ _ h => h) (Or.inl ⟨by rfl, ?hyr1x1q8⟩) (by kernel_rfl) (by kernel_rfl) (by assumption) ?restr1x1q8
        case hyr1x1q8 => intro wq hSw; (go_simp); (try with_reducible rfl)
        try simp only [Act.put, List.setIfInBounds_toArray, List.set_cons_zero, List.set_cons_succ]
        refine wpAnyL_take (i := 2) (oi := ⟨some 27, .load 3 (.tmp 26), 3, "bridge.go:65", #[⟨1, .data⟩], none⟩) (v := ?_) rfl (by kernel_rfl) (by kernel_rfl) (by kernel_rfl) (fun _ _ _ h => h) (Or.inl ⟨by rfl, ?hyr1x2q11⟩) (by kernel_rfl) (by kernel_rfl) (by assumption) ?restr1x2q11
        case hyr1x2q11 => intro wq hSw; (have cq := (B11h.out.nx hSw).cell 0 _ rfl; go_simp); (try with_reducible rfl)
        try simp only [Act.put, List.setIfInBounds_toArray, List.set_cons_zero, List.set_cons_succ]
        refine wpAnyL_take (i := 3) (oi := ⟨some 28, .move (.tmp 10), 3, "bridge.go:65", #[], none⟩) (v := ?_) rfl (by kernel_rfl) (by kernel_rfl) (by kernel_rfl) (fun _ _ _ h => h) (Or.inl ⟨by rfl, ?hyr1x3q14⟩) (by kernel_rfl) (by kernel_rfl) (by assumption) ?restr1x3q14
        case hyr1x3q14 => intro wq hSw; (go_simp); (try with_reducible rfl)
        try simp only [Act.put, List.setIfInBounds_toArray, List.set_cons_zero, List.set_cons_succ]
        refine wpAnyL_take (i := 5) (oi := ⟨some 30, .move (.tmp 1), 24, "bridge.go:65", #[], none⟩) (v := ?_) rfl (by kernel_rfl) (by kernel_rfl) (by kernel_rfl) (fun _ _ _ h => h) (Or.inl ⟨by rfl, ?hyr1x5q17⟩) (by kernel_rfl) (by kernel_rfl) (by assumption) ?restr1x5q17
        case hyr1x5q17 => intro wq hSw; (go_simp); (try with_reducible rfl)
        try simp only [Act.put, List.setIfInBounds_toArray, List.set_cons_zero, List.set_cons_succ]
        refine wpAnyL_take (i := 6) (oi := ⟨some 31, .fieldAddr 65 (.tmp 11) 1, 0, "bridge.go:65", #[], none⟩) (v := ?_) rfl (by kernel_rfl) (by kernel_rfl) (by kernel_rfl) (fun _ _ _ h => h) (Or.inl ⟨by rfl, ?hyr1x6q20⟩) (by kernel_rfl) (by kernel_rfl) (by assumption) ?restr1x6q20
        case hyr1x6q20 => intro wq hSw; (go_simp); (try with_reducible rfl)
        try simp only [Act.put, List.setIfInBounds_toArray, List.set_cons_zero, List.set_cons_succ]
        refine wpAnyL_take (i := 7) (oi := ⟨some 32, .load 3 (.tmp 31), 3, "bridge.go:65", #[⟨6, .data⟩], none⟩) (v := ?_) rfl (by kernel_rfl) (by kernel_rfl) (by kernel_rfl) (fun _ _ _ h => h) (Or.inl ⟨by rfl, ?hyr1x7q23⟩) (by kernel_rfl) (by kernel_rfl) (by assumption) ?restr1x7q23
        case hyr1x7q23 => intro wq hSw; (have cq := (B11h.out.nx hSw).cell 1 _ rfl; go_simp); (try with_reducible rfl)
        try simp only [Act.put, List.setIfInBounds_toArray, List.set_cons_zero, List.set_cons_succ]
        refine wpAnyL_take (i := 8) (oi := ⟨some 33, .move (.tmp 10), 3, "bridge.go:65", #[], none⟩) (v := ?_) rfl (by kernel_rfl) (by kernel_rfl) (by kernel_rfl) (fun _ _ _ h => h) (Or.inl ⟨by rfl, ?hyr1x8q26⟩) (by kernel_rfl) (by kernel_rfl) (by assumption) ?restr1x8q26
        case hyr1x8q26 => intro wq hSw; (go_simp); (try with_reducible rfl)
        try simp only [Act.put, List.setIfInBounds_toArray, List.set_cons_zero, List.set_cons_succ]
        refine wpAnyL_ready (rs := [4, 10, 11]) (by kernel_rfl) (by simp) ?_
        refine AllReadyL.cons (o := ⟨some 29, .call { callee := .value (.func 98), args := #[.tmp 25, .tmp 27, .tmp 28], argTypes := #[24, 3, 3] }, 49, "bridge.go:65", #[⟨0, .data⟩, ⟨2, .data⟩, ⟨3, .data⟩], none⟩) rfl (fun K hK => ?_) ?_
        · go_simp
          (with_reducible refine (at_pE _ _ _ P lkl j xlkl hxlkl _ (H2.out.nx (K6.out.nx hHeld)) hn2 HP.out hj16).mono ?_)
          rintro e wz ⟨rfl, kk⟩
          (try replace B12 := B12.nx kk)
          (try replace B13 := B13.nx kk)
          replace hHeld := hHeld.nx kk
          clear kk
          refine hK.out _ _ (hHeld) (fun hHeld => ?_)
          clear hK K
          try simp only [Act.put, List.setIfInBounds_toArray, List.set_cons_zero, List.set_cons_succ]
          refine wpAnyL_ready (rs := [9, 10, 11]) (by kernel_rfl) (by simp) ?_
          refine AllReadyL.cons (o := ⟨some 34, .call { callee := .value (.func 98), args := #[.tmp 30, .tmp 32, .tmp 33], argTypes := #[24, 3, 3] }, 49, "bridge.go:65", #[⟨5, .data⟩, ⟨7, .data⟩, ⟨8, .data⟩, ⟨4, .chain⟩], none⟩) rfl (fun K hK => ?_) ?_
          · go_simp
            (with_reducible refine (at_pE _ _ _ P lkr j xlkr hxlkr _ (H2.out.nx (K6.out.nx hHeld)) hn2 HP.out hj16).mono ?_)
            rintro e wz ⟨rfl, kk⟩
            (try replace B12 := B12.nx kk)
            (try replace B13 := B13.nx kk)
            replace hHeld := hHeld.nx kk
            clear kk
            refine hK.out _ _ (hHeld) (fun hHeld => ?_)
            clear hK K
            try simp only [Act.put, List.setIfInBounds_toArray, List.set_cons_zero, List.set_cons_succ]
            refine wpAnyL_ready (rs := [10, 11]) (by kernel_rfl) (by simp) ?_
            refine AllReadyL.cons (o := ⟨some 12, .alloc 49, 0, "bridge.go:65", #[], none⟩) rfl (fun K hK => ?_) ?_
            · go_simp
              have z0 := hHeld.size
              obtain ⟨g12, wz, hg12, hwz, B12, kk⟩ := newNr hHeld
              rw [← hg12, ← hwz]
              have zg12 : w6.heap.size ≤ g12 := by omega
              (try have hne : g13 < g12 ∨ g12 < g13 := .inl (by have := B13.lt; omega))
              (try replace B13 := B13.nx kk)
              replace hHeld := hHeld.nx kk
              clear hg12 hwz z0 kk
              refine hK.out _ _ (hHeld) (fun hHeld => ?_)
              clear hK K
              try simp only [Act.put, List.setIfInBounds_toArray, List.set_cons_zero, List.set_cons_succ]
              refine wpAnyL_ready (rs := [11]) (by kernel_rfl) (by simp) ?_
              refine AllReadyL.cons (o := ⟨some 13, .alloc 49, 0, "bridge.go:65", #[], none⟩) rfl (fun K hK => ?_) AllReadyL.nil
              go_simp
              have z0 := hHeld.size
              obtain ⟨g13, wz, hg13, hwz, B13, kk⟩ := newNr hHeld
              rw [← hg13, ← hwz]
              have zg13 : w6.heap.size ≤ g13 := by omega
              (try have hne : g12 < g13 ∨ g13 < g12 := .inl (by have := B12.lt; omega))
              (try replace B12 := B12.nx kk)
              replace hHeld := hHeld.nx kk
              clear hg13 hwz z0 kk
              refine hK.out _ _ (hHeld) (fun hHeld => ?_)
              clear hK K
              try simp only [Act.put, List.setIfInBounds_toArray, List.set_cons_zero, List.set_cons_succ]
              refine wpAnyL_ready (rs := [12]) (by kernel_rfl) (by simp) ?_
              refine AllReadyL.consL (o := ⟨none, .store 49 (.tmp 12) (.tmp 29), 0, "bridge.go:65", #[⟨10, .data⟩, ⟨4, .data⟩, ⟨9, .chain⟩, ⟨0, .phase⟩, ⟨1, .phase⟩, ⟨2, .phase⟩, ⟨3, .phase⟩, ⟨4, .phase⟩, { on := 5, ground := Ground.textOnly Departure.lateStores }, { on := 6, ground := Ground.textOnly Departure.lateStores }, { on := 7, ground := Ground.textOnly Departure.lateStores }, { on := 8, ground := Ground.textOnly Departure.lateStores }, { on := 9, ground := Ground.textOnly Departure.lateStoresUnsure }, ⟨10, .phase⟩, ⟨11, .phase⟩], none⟩) rfl (by rfl) (fun K hK => ?_) AllReadyL.nil
              have c0 := B12.cell 0 _ rfl
              have c1 := B12.cell 1 _ rfl
              have c2 := B12.cell 2 _ rfl
              have c3 := B12.cell 3 _ rfl
              have f0 := B12.free 0
              have f1 := B12.free 1
              have f2 := B12.free 2
              have f3 := B12.free 3
              go_simp
              clear c0 c1 c2 c3 f0 f1 f2 f3
              obtain ⟨wk, hwk⟩ : ∃ wk, wk = (((wz.setCell ⟨g12, 0, none⟩ (.int .i64 xlkl.1)).setCell ⟨g12, 1, none⟩ (.int .i64 xlkl.2.1)).setCell ⟨g12, 2, none⟩ (.int .i64 xlkl.2.2.1)).setCell ⟨g12, 3, none⟩ (.int .i64 xlkl.2.2.2) := ⟨_, rfl⟩
              rw [← hwk]
              replace B12 : Blk wk g12 [.int .i64 xlkl.1, .int .i64 xlkl.2.1, .int .i64 xlkl.2.2.1, .int .i64 xlkl.2.2.2] 49 := by rw [hwk]; exact (((B12.set 0 _).set 1 _).set 2 _).set 3 _
              have KB : Exb g12 wz wk := by rw [hwk]; exact ((((Exb.refl g12 wz).setB (p := ⟨g12, 0, none⟩) _ rfl).setB (p := ⟨g12, 1, none⟩) _ rfl).setB (p := ⟨g12, 2, none⟩) _ rfl).setB (p := ⟨g12, 3, none⟩) _ rfl
              replace B13 := B13.nxb (by rcases hne with h | h <;> omega) KB
              replace hHeld := (Exl.nxb (b := g12) (w := w6) ⟨hHeld, zg12⟩ KB).1
              clear KB hwk
              obtain ⟨wz, rfl⟩ : ∃ wz : World, wz = wk := ⟨_, rfl⟩
              refine hK.out _ _ ?_
              clear hK K
              try simp only [Act.put, List.setIfInBounds_toArray, List.set_cons_zero, List.set_cons_succ]
              refine wpAnyL_ready (rs := [13]) (by kernel_rfl) (by simp) ?_
              refine AllReadyL.consL (o := ⟨none, .store 49 (.tmp 13) (.tmp 34), 0, "bridge.go:65", #[⟨11, .data⟩, ⟨9, .data⟩, ⟨12, .chain⟩, ⟨0, .phase⟩, ⟨1, .phase⟩, ⟨2, .phase⟩, ⟨3, .phase⟩, ⟨4, .phase⟩, ⟨5, .phase⟩, ⟨6, .phase⟩, ⟨7, .phase⟩, ⟨8, .phase⟩, ⟨9, .phase⟩, ⟨10, .phase⟩, ⟨11, .phase⟩, ⟨12, .phase⟩], none⟩) rfl (by rfl) (fun K hK => ?_) AllReadyL.nil
              have c0 := B13.cell 0 _ rfl
              have c1 := B13.cell 1 _ rfl
              have c2 := B13.cell 2 _ rfl
              have c3 := B13.cell 3 _ rfl
              have f0 := B13.free 0
              have f1 := B13.free 1
              have f2 := B13.free 2
              have f3 := B13.free 3
              go_simp
              clear c0 c1 c2 c3 f0 f1 f2 f3
              obtain ⟨wk, hwk⟩ : ∃ wk, wk = (((wz.setCell ⟨g13, 0, none⟩ (.int .i64 xlkr.1)).setCell ⟨g13, 1, none⟩ (.int .i64 xlkr.2.1)).setCell ⟨g13, 2, none⟩ (.int .i64 xlkr.2.2.1)).setCell ⟨g13, 3, none⟩ (.int .i64 xlkr.2.2.2) := ⟨_, rfl⟩
              rw [← hwk]
              replace B13 : Blk wk g13 [.int .i64 xlkr.1, .int .i64 xlkr.2.1, .int .i64 xlkr.2.2.1, .int .i64 xlkr.2.2.2] 49 := by rw [hwk]; exact (((B13.set 0 _).set 1 _).set 2 _).set 3 _
              have KB : Exb g13 wz wk := by rw [hwk]; exact ((((Exb.refl g13 wz).setB (p := ⟨g13, 0, none⟩) _ rfl).setB (p := ⟨g13, 1, none⟩) _ rfl).setB (p := ⟨g13, 2, none⟩) _ rfl).setB (p := ⟨g13, 3, none⟩) _ rfl
              replace B12 := B12.nxb (by rcases hne with h | h <;> omega) KB
              replace hHeld := (Exl.nxb (b := g13) (w := w6) ⟨hHeld, zg13⟩ KB).1
              clear KB hwk
              obtain ⟨wz, rfl⟩ : ∃ wz : World, wz = wk := ⟨_, rfl⟩
              refine hK.out _ _ ?_
              clear hK K
              try simp only [Act.put, List.setIfInBounds_toArray, List.set_cons_zero, List.set_cons_succ]
              refine wpAnyL_done (by kernel_rfl) ?_ _
              have CUT := Lib.hid (show NwCut xlkl xlkr w6 (.pointer (some ⟨g12, 0, none⟩)) (.pointer (some ⟨g13, 0, none⟩)) wz from ⟨g12, g13, rfl, rfl, zg12, zg13, B12, B13, hHeld⟩)
              clear B12 B13 hHeld
              go_wp2_with fail
              go_meet
              exact CUT.out
            refine AllReadyL.cons (o := ⟨some 13, .alloc 49, 0, "bridge.go:65", #[], none⟩) rfl (fun K hK => ?_) AllReadyL.nil
            · go_simp
              have z0 := hHeld.size
              obtain ⟨g13, wz, hg13, hwz, B13, kk⟩ := newNr hHeld
              rw [← hg13, ← hwz]
              have zg13 : w6.heap.size ≤ g13 := by omega
              (try have hne : g12 < g13 ∨ g13 < g12 := .inl (by have := B12.lt; omega))
              (try replace B12 := B12.nx kk)
              replace hHeld := hHeld.nx kk
              clear hg13 hwz z0 kk
              refine hK.out _ _ (hHeld) (fun hHeld => ?_)
              clear hK K
              try simp only [Act.put, List.setIfInBounds_toArray, List.set_cons_zero, List.set_cons_succ]
              refine wpAnyL_ready (rs := [10]) (by kernel_rfl) (by simp) ?_
              refine AllReadyL.cons (o := ⟨some 12, .alloc 49, 0, "bridge.go:65", #[], none⟩) rfl (fun K hK => ?_) AllReadyL.nil
              go_simp
              have z0 := hHeld.size
              obtain ⟨g12, wz, hg12, hwz, B12, kk⟩ := newNr hHeld
              rw [← hg12, ← hwz]
              have zg12 : w6.heap.size ≤ g12 := by omega
              (try have hne : g13 < g12 ∨ g12 < g13 := .inl (by have := B13.lt; omega))
              (try replace B13 := B13.nx kk)
              replace hHeld := hHeld.nx kk
              clear hg12 hwz z0 kk
              refine hK.out _ _ (hHeld) (fun hHeld => ?_)
              clear hK K
              try simp only [Act.put, List.setIfInBounds_toArray, List.set_cons_zero, List.set_cons_succ]
              refine wpAnyL_ready (rs := [12]) (by kernel_rfl) (by simp) ?_
              refine AllReadyL.consL (o := ⟨none, .store 49 (.tmp 12) (.tmp 29), 0, "bridge.go:65", #[⟨10, .data⟩, ⟨4, .data⟩, ⟨9, .chain⟩, ⟨0, .phase⟩, ⟨1, .phase⟩, ⟨2, .phase⟩, ⟨3, .phase⟩, ⟨4, .phase⟩, { on := 5, ground := Ground.textOnly Departure.lateStores }, { on := 6, ground := Ground.textOnly Departure.lateStores }, { on := 7, ground := Ground.textOnly Departure.lateStores }, { on := 8, ground := Ground.textOnly Departure.lateStores }, { on := 9, ground := Ground.textOnly Departure.lateStoresUnsure }, ⟨10, .phase⟩, ⟨11, .phase⟩], none⟩) rfl (by rfl) (fun K hK => ?_) AllReadyL.nil
              have c0 := B12.cell 0 _ rfl
              have c1 := B12.cell 1 _ rfl
              have c2 := B12.cell 2 _ rfl
              have c3 := B12.cell 3 _ rfl
              have f0 := B12.free 0
              have f1 := B12.free 1
              have f2 := B12.free 2
              have f3 := B12.free 3
              go_simp
              clear c0 c1 c2 c3 f0 f1 f2 f3
              obtain ⟨wk, hwk⟩ : ∃ wk, wk = (((wz.setCell ⟨g12, 0, none⟩ (.int .i64 xlkl.1)).setCell ⟨g12, 1, none⟩ (.int .i64 xlkl.2.1)).setCell ⟨g12, 2, none⟩ (.int .i64 xlkl.2.2.1)).setCell ⟨g12, 3, none⟩ (.int .i64 xlkl.2.2.2) := ⟨_, rfl⟩
              rw [← hwk]
              replace B12 : Blk wk g12 [.int .i64 xlkl.1, .int .i64 xlkl.2.1, .int .i64 xlkl.2.2.1, .int .i64 xlkl.2.2.2] 49 := by rw [hwk]; exact (((B12.set 0 _).set 1 _).set 2 _).set 3 _
              have KB : Exb g12 wz wk := by rw [hwk]; exact ((((Exb.refl g12 wz).setB (p := ⟨g12, 0, none⟩) _ rfl).setB (p := ⟨g12, 1, none⟩) _ rfl).setB (p := ⟨g12, 2, none⟩) _ rfl).setB (p := ⟨g12, 3, none⟩) _ rfl
              replace B13 := B13.nxb (by rcases hne with h | h <;> omega) KB
              replace hHeld := (Exl.nxb (b := g12) (w := w6) ⟨hHeld, zg12⟩ KB).1
              clear KB hwk
              obtain ⟨wz, rfl⟩ : ∃ wz : World, wz = wk := ⟨_, rfl⟩
              refine hK.out _ _ ?_
              clear hK K
              try simp only [Act.put, List.setIfInBounds_toArray, List.set_cons_zero, List.set_cons_succ]
              refine wpAnyL_ready (rs := [13]) (by kernel_rfl) (by simp) ?_
              refine AllReadyL.consL (o := ⟨none, .store 49 (.tmp 13) (.tmp 34), 0, "bridge.go:65", #[⟨11, .data⟩, ⟨9, .data⟩, ⟨12, .chain⟩, ⟨0, .phase⟩, ⟨1, .phase⟩, ⟨2, .phase⟩, ⟨3, .phase⟩, ⟨4, .phase⟩, ⟨5, .phase⟩, ⟨6, .phase⟩, ⟨7, .phase⟩, ⟨8, .phase⟩, ⟨9, .phase⟩, ⟨10, .phase⟩, ⟨11, .phase⟩, ⟨12, .phase⟩], none⟩) rfl (by rfl) (fun K hK => ?_) AllReadyL.nil
              have c0 := B13.cell 0 _ rfl
              have c1 := B13.cell 1 _ rfl
              have c2 := B13.cell 2 _ rfl
              have c3 := B13.cell 3 _ rfl
              have f0 := B13.free 0
              have f1 := B13.free 1
              have f2 := B13.free 2
              have f3 := B13.free 3
              go_simp
              clear c0 c1 c2 c3 f0 f1 f2 f3
              obtain ⟨wk, hwk⟩ : ∃ wk, wk = (((wz.setCell ⟨g13, 0, none⟩ (.int .i64 xlkr.1)).setCell ⟨g13, 1, none⟩ (.int .i64 xlkr.2.1)).setCell ⟨g13, 2, none⟩ (.int .i64 xlkr.2.2.1)).setCell ⟨g13, 3, none⟩ (.int .i64 xlkr.2.2.2) := ⟨_, rfl⟩
              rw [← hwk]
              replace B13 : Blk wk g13 [.int .i64 xlkr.1, .int .i64 xlkr.2.1, .int .i64 xlkr.2.2.1, .int .i64 xlkr.2.2.2] 49 := by rw [hwk]; exact (((B13.set 0 _).set 1 _).set 2 _).set 3 _
              have KB : Exb g13 wz wk := by rw [hwk]; exact ((((Exb.refl g13 wz).setB (p := ⟨g13, 0, none⟩) _ rfl).setB (p := ⟨g13, 1, none⟩) _ rfl).setB (p := ⟨g13, 2, none⟩) _ rfl).setB (p := ⟨g13, 3, none⟩) _ rfl
              replace B12 := B12.nxb (by rcases hne with h | h <;> omega) KB
              replace hHeld := (Exl.nxb (b := g13) (w := w6) ⟨hHeld, zg13⟩ KB).1
              clear KB hwk
              obtain ⟨wz, rfl⟩ : ∃ wz : World, wz = wk := ⟨_, rfl⟩
              refine hK.out _ _ ?_
              clear hK K
              try simp only [Act.put, List.setIfInBounds_toArray, List.set_cons_zero, List.set_cons_succ]
              refine wpAnyL_done (by kernel_rfl) ?_ _
              have CUT := Lib.hid (show NwCut xlkl xlkr w6 (.pointer (some ⟨g12, 0, none⟩)) (.pointer (some ⟨g13, 0, none⟩)) wz from ⟨g12, g13, rfl, rfl, zg12, zg13, B12, B13, hHeld⟩)
              clear B12 B13 hHeld
              go_wp2_with fail
              go_meet
              exact CUT.out
          refine AllReadyL.cons (o := ⟨some 12, .alloc 49, 0, "bridge.go:65", #[], none⟩) rfl (fun K hK => ?_) ?_
          · go_simp
            have z0 := hHeld.size
            obtain ⟨g12, wz, hg12, hwz, B12, kk⟩ := newNr hHeld
            rw [← hg12, ← hwz]
            have zg12 : w6.heap.size ≤ g12 := by omega
            (try have hne : g13 < g12 ∨ g12 < g13 := .inl (by have := B13.lt; omega))
            (try replace B13 := B13.nx kk)
            replace hHeld := hHeld.nx kk
            clear hg12 hwz z0 kk
            refine hK.out _ _ (hHeld) (fun hHeld => ?_)
            clear hK K
            try simp only [Act.put, List.setIfInBounds_toArray, List.set_cons_zero, List.set_cons_succ]
            refine wpAnyL_ready (rs := [9, 11]) (by kernel_rfl) (by simp) ?_
            refine AllReadyL.cons (o := ⟨some 34, .call { callee := .value (.func 98), args := #[.tmp 30, .tmp 32, .tmp 33], argTypes := #[24, 3, 3] }, 49, "bridge.go:65", #[⟨5, .data⟩, ⟨7, .data⟩, ⟨8, .data⟩, ⟨4, .chain⟩], none⟩) rfl (fun K hK => ?_) ?_
            · go_simp
              (with_reducible refine (at_pE _ _ _ P lkr j xlkr hxlkr _ (H2.out.nx (K6.out.nx hHeld)) hn2 HP.out hj16).mono ?_)
              rintro e wz ⟨rfl, kk⟩
              (try replace B12 := B12.nx kk)
              (try replace B13 := B13.nx kk)
              replace hHeld := hHeld.nx kk
              clear kk
              refine hK.out _ _ (hHeld) (fun hHeld => ?_)
              clear hK K
              try simp only [Act.put, List.setIfInBounds_toArray, List.set_cons_zero, List.set_cons_succ]
              refine wpAnyL_ready (rs := [11]) (by kernel_rfl) (by simp) ?_
              refine AllReadyL.cons (o := ⟨some 13, .alloc 49, 0, "bridge.go:65", #[], none⟩) rfl (fun K hK => ?_) AllReadyL.nil
              go_simp
              have z0 := hHeld.size
              obtain ⟨g13, wz, hg13, hwz, B13, kk⟩ := newNr hHeld
              rw [← hg13, ← hwz]
              have zg13 : w6.heap.size ≤ g13 := by omega
              (try have hne : g12 < g13 ∨ g13 < g12 := .inl (by have := B12.lt; omega))
              (try replace B12 := B12.nx kk)
              replace hHeld := hHeld.nx kk
              clear hg13 hwz z0 kk
              refine hK.out _ _ (hHeld) (fun hHeld => ?_)
              clear hK K
              try simp only [Act.put, List.setIfInBounds_toArray, List.set_cons_zero, List.set_cons_succ]
              refine wpAnyL_ready (rs := [12]) (by kernel_rfl) (by simp) ?_
              refine AllReadyL.consL (o := ⟨none, .store 49 (.tmp 12) (.tmp 29), 0, "bridge.go:65", #[⟨10, .data⟩, ⟨4, .data⟩, ⟨9, .chain⟩, ⟨0, .phase⟩, ⟨1, .phase⟩, ⟨2, .phase⟩, ⟨3, .phase⟩, ⟨4, .phase⟩, { on := 5, ground := Ground.textOnly Departure.lateStores }, { on := 6, ground := Ground.textOnly Departure.lateStores }, { on := 7, ground := Ground.textOnly Departure.lateStores }, { on := 8, ground := Ground.textOnly Departure.lateStores }, { on := 9, ground := Ground.textOnly Departure.lateStoresUnsure }, ⟨10, .phase⟩, ⟨11, .phase⟩], none⟩) rfl (by rfl) (fun K hK => ?_) AllReadyL.nil
              have c0 := B12.cell 0 _ rfl
              have c1 := B12.cell 1 _ rfl
              have c2 := B12.cell 2 _ rfl
              have c3 := B12.cell 3 _ rfl
              have f0 := B12.free 0
              have f1 := B12.free 1
              have f2 := B12.free 2
              have f3 := B12.free 3
              go_simp
              clear c0 c1 c2 c3 f0 f1 f2 f3
              obtain ⟨wk, hwk⟩ : ∃ wk, wk = (((wz.setCell ⟨g12, 0, none⟩ (.int .i64 xlkl.1)).setCell ⟨g12, 1, none⟩ (.int .i64 xlkl.2.1)).setCell ⟨g12, 2, none⟩ (.int .i64 xlkl.2.2.1)).setCell ⟨g12, 3, none⟩ (.int .i64 xlkl.2.2.2) := ⟨_, rfl⟩
              rw [← hwk]
              replace B12 : Blk wk g12 [.int .i64 xlkl.1, .int .i64 xlkl.2.1, .int .i64 xlkl.2.2.1, .int .i64 xlkl.2.2.2] 49 := by rw [hwk]; exact (((B12.set 0 _).set 1 _).set 2 _).set 3 _
              have KB : Exb g12 wz wk := by rw [hwk]; exact ((((Exb.refl g12 wz).setB (p := ⟨g12, 0, none⟩) _ rfl).setB (p := ⟨g12, 1, none⟩) _ rfl).setB (p := ⟨g12, 2, none⟩) _ rfl).setB (p := ⟨g12, 3, none⟩) _ rfl
              replace B13 := B13.nxb (by rcases hne with h | h <;> omega) KB
              replace hHeld := (Exl.nxb (b := g12) (w := w6) ⟨hHeld, zg12⟩ KB).1
              clear KB hwk
              obtain ⟨wz, rfl⟩ : ∃ wz : World, wz = wk := ⟨_, rfl⟩
              refine hK.out _ _ ?_
              clear hK K
              try simp only [Act.put, List.setIfInBounds_toArray, List.set_cons_zero, List.set_cons_succ]
              refine wpAnyL_ready (rs := [13]) (by kernel_rfl) (by simp) ?_
              refine AllReadyL.consL (o := ⟨none, .store 49 (.tmp 13) (.tmp 34), 0, "bridge.go:65", #[⟨11, .data⟩, ⟨9, .data⟩, ⟨12, .chain⟩, ⟨0, .phase⟩, ⟨1, .phase⟩, ⟨2, .phase⟩, ⟨3, .phase⟩, ⟨4, .phase⟩, ⟨5, .phase⟩, ⟨6, .phase⟩, ⟨7, .phase⟩, ⟨8, .phase⟩, ⟨9, .phase⟩, ⟨10, .phase⟩, ⟨11, .phase⟩, ⟨12, .phase⟩], none⟩) rfl (by rfl) (fun K hK => ?_) AllReadyL.nil
              have c0 := B13.cell 0 _ rfl
              have c1 := B13.cell 1 _ rfl
              have c2 := B13.cell 2 _ rfl
              have c3 := B13.cell 3 _ rfl
              have f0 := B13.free 0
              have f1 := B13.free 1
              have f2 := B13.free 2
              have f3 := B13.free 3
              go_simp
              clear c0 c1 c2 c3 f0 f1 f2 f3
              obtain ⟨wk, hwk⟩ : ∃ wk, wk = (((wz.setCell ⟨g13, 0, none⟩ (.int .i64 xlkr.1)).setCell ⟨g13, 1, none⟩ (.int .i64 xlkr.2.1)).setCell ⟨g13, 2, none⟩ (.int .i64 xlkr.2.2.1)).setCell ⟨g13, 3, none⟩ (.int .i64 xlkr.2.2.2) := ⟨_, rfl⟩
              rw [← hwk]
              replace B13 : Blk wk g13 [.int .i64 xlkr.1, .int .i64 xlkr.2.1, .int .i64 xlkr.2.2.1, .int .i64 xlkr.2.2.2] 49 := by rw [hwk]; exact (((B13.set 0 _).set 1 _).set 2 _).set 3 _
              have KB : Exb g13 wz wk := by rw [hwk]; exact ((((Exb.refl g13 wz).setB (p := ⟨g13, 0, none⟩) _ rfl).setB (p := ⟨g13, 1, none⟩) _ rfl).setB (p := ⟨g13, 2, none⟩) _ rfl).setB (p := ⟨g13, 3, none⟩) _ rfl
              replace B12 := B12.nxb (by rcases hne with h | h <;> omega) KB
              replace hHeld := (Exl.nxb (b := g13) (w := w6) ⟨hHeld, zg13⟩ KB).1
              clear KB hwk
              obtain ⟨wz, rfl⟩ : ∃ wz : World, wz = wk := ⟨_, rfl⟩
              refine hK.out _ _ ?_
              clear hK K
              try simp only [Act.put, List.setIfInBounds_toArray, List.set_cons_zero, List.set_cons_succ]
              refine wpAnyL_done (by kernel_rfl) ?_ _
              have CUT := Lib.hid (show NwCut xlkl xlkr w6 (.pointer (some ⟨g12, 0, none⟩)) (.pointer (some ⟨g13, 0, none⟩)) wz from ⟨g12, g13, rfl, rfl, zg12, zg13, B12, B13, hHeld⟩)
              clear B12 B13 hHeld
              go_wp2_with fail
              go_meet
              exact CUT.out
            refine AllReadyL.cons (o := ⟨some 13, .alloc 49, 0, "bridge.go:65", #[], none⟩) rfl (fun K hK => ?_) AllReadyL.nil
            · go_simp
              have z0 := hHeld.size
              obtain ⟨g13, wz, hg13, hwz, B13, kk⟩ := newNr hHeld
              rw [← hg13, ← hwz]
              have zg13 : w6.heap.size ≤ g13 := by omega
              (try have hne : g12 < g13 ∨ g13 < g12 := .inl (by have := B12.lt; omega))
              (try replace B12 := B12.nx kk)
              replace hHeld := hHeld.nx kk
              clear hg13 hwz z0 kk
              refine hK.out _ _ (hHeld) (fun hHeld => ?_)
              clear hK K
              try simp only [Act.put, List.setIfInBounds_toArray, List.set_cons_zero, List.set_cons_succ]
              refine wpAnyL_ready (rs := [9]) (by kernel_rfl) (by simp) ?_
              refine AllReadyL.cons (o := ⟨some 34, .call { callee := .value (.func 98), args := #[.tmp 30, .tmp 32, .tmp 33], argTypes := #[24, 3, 3] }, 49, "bridge.go:65", #[⟨5, .data⟩, ⟨7, .data⟩, ⟨8, .data⟩, ⟨4, .chain⟩], none⟩) rfl (fun K hK => ?_) AllReadyL.nil
              go_simp
              (with_reducible refine (at_pE _ _ _ P lkr j xlkr hxlkr _ (H2.out.nx (K6.out.nx hHeld)) hn2 HP.out hj16).mono ?_)
              rintro e wz ⟨rfl, kk⟩
              (try replace B12 := B12.nx kk)
              (try replace B13 := B13.nx kk)
              replace hHeld := hHeld.nx kk
              clear kk
              refine hK.out _ _ (hHeld) (fun hHeld => ?_)
              clear hK K
              try simp only [Act.put, List.setIfInBounds_toArray, List.set_cons_zero, List.set_cons_succ]
              refine wpAnyL_ready (rs := [12]) (by kernel_rfl) (by simp) ?_
              refine AllReadyL.consL (o := ⟨none, .store 49 (.tmp 12) (.tmp 29), 0, "bridge.go:65", #[⟨10, .data⟩, ⟨4, .data⟩, ⟨9, .chain⟩, ⟨0, .phase⟩, ⟨1, .phase⟩, ⟨2, .phase⟩, ⟨3, .phase⟩, ⟨4, .phase⟩, { on := 5, ground := Ground.textOnly Departure.lateStores }, { on := 6, ground := Ground.textOnly Departure.lateStores }, { on := 7, ground := Ground.textOnly Departure.lateStores }, { on := 8, ground := Ground.textOnly Departure.lateStores }, { on := 9, ground := Ground.textOnly Departure.lateStoresUnsure }, ⟨10, .phase⟩, ⟨11, .phase⟩], none⟩) rfl (by rfl) (fun K hK => ?_) AllReadyL.nil
              have c0 := B12.cell 0 _ rfl
              have c1 := B12.cell 1 _ rfl
              have c2 := B12.cell 2 _ rfl
              have c3 := B12.cell 3 _ rfl
              have f0 := B12.free 0
              have f1 := B12.free 1
              have f2 := B12.free 2
              have f3 := B12.free 3
              go_simp
              clear c0 c1 c2 c3 f0 f1 f2 f3
              obtain ⟨wk, hwk⟩ : ∃ wk, wk = (((wz.setCell ⟨g12, 0, none⟩ (.int .i64 xlkl.1)).setCell ⟨g12, 1, none⟩ (.int .i64 xlkl.2.1)).setCell ⟨g12, 2, none⟩ (.int .i64 xlkl.2.2.1)).setCell ⟨g12, 3, none⟩ (.int .i64 xlkl.2.2.2) := ⟨_, rfl⟩
              rw [← hwk]
              replace B12 : Blk wk g12 [.int .i64 xlkl.1, .int .i64 xlkl.2.1, .int .i64 xlkl.2.2.1, .int .i64 xlkl.2.2.2] 49 := by rw [hwk]; exact (((B12.set 0 _).set 1 _).set 2 _).set 3 _
              have KB : Exb g12 wz wk := by rw [hwk]; exact ((((Exb.refl g12 wz).setB (p := ⟨g12, 0, none⟩) _ rfl).setB (p := ⟨g12, 1, none⟩) _ rfl).setB (p := ⟨g12, 2, none⟩) _ rfl).setB (p := ⟨g12, 3, none⟩) _ rfl
              replace B13 := B13.nxb (by rcases hne with h | h <;> omega) KB
              replace hHeld := (Exl.nxb (b := g12) (w := w6) ⟨hHeld, zg12⟩ KB).1
              clear KB hwk
              obtain ⟨wz, rfl⟩ : ∃ wz : World, wz = wk := ⟨_, rfl⟩
              refine hK.out _ _ ?_
              clear hK K
              try simp only [Act.put, List.setIfInBounds_toArray, List.set_cons_zero, List.set_cons_succ]
              refine wpAnyL_ready (rs := [13]) (by kernel_rfl) (by simp) ?_
              refine AllReadyL.consL (o := ⟨none, .store 49 (.tmp 13) (.tmp 34), 0, "bridge.go:65", #[⟨11, .data⟩, ⟨9, .data⟩, ⟨12, .chain⟩, ⟨0, .phase⟩, ⟨1, .phase⟩, ⟨2, .phase⟩, ⟨3, .phase⟩, ⟨4, .phase⟩, ⟨5, .phase⟩, ⟨6, .phase⟩, ⟨7, .phase⟩, ⟨8, .phase⟩, ⟨9, .phase⟩, ⟨10, .phase⟩, ⟨11, .phase⟩, ⟨12, .phase⟩], none⟩) rfl (by rfl) (fun K hK => ?_) AllReadyL.nil
              have c0 := B13.cell 0 _ rfl
              have c1 := B13.cell 1 _ rfl
              have c2 := B13.cell 2 _ rfl
              have c3 := B13.cell 3 _ rfl
              have f0 := B13.free 0
              have f1 := B13.free 1
              have f2 := B13.free 2
              have f3 := B13.free 3
              go_simp
              clear c0 c1 c2 c3 f0 f1 f2 f3
              obtain ⟨wk, hwk⟩ : ∃ wk, wk = (((wz.setCell ⟨g13, 0, none⟩ (.int .i64 xlkr.1)).setCell ⟨g13, 1, none⟩ (.int .i64 xlkr.2.1)).setCell ⟨g13, 2, none⟩ (.int .i64 xlkr.2.2.1)).setCell ⟨g13, 3, none⟩ (.int .i64 xlkr.2.2.2) := ⟨_, rfl⟩
              rw [← hwk]
              replace B13 : Blk wk g13 [.int .i64 xlkr.1, .int .i64 xlkr.2.1, .int .i64 xlkr.2.2.1, .int .i64 xlkr.2.2.2] 49 := by rw [hwk]; exact (((B13.set 0 _).set 1 _).set 2 _).set 3 _
              have KB : Exb g13 wz wk := by rw [hwk]; exact ((((Exb.refl g13 wz).setB (p := ⟨g13, 0, none⟩) _ rfl).setB (p := ⟨g13, 1, none⟩) _ rfl).setB (p := ⟨g13, 2, none⟩) _ rfl).setB (p := ⟨g13, 3, none⟩) _ rfl
              replace B12 := B12.nxb (by rcases hne with h | h <;> omega) KB
              replace hHeld := (Exl.nxb (b := g13) (w := w6) ⟨hHeld, zg13⟩ KB).1
              clear KB hwk
              obtain ⟨wz, rfl⟩ : ∃ wz : World, wz = wk := ⟨_, rfl⟩
              refine hK.out _ _ ?_
              clear hK K
              try simp only [Act.put, List.setIfInBounds_toArray, List.set_cons_zero, List.set_cons_succ]
              refine wpAnyL_done (by kernel_rfl) ?_ _
              have CUT := Lib.hid (show NwCut xlkl xlkr w6 (.pointer (some ⟨g12, 0, none⟩)) (.pointer (some ⟨g13, 0, none⟩)) wz from ⟨g12, g13, rfl, rfl, zg12, zg13, B12, B13, hHeld⟩)
              clear B12 B13 hHeld
              go_wp2_with fail
              go_meet
              exact CUT.out
          refine AllReadyL.cons (o := ⟨some 13, .alloc 49, 0, "bridge.go:65", #[], none⟩) rfl (fun K hK => ?_) AllReadyL.nil
          · go_simp
            have z0 := hHeld.size
            obtain ⟨g13, wz, hg13, hwz, B13, kk⟩ := newNr hHeld
            rw [← hg13, ← hwz]
            have zg13 : w6.heap.size ≤ g13 := by omega
            (try have hne : g12 < g13 ∨ g13 < g12 := .inl (by have := B12.lt; omega))
            (try replace B12 := B12.nx kk)
            replace hHeld := hHeld.nx kk
            clear hg13 hwz z0 kk
            refine hK.out _ _ (hHeld) (fun hHeld => ?_)
            clear hK K
            try simp only [Act.put, List.setIfInBounds_toArray, List.set_cons_zero, List.set_cons_succ]
            refine wpAnyL_ready (rs := [9, 10]) (by kernel_rfl) (by simp) ?_
            refine AllReadyL.cons (o := ⟨some 34, .call { callee := .value (.func 98), args := #[.tmp 30, .tmp 32, .tmp 33], argTypes := #[24, 3, 3] }, 49, "bridge.go:65", #[⟨5, .data⟩, ⟨7, .data⟩, ⟨8, .data⟩, ⟨4, .chain⟩], none⟩) rfl (fun K hK => ?_) ?_
            · go_simp
              (with_reducible refine (at_pE _ _ _ P lkr j xlkr hxlkr _ (H2.out.nx (K6.out.nx hHeld)) hn2 HP.out hj16).mono ?_)
              rintro e wz ⟨rfl, kk⟩
              (try replace B12 := B12.nx kk)
              (try replace B13 := B13.nx kk)
              replace hHeld := hHeld.nx kk
              clear kk
              refine hK.out _ _ (hHeld) (fun hHeld => ?_)
              clear hK K
              try simp only [Act.put, List.setIfInBounds_toArray, List.set_cons_zero, List.set_cons_succ]
              refine wpAnyL_ready (rs := [10]) (by kernel_rfl) (by simp) ?_
              refine AllReadyL.cons (o := ⟨some 12, .alloc 49, 0, "bridge.go:65", #[], none⟩) rfl (fun K hK => ?_) AllReadyL.nil
              go_simp
              have z0 := hHeld.size
              obtain ⟨g12, wz, hg12, hwz, B12, kk⟩ := newNr hHeld
              rw [← hg12, ← hwz]
              have zg12 : w6.heap.size ≤ g12 := by omega
              (try have hne : g13 < g12 ∨ g12 < g13 := .inl (by have := B13.lt; omega))
              (try replace B13 := B13.nx kk)
              replace hHeld := hHeld.nx kk
              clear hg12 hwz z0 kk
              refine hK.out _ _ (hHeld) (fun hHeld => ?_)
              clear hK K
              try simp only [Act.put, List.setIfInBounds_toArray, List.set_cons_zero, List.set_cons_succ]
              refine wpAnyL_ready (rs := [12]) (by kernel_rfl) (by simp) ?_
              refine AllReadyL.consL (o := ⟨none, .store 49 (.tmp 12) (.tmp 29), 0, "bridge.go:65", #[⟨10, .data⟩, ⟨4, .data⟩, ⟨9, .chain⟩, ⟨0, .phase⟩, ⟨1, .phase⟩, ⟨2, .phase⟩, ⟨3, .phase⟩, ⟨4, .phase⟩, { on := 5, ground := Ground.textOnly Departure.lateStores }, { on := 6, ground := Ground.textOnly Departure.lateStores }, { on := 7, ground := Ground.textOnly Departure.lateStores }, { on := 8, ground := Ground.textOnly Departure.lateStores }, { on := 9, ground := Ground.textOnly Departure.lateStoresUnsure }, ⟨10, .phase⟩, ⟨11, .phase⟩], none⟩) rfl (by rfl) (fun K hK => ?_) AllReadyL.nil
              have c0 := B12.cell 0 _ rfl
              have c1 := B12.cell 1 _ rfl
              have c2 := B12.cell 2 _ rfl
              have c3 := B12.cell 3 _ rfl
              have f0 := B12.free 0
              have f1 := B12.free 1
              have f2 := B12.free 2
              have f3 := B12.free 3
              go_simp
              clear c0 c1 c2 c3 f0 f1 f2 f3
              obtain ⟨wk, hwk⟩ : ∃ wk, wk = (((wz.setCell ⟨g12, 0, none⟩ (.int .i64 xlkl.1)).setCell ⟨g12, 1, none⟩ (.int .i64 xlkl.2.1)).setCell ⟨g12, 2, none⟩ (.int .i64 xlkl.2.2.1)).setCell ⟨g12, 3, none⟩ (.int .i64 xlkl.2.2.2) := ⟨_, rfl⟩
              rw [← hwk]
              replace B12 : Blk wk g12 [.int .i64 xlkl.1, .int .i64 xlkl.2.1, .int .i64 xlkl.2.2.1, .int .i64 xlkl.2.2.2] 49 := by rw [hwk]; exact (((B12.set 0 _).set 1 _).set 2 _).set 3 _
              have KB : Exb g12 wz wk := by rw [hwk]; exact ((((Exb.refl g12 wz).setB (p := ⟨g12, 0, none⟩) _ rfl).setB (p := ⟨g12, 1, none⟩) _ rfl).setB (p := ⟨g12, 2, none⟩) _ rfl).setB (p := ⟨g12, 3, none⟩) _ rfl
              replace B13 := B13.nxb (by rcases hne with h | h <;> omega) KB
              replace hHeld := (Exl.nxb (b := g12) (w := w6) ⟨hHeld, zg12⟩ KB).1
              clear KB hwk
              obtain ⟨wz, rfl⟩ : ∃ wz : World, wz = wk := ⟨_, rfl⟩
              refine hK.out _ _ ?_
              clear hK K
              try simp only [Act.put, List.setIfInBounds_toArray, List.set_cons_zero, List.set_cons_succ]
              refine wpAnyL_ready (rs := [13]) (by kernel_rfl) (by simp) ?_
              refine AllReadyL.consL (o := ⟨none, .store 49 (.tmp 13) (.tmp 34), 0, "bridge.go:65", #[⟨11, .data⟩, ⟨9, .data⟩, ⟨12, .chain⟩, ⟨0, .phase⟩, ⟨1, .phase⟩, ⟨2, .phase⟩, ⟨3, .phase⟩, ⟨4, .phase⟩, ⟨5, .phase⟩, ⟨6, .phase⟩, ⟨7, .phase⟩, ⟨8, .phase⟩, ⟨9, .phase⟩, ⟨10, .phase⟩, ⟨11, .phase⟩, ⟨12, .phase⟩], none⟩) rfl (by rfl) (fun K hK => ?_) AllReadyL.nil
              have c0 := B13.cell 0 _ rfl
              have c1 := B13.cell 1 _ rfl
              have c2 := B13.cell 2 _ rfl
              have c3 := B13.cell 3 _ rfl
              have f0 := B13.free 0
              have f1 := B13.free 1
              have f2 := B13.free 2
              have f3 := B13.free 3
              go_simp
              clear c0 c1 c2 c3 f0 f1 f2 f3
              obtain ⟨wk, hwk⟩ : ∃ wk, wk = (((wz.setCell ⟨g13, 0, none⟩ (.int .i64 xlkr.1)).setCell ⟨g13, 1, none⟩ (.int .i64 xlkr.2.1)).setCell ⟨g13, 2, none⟩ (.int .i64 xlkr.2.2.1)).setCell ⟨g13, 3, none⟩ (.int .i64 xlkr.2.2.2) := ⟨_, rfl⟩
              rw [← hwk]
              replace B13 : Blk wk g13 [.int .i64 xlkr.1, .int .i64 xlkr.2.1, .int .i64 xlkr.2.2.1, .int .i64 xlkr.2.2.2] 49 := by rw [hwk]; exact (((B13.set 0 _).set 1 _).set 2 _).set 3 _
              have KB : Exb g13 wz wk := by rw [hwk]; exact ((((Exb.refl g13 wz).setB (p := ⟨g13, 0, none⟩) _ rfl).setB (p := ⟨g13, 1, none⟩) _ rfl).setB (p := ⟨g13, 2, none⟩) _ rfl).setB (p := ⟨g13, 3, none⟩) _ rfl
              replace B12 := B12.nxb (by rcases hne with h | h <;> omega) KB
              replace hHeld := (Exl.nxb (b := g13) (w := w6) ⟨hHeld, zg13⟩ KB).1
              clear KB hwk
              obtain ⟨wz, rfl⟩ : ∃ wz : World, wz = wk := ⟨_, rfl⟩
              refine hK.out _ _ ?_
              clear hK K
              try simp only [Act.put, List.setIfInBounds_toArray, List.set_cons_zero, List.set_cons_succ]
              refine wpAnyL_done (by kernel_rfl) ?_ _
              have CUT := Lib.hid (show NwCut xlkl xlkr w6 (.pointer (some ⟨g12, 0, none⟩)) (.pointer (some ⟨g13, 0, none⟩)) wz from ⟨g12, g13, rfl, rfl, zg12, zg13, B12, B13, hHeld⟩)
              clear B12 B13 hHeld
              go_wp2_with fail
              go_meet
              exact CUT.out
            refine AllReadyL.cons (o := ⟨some 12, .alloc 49, 0, "bridge.go:65", #[], none⟩) rfl (fun K hK => ?_) AllReadyL.nil
            · go_simp
              have z0 := hHeld.size
              obtain ⟨g12, wz, hg12, hwz, B12, kk⟩ := newNr hHeld
              rw [← hg12, ← hwz]
              have zg12 : w6.heap.size ≤ g12 := by omega
              (try have hne : g13 < g12 ∨ g12 < g13 := .inl (by have := B13.lt; omega))
              (try replace B13 := B13.nx kk)
              replace hHeld := hHeld.nx kk
              clear hg12 hwz z0 kk
              refine hK.out _ _ (hHeld) (fun hHeld => ?_)
              clear hK K
              try simp only [Act.put, List.setIfInBounds_toArray, List.set_cons_zero, List.set_cons_succ]
              refine wpAnyL_ready (rs := [9]) (by kernel_rfl) (by simp) ?_
              refine AllReadyL.cons (o := ⟨some 34, .call { callee := .value (.func 98), args := #[.tmp 30, .tmp 32, .tmp 33], argTypes := #[24, 3, 3] }, 49, "bridge.go:65", #[⟨5, .data⟩, ⟨7, .data⟩, ⟨8, .data⟩, ⟨4, .chain⟩], none⟩) rfl (fun K hK => ?_) AllReadyL.nil
              go_simp
              (with_reducible refine (at_pE _ _ _ P lkr j xlkr hxlkr _ (H2.out.nx (K6.out.nx hHeld)) hn2 HP.out hj16).mono ?_)
              rintro e wz ⟨rfl, kk⟩
              (try replace B12 := B12.nx kk)
              (try replace B13 := B13.nx kk)
              replace hHeld := hHeld.nx kk
              clear kk
              refine hK.out _ _ (hHeld) (fun hHeld => ?_)
              clear hK K
              try simp only [Act.put, List.setIfInBounds_toArray, List.set_cons_zero, List.set_cons_succ]
              refine wpAnyL_ready (rs := [12]) (by kernel_rfl) (by simp) ?_
              refine AllReadyL.consL (o := ⟨none, .store 49 (.tmp 12) (.tmp 29), 0, "bridge.go:65", #[⟨10, .data⟩, ⟨4, .data⟩, ⟨9, .chain⟩, ⟨0, .phase⟩, ⟨1, .phase⟩, ⟨2, .phase⟩, ⟨3, .phase⟩, ⟨4, .phase⟩, { on := 5, ground := Ground.textOnly Departure.lateStores }, { on := 6, ground := Ground.textOnly Departure.lateStores }, { on := 7, ground := Ground.textOnly Departure.lateStores }, { on := 8, ground := Ground.textOnly Departure.lateStores }, { on := 9, ground := Ground.textOnly Departure.lateStoresUnsure }, ⟨10, .phase⟩, ⟨11, .phase⟩], none⟩) rfl (by rfl) (fun K hK => ?_) AllReadyL.nil
              have c0 := B12.cell 0 _ rfl
              have c1 := B12.cell 1 _ rfl
              have c2 := B12.cell 2 _ rfl
              have c3 := B12.cell 3 _ rfl
              have f0 := B12.free 0
              have f1 := B12.free 1
              have f2 := B12.free 2
              have f3 := B12.free 3
              go_simp
              clear c0 c1 c2 c3 f0 f1 f2 f3
              obtain ⟨wk, hwk⟩ : ∃ wk, wk = (((wz.setCell ⟨g12, 0, none⟩ (.int .i64 xlkl.1)).setCell ⟨g12, 1, none⟩ (.int .i64 xlkl.2.1)).setCell ⟨g12, 2, none⟩ (.int .i64 xlkl.2.2.1)).setCell ⟨g12, 3, none⟩ (.int .i64 xlkl.2.2.2) := ⟨_, rfl⟩
              rw [← hwk]
              replace B12 : Blk wk g12 [.int .i64 xlkl.1, .int .i64 xlkl.2.1, .int .i64 xlkl.2.2.1, .int .i64 xlkl.2.2.2] 49 := by rw [hwk]; exact (((B12.set 0 _).set 1 _).set 2 _).set 3 _
              have KB : Exb g12 wz wk := by rw [hwk]; exact ((((Exb.refl g12 wz).setB (p := ⟨g12, 0, none⟩) _ rfl).setB (p := ⟨g12, 1, none⟩) _ rfl).setB (p := ⟨g12, 2, none⟩) _ rfl).setB (p := ⟨g12, 3, none⟩) _ rfl
              replace B13 := B13.nxb (by rcases hne with h | h <;> omega) KB
              replace hHeld := (Exl.nxb (b := g12) (w := w6) ⟨hHeld, zg12⟩ KB).1
              clear KB hwk
              obtain ⟨wz, rfl⟩ : ∃ wz : World, wz = wk := ⟨_, rfl⟩
              refine hK.out _ _ ?_
              clear hK K
              try simp only [Act.put, List.setIfInBounds_toArray, List.set_cons_zero, List.set_cons_succ]
              refine wpAnyL_ready (rs := [13]) (by kernel_rfl) (by simp) ?_
              refine AllReadyL.consL (o := ⟨none, .store 49 (.tmp 13) (.tmp 34), 0, "bridge.go:65", #[⟨11, .data⟩, ⟨9, .data⟩, ⟨12, .chain⟩, ⟨0, .phase⟩, ⟨1, .phase⟩, ⟨2, .phase⟩, ⟨3, .phase⟩, ⟨4, .phase⟩, ⟨5, .phase⟩, ⟨6, .phase⟩, ⟨7, .phase⟩, ⟨8, .phase⟩, ⟨9, .phase⟩, ⟨10, .phase⟩, ⟨11, .phase⟩, ⟨12, .phase⟩], none⟩) rfl (by rfl) (fun K hK => ?_) AllReadyL.nil
              have c0 := B13.cell 0 _ rfl
              have c1 := B13.cell 1 _ rfl
              have c2 := B13.cell 2 _ rfl
              have c3 := B13.cell 3 _ rfl
              have f0 := B13.free 0
              have f1 := B13.free 1
              have f2 := B13.free 2
              have f3 := B13.free 3
              go_simp
              clear c0 c1 c2 c3 f0 f1 f2 f3
              obtain ⟨wk, hwk⟩ : ∃ wk, wk = (((wz.setCell ⟨g13, 0, none⟩ (.int .i64 xlkr.1)).setCell ⟨g13, 1, none⟩ (.int .i64 xlkr.2.1)).setCell ⟨g13, 2, none⟩ (.int .i64 xlkr.2.2.1)).setCell ⟨g13, 3, none⟩ (.int .i64 xlkr.2.2.2) := ⟨_, rfl⟩
              rw [← hwk]
              replace B13 : Blk wk g13 [.int .i64 xlkr.1, .int .i64 xlkr.2.1, .int .i64 xlkr.2.2.1, .int .i64 xlkr.2.2.2] 49 := by rw [hwk]; exact (((B13.set 0 _).set 1 _).set 2 _).set 3 _
              have KB : Exb g13 wz wk := by rw [hwk]; exact ((((Exb.refl g13 wz).setB (p := ⟨g13, 0, none⟩) _ rfl).setB (p := ⟨g13, 1, none⟩) _ rfl).setB (p := ⟨g13, 2, none⟩) _ rfl).setB (p := ⟨g13, 3, none⟩) _ rfl
              replace B12 := B12.nxb (by rcases hne with h | h <;> omega) KB
              replace hHeld := (Exl.nxb (b := g13) (w := w6) ⟨hHeld, zg13⟩ KB).1
              clear KB hwk
              obtain ⟨wz, rfl⟩ : ∃ wz : World, wz = wk := ⟨_, rfl⟩
              refine hK.out _ _ ?_
              clear hK K
              try simp only [Act.put, List.setIfInBounds_toArray, List.set_cons_zero, List.set_cons_succ]
              refine wpAnyL_done (by kernel_rfl) ?_ _
              have CUT := Lib.hid (show NwCut xlkl xlkr w6 (.pointer (some ⟨g12, 0, none⟩)) (.pointer (some ⟨g13, 0, none⟩)) wz from ⟨g12, g13, rfl, rfl, zg12, zg13, B12, B13, hHeld⟩)
              clear B12 B13 hHeld
              go_wp2_with fail
              go_meet
              exact CUT.out
        refine AllReadyL.cons (o := ⟨some 12, .alloc 49, 0, "bridge.go:65", #[], none⟩) rfl (fun K hK => ?_) ?_
        · go_simp
          have z0 := hHeld.size
          obtain ⟨g12, wz, hg12, hwz, B12, kk⟩ := newNr hHeld
          rw [← hg12, ← hwz]
          have zg12 : w6.heap.size ≤ g12 := by omega
          (try have hne : g13 < g12 ∨ g12 < g13 := .inl (by have := B13.lt; omega))
          (try replace B13 := B13.nx kk)
          replace hHeld := hHeld.nx kk
          clear hg12 hwz z0 kk
          refine hK.out _ _ (hHeld) (fun hHeld => ?_)
          clear hK K
          try simp only [Act.put, List.setIfInBounds_toArray, List.set_cons_zero, List.set_cons_succ]
          refine wpAnyL_ready (rs := [4, 11]) (by kernel_rfl) (by simp) ?_
          refine AllReadyL.cons (o := ⟨some 29, .call { callee := .value (.func 98), args := #[.tmp 25, .tmp 27, .tmp 28], argTypes := #[24, 3, 3] }, 49, "bridge.go:65", #[⟨0, .data⟩, ⟨2, .data⟩, ⟨3, .data⟩], none⟩) rfl (fun K hK => ?_) ?_
          · go_simp
            (with_reducible refine (at_pE _ _ _ P lkl j xlkl hxlkl _ (H2.out.nx (K6.out.nx hHeld)) hn2 HP.out hj16).mono ?_)
            rintro e wz ⟨rfl, kk⟩
            (try replace B12 := B12.nx kk)
            (try replace B13 := B13.nx kk)
            replace hHeld := hHeld.nx kk
            clear kk
            refine hK.out _ _ (hHeld) (fun hHeld => ?_)
            clear hK K
            try simp only [Act.put, List.setIfInBounds_toArray, List.set_cons_zero, List.set_cons_succ]
            refine wpAnyL_ready (rs := [9, 11]) (by kernel_rfl) (by simp) ?_
            refine AllReadyL.cons (o := ⟨some 34, .call { callee := .value (.func 98), args := #[.tmp 30, .tmp 32, .tmp 33], argTypes := #[24, 3, 3] }, 49, "bridge.go:65", #[⟨5, .data⟩, ⟨7, .data⟩, ⟨8, .data⟩, ⟨4, .chain⟩], none⟩) rfl (fun K hK => ?_) ?_
            · go_simp
              (with_reducible refine (at_pE _ _ _ P lkr j xlkr hxlkr _ (H2.out.nx (K6.out.nx hHeld)) hn2 HP.out hj16).mono ?_)
              rintro e wz ⟨rfl, kk⟩
              (try replace B12 := B12.nx kk)
              (try replace B13 := B13.nx kk)
              replace hHeld := hHeld.nx kk
              clear kk
              refine hK.out _ _ (hHeld) (fun hHeld => ?_)
              clear hK K
              try simp only [Act.put, List.setIfInBounds_toArray, List.set_cons_zero, List.set_cons_succ]
              refine wpAnyL_ready (rs := [11]) (by kernel_rfl) (by simp) ?_
              refine AllReadyL.cons (o := ⟨some 13, .alloc 49, 0, "bridge.go:65", #[], none⟩) rfl (fun K hK => ?_) AllReadyL.nil
              go_simp
              have z0 := hHeld.size
              obtain ⟨g13, wz, hg13, hwz, B13, kk⟩ := newNr hHeld
              rw [← hg13, ← hwz]
              have zg13 : w6.heap.size ≤ g13 := by omega
              (try have hne : g12 < g13 ∨ g13 < g12 := .inl (by have := B12.lt; omega))
              (try replace B12 := B12.nx kk)
              replace hHeld := hHeld.nx kk
              clear hg13 hwz z0 kk
              refine hK.out _ _ (hHeld) (fun hHeld => ?_)
              clear hK K
              try simp only [Act.put, List.setIfInBounds_toArray, List.set_cons_zero, List.set_cons_succ]
              refine wpAnyL_ready (rs := [12]) (by kernel_rfl) (by simp) ?_
              refine AllReadyL.consL (o := ⟨none, .store 49 (.tmp 12) (.tmp 29), 0, "bridge.go:65", #[⟨10, .data⟩, ⟨4, .data⟩, ⟨9, .chain⟩, ⟨0, .phase⟩, ⟨1, .phase⟩, ⟨2, .phase⟩, ⟨3, .phase⟩, ⟨4, .phase⟩, { on := 5, ground := Ground.textOnly Departure.lateStores }, { on := 6, ground := Ground.textOnly Departure.lateStores }, { on := 7, ground := Ground.textOnly Departure.lateStores }, { on := 8, ground := Ground.textOnly Departure.lateStores }, { on := 9, ground := Ground.textOnly Departure.lateStoresUnsure }, ⟨10, .phase⟩, ⟨11, .phase⟩], none⟩) rfl (by rfl) (fun K hK => ?_) AllReadyL.nil
              have c0 := B12.cell 0 _ rfl
              have c1 := B12.cell 1 _ rfl
              have c2 := B12.cell 2 _ rfl
              have c3 := B12.cell 3 _ rfl
              have f0 := B12.free 0
              have f1 := B12.free 1
              have f2 := B12.free 2
              have f3 := B12.free 3
              go_simp
              clear c0 c1 c2 c3 f0 f1 f2 f3
              obtain ⟨wk, hwk⟩ : ∃ wk, wk = (((wz.setCell ⟨g12, 0, none⟩ (.int .i64 xlkl.1)).setCell ⟨g12, 1, none⟩ (.int .i64 xlkl.2.1)).setCell ⟨g12, 2, none⟩ (.int .i64 xlkl.2.2.1)).setCell ⟨g12, 3, none⟩ (.int .i64 xlkl.2.2.2) := ⟨_, rfl⟩
              rw [← hwk]
              replace B12 : Blk wk g12 [.int .i64 xlkl.1, .int .i64 xlkl.2.1, .int .i64 xlkl.2.2.1, .int .i64 xlkl.2.2.2] 49 := by rw [hwk]; exact (((B12.set 0 _).set 1 _).set 2 _).set 3 _
              have KB : Exb g12 wz wk := by rw [hwk]; exact ((((Exb.refl g12 wz).setB (p := ⟨g12, 0, none⟩) _ rfl).setB (p := ⟨g12, 1, none⟩) _ rfl).setB (p := ⟨g12, 2, none⟩) _ rfl).setB (p := ⟨g12, 3, none⟩) _ rfl
              replace B13 := B13.nxb (by rcases hne with h | h <;> omega) KB
              replace hHeld := (Exl.nxb (b := g12) (w := w6) ⟨hHeld, zg12⟩ KB).1
              clear KB hwk
              obtain ⟨wz, rfl⟩ : ∃ wz : World, wz = wk := ⟨_, rfl⟩
              refine hK.out _ _ ?_
              clear hK K
              try simp only [Act.put, List.setIfInBounds_toArray, List.set_cons_zero, List.set_cons_succ]
              refine wpAnyL_ready (rs := [13]) (by kernel_rfl) (by simp) ?_
              refine AllReadyL.consL (o := ⟨none, .store 49 (.tmp 13) (.tmp 34), 0, "bridge.go:65", #[⟨11, .data⟩, ⟨9, .data⟩, ⟨12, .chain⟩, ⟨0, .phase⟩, ⟨1, .phase⟩, ⟨2, .phase⟩, ⟨3, .phase⟩, ⟨4, .phase⟩, ⟨5, .phase⟩, ⟨6, .phase⟩, ⟨7, .phase⟩, ⟨8, .phase⟩, ⟨9, .phase⟩, ⟨10, .phase⟩, ⟨11, .phase⟩, ⟨12, .phase⟩], none⟩) rfl (by rfl) (fun K hK => ?_) AllReadyL.nil
              have c0 := B13.cell 0 _ rfl
              have c1 := B13.cell 1 _ rfl
              have c2 := B13.cell 2 _ rfl
              have c3 := B13.cell 3 _ rfl
              have f0 := B13.free 0
              have f1 := B13.free 1
              have f2 := B13.free 2
              have f3 := B13.free 3
              go_simp
              clear c0 c1 c2 c3 f0 f1 f2 f3
              obtain ⟨wk, hwk⟩ : ∃ wk, wk = (((wz.setCell ⟨g13, 0, none⟩ (.int .i64 xlkr.1)).setCell ⟨g13, 1, none⟩ (.int .i64 xlkr.2.1)).setCell ⟨g13, 2, none⟩ (.int .i64 xlkr.2.2.1)).setCell ⟨g13, 3, none⟩ (.int .i64 xlkr.2.2.2) := ⟨_, rfl⟩
              rw [← hwk]
              replace B13 : Blk wk g13 [.int .i64 xlkr.1, .int .i64 xlkr.2.1, .int .i64 xlkr.2.2.1, .int .i64 xlkr.2.2.2] 49 := by rw [hwk]; exact (((B13.set 0 _).set 1 _).set 2 _).set 3 _
              have KB : Exb g13 wz wk := by rw [hwk]; exact ((((Exb.refl g13 wz).setB (p := ⟨g13, 0, none⟩) _ rfl).setB (p := ⟨g13, 1, none⟩) _ rfl).setB (p := ⟨g13, 2, none⟩) _ rfl).setB (p := ⟨g13, 3, none⟩) _ rfl
              replace B12 := B12.nxb (by rcases hne with h | h <;> omega) KB
              replace hHeld := (Exl.nxb (b := g13) (w := w6) ⟨hHeld, zg13⟩ KB).1
              clear KB hwk
              obtain ⟨wz, rfl⟩ : ∃ wz : World, wz = wk := ⟨_, rfl⟩
              refine hK.out _ _ ?_
              clear hK K
              try simp only [Act.put, List.setIfInBounds_toArray, List.set_cons_zero, List.set_cons_succ]
              refine wpAnyL_done (by kernel_rfl) ?_ _
              have CUT := Lib.hid (show NwCut xlkl xlkr w6 (.pointer (some ⟨g12, 0, none⟩)) (.pointer (some ⟨g13, 0, none⟩)) wz from ⟨g12, g13, rfl, rfl, zg12, zg13, B12, B13, hHeld⟩)
              clear B12 B13 hHeld
              go_wp2_with fail
              go_meet
              exact CUT.out
            refine AllReadyL.cons (o := ⟨some 13, .alloc 49, 0, "bridge.go:65", #[], none⟩) rfl (fun K hK => ?_) AllReadyL.nil
            · go_simp
              have z0 := hHeld.size
              obtain ⟨g13, wz, hg13, hwz, B13, kk⟩ := newNr hHeld
              rw [← hg13, ← hwz]
              have zg13 : w6.heap.size ≤ g13 := by omega
              (try have hne : g12 < g13 ∨ g13 < g12 := .inl (by have := B12.lt; omega))
              (try replace B12 := B12.nx kk)
              replace hHeld := hHeld.nx kk
              clear hg13 hwz z0 kk
              refine hK.out _ _ (hHeld) (fun hHeld => ?_)
              clear hK K
              try simp only [Act.put, List.setIfInBounds_toArray, List.set_cons_zero, List.set_cons_succ]
              refine wpAnyL_ready (rs := [9]) (by kernel_rfl) (by simp) ?_
              refine AllReadyL.cons (o := ⟨some 34, .call { callee := .value (.func 98), args := #[.tmp 30, .tmp 32, .tmp 33], argTypes := #[24, 3, 3] }, 49, "bridge.go:65", #[⟨5, .data⟩, ⟨7, .data⟩, ⟨8, .data⟩, ⟨4, .chain⟩], none⟩) rfl (fun K hK => ?_) AllReadyL.nil
              go_simp
              (with_reducible refine (at_pE _ _ _ P lkr j xlkr hxlkr _ (H2.out.nx (K6.out.nx hHeld)) hn2 HP.out hj16).mono ?_)
              rintro e wz ⟨rfl, kk⟩
              (try replace B12 := B12.nx kk)
              (try replace B13 := B13.nx kk)
              replace hHeld := hHeld.nx kk
              clear kk
              refine hK.out _ _ (hHeld) (fun hHeld => ?_)
              clear hK K
              try simp only [Act.put, List.setIfInBounds_toArray, List.set_cons_zero, List.set_cons_succ]
              refine wpAnyL_ready (rs := [12]) (by kernel_rfl) (by simp) ?_
              refine AllReadyL.consL (o := ⟨none, .store 49 (.tmp 12) (.tmp 29), 0, "bridge.go:65", #[⟨10, .data⟩, ⟨4, .data⟩, ⟨9, .chain⟩, ⟨0, .phase⟩, ⟨1, .phase⟩, ⟨2, .phase⟩, ⟨3, .phase⟩, ⟨4, .phase⟩, { on := 5, ground := Ground.textOnly Departure.lateStores }, { on := 6, ground := Ground.textOnly Departure.lateStores }, { on := 7, ground := Ground.textOnly Departure.lateStores }, { on := 8, ground := Ground.textOnly Departure.lateStores }, { on := 9, ground := Ground.textOnly Departure.lateStoresUnsure }, ⟨10, .phase⟩, ⟨11, .phase⟩], none⟩) rfl (by rfl) (fun K hK => ?_) AllReadyL.nil
              have c0 := B12.cell 0 _ rfl
              have c1 := B12.cell 1 _ rfl
              have c2 := B12.cell 2 _ rfl
              have c3 := B12.cell 3 _ rfl
              have f0 := B12.free 0
              have f1 := B12.free 1
              have f2 := B12.free 2
              have f3 := B12.free 3
              go_simp
              clear c0 c1 c2 c3 f0 f1 f2 f3
              obtain ⟨wk, hwk⟩ : ∃ wk, wk = (((wz.setCell ⟨g12, 0, none⟩ (.int .i64 xlkl.1)).setCell ⟨g12, 1, none⟩ (.int .i64 xlkl.2.1)).setCell ⟨g12, 2, none⟩ (.int .i64 xlkl.2.2.1)).setCell ⟨g12, 3, none⟩ (.int .i64 xlkl.2.2.2) := ⟨_, rfl⟩
              rw [← hwk]
              replace B12 : Blk wk g12 [.int .i64 xlkl.1, .int .i64 xlkl.2.1, .int .i64 xlkl.2.2.1, .int .i64 xlkl.2.2.2] 49 := by rw [hwk]; exact (((B12.set 0 _).set 1 _).set 2 _).set 3 _
              have KB : Exb g12 wz wk := by rw [hwk]; exact ((((Exb.refl g12 wz).setB (p := ⟨g12, 0, none⟩) _ rfl).setB (p := ⟨g12, 1, none⟩) _ rfl).setB (p := ⟨g12, 2, none⟩) _ rfl).setB (p := ⟨g12, 3, none⟩) _ rfl
              replace B13 := B13.nxb (by rcases hne with h | h <;> omega) KB
              replace hHeld := (Exl.nxb (b := g12) (w := w6) ⟨hHeld, zg12⟩ KB).1
              clear KB hwk
              obtain ⟨wz, rfl⟩ : ∃ wz : World, wz = wk := ⟨_, rfl⟩
              refine hK.out _ _ ?_
              clear hK K
              try simp only [Act.put, List.setIfInBounds_toArray, List.set_cons_zero, List.set_cons_succ]
              refine wpAnyL_ready (rs := [13]) (by kernel_rfl) (by simp) ?_
              refine AllReadyL.consL (o := ⟨none, .store 49 (.tmp 13) (.tmp 34), 0, "bridge.go:65", #[⟨11, .data⟩, ⟨9, .data⟩, ⟨12, .chain⟩, ⟨0, .phase⟩, ⟨1, .phase⟩, ⟨2, .phase⟩, ⟨3, .phase⟩, ⟨4, .phase⟩, ⟨5, .phase⟩, ⟨6, .phase⟩, ⟨7, .phase⟩, ⟨8, .phase⟩, ⟨9, .phase⟩, ⟨10, .phase⟩, ⟨11, .phase⟩, ⟨12, .phase⟩], none⟩) rfl (by rfl) (fun K hK => ?_) AllReadyL.nil
              have c0 := B13.cell 0 _ rfl
              have c1 := B13.cell 1 _ rfl
              have c2 := B13.cell 2 _ rfl
              have c3 := B13.cell 3 _ rfl
              have f0 := B13.free 0
              have f1 := B13.free 1
              have f2 := B13.free 2
              have f3 := B13.free 3
              go_simp
              clear c0 c1 c2 c3 f0 f1 f2 f3
              obtain ⟨wk, hwk⟩ : ∃ wk, wk = (((wz.setCell ⟨g13, 0, none⟩ (.int .i64 xlkr.1)).setCell ⟨g13, 1, none⟩ (.int .i64 xlkr.2.1)).setCell ⟨g13, 2, none⟩ (.int .i64 xlkr.2.2.1)).setCell ⟨g13, 3, none⟩ (.int .i64 xlkr.2.2.2) := ⟨_, rfl⟩
              rw [← hwk]
              replace B13 : Blk wk g13 [.int .i64 xlkr.1, .int .i64 xlkr.2.1, .int .i64 xlkr.2.2.1, .int .i64 xlkr.2.2.2] 49 := by rw [hwk]; exact (((B13.set 0 _).set 1 _).set 2 _).set 3 _
              have KB : Exb g13 wz wk := by rw [hwk]; exact ((((Exb.refl g13 wz).setB (p := ⟨g13, 0, none⟩) _ rfl).setB (p := ⟨g13, 1, none⟩) _ rfl).setB (p := ⟨g13, 2, none⟩) _ rfl).setB (p := ⟨g13, 3, none⟩) _ rfl
              replace B12 := B12.nxb (by rcases hne with h | h <;> omega) KB
              replace hHeld := (Exl.nxb (b := g13) (w := w6) ⟨hHeld, zg13⟩ KB).1
              clear KB hwk
              obtain ⟨wz, rfl⟩ : ∃ wz : World, wz = wk := ⟨_, rfl⟩
              refine hK.out _ _ ?_
              clear hK K
              try simp only [Act.put, List.setIfInBounds_toArray, List.set_cons_zero, List.set_cons_succ]
              refine wpAnyL_done (by kernel_rfl) ?_ _
              have CUT := Lib.hid (show NwCut xlkl xlkr w6 (.pointer (some ⟨g12, 0, none⟩)) (.pointer (some ⟨g13, 0, none⟩)) wz from ⟨g12, g13, rfl, rfl, zg12, zg13, B12, B13, hHeld⟩)
              clear B12 B13 hHeld
              go_wp2_with fail
              go_meet
              exact CUT.out
          refine AllReadyL.cons (o := ⟨some 13, .alloc 49, 0, "bridge.go:65", #[], none⟩) rfl (fun K hK => ?_) AllReadyL.nil
          · go_simp
            have z0 := hHeld.size
            obtain ⟨g13, wz, hg13, hwz, B13, kk⟩ := newNr hHeld
            rw [← hg13, ← hwz]
            have zg13 : w6.heap.size ≤ g13 := by omega
            (try have hne : g12 < g13 ∨ g13 < g12 := .inl (by have := B12.lt; omega))
            (try replace B12 := B12.nx kk)
            replace hHeld := hHeld.nx kk
            clear hg13 hwz z0 kk
            refine hK.out _ _ (hHeld) (fun hHeld => ?_)
            clear hK K
            try simp only [Act.put, List.setIfInBounds_toArray, List.set_cons_zero, List.set_cons_succ]
            refine wpAnyL_ready (rs := [4]) (by kernel_rfl) (by simp) ?_
            refine AllReadyL.cons (o := ⟨some 29, .call { callee := .value (.func 98), args := #[.tmp 25, .tmp 27, .tmp 28], argTypes := #[24, 3, 3] }, 49, "bridge.go:65", #[⟨0, .data⟩, ⟨2, .data⟩, ⟨3, .data⟩], none⟩) rfl (fun K hK => ?_) AllReadyL.nil
            go_simp
            (with_reducible refine (at_pE _ _ _ P lkl j xlkl hxlkl _ (H2.out.nx (K6.out.nx hHeld)) hn2 HP.out hj16).mono ?_)
            rintro e wz ⟨rfl, kk⟩
            (try replace B12 := B12.nx kk)
            (try replace B13 := B13.nx kk)
            replace hHeld := hHeld.nx kk
            clear kk
            refine hK.out _ _ (hHeld) (fun hHeld => ?_)
            clear hK K
            try simp only [Act.put, List.setIfInBounds_toArray, List.set_cons_zero, List.set_cons_succ]
            refine wpAnyL_ready (rs := [9]) (by kernel_rfl) (by simp) ?_
            refine AllReadyL.cons (o := ⟨some 34, .call { callee := .value (.func 98), args := #[.tmp 30, .tmp 32, .tmp 33], argTypes := #[24, 3, 3] }, 49, "bridge.go:65", #[⟨5, .data⟩, ⟨7, .data⟩, ⟨8, .data⟩, ⟨4, .chain⟩], none⟩) rfl (fun K hK => ?_) AllReadyL.nil
            go_simp
            (with_reducible refine (at_pE _ _ _ P lkr j xlkr hxlkr _ (H2.out.nx (K6.out.nx hHeld)) hn2 HP.out hj16).mono ?_)
            rintro e wz ⟨rfl, kk⟩
            (try replace B12 := B12.nx kk)
            (try replace B13 := B13.nx kk)
            replace hHeld := hHeld.nx kk
            clear kk
            refine hK.out _ _ (hHeld) (fun hHeld => ?_)
            clear hK K
            try simp only [Act.put, List.setIfInBounds_toArray, List.set_cons_zero, List.set_cons_succ]
            refine wpAnyL_ready (rs := [12]) (by kernel_rfl) (by simp) ?_
            refine AllReadyL.consL (o := ⟨none, .store 49 (.tmp 12) (.tmp 29), 0, "bridge.go:65", #[⟨10, .data⟩, ⟨4, .data⟩, ⟨9, .chain⟩, ⟨0, .phase⟩, ⟨1, .phase⟩, ⟨2, .phase⟩, ⟨3, .phase⟩, ⟨4, .phase⟩, { on := 5, ground := Ground.textOnly Departure.lateStores }, { on := 6, ground := Ground.textOnly Departure.lateStores }, { on := 7, ground := Ground.textOnly Departure.lateStores }, { on := 8, ground := Ground.textOnly Departure.lateStores }, { on := 9, ground := Ground.textOnly Departure.lateStoresUnsure }, ⟨10, .phase⟩, ⟨11, .phase⟩], none⟩) rfl (by rfl) (fun K hK => ?_) AllReadyL.nil
            have c0 := B12.cell 0 _ rfl
            have c1 := B12.cell 1 _ rfl
            have c2 := B12.cell 2 _ rfl
            have c3 := B12.cell 3 _ rfl
            have f0 := B12.free 0
            have f1 := B12.free 1
            have f2 := B12.free 2
            have f3 := B12.free 3
            go_simp
            clear c0 c1 c2 c3 f0 f1 f2 f3
            obtain ⟨wk, hwk⟩ : ∃ wk, wk = (((wz.setCell ⟨g12, 0, none⟩ (.int .i64 xlkl.1)).setCell ⟨g12, 1, none⟩ (.int .i64 xlkl.2.1)).setCell ⟨g12, 2, none⟩ (.int .i64 xlkl.2.2.1)).setCell ⟨g12, 3, none⟩ (.int .i64 xlkl.2.2.2) := ⟨_, rfl⟩
            rw [← hwk]
            replace B12 : Blk wk g12 [.int .i64 xlkl.1, .int .i64 xlkl.2.1, .int .i64 xlkl.2.2.1, .int .i64 xlkl.2.2.2] 49 := by rw [hwk]; exact (((B12.set 0 _).set 1 _).set 2 _).set 3 _
            have KB : Exb g12 wz wk := by rw [hwk]; exact ((((Exb.refl g12 wz).setB (p := ⟨g12, 0, none⟩) _ rfl).setB (p := ⟨g12, 1, none⟩) _ rfl).setB (p := ⟨g12, 2, none⟩) _ rfl).setB (p := ⟨g12, 3, none⟩) _ rfl
            replace B13 := B13.nxb (by rcases hne with h | h <;> omega) KB
            replace hHeld := (Exl.nxb (b := g12) (w := w6) ⟨hHeld, zg12⟩ KB).1
            clear KB hwk
            obtain ⟨wz, rfl⟩ : ∃ wz : World, wz = wk := ⟨_, rfl⟩
            refine hK.out _ _ ?_
            clear hK K
            try simp only [Act.put, List.setIfInBounds_toArray, List.set_cons_zero, List.set_cons_succ]
            refine wpAnyL_ready (rs := [13]) (by kernel_rfl) (by simp) ?_
            refine AllReadyL.consL (o := ⟨none, .store 49 (.tmp 13) (.tmp 34), 0, "bridge.go:65", #[⟨11, .data⟩, ⟨9, .data⟩, ⟨12, .chain⟩, ⟨0, .phase⟩, ⟨1, .phase⟩, ⟨2, .phase⟩, ⟨3, .phase⟩, ⟨4, .phase⟩, ⟨5, .phase⟩, ⟨6, .phase⟩, ⟨7, .phase⟩, ⟨8, .phase⟩, ⟨9, .phase⟩, ⟨10, .phase⟩, ⟨11, .phase⟩, ⟨12, .phase⟩], none⟩) rfl (by rfl) (fun K hK => ?_) AllReadyL.nil
            have c0 := B13.cell 0 _ rfl
            have c1 := B13.cell 1 _ rfl
            have c2 := B13.cell 2 _ rfl
            have c3 := B13.cell 3 _ rfl
            have f0 := B13.free 0
            have f1 := B13.free 1
            have f2 := B13.free 2
            have f3 := B13.free 3
            go_simp
            clear c0 c1 c2 c3 f0 f1 f2 f3
            obtain ⟨wk, hwk⟩ : ∃ wk, wk = (((wz.setCell ⟨g13, 0, none⟩ (.int .i64 xlkr.1)).setCell ⟨g13, 1, none⟩ (.int .i64 xlkr.2.1)).setCell ⟨g13, 2, none⟩ (.int .i64 xlkr.2.2.1)).setCell ⟨g13, 3, none⟩ (.int .i64 xlkr.2.2.2) := ⟨_, rfl⟩
            rw [← hwk]
            replace B13 : Blk wk g13 [.int .i64 xlkr.1, .int .i64 xlkr.2.1, .int .i64 xlkr.2.2.1, .int .i64 xlkr.2.2.2] 49 := by rw [hwk]; exact (((B13.set 0 _).set 1 _).set 2 _).set 3 _
            have KB : Exb g13 wz wk := by rw [hwk]; exact ((((Exb.refl g13 wz).setB (p := ⟨g13, 0, none⟩) _ rfl).setB (p := ⟨g13, 1, none⟩) _ rfl).setB (p := ⟨g13, 2, none⟩) _ rfl).setB (p := ⟨g13, 3, none⟩) _ rfl
            replace B12 := B12.nxb (by rcases hne with h | h <;> omega) KB
            replace hHeld := (Exl.nxb (b := g13) (w := w6) ⟨hHeld, zg13⟩ KB).1
            clear KB hwk
            obtain ⟨wz, rfl⟩ : ∃ wz : World, wz = wk := ⟨_, rfl⟩
            refine hK.out _ _ ?_
            clear hK K
            try simp only [Act.put, List.setIfInBounds_toArray, List.set_cons_zero, List.set_cons_succ]
            refine wpAnyL_done (by kernel_rfl) ?_ _
            have CUT := Lib.hid (show NwCut xlkl xlkr w6 (.pointer (some ⟨g12, 0, none⟩)) (.pointer (some ⟨g13, 0, none⟩)) wz from ⟨g12, g13, rfl, rfl, zg12, zg13, B12, B13, hHeld⟩)
            clear B12 B13 hHeld
            go_wp2_with fail
            go_meet
            exact CUT.out
        refine AllReadyL.cons (o := ⟨some 13, .alloc 49, 0, "bridge.go:65", #[], none⟩) rfl (fun K hK => ?_) AllReadyL.nil
        · go_simp
          have z0 := hHeld.size
          obtain ⟨g13, wz, hg13, hwz, B13, kk⟩ := newNr hHeld
          rw [← hg13, ← hwz]
          have zg13 : w6.heap.size ≤ g13 := by omega
          (try have hne : g12 < g13 ∨ g13 < g12 := .inl (by have := B12.lt; omega))
          (try replace B12 := B12.nx kk)
          replace hHeld := hHeld.nx kk
          clear hg13 hwz z0 kk
          refine hK.out _ _ (hHeld) (fun hHeld => ?_)
          clear hK K
          try simp only [Act.put, List.setIfInBounds_toArray, List.set_cons_zero, List.set_cons_succ]
          refine wpAnyL_ready (rs := [4, 10]) (by kernel_rfl) (by simp) ?_
          refine AllReadyL.cons (o := ⟨some 29, .call { callee := .value (.func 98), args := #[.tmp 25, .tmp 27, .tmp 28], argTypes := #[24, 3, 3] }, 49, "bridge.go:65", #[⟨0, .data⟩, ⟨2, .data⟩, ⟨3, .data⟩], none⟩) rfl (fun K hK => ?_) ?_
          · go_simp
            (with_reducible refine (at_pE _ _ _ P lkl j xlkl hxlkl _ (H2.out.nx (K6.out.nx hHeld)) hn2 HP.out hj16).mono ?_)
            rintro e wz ⟨rfl, kk⟩
            (try replace B12 := B12.nx kk)
            (try replace B13 := B13.nx kk)
            replace hHeld := hHeld.nx kk
            clear kk
            refine hK.out _ _ (hHeld) (fun hHeld => ?_)
            clear hK K
            try simp only [Act.put, List.setIfInBounds_toArray, List.set_cons_zero, List.set_cons_succ]
            refine wpAnyL_ready (rs := [9, 10]) (by kernel_rfl) (by simp) ?_
            refine AllReadyL.cons (o := ⟨some 34, .call { callee := .value (.func 98), args := #[.tmp 30, .tmp 32, .tmp 33], argTypes := #[24, 3, 3] }, 49, "bridge.go:65", #[⟨5, .data⟩, ⟨7, .data⟩, ⟨8, .data⟩, ⟨4, .chain⟩], none⟩) rfl (fun K hK => ?_) ?_
            · go_simp
              (with_reducible refine (at_pE _ _ _ P lkr j xlkr hxlkr _ (H2.out.nx (K6.out.nx hHeld)) hn2 HP.out hj16).mono ?_)
              rintro e wz ⟨rfl, kk⟩
              (try replace B12 := B12.nx kk)
              (try replace B13 := B13.nx kk)
              replace hHeld := hHeld.nx kk
              clear kk
              refine hK.out _ _ (hHeld) (fun hHeld => ?_)
              clear hK K
              try simp only [Act.put, List.setIfInBounds_toArray, List.set_cons_zero, List.set_cons_succ]
              refine wpAnyL_ready (rs := [10]) (by kernel_rfl) (by simp) ?_
              refine AllReadyL.cons (o := ⟨some 12, .alloc 49, 0, "bridge.go:65", #[], none⟩) rfl (fun K hK => ?_) AllReadyL.nil
              go_simp
              have z0 := hHeld.size
              obtain ⟨g12, wz, hg12, hwz, B12, kk⟩ := newNr hHeld
              rw [← hg12, ← hwz]
              have zg12 : w6.heap.size ≤ g12 := by omega
              (try have hne : g13 < g12 ∨ g12 < g13 := .inl (by have := B13.lt; omega))
              (try replace B13 := B13.nx kk)
              replace hHeld := hHeld.nx kk
              clear hg12 hwz z0 kk
              refine hK.out _ _ (hHeld) (fun hHeld => ?_)
              clear hK K
              try simp only [Act.put, List.setIfInBounds_toArray, List.set_cons_zero, List.set_cons_succ]
              refine wpAnyL_ready (rs := [12]) (by kernel_rfl) (by simp) ?_
              refine AllReadyL.consL (o := ⟨none, .store 49 (.tmp 12) (.tmp 29), 0, "bridge.go:65", #[⟨10, .data⟩, ⟨4, .data⟩, ⟨9, .chain⟩, ⟨0, .phase⟩, ⟨1, .phase⟩, ⟨2, .phase⟩, ⟨3, .phase⟩, ⟨4, .phase⟩, { on := 5, ground := Ground.textOnly Departure.lateStores }, { on := 6, ground := Ground.textOnly Departure.lateStores }, { on := 7, ground := Ground.textOnly Departure.lateStores }, { on := 8, ground := Ground.textOnly Departure.lateStores }, { on := 9, ground := Ground.textOnly Departure.lateStoresUnsure }, ⟨10, .phase⟩, ⟨11, .phase⟩], none⟩) rfl (by rfl) (fun K hK => ?_) AllReadyL.nil
              have c0 := B12.cell 0 _ rfl
              have c1 := B12.cell 1 _ rfl
              have c2 := B12.cell 2 _ rfl
              have c3 := B12.cell 3 _ rfl
              have f0 := B12.free 0
              have f1 := B12.free 1
              have f2 := B12.free 2
              have f3 := B12.free 3
              go_simp
              clear c0 c1 c2 c3 f0 f1 f2 f3
              obtain ⟨wk, hwk⟩ : ∃ wk, wk = (((wz.setCell ⟨g12, 0, none⟩ (.int .i64 xlkl.1)).setCell ⟨g12, 1, none⟩ (.int .i64 xlkl.2.1)).setCell ⟨g12, 2, none⟩ (.int .i64 xlkl.2.2.1)).setCell ⟨g12, 3, none⟩ (.int .i64 xlkl.2.2.2) := ⟨_, rfl⟩
              rw [← hwk]
              replace B12 : Blk wk g12 [.int .i64 xlkl.1, .int .i64 xlkl.2.1, .int .i64 xlkl.2.2.1, .int .i64 xlkl.2.2.2] 49 := by rw [hwk]; exact (((B12.set 0 _).set 1 _).set 2 _).set 3 _
              have KB : Exb g12 wz wk := by rw [hwk]; exact ((((Exb.refl g12 wz).setB (p := ⟨g12, 0, none⟩) _ rfl).setB (p := ⟨g12, 1, none⟩) _ rfl).setB (p := ⟨g12, 2, none⟩) _ rfl).setB (p := ⟨g12, 3, none⟩) _ rfl
              replace B13 := B13.nxb (by rcases hne with h | h <;> omega) KB
              replace hHeld := (Exl.nxb (b := g12) (w := w6) ⟨hHeld, zg12⟩ KB).1
              clear KB hwk
              obtain ⟨wz, rfl⟩ : ∃ wz : World, wz = wk := ⟨_, rfl⟩
              refine hK.out _ _ ?_
              clear hK K
              try simp only [Act.put, List.setIfInBounds_toArray, List.set_cons_zero, List.set_cons_succ]
              refine wpAnyL_ready (rs := [13]) (by kernel_rfl) (by simp) ?_
              refine AllReadyL.consL (o := ⟨none, .store 49 (.tmp 13) (.tmp 34), 0, "bridge.go:65", #[⟨11, .data⟩, ⟨9, .data⟩, ⟨12, .chain⟩, ⟨0, .phase⟩, ⟨1, .phase⟩, ⟨2, .phase⟩, ⟨3, .phase⟩, ⟨4, .phase⟩, ⟨5, .phase⟩, ⟨6, .phase⟩, ⟨7, .phase⟩, ⟨8, .phase⟩, ⟨9, .phase⟩, ⟨10, .phase⟩, ⟨11, .phase⟩, ⟨12, .phase⟩], none⟩) rfl (by rfl) (fun K hK => ?_) AllReadyL.nil
              have c0 := B13.cell 0 _ rfl
              have c1 := B13.cell 1 _ rfl
              have c2 := B13.cell 2 _ rfl
              have c3 := B13.cell 3 _ rfl
              have f0 := B13.free 0
              have f1 := B13.free 1
              have f2 := B13.free 2
              have f3 := B13.free 3
              go_simp
              clear c0 c1 c2 c3 f0 f1 f2 f3
              obtain ⟨wk, hwk⟩ : ∃ wk, wk = (((wz.setCell ⟨g13, 0, none⟩ (.int .i64 xlkr.1)).setCell ⟨g13, 1, none⟩ (.int .i64 xlkr.2.1)).setCell ⟨g13, 2, none⟩ (.int .i64 xlkr.2.2.1)).setCell ⟨g13, 3, none⟩ (.int .i64 xlkr.2.2.2) := ⟨_, rfl⟩
              rw [← hwk]
              replace B13 : Blk wk g13 [.int .i64 xlkr.1, .int .i64 xlkr.2.1, .int .i64 xlkr.2.2.1, .int .i64 xlkr.2.2.2] 49 := by rw [hwk]; exact (((B13.set 0 _).set 1 _).set 2 _).set 3 _
              have KB : Exb g13 wz wk := by rw [hwk]; exact ((((Exb.refl g13 wz).setB (p := ⟨g13, 0, none⟩) _ rfl).setB (p := ⟨g13, 1, none⟩) _ rfl).setB (p := ⟨g13, 2, none⟩) _ rfl).setB (p := ⟨g13, 3, none⟩) _ rfl
              replace B12 := B12.nxb (by rcases hne with h | h <;> omega) KB
              replace hHeld := (Exl.nxb (b := g13) (w := w6) ⟨hHeld, zg13⟩ KB).1
              clear KB hwk
              obtain ⟨wz, rfl⟩ : ∃ wz : World, wz = wk := ⟨_, rfl⟩
              refine hK.out _ _ ?_
              clear hK K
              try simp only [Act.put, List.setIfInBounds_toArray, List.set_cons_zero, List.set_cons_succ]
              refine wpAnyL_done (by kernel_rfl) ?_ _
              have CUT := Lib.hid (show NwCut xlkl xlkr w6 (.pointer (some ⟨g12, 0, none⟩)) (.pointer (some ⟨g13, 0, none⟩)) wz from ⟨g12, g13, rfl, rfl, zg12, zg13, B12, B13, hHeld⟩)
              clear B12 B13 hHeld
              go_wp2_with fail
              go_meet
              exact CUT.out
            refine AllReadyL.cons (o := ⟨some 12, .alloc 49, 0, "bridge.go:65", #[], none⟩) rfl (fun K hK => ?_) AllReadyL.nil
            · go_simp
              have z0 := hHeld.size
              obtain ⟨g12, wz, hg12, hwz, B12, kk⟩ := newNr hHeld
              rw [← hg12, ← hwz]
              have zg12 : w6.heap.size ≤ g12 := by omega
              (try have hne : g13 < g12 ∨ g12 < g13 := .inl (by have := B13.lt; omega))
              (try replace B13 := B13.nx kk)
              replace hHeld := hHeld.nx kk
              clear hg12 hwz z0 kk
              refine hK.out _ _ (hHeld) (fun hHeld => ?_)
              clear hK K
              try simp only [Act.put, List.setIfInBounds_toArray, List.set_cons_zero, List.set_cons_succ]
              refine wpAnyL_ready (rs := [9]) (by kernel_rfl) (by simp) ?_
              refine AllReadyL.cons (o := ⟨some 34, .call { callee := .value (.func 98), args := #[.tmp 30, .tmp 32, .tmp 33], argTypes := #[24, 3, 3] }, 49, "bridge.go:65", #[⟨5, .data⟩, ⟨7, .data⟩, ⟨8, .data⟩, ⟨4, .chain⟩], none⟩) rfl (fun K hK => ?_) AllReadyL.nil
              go_simp
              (with_reducible refine (at_pE _ _ _ P lkr j xlkr hxlkr _ (H2.out.nx (K6.out.nx hHeld)) hn2 HP.out hj16).mono ?_)
              rintro e wz ⟨rfl, kk⟩
              (try replace B12 := B12.nx kk)
              (try replace B13 := B13.nx kk)
              replace hHeld := hHeld.nx kk
              clear kk
              refine hK.out _ _ (hHeld) (fun hHeld => ?_)
              clear hK K
              try simp only [Act.put, List.setIfInBounds_toArray, List.set_cons_zero, List.set_cons_succ]
              refine wpAnyL_ready (rs := [12]) (by kernel_rfl) (by simp) ?_
              refine AllReadyL.consL (o := ⟨none, .store 49 (.tmp 12) (.tmp 29), 0, "bridge.go:65", #[⟨10, .data⟩, ⟨4, .data⟩, ⟨9, .chain⟩, ⟨0, .phase⟩, ⟨1, .phase⟩, ⟨2, .phase⟩, ⟨3, .phase⟩, ⟨4, .phase⟩, { on := 5, ground := Ground.textOnly Departure.lateStores }, { on := 6, ground := Ground.textOnly Departure.lateStores }, { on := 7, ground := Ground.textOnly Departure.lateStores }, { on := 8, ground := Ground.textOnly Departure.lateStores }, { on := 9, ground := Ground.textOnly Departure.lateStoresUnsure }, ⟨10, .phase⟩, ⟨11, .phase⟩], none⟩) rfl (by rfl) (fun K hK => ?_) AllReadyL.nil
              have c0 := B12.cell 0 _ rfl
              have c1 := B12.cell 1 _ rfl
              have c2 := B12.cell 2 _ rfl
              have c3 := B12.cell 3 _ rfl
              have f0 := B12.free 0
              have f1 := B12.free 1
              have f2 := B12.free 2
              have f3 := B12.free 3
              go_simp
              clear c0 c1 c2 c3 f0 f1 f2 f3
              obtain ⟨wk, hwk⟩ : ∃ wk, wk = (((wz.setCell ⟨g12, 0, none⟩ (.int .i64 xlkl.1)).setCell ⟨g12, 1, none⟩ (.int .i64 xlkl.2.1)).setCell ⟨g12, 2, none⟩ (.int .i64 xlkl.2.2.1)).setCell ⟨g12, 3, none⟩ (.int .i64 xlkl.2.2.2) := ⟨_, rfl⟩
              rw [← hwk]
              replace B12 : Blk wk g12 [.int .i64 xlkl.1, .int .i64 xlkl.2.1, .int .i64 xlkl.2.2.1, .int .i64 xlkl.2.2.2] 49 := by rw [hwk]; exact (((B12.set 0 _).set 1 _).set 2 _).set 3 _
              have KB : Exb g12 wz wk := by rw [hwk]; exact ((((Exb.refl g12 wz).setB (p := ⟨g12, 0, none⟩) _ rfl).setB (p := ⟨g12, 1, none⟩) _ rfl).setB (p := ⟨g12, 2, none⟩) _ rfl).setB (p := ⟨g12, 3, none⟩) _ rfl
              replace B13 := B13.nxb (by rcases hne with h | h <;> omega) KB
              replace hHeld := (Exl.nxb (b := g12) (w := w6) ⟨hHeld, zg12⟩ KB).1
              clear KB hwk
              obtain ⟨wz, rfl⟩ : ∃ wz : World, wz = wk := ⟨_, rfl⟩
              refine hK.out _ _ ?_
              clear hK K
              try simp only [Act.put, List.setIfInBounds_toArray, List.set_cons_zero, List.set_cons_succ]
              refine wpAnyL_ready (rs := [13]) (by kernel_rfl) (by simp) ?_
              refine AllReadyL.consL (o := ⟨none, .store 49 (.tmp 13) (.tmp 34), 0, "bridge.go:65", #[⟨11, .data⟩, ⟨9, .data⟩, ⟨12, .chain⟩, ⟨0, .phase⟩, ⟨1, .phase⟩, ⟨2, .phase⟩, ⟨3, .phase⟩, ⟨4, .phase⟩, ⟨5, .phase⟩, ⟨6, .phase⟩, ⟨7, .phase⟩, ⟨8, .phase⟩, ⟨9, .phase⟩, ⟨10, .phase⟩, ⟨11, .phase⟩, ⟨12, .phase⟩], none⟩) rfl (by rfl) (fun K hK => ?_) AllReadyL.nil
              have c0 := B13.cell 0 _ rfl
              have c1 := B13.cell 1 _ rfl
              have c2 := B13.cell 2 _ rfl
              have c3 := B13.cell 3 _ rfl
              have f0 := B13.free 0
              have f1 := B13.free 1
              have f2 := B13.free 2
              have f3 := B13.free 3
              go_simp
              clear c0 c1 c2 c3 f0 f1 f2 f3
              obtain ⟨wk, hwk⟩ : ∃ wk, wk = (((wz.setCell ⟨g13, 0, none⟩ (.int .i64 xlkr.1)).setCell ⟨g13, 1, none⟩ (.int .i64 xlkr.2.1)).setCell ⟨g13, 2, none⟩ (.int .i64 xlkr.2.2.1)).setCell ⟨g13, 3, none⟩ (.int .i64 xlkr.2.2.2) := ⟨_, rfl⟩
              rw [← hwk]
              replace B13 : Blk wk g13 [.int .i64 xlkr.1, .int .i64 xlkr.2.1, .int .i64 xlkr.2.2.1, .int .i64 xlkr.2.2.2] 49 := by rw [hwk]; exact (((B13.set 0 _).set 1 _).set 2 _).set 3 _
              have KB : Exb g13 wz wk := by rw [hwk]; exact ((((Exb.refl g13 wz).setB (p := ⟨g13, 0, none⟩) _ rfl).setB (p := ⟨g13, 1, none⟩) _ rfl).setB (p := ⟨g13, 2, none⟩) _ rfl).setB (p := ⟨g13, 3, none⟩) _ rfl
              replace B12 := B12.nxb (by rcases hne with h | h <;> omega) KB
              replace hHeld := (Exl.nxb (b := g13) (w := w6) ⟨hHeld, zg13⟩ KB).1
              clear KB hwk
              obtain ⟨wz, rfl⟩ : ∃ wz : World, wz = wk := ⟨_, rfl⟩
              refine hK.out _ _ ?_
              clear hK K
              try simp only [Act.put, List.setIfInBounds_toArray, List.set_cons_zero, List.set_cons_succ]
              refine wpAnyL_done (by kernel_rfl) ?_ _
              have CUT := Lib.hid (show NwCut xlkl xlkr w6 (.pointer (some ⟨g12, 0, none⟩)) (.pointer (some ⟨g13, 0, none⟩)) wz from ⟨g12, g13, rfl, rfl, zg12, zg13, B12, B13, hHeld⟩)
              clear B12 B13 hHeld
              go_wp2_with fail
              go_meet
              exact CUT.out
          refine AllReadyL.cons (o := ⟨some 12, .alloc 49, 0, "bridge.go:65", #[], none⟩) rfl (fun K hK => ?_) AllReadyL.nil
          · go_simp
            have z0 := hHeld.size
            obtain ⟨g12, wz, hg12, hwz, B12, kk⟩ := newNr hHeld
            rw [← hg12, ← hwz]
            have zg12 : w6.heap.size ≤ g12 := by omega
            (try have hne : g13 < g12 ∨ g12 < g13 := .inl (by have := B13.lt; omega))
            (try replace B13 := B13.nx kk)
            replace hHeld := hHeld.nx kk
            clear hg12 hwz z0 kk
            refine hK.out _ _ (hHeld) (fun hHeld => ?_)
            clear hK K
            try simp only [Act.put, List.setIfInBounds_toArray, List.set_cons_zero, List.set_cons_succ]
            refine wpAnyL_ready (rs := [4]) (by kernel_rfl) (by simp) ?_
            refine AllReadyL.cons (o := ⟨some 29, .call { callee := .value (.func 98), args := #[.tmp 25, .tmp 27, .tmp 28], argTypes := #[24, 3, 3] }, 49, "bridge.go:65", #[⟨0, .data⟩, ⟨2, .data⟩, ⟨3, .data⟩], none⟩) rfl (fun K hK => ?_) AllReadyL.nil
            go_simp
            (with_reducible refine (at_pE _ _ _ P lkl j xlkl hxlkl _ (H2.out.nx (K6.out.nx hHeld)) hn2 HP.out hj16).mono ?_)
            rintro e wz ⟨rfl, kk⟩
            (try replace B12 := B12.nx kk)
            (try replace B13 := B13.nx kk)
            replace hHeld := hHeld.nx kk
            clear kk
            refine hK.out _ _ (hHeld) (fun hHeld => ?_)
            clear hK K
            try simp only [Act.put, List.setIfInBounds_toArray, List.set_cons_zero, List.set_cons_succ]
            refine wpAnyL_ready (rs := [9]) (by kernel_rfl) (by simp) ?_
            refine AllReadyL.cons (o := ⟨some 34, .call { callee := .value (.func 98), args := #[.tmp 30, .tmp 32, .tmp 33], argTypes := #[24, 3, 3] }, 49, "bridge.go:65", #[⟨5, .data⟩, ⟨7, .data⟩, ⟨8, .data⟩, ⟨4, .chain⟩], none⟩) rfl (fun K hK => ?_) AllReadyL.nil
            go_simp
            (with_reducible refine (at_pE _ _ _ P lkr j xlkr hxlkr _ (H2.out.nx (K6.out.nx hHeld)) hn2 HP.out hj16).mono ?_)
            rintro e wz ⟨rfl, kk⟩
            (try replace B12 := B12.nx kk)
            (try replace B13 := B13.nx kk)
            replace hHeld := hHeld.nx kk
            clear kk
            refine hK.out _ _ (hHeld) (fun hHeld => ?_)
            clear hK K
            try simp only [Act.put, List.setIfInBounds_toArray, List.set_cons_zero, List.set_cons_succ]
            refine wpAnyL_ready (rs := [12]) (by kernel_rfl) (by simp) ?_
            refine AllReadyL.consL (o := ⟨none, .store 49 (.tmp 12) (.tmp 29), 0, "bridge.go:65", #[⟨10, .data⟩, ⟨4, .data⟩, ⟨9, .chain⟩, ⟨0, .phase⟩, ⟨1, .phase⟩, ⟨2, .phase⟩, ⟨3, .phase⟩, ⟨4, .phase⟩, { on := 5, ground := Ground.textOnly Departure.lateStores }, { on := 6, ground := Ground.textOnly Departure.lateStores }, { on := 7, ground := Ground.textOnly Departure.lateStores }, { on := 8, ground := Ground.textOnly Departure.lateStores }, { on := 9, ground := Ground.textOnly Departure.lateStoresUnsure }, ⟨10, .phase⟩, ⟨11, .phase⟩], none⟩) rfl (by rfl) (fun K hK => ?_) AllReadyL.nil
            have c0 := B12.cell 0 _ rfl
            have c1 := B12.cell 1 _ rfl
            have c2 := B12.cell 2 _ rfl
            have c3 := B12.cell 3 _ rfl
            have f0 := B12.free 0
            have f1 := B12.free 1
            have f2 := B12.free 2
            have f3 := B12.free 3
            go_simp
            clear c0 c1 c2 c3 f0 f1 f2 f3
            obtain ⟨wk, hwk⟩ : ∃ wk, wk = (((wz.setCell ⟨g12, 0, none⟩ (.int .i64 xlkl.1)).setCell ⟨g12, 1, none⟩ (.int .i64 xlkl.2.1)).setCell ⟨g12, 2, none⟩ (.int .i64 xlkl.2.2.1)).setCell ⟨g12, 3, none⟩ (.int .i64 xlkl.2.2.2) := ⟨_, rfl⟩
            rw [← hwk]
            replace B12 : Blk wk g12 [.int .i64 xlkl.1, .int .i64 xlkl.2.1, .int .i64 xlkl.2.2.1, .int .i64 xlkl.2.2.2] 49 := by rw [hwk]; exact (((B12.set 0 _).set 1 _).set 2 _).set 3 _
            have KB : Exb g12 wz wk := by rw [hwk]; exact ((((Exb.refl g12 wz).setB (p := ⟨g12, 0, none⟩) _ rfl).setB (p := ⟨g12, 1, none⟩) _ rfl).setB (p := ⟨g12, 2, none⟩) _ rfl).setB (p := ⟨g12, 3, none⟩) _ rfl
            replace B13 := B13.nxb (by rcases hne with h | h <;> omega) KB
            replace hHeld := (Exl.nxb (b := g12) (w := w6) ⟨hHeld, zg12⟩ KB).1
            clear KB hwk
            obtain ⟨wz, rfl⟩ : ∃ wz : World, wz = wk := ⟨_, rfl⟩
            refine hK.out _ _ ?_
            clear hK K
            try simp only [Act.put, List.setIfInBounds_toArray, List.set_cons_zero, List.set_cons_succ]
            refine wpAnyL_ready (rs := [13]) (by kernel_rfl) (by simp) ?_
            refine AllReadyL.consL (o := ⟨none, .store 49 (.tmp 13) (.tmp 34), 0, "bridge.go:65", #[⟨11, .data⟩, ⟨9, .data⟩, ⟨12, .chain⟩, ⟨0, .phase⟩, ⟨1, .phase⟩, ⟨2, .phase⟩, ⟨3, .phase⟩, ⟨4, .phase⟩, ⟨5, .phase⟩, ⟨6, .phase⟩, ⟨7, .phase⟩, ⟨8, .phase⟩, ⟨9, .phase⟩, ⟨10, .phase⟩, ⟨11, .phase⟩, ⟨12, .phase⟩], none⟩) rfl (by rfl) (fun K hK => ?_) AllReadyL.nil
            have c0 := B13.cell 0 _ rfl
            have c1 := B13.cell 1 _ rfl
            have c2 := B13.cell 2 _ rfl
            have c3 := B13.cell 3 _ rfl
            have f0 := B13.free 0
            have f1 := B13.free 1
            have f2 := B13.free 2
            have f3 := B13.free 3
            go_simp
            clear c0 c1 c2 c3 f0 f1 f2 f3
            obtain ⟨wk, hwk⟩ : ∃ wk, wk = (((wz.setCell ⟨g13, 0, none⟩ (.int .i64 xlkr.1)).setCell ⟨g13, 1, none⟩ (.int .i64 xlkr.2.1)).setCell ⟨g13, 2, none⟩ (.int .i64 xlkr.2.2.1)).setCell ⟨g13, 3, none⟩ (.int .i64 xlkr.2.2.2) := ⟨_, rfl⟩
            rw [← hwk]
            replace B13 : Blk wk g13 [.int .i64 xlkr.1, .int .i64 xlkr.2.1, .int .i64 xlkr.2.2.1, .int .i64 xlkr.2.2.2] 49 := by rw [hwk]; exact (((B13.set 0 _).set 1 _).set 2 _).set 3 _
            have KB : Exb g13 wz wk := by rw [hwk]; exact ((((Exb.refl g13 wz).setB (p := ⟨g13, 0, none⟩) _ rfl).setB (p := ⟨g13, 1, none⟩) _ rfl).setB (p := ⟨g13, 2, none⟩) _ rfl).setB (p := ⟨g13, 3, none⟩) _ rfl
            replace B12 := B12.nxb (by rcases hne with h | h <;> omega) KB
            replace hHeld := (Exl.nxb (b := g13) (w := w6) ⟨hHeld, zg13⟩ KB).1
            clear KB hwk
            obtain ⟨wz, rfl⟩ : ∃ wz : World, wz = wk := ⟨_, rfl⟩
            refine hK.out _ _ ?_
            clear hK K
            try simp only [Act.put, List.setIfInBounds_toArray, List.set_cons_zero, List.set_cons_succ]
            refine wpAnyL_done (by kernel_rfl) ?_ _
            have CUT := Lib.hid (show NwCut xlkl xlkr w6 (.pointer (some ⟨g12, 0, none⟩)) (.pointer (some ⟨g13, 0, none⟩)) wz from ⟨g12, g13, rfl, rfl, zg12, zg13, B12, B13, hHeld⟩)
            clear B12 B13 hHeld
            go_wp2_with fail
            go_meet
            exact CUT.out
      case rest =>
        obtain ⟨g12, g13, rfl, rfl, zg12, zg13, B12, B13, k6⟩ := hcut
        rename World => wk
        have K := Lib.hid (KI.out.nx k6)
        replace OWN := Lib.hid (OWN.out.nx k6)
        have q0 := (B6h.out.nx K.out).cell 0 _ rfl
        have B11 := B11h.out.nx k6
        have u0 := B11.cell 0 _ rfl
        have v0 := B12.cell 0 _ rfl
        have v1 := B12.cell 1 _ rfl
        have hjz : (0 : Int) ≤ (j : Int) := by omega
        have hjh : (j : Int) < (h : Int) := by omega
        have n12 : ¬ g12 = g9 := by omega
        have n13 : ¬ g13 = g9 := by omega
        have Y0 := Lib.hid (rowB_at F hjm)
        have SE := Lib.hid (rowB_set F hjm)
        clear k6 hxlkl hxlkr
        obtain ⟨PA, hPA⟩ : ∃ x, pairB N p.id lkl j xlkl.1 xlkl.2.1 = x := ⟨_, rfl⟩
        obtain ⟨PB, hPB⟩ : ∃ x, pairB N p.id lkr j xlkr.2.2.1 xlkr.2.2.2 = x := ⟨_, rfl⟩
        replace ST : Hid (F j = (PA.1, PA.2, PB.1, PB.2)) := Lib.hid (by rw [ST.out]; simp only; rw [hPA, hPB])
        go_wp2_with fail
        (with_reducible refine (pair_p _ _ _ N p.id lkl j xlkl.1 xlkl.2.1 _ (H1.out.nx K.out) hn HW.out hj16).mono ?_)
        rintro e w7 ⟨rfl, kk⟩
        rw [hPA]
        clear hPA q0 u0 v0 v1
        replace OWN := Lib.hid (OWN.out.nx kk)
        replace K := Lib.hid (K.out.nx kk)
        replace B11 := Lib.hid (B11.nx kk)
        replace B12 := B12.nx kk
        replace B13 := Lib.hid (B13.nx kk)
        clear kk B12
        have ⟨⟨s0, s1⟩, ⟨f0, f1⟩, OW⟩ := near_setL OWN.out Y0.out PA.1 PA.2
        have KB : Exb g9 w7 ((w7.setCell ⟨g9, j * 4, none⟩ (.int .i64 PA.1)).setCell ⟨g9, j * 4 + 1, none⟩ (.int .i64 PA.2)) := ((Exb.refl g9 w7).setB (p := ⟨g9, j * 4, none⟩) _ rfl).setB (p := ⟨g9, j * 4 + 1, none⟩) _ rfl
        have KS : Ex w2 ((w7.setCell ⟨g9, j * 4, none⟩ (.int .i64 PA.1)).setCell ⟨g9, j * 4 + 1, none⟩ (.int .i64 PA.2)) := (K.out.setNew (p := ⟨g9, j * 4, none⟩) _ zg9).setNew (p := ⟨g9, j * 4 + 1, none⟩) _ zg9
        replace OW := Lib.hid OW
        replace KB := Lib.hid KB
        replace KS := Lib.hid KS
        go_upto_region 8 with fail
        obtain ⟨w8, hw8⟩ : ∃ w8, w8 = (w7.setCell ⟨g9, j * 4, none⟩ (.int .i64 PA.1)).setCell ⟨g9, j * 4 + 1, none⟩ (.int .i64 PA.2) := ⟨_, rfl⟩
        rw [← hw8] at OW KB KS ⊢
        clear hw8 s0 s1 f0 f1 OWN K
        have OWN := OW
        have K := KS
        replace B11 := B11.out.nxb ne911 KB.out
        replace B13 := B13.out.nxb n13 KB.out
        have q0 := (B6h.out.nx K.out).cell 0 _ rfl
        have u0 := B11.cell 1 _ rfl
        have v0 := B13.cell 2 _ rfl
        have v1 := B13.cell 3 _ rfl
        clear KB KS OW B11 B13
        have Y1 : Hid (((rowB F h j).set j (PA.1, PA.2, 0, 0))[j]? = some (PA.1, PA.2, 0, 0)) := Lib.hid (List.getElem?_set_self (List.getElem?_eq_some_iff.1 Y0.out).1)
        go_wp2_with fail
        (with_reducible refine (pair_p _ _ _ N p.id lkr j xlkr.2.2.1 xlkr.2.2.2 _ (H1.out.nx K.out) hn HW.out hj16).mono ?_)
        rintro e w9 ⟨rfl, kk⟩
        rw [hPB]
        clear hPB q0 u0 v0 v1
        replace OWN := Lib.hid (OWN.out.nx kk)
        replace K := Lib.hid (K.out.nx kk)
        clear kk
        have ⟨⟨s0, s1⟩, ⟨f0, f1⟩, OW⟩ := near_setR OWN.out Y1.out PB.1 PB.2
        have KB : Exb g9 w9 ((w9.setCell ⟨g9, j * 4 + 2, none⟩ (.int .i64 PB.1)).setCell ⟨g9, j * 4 + 3, none⟩ (.int .i64 PB.2)) := ((Exb.refl g9 w9).setB (p := ⟨g9, j * 4 + 2, none⟩) _ rfl).setB (p := ⟨g9, j * 4 + 3, none⟩) _ rfl
        have KS : Ex w2 ((w9.setCell ⟨g9, j * 4 + 2, none⟩ (.int .i64 PB.1)).setCell ⟨g9, j * 4 + 3, none⟩ (.int .i64 PB.2)) := (K.out.setNew (p := ⟨g9, j * 4 + 2, none⟩) _ zg9).setNew (p := ⟨g9, j * 4 + 3, none⟩) _ zg9
        replace OW := Lib.hid OW
        replace KB := Lib.hid KB
        replace KS := Lib.hid KS
        clear KB
        replace OW : Hid (OwnL 4 encNr 49 w2.heap.size ((w9.setCell ⟨g9, j * 4 + 2, none⟩ (.int .i64 PB.1)).setCell ⟨g9, j * 4 + 3, none⟩ (.int .i64 PB.2)) (.slice (some ⟨g9, 0, none⟩) h h) (rowB F h (j + 1))) := Lib.hid (by
          have := OW.out
          rw [List.set_set] at this
          rw [← SE.out, ST.out]
          exact this)
        clear OWN K Y0 Y1 ST SE
        go_wp2_with fail
        exact ⟨⟨j + 1, by omega, by go_num, OW.out, KS.out⟩, by simp [intOf]; omega⟩
    · obtain rfl : j = h := by omega
      rw [show F = stepB N (peerN P) p from funext fun i => (FF.out i).symm] at own
      have FO := Lib.hid (own.base z2)
      have FE := Lib.hid (EX.out.nx ki)
      clear own ki hj hjm
      go_wp2_with fail
      go_ret
      exact ⟨_, rfl, FO.out, FE.out⟩
end Go.Proofs.YtbnbjiddffihoaaGreatDoor

/- What the walks of chapter 16 use, in plain Lean. -/
namespace Go.Proofs.YtbnbjiddffihoaaGreatDoor
open Go.RowKit

section
variable {N : List Nd}
end
end Go.Proofs.YtbnbjiddffihoaaGreatDoor

/- Normal of the package linear. -/
namespace Go.Proofs.YtbnbjiddffihoaaGreatDoor
open Go.RowKit

theorem norm1_p (gx : Nat) (x : Nd) (w : World) (hx : Blk w gx [.int .i64 x.id, .string x.key, .int .u32 x.word] 57) : PredI 75 #[.pointer (some ⟨gx, 0, none⟩)] x.id w := by
  intro p h1 h2 w' kk
  have q0 := (hx.nx kk).cell 0 _ rfl
  have hg := (hx.nx kk).lt
  have hne : ¬ gx = w'.heap.size := by omega
  obtain ⟨a1, n1, c1⟩ := h1
  obtain ⟨a2, n2, c2⟩ := h2
  simp only [Hdr.val]
  clear hx kk
  go_enter Tryz.func75, Tryz.ntmps75
  go_wp2
  go_ret
  exact ⟨rfl, (Ex.refl _).alloc _⟩
def NoRel (S : List Nd) (P : List Pr) (w : World) (o i : Value) (wr : World) : Prop :=
  ∃ (j : Nat) (qs : List PQ), j ≤ S.length ∧ i = .int .i64 j ∧ OwnPr w.heap.size wr o qs ((S.take j).map fun x => peerN P x.id) ∧ Ex w wr
theorem no_snoc {S : List Nd} {P : List Pr} {j : Nat} {x : Nd} (hy : S[j]? = some x) : ((S.take (j + 1)).map fun x => peerN P x.id) = ((S.take j).map fun x => peerN P x.id) ++ [peerN P x.id] := by
  rw [take_snocN S j x hy, List.map_append]; rfl
set_option maxRecDepth 100000 in
set_option maxHeartbeats 8000000 in
theorem normal_p (a : Option Addr) (n c : Nat) (N : List Nd) (a2 : Option Addr) (n2 c2 : Nat) (P : List Pr) (w : World) (h : Sl 3 encN w a n N) (hn : n ≤ 1000) (hc : n ≤ c) (hm : c ≤ maxLen) (h2 : PL w a2 n2 P) (hn2 : n2 ≤ 4000000000000000000) (hP : SmallP P) :
    Calls Tryz.prog 39 #[.slice a n c, .slice a2 n2 c2] w (PlPost (normalN N P) w) := by
  have HL := Lib.hid h.len
  have HP := Lib.hid hP
  clear hP
  have EG : Hid (∀ args w, (callFunc 75 args).run Tryz.prog w = .ok (.enter 75 args) w) := Lib.hid (enters_of Tryz.func75 (by kernel_rfl) rfl)
  have H2 := Lib.hid h2
  clear h2
  go_enter Tryz.func39, Tryz.ntmps39
  go_wp2_with fail
  (with_reducible refine (check_p _ _ _ _ _ h (by omega) hc hm).mono ?_)
  rintro e w0 ⟨rfl, kk⟩
  replace h := h.nx kk
  have K0 := Lib.hid kk
  clear kk
  by_cases hck : checkN N = 0
  case neg =>
    have d1 : (checkN N != 0) = true := by simpa using hck
    have E0 : Hid (normalN N P = []) := Lib.hid (by unfold normalN; rw [if_neg hck])
    clear h hck
    go_wp2_with fail
    go_ret
    exact ⟨_, [], rfl, by rw [E0.out]; exact OwnP.nil _ _ _ _ _, K0.out⟩
  have d1 : (checkN N != 0) = false := by simpa using hck
  have E0 : Hid (normalN N P = (sortN N).map fun x => peerN P x.id) := Lib.hid (by unfold normalN; rw [if_pos hck])
  have HC := Lib.hid hck
  clear hck
  go_wp2_with fail
  (with_reducible refine (sort_p _ _ _ _ _ h hn).mono ?_)
  rintro e w1 ⟨v, S, rfl, OS, ⟨hp, hsrt⟩, kk⟩
  have hSe : S = sortN N := sortN_unique (check_keys HC.out) hp hsrt
  subst hSe
  obtain ⟨a1, c1, rfl, S1, _, _⟩ := sorted_own HC.out OS
  rw [HL.out] at S1 ⊢
  have hSl : (sortN N).length = n := by rw [S1.len]
  generalize sortN N = S at S1 hSl E0 ⊢
  have S1 := Lib.hid S1
  have K1 := Lib.hid (K0.out.nx kk)
  have HSL := Lib.hid hSl
  have z01 := K1.out.size
  clear h OS kk hp hsrt hSl
  go_wp2_with fail
  go_loopw [5, 16] (fun o i wr => NoRel S P w1 o i wr) (fun _ i _ => n - (intOf i).toNat)
  case atStart => exact ⟨0, [], by omega, rfl, OwnP.nil _ _ _ _ _, Ex.refl _⟩
  case round =>
    obtain ⟨j, qs, hj, rfl, own, ki⟩ := hrel
    rw [HSL.out] at hj
    obtain ⟨wi, rfl⟩ : ∃ wi : World, wi = wr := ⟨_, rfl⟩
    by_cases hjm : j < n
    · obtain ⟨x3, o3, x, rfl, hx3, hy, hc3⟩ := (S1.out.nx ki).at hjm
      have e0 : wi.cell? ⟨x3, o3 + j * 3, none⟩ = some (.int .i64 x.id) := hc3 0 _ rfl
      have e1 : wi.cell? ⟨x3, o3 + j * 3 + 1, none⟩ = some (.string x.key) := hc3 1 _ rfl
      have e2 : wi.cell? ⟨x3, o3 + j * 3 + 1 + 1, none⟩ = some (.int .u32 x.word) := by simpa [Nat.add_assoc] using hc3 2 _ rfl
      have SN := Lib.hid (no_snoc (P := P) hy)
      have hql : qs.length = j := by rw [own.2.1, List.length_map, List.length_take, HSL.out]; omega
      have hwi := ki.size
      have KI := Lib.hid ki
      have OWN := Lib.hid own
      clear hy own ki hc3
      have B7 := Blk.new wi [.int .i64 x.id, .string x.key, .int .u32 x.word] 57
      have kk := Ex.new wi (.cells #[.int .i64 x.id, .string x.key, .int .u32 x.word] 57)
      obtain ⟨w4, hw4⟩ : ∃ w4, w4 = wi.alloc (.cells #[.int .i64 x.id, .string x.key, .int .u32 x.word] 57) := ⟨_, rfl⟩
      obtain ⟨g7, hg7⟩ : ∃ g7, g7 = wi.heap.size := ⟨_, rfl⟩
      replace B7 : Blk w4 g7 [.int .i64 x.id, .string x.key, .int .u32 x.word] 57 := by rw [hw4, hg7]; exact B7
      rw [← hw4] at kk
      have Hw4 := Lib.hid hw4
      have Hg7 := Lib.hid hg7
      have zg7 : wi.heap.size ≤ g7 := by omega
      have K4 := Lib.hid kk
      clear kk hw4 hg7
      go_upto_region 7 with fail
      rw [← Hg7.out, ← Hw4.out]
      clear Hg7 Hw4
      have q0 := B7.cell 0 _ rfl
      clear e0 e1 e2
      have hz4 := K4.out.size
      have hl7 := B7.lt
      have B8 := Blk.new w4 [.int .i64 x.id, .slice none 0 0, .int .i64 0, .int .i64 0, .slice none 0 0] 45
      have kk := Ex.new w4 (.cells #[.int .i64 x.id, .slice none 0 0, .int .i64 0, .int .i64 0, .slice none 0 0] 45)
      obtain ⟨w5, hw5⟩ : ∃ w5, w5 = w4.alloc (.cells #[.int .i64 x.id, .slice none 0 0, .int .i64 0, .int .i64 0, .slice none 0 0] 45) := ⟨_, rfl⟩
      obtain ⟨g8, hg8⟩ : ∃ g8, g8 = w4.heap.size := ⟨_, rfl⟩
      replace B8 : Blk w5 g8 [.int .i64 x.id, .slice none 0 0, .int .i64 0, .int .i64 0, .slice none 0 0] 45 := by rw [hw5, hg8]; exact B8
      rw [← hw5] at kk
      have Hw5 := Lib.hid hw5
      have Hg8 := Lib.hid hg8
      replace B7 := B7.nx kk
      replace K4 := Lib.hid (K4.out.nx kk)
      have zg8 : wi.heap.size ≤ g8 := by omega
      clear kk hw5 hg8
      go_upto_region 8 with fail
      rw [← Hg8.out, ← Hw5.out]
      clear Hg8 Hw5
      clear q0
      have PI := norm1_p g7 x w5 B7
      replace B8 := Lib.hid B8
      clear B7
      go_wp2_with fail
      (with_reducible refine (idxf_pr _ _ _ EG.out _ _ _ P _ (H2.out.nx (K1.out.nx (KI.out.nx K4.out))) hn2 PI).mono ?_)
      rintro e w6 ⟨rfl, kk⟩
      replace B8 := Lib.hid (B8.out.nx kk)
      replace K4 := Lib.hid (K4.out.nx kk)
      have HG8 := Lib.hid B8.out.lt
      clear kk PI
      rcases idxQ_cases P x.id with ⟨k, y, hq, hkl, hyk, hpy, -⟩ | ⟨hq, hpy⟩
      · have hk2 : k < n2 := by have := H2.out.len; omega
        obtain ⟨x5, o5, b1, m1, d1, b4, m4, d4, y', rfl, hx5, hy', e0, e1, e2, e3, e4, s1, s4⟩ := (H2.out.nx (K1.out.nx KI.out)).rd hk2
        obtain rfl : y = y' := Option.some.inj (hyk.symm.trans hy')
        have HPY := Lib.hid hpy
        have hyP := HP.out y (List.mem_of_getElem? hyk)
        have hl1 : m1 ≤ 17592186044416 := by have := s1.len; omega
        have hl4 : m4 ≤ 4398046511104 := by have := s4.len; omega
        have S1y := Lib.hid s1
        have S4y := Lib.hid s4
        have c0 := Chg.cellv K4.out e0 hx5
        have c1 := Chg.cellv K4.out e1 hx5
        have c2 := Chg.cellv K4.out e2 hx5
        have c3 := Chg.cellv K4.out e3 hx5
        have c4 := Chg.cellv K4.out e4 hx5
        have f0 := B8.out.free 0
        have f1 := B8.out.free 1
        have f2 := B8.out.free 2
        have f3 := B8.out.free 3
        have f4 := B8.out.free 4
        have r0 := B8.out.cell 0 _ rfl
        have r1 := B8.out.cell 1 _ rfl
        have r2 := B8.out.cell 2 _ rfl
        have r3 := B8.out.cell 3 _ rfl
        have r4 := B8.out.cell 4 _ rfl
        have hk0 : (0 : Int) ≤ (k : Int) := by omega
        rw [hq]
        clear hq hkl hyk hpy hyP e0 e1 e2 e3 e4 s1 s4 hy' hx5
        go_upto_region 11 with fail
        have KB0 : Exb g8 w6 (((((w6.setCell ⟨g8, 0, none⟩ (.int .i64 y.id)).setCell ⟨g8, 1, none⟩ (.slice b1 m1 d1)).setCell ⟨g8, 2, none⟩ (.int .i64 y.left)).setCell ⟨g8, 3, none⟩ (.int .i64 y.right)).setCell ⟨g8, 4, none⟩ (.slice b4 m4 d4)) :=
          (((((Exb.refl g8 w6).setB (p := ⟨g8, 0, none⟩) _ rfl).setB (p := ⟨g8, 1, none⟩) _ rfl).setB (p := ⟨g8, 2, none⟩) _ rfl).setB (p := ⟨g8, 3, none⟩) _ rfl).setB (p := ⟨g8, 4, none⟩) _ rfl
        have BS0 := ((((B8.out.set 0 (.int .i64 y.id)).set 1 (.slice b1 m1 d1)).set 2 (.int .i64 y.left)).set 3 (.int .i64 y.right)).set 4 (.slice b4 m4 d4)
        obtain ⟨w7, hw7⟩ : ∃ w7, w7 = (((((w6.setCell ⟨g8, 0, none⟩ (.int .i64 y.id)).setCell ⟨g8, 1, none⟩ (.slice b1 m1 d1)).setCell ⟨g8, 2, none⟩ (.int .i64 y.left)).setCell ⟨g8, 3, none⟩ (.int .i64 y.right)).setCell ⟨g8, 4, none⟩ (.slice b4 m4 d4)) := ⟨_, rfl⟩
        rw [← hw7] at KB0 BS0
        have BS : Blk w7 g8 [.int .i64 y.id, .slice b1 m1 d1, .int .i64 y.left, .int .i64 y.right, .slice b4 m4 d4] 45 := BS0
        have K8 := Lib.hid (Exl.nxb (b := g8) (w := wi) ⟨K4.out, zg8⟩ KB0).1
        rw [← hw7]
        have hg8l := BS.lt
        have B8s := Lib.hid BS
        have hz8 := K8.out.size
        clear hw7 KB0 BS0 BS c0 c1 c2 c3 c4 f0 f1 f2 f3 f4 r0 r1 r2 r3 r4 B8 K4
        refine wp_region_late_drew (S := Ex w7) [7, 8, 9] (by kernel_rfl) ((Ex.refl w7).drew) (fun hHeld => ?_)
        refine wpAnyL_take (i := 0) (oi := ⟨some 32, .fieldAddr 45 (.tmp 8) 1, 0, "linear.go:23", #[], none⟩) (v := ?_) rfl (by kernel_rfl) (by kernel_rfl) (by kernel_rfl) (fun _ _ _ h => h) (Or.inl ⟨by rfl, ?hyr1x0q1⟩) (by kernel_rfl) (by kernel_rfl) (by assumption) ?restr1x0q1
        case hyr1x0q1 => intro wq hSw; (go_simp); (try with_reducible rfl)
        try simp only [Act.put, List.setIfInBounds_toArray, List.set_cons_zero, List.set_cons_succ]
        refine wpAnyL_take (i := 1) (oi := ⟨some 33, .load 22 (.tmp 32), 22, "linear.go:23", #[⟨0, .data⟩], none⟩) (v := ?_) rfl (by kernel_rfl) (by kernel_rfl) (by kernel_rfl) (fun _ _ _ h => h) (Or.inl ⟨by rfl, ?hyr1x1q4⟩) (by kernel_rfl) (by kernel_rfl) (by assumption) ?restr1x1q4
        case hyr1x1q4 => intro wq hSw; (have cq := (B8s.out.nx hSw).cell 1 _ rfl; go_simp); (try with_reducible rfl)
        try simp only [Act.put, List.setIfInBounds_toArray, List.set_cons_zero, List.set_cons_succ]
        refine wpAnyL_take (i := 3) (oi := ⟨some 35, .fieldAddr 45 (.tmp 8) 4, 0, "linear.go:23", #[], none⟩) (v := ?_) rfl (by kernel_rfl) (by kernel_rfl) (by kernel_rfl) (fun _ _ _ h => h) (Or.inl ⟨by rfl, ?hyr1x3q7⟩) (by kernel_rfl) (by kernel_rfl) (by assumption) ?restr1x3q7
        case hyr1x3q7 => intro wq hSw; (go_simp); (try with_reducible rfl)
        try simp only [Act.put, List.setIfInBounds_toArray, List.set_cons_zero, List.set_cons_succ]
        refine wpAnyL_take (i := 4) (oi := ⟨some 36, .load 43 (.tmp 35), 43, "linear.go:23", #[⟨3, .data⟩], none⟩) (v := ?_) rfl (by kernel_rfl) (by kernel_rfl) (by kernel_rfl) (fun _ _ _ h => h) (Or.inl ⟨by rfl, ?hyr1x4q10⟩) (by kernel_rfl) (by kernel_rfl) (by assumption) ?restr1x4q10
        case hyr1x4q10 => intro wq hSw; (have cq := (B8s.out.nx hSw).cell 4 _ rfl; go_simp); (try with_reducible rfl)
        try simp only [Act.put, List.setIfInBounds_toArray, List.set_cons_zero, List.set_cons_succ]
        refine wpAnyL_ready (rs := [2]) (by kernel_rfl) (by simp) ?_
        refine AllReadyL.cons (o := ⟨some 34, .call { callee := .value (.func 60), args := #[.tmp 33], argTypes := #[22] }, 22, "linear.go:23", #[⟨1, .data⟩], none⟩) rfl (fun K hK => ?_) AllReadyL.nil
        go_simp
        (with_reducible refine (clone_i _ _ _ _ _ ((S1y.out.nx K8.out).nx hHeld) hl1).mono ?_)
        rintro e wc ⟨vc, rfl, own2, kk⟩
        (try replace own5 := own5.nx kk)
        obtain ⟨A2, C2, rfl, _, _, _, _⟩ := own2.slf (fun _ => rfl)
        replace own2 := own2.base hHeld.size
        replace hHeld := hHeld.nx kk
        clear kk
        have BQ := B8s.out.nx hHeld
        have KZ := hHeld.b g8
        refine hK.out _ _ (hHeld) (fun hHeld => ?_)
        clear hK K
        try simp only [Act.put, List.setIfInBounds_toArray, List.set_cons_zero, List.set_cons_succ]
        refine wpAnyL_take (i := 6) (oi := ⟨some 38, .fieldAddr 45 (.tmp 8) 1, 0, "linear.go:23", #[⟨0, .phase⟩, ⟨1, .phase⟩, ⟨2, .phase⟩, ⟨3, .phase⟩, ⟨4, .phase⟩, { on := 5, ground := Ground.textOnly Departure.lateStoresUnsure }], none⟩) (v := ?_) rfl (by kernel_rfl) (by kernel_rfl) (by kernel_rfl) (fun _ _ _ h => h) (Or.inl ⟨by rfl, ?hyr1x6q28⟩) (by kernel_rfl) (by kernel_rfl) (by assumption) ?restr1x6q28
        case hyr1x6q28 => intro wq hSw; (go_simp); (try with_reducible rfl)
        try simp only [Act.put, List.setIfInBounds_toArray, List.set_cons_zero, List.set_cons_succ]
        refine wpAnyL_ready (rs := [5]) (by kernel_rfl) (by simp) ?_
        refine AllReadyL.cons (o := ⟨some 37, .call { callee := .value (.func 76), args := #[.tmp 36], argTypes := #[43] }, 43, "linear.go:23", #[⟨4, .data⟩, ⟨2, .chain⟩], none⟩) rfl (fun K hK => ?_) AllReadyL.nil
        go_simp
        (with_reducible refine (clone_nr _ _ _ _ _ ((S4y.out.nx K8.out).nx hHeld) hl4).mono ?_)
        rintro e wc ⟨vc, rfl, own5, kk⟩
        (try replace own2 := own2.nx kk)
        obtain ⟨A5, C5, rfl, _, _, _, _⟩ := own5.slf (fun _ => rfl)
        replace own5 := own5.base hHeld.size
        replace hHeld := hHeld.nx kk
        clear kk
        have BQ := B8s.out.nx hHeld
        have KZ := hHeld.b g8
        refine hK.out _ _ (hHeld) (fun hHeld => ?_)
        clear hK K
        try simp only [Act.put, List.setIfInBounds_toArray, List.set_cons_zero, List.set_cons_succ]
        refine wpAnyL_ready (rs := [7]) (by kernel_rfl) (by simp) ?_
        refine AllReadyL.consL (o := ⟨none, .store 22 (.tmp 38) (.tmp 34), 0, "linear.go:23", #[⟨6, .data⟩, ⟨2, .data⟩, ⟨5, .chain⟩, ⟨0, .phase⟩, ⟨1, .phase⟩, ⟨2, .phase⟩, ⟨3, .phase⟩, ⟨4, .phase⟩, { on := 5, ground := Ground.textOnly Departure.lateStoresUnsure }], none⟩) rfl (by rfl) (fun K hK => ?_) AllReadyL.nil
        have cq := BQ.cell 1 _ rfl
        have fq := BQ.free 1
        go_simp
        clear cq fq
        replace BQ := BQ.set 1 (.slice A2 y.known.length C2)
        replace own2 := own2.nxb hg8l ((Exb.refl g8 _).setB (p := ⟨g8, 1, none⟩) (.slice A2 y.known.length C2) rfl)
        replace own5 := own5.nxb hg8l ((Exb.refl g8 _).setB (p := ⟨g8, 1, none⟩) (.slice A2 y.known.length C2) rfl)
        replace KZ := KZ.setB (p := ⟨g8, 1, none⟩) (.slice A2 y.known.length C2) rfl
        refine hK.out _ _ ?_
        clear hK K
        try simp only [Act.put, List.setIfInBounds_toArray, List.set_cons_zero, List.set_cons_succ]
        refine wpAnyL_ready (rs := [8]) (by kernel_rfl) (by simp) ?_
        refine AllReadyL.consL (o := ⟨some 39, .fieldAddr 45 (.tmp 8) 4, 0, "linear.go:23", #[⟨0, .phase⟩, ⟨1, .phase⟩, ⟨2, .phase⟩, ⟨3, .phase⟩, ⟨4, .phase⟩, ⟨5, .phase⟩, ⟨6, .phase⟩, ⟨7, .phase⟩], none⟩) rfl (by rfl) (fun K hK => ?_) AllReadyL.nil
        go_simp
        refine hK.out _ _ ?_
        clear hK K
        try simp only [Act.put, List.setIfInBounds_toArray, List.set_cons_zero, List.set_cons_succ]
        refine wpAnyL_ready (rs := [9]) (by kernel_rfl) (by simp) ?_
        refine AllReadyL.consL (o := ⟨none, .store 43 (.tmp 39) (.tmp 37), 0, "linear.go:23", #[⟨8, .data⟩, ⟨5, .data⟩, ⟨7, .chain⟩, ⟨0, .phase⟩, ⟨1, .phase⟩, ⟨2, .phase⟩, ⟨3, .phase⟩, ⟨4, .phase⟩, ⟨5, .phase⟩, ⟨6, .phase⟩, ⟨7, .phase⟩], none⟩) rfl (by rfl) (fun K hK => ?_) AllReadyL.nil
        have cq := BQ.cell 4 _ rfl
        have fq := BQ.free 4
        go_simp
        clear cq fq
        replace BQ := BQ.set 4 (.slice A5 y.near.length C5)
        replace own2 := own2.nxb hg8l ((Exb.refl g8 _).setB (p := ⟨g8, 4, none⟩) (.slice A5 y.near.length C5) rfl)
        replace own5 := own5.nxb hg8l ((Exb.refl g8 _).setB (p := ⟨g8, 4, none⟩) (.slice A5 y.near.length C5) rfl)
        replace KZ := KZ.setB (p := ⟨g8, 4, none⟩) (.slice A5 y.near.length C5) rfl
        refine hK.out _ _ ?_
        clear hK K
        try simp only [Act.put, List.setIfInBounds_toArray, List.set_cons_zero, List.set_cons_succ]
        refine wpAnyL_done (by kernel_rfl) ?_ _
        obtain ⟨wz, hwz⟩ : ∃ wz, wz = (wc.setCell ⟨g8, 1, none⟩ (.slice A2 y.known.length C2)).setCell ⟨g8, 4, none⟩ (.slice A5 y.near.length C5) := ⟨_, rfl⟩
        rw [← hwz] at BQ own2 own5 KZ ⊢
        clear hwz
        have BF : Blk wz g8 [.int .i64 y.id, .slice A2 y.known.length C2, .int .i64 y.left, .int .i64 y.right, .slice A5 y.near.length C5] 45 := BQ
        have p0 := BF.cell 0 _ rfl
        have p1 := BF.cell 1 _ rfl
        have p2 := BF.cell 2 _ rfl
        have p3 := BF.cell 3 _ rfl
        have p4 := BF.cell 4 _ rfl
        have KW := Lib.hid (Exl.nxb (b := g8) (w := wi) ⟨K8.out, zg8⟩ KZ).1
        have OP := Lib.hid (OWN.out.nx KW.out)
        have zw := KW.out.size
        replace own2 := Lib.hid (own2.base hz8)
        replace own5 := Lib.hid (own5.base hz8)
        have hw3 : w1.heap.size ≤ wi.heap.size := hwi
        have KN := KW.out.nx (Ex.new _ (.cells #[.int .i64 y.id, .slice A2 y.known.length C2, .int .i64 y.left, .int .i64 y.right, .slice A5 y.near.length C5] 45))
        have zn := Nat.le_trans hw3 KN.size
        clear BQ BF KZ hHeld
        go_wp2_with (at_builtin; (refine wpList_append_W (enc := encQ) _ rfl _ _ 24 rfl w1.heap.size 45 (.agg #[.int .i64 0, .slice none 0 0, .int .i64 0, .int .i64 0, .slice none 0 0]) 5 72 Tryz.underlying24 Tryz.infoPr rfl (by omega) (by omega) _ qs (OP.out.nx (Ex.new _ _)).row rfl _ 1 1 [(y.nums, (A2, y.known.length, C2), (A5, y.near.length, C5))] (Sl.lit _ rfl rfl encQ_len rfl) encQ_len encQ_one rfl (by omega) (by omega) zn ?_); intro v9 w9 own9 ch0 ch1 _)
        have RR := OWN.out.app (by decide) (by decide) hw3 KN (own2.out.nx (Ex.new _ _)) (own5.out.nx (Ex.new _ _)) own9 ch0
        exact ⟨⟨j + 1, _, by rw [HSL.out]; omega, by go_num, by rw [SN.out, HPY.out]; exact RR, Chg.trans (KI.out.nx KN) ch1⟩, by simp [intOf]; omega⟩
      · have HPY := Lib.hid hpy
        have hw3 : w1.heap.size ≤ wi.heap.size := hwi
        have r0 := B8.out.cell 0 _ rfl
        have r1 := B8.out.cell 1 _ rfl
        have r2 := B8.out.cell 2 _ rfl
        have r3 := B8.out.cell 3 _ rfl
        have r4 := B8.out.cell 4 _ rfl
        have KN := K4.out.nx (Ex.new _ (.cells #[.int .i64 x.id, .slice none 0 0, .int .i64 0, .int .i64 0, .slice none 0 0] 45))
        have zn := Nat.le_trans hw3 KN.size
        have OP := Lib.hid (OWN.out.nx K4.out)
        rw [hq]
        clear hq hpy
        go_wp2_with (at_builtin; (refine wpList_append_W (enc := encQ) _ rfl _ _ 24 rfl w1.heap.size 45 (.agg #[.int .i64 0, .slice none 0 0, .int .i64 0, .int .i64 0, .slice none 0 0]) 5 72 Tryz.underlying24 Tryz.infoPr rfl (by omega) (by omega) _ qs (OP.out.nx (Ex.new _ _)).row rfl _ 1 1 [((x.id, 0, 0), (none, 0, 0), (none, 0, 0))] (Sl.lit _ rfl rfl encQ_len rfl) encQ_len encQ_one rfl (by omega) (by omega) zn ?_); intro v9 w9 own9 ch0 ch1 _)
        have RR := OWN.out.app (p := ⟨x.id, 0, 0, [], []⟩) (hk := (none, 0, 0)) (hn := (none, 0, 0)) (by decide) (by decide) hw3 KN (OwnL.nil _ _ _ _ _) (OwnL.nil _ _ _ _ _) own9 ch0
        exact ⟨⟨j + 1, _, by rw [HSL.out]; omega, by go_num, by rw [SN.out, HPY.out]; exact RR, Chg.trans (KI.out.nx KN) ch1⟩, by simp [intOf]; omega⟩
    · obtain rfl : j = n := by omega
      rw [List.take_of_length_le (by rw [HSL.out]; exact Nat.le_refl _)] at own
      have OWN := Lib.hid (own.lower z01)
      have KI := Lib.hid (K1.out.nx ki)
      clear own ki hj hjm
      go_wp2_with fail
      go_ret
      exact ⟨_, qs, rfl, by rw [E0.out]; exact OWN.out, KI.out⟩
end Go.Proofs.YtbnbjiddffihoaaGreatDoor

/- slices.Insert of one number into a row of the call's own, by the shelf's contracts; slices.Index and IndexFunc over numbers. -/
namespace Go.Proofs.YtbnbjiddffihoaaGreatDoor
open Go.RowKit Go.Shelf

end Go.Proofs.YtbnbjiddffihoaaGreatDoor

/- The row of a peer, of the package linear. -/
namespace Go.Proofs.YtbnbjiddffihoaaGreatDoor
open Go.RowKit

end Go.Proofs.YtbnbjiddffihoaaGreatDoor

/- Keep of the package linear. -/
namespace Go.Proofs.YtbnbjiddffihoaaGreatDoor
open Go.RowKit

end Go.Proofs.YtbnbjiddffihoaaGreatDoor

/- Intros of the package linear. -/
namespace Go.Proofs.YtbnbjiddffihoaaGreatDoor
open Go.RowKit

end Go.Proofs.YtbnbjiddffihoaaGreatDoor

/- Connected of the package redundant. -/
namespace Go.Proofs.YtbnbjiddffihoaaGreatDoor
open Go.RowKit Go.Maps

def AccM (β lo hi bm : Nat) (w6 wr : World) (f : Int → Value) : Prop :=
  Chg (fun k => k < hi ∧ k ≠ bm ∧ (k < β ∨ lo ≤ k)) w6 wr ∧ hi ≤ wr.heap.size ∧ ∀ v g, (f v).ownBlock = some g → g < lo ∨ hi ≤ g
section
variable {β lo hi bm : Nat} {w6 wr w9 : World} {f : Int → Value}
theorem AccM.sl {α : Type} {sz n : Nat} {enc : α → List Value} {a : Option Addr} {l : List α} {w5 w6 wr : World} (h : AccM β w5.heap.size w6.heap.size bm w6 wr f) (hb : bm < w5.heap.size) (s : Slf sz enc w5 w6 a n l) : Sl sz enc wr a n l :=
  (Rd.chg s h.1 (fun _ hk => ⟨hk.2, by omega, .inr hk.1⟩)).mono fun _ hk => Nat.lt_of_lt_of_le hk.2 h.2.1
theorem AccM.blk {g : Nat} {cs : List Value} {ty : TypeId} (h : AccM β lo w6.heap.size bm w6 wr f) (B : Blk w6 g cs ty) (hg : lo ≤ g) (hb : bm ≠ g) : Blk wr g cs ty :=
  (Chg.block h.1 g ⟨B.lt, fun h => hb h.symm, .inr hg⟩).trans B
end
theorem own_hist {va v : Value} {c s : Nat} (h : va.ownBlock = v.ownBlock ∨ va.ownBlock = some c) (hs : s ≤ c) : ∀ g, va.ownBlock = some g → v.ownBlock = some g ∨ s ≤ g := fun g hg => by
  rcases h with h | h
  · exact .inl (by rw [← h]; exact hg)
  · rw [h] at hg; cases hg; exact .inr hs
theorem AccM.two {β lo hi bm : Nat} {w6 wp w1 w2 w3 : World} {f : Int → Value} {x y : Int} {va vc : Value} (h : AccM β lo hi bm w6 wp f) (hb : ∀ v g, (f v).ownBlock = some g → β ≤ g)
    (k1 : Chg (fun k => k < wp.heap.size ∧ ¬ (f x).ownBlock = some k) wp w1) (la : ∀ g, va.ownBlock = some g → (f x).ownBlock = some g ∨ wp.heap.size ≤ g)
    (k2 : Chg (fun k => k < w1.heap.size ∧ ¬ (f y).ownBlock = some k) w1 w2) (lc : ∀ g, vc.ownBlock = some g → (f y).ownBlock = some g ∨ w1.heap.size ≤ g) (k3 : Exb bm w2 w3) : AccM β lo hi bm w6 w3 (upd (upd f x va) y vc) := by
  have s1 := k1.size
  have s2 := k2.size
  have s3 := k3.size
  have hs := h.2.1
  have key : ∀ v k, k < hi ∧ k ≠ bm ∧ (k < β ∨ lo ≤ k) → ¬ (f v).ownBlock = some k := fun v k hk hv => by
    have h1 := hb v k hv
    have h2 := h.2.2 v k hv
    omega
  refine ⟨h.1.trans ((k1.mono fun k hk => ⟨by omega, key x k hk⟩).trans ((k2.mono fun k hk => ⟨by omega, key y k hk⟩).trans (Chg.mono k3 fun k hk => ⟨by omega, hk.2.1⟩))), by omega, fun v g hv => ?_⟩
  unfold upd at hv
  by_cases h1 : v = y
  · rw [if_pos h1] at hv
    rcases lc g hv with h2 | h2
    · exact h.2.2 y g h2
    · omega
  · rw [if_neg h1] at hv
    by_cases h3 : v = x
    · rw [if_pos h3] at hv
      rcases la g hv with h2 | h2
      · exact h.2.2 x g h2
      · omega
    · rw [if_neg h3] at hv
      exact h.2.2 v g hv
def prsU (N : List Nd) (P : List Pr) (j : Nat) : List (Int × Int) := (N.take j).flatMap fun x => (refsN N (peerN P x.id)).map fun v => (x.id, v)
theorem prsU_snoc {N : List Nd} {P : List Pr} {j : Nat} {x : Nd} (hx : N[j]? = some x) : prsU N P (j + 1) = prsU N P j ++ (refsN N (peerN P x.id)).map fun v => (x.id, v) := by
  unfold prsU
  rw [take_snocN N j x hx, List.flatMap_append]
  simp
theorem prsU_all (N : List Nd) (P : List Pr) : prsU N P N.length = pairsN N P := by
  unfold prsU pairsN
  rw [List.take_of_length_le (Nat.le_refl _)]
theorem prsU_len {N : List Nd} (h0 : checkN N = 0) (P : List Pr) (j : Nat) : (prsU N P j).length ≤ 64 * 64 := by
  have h1 := pairs_len (P := P) h0 (N.take j)
  have h2 := check_len h0
  have h3 : (N.take j).length ≤ 64 := by rw [List.length_take]; omega
  unfold prsU
  exact Nat.le_trans h1 (Nat.mul_le_mul h3 h2)
theorem litF {wp u : World} (hz : wp.heap.size ≤ u.heap.size) (x : Int) : ∃ g v, g = u.heap.size ∧ v = u.alloc (.cells #[.int .i64 x] 3) ∧ Slf 1 encI wp v (some ⟨g, 0, none⟩) 1 [x] ∧ Ex u v :=
  ⟨_, _, rfl, rfl, Slf.lit [x] rfl hz rfl (fun _ => rfl) rfl, Ex.new _ _⟩
theorem Slf.row {α β : Type} {sz n sz' e base : Nat} {enc : α → List Value} {enc' : β → List Value} {w0 w w' : World} {a : Option Addr} {l : List α} {v : Value} {l' : List β} (s : Slf sz enc w0 w a n l) (h : OwnL sz' enc' e base w0 v l') (k : Chg (fun k => k < w.heap.size ∧ ¬ v.ownBlock = some k) w w') : Slf sz enc w0 w' a n l :=
  (Rd.chg s k fun _ hk => ⟨hk.2, fun hv => by have := (h.lt _ hv).2; have := hk.1; omega⟩).mono fun _ hk => ⟨hk.1, Nat.lt_of_lt_of_le hk.2 k.size⟩

theorem QuL.no {e : TypeId} {base : Nat} {w : World} {v : Value} (h : QuL e base w v []) : ∃ a c, v = .slice a 0 c := by
  rcases h with ⟨rfl, _⟩ | ⟨g, o, cap, cur, rfl, _⟩
  · exact ⟨none, 0, rfl⟩
  · exact ⟨_, cap, rfl⟩
theorem QuL.base {e : TypeId} {base base' : Nat} {w : World} {v : Value} {l : List Int} (h : QuL e base w v l) (hb : base' ≤ base) : QuL e base' w v l := by
  rcases h with h | ⟨g, o, cap, cur, h1, h2, h3⟩
  · exact .inl h
  · exact .inr ⟨g, o, cap, cur, h1, Nat.le_trans hb h2, h3⟩
theorem OwnL.rdz {α : Type} {sz e base : Nat} {enc : α → List Value} {w : World} {v : Value} {l : List α} (h : OwnL sz enc e base w v l) (hsz : ∀ y, (enc y).length = sz) :
    ∃ a cap, v = .slice a l.length cap ∧ Rd sz enc (fun k => base ≤ k ∧ k < w.heap.size) w a l.length l ∧ (a = none → cap = 0) := by
  obtain ⟨a, cap, e1, r, _⟩ := h.rd hsz
  refine ⟨a, cap, e1, r, fun h0 => ?_⟩
  subst h0
  rcases h.2 with ⟨e2, hn⟩ | ⟨g, cap', cur, e2, _⟩
  · rw [e1] at e2
    injection e2
  · rw [e1] at e2
    simp at e2
end Go.Proofs.YtbnbjiddffihoaaGreatDoor

/- Groups of numbers: one row grows. -/
namespace Go.Proofs.YtbnbjiddffihoaaGreatDoor
open Go.RowKit

def grp1 (J : Int → List Int) (x y : Int) : Int → List Int := fun v => if v = x then J x ++ [y] else J v
section
variable {P : Program} {k e : TypeId} {base : Nat} {w w' : World} {b n : Nat} {f : Int → Value} {J : Int → List Int}
theorem GrpM.one (h : GrpM P k e base w b n f J) {x y : Int} {w1 w3 : World} {a' : Value} {n' : Nat}
    (A : OwnL 1 encI e base w1 a' (J x ++ [y])) (k1 : Chg (fun k => k < w.heap.size ∧ ¬ (f x).ownBlock = some k) w w1) (la : ∀ g, a'.ownBlock = some g → (f x).ownBlock = some g ∨ w.heap.size ≤ g)
    (k3 : Exb b w1 w3) (R : RawM P k w3 b n' (upd f x a')) : GrpM P k e base w3 b n' (upd f x a') (grp1 J x y) := by
  obtain ⟨h1, hb, hs, hO, hd⟩ := h
  have s1 := k1.size
  have s3 := k3.size
  refine ⟨R, hb, by omega, fun v => ?_, fun v v' g hne hv hv' => ?_⟩
  · unfold upd grp1
    by_cases hvx : v = x
    · rw [if_pos hvx, if_pos hvx]
      exact A.nxb hb k3
    · rw [if_neg hvx, if_neg hvx]
      have O1 : OwnL 1 encI e base w1 (f v) (J v) := (hO v).chg k1 fun g hg hv => ⟨hg, hd v x g hvx hv⟩
      exact O1.nxb hb k3
  · unfold upd at hv hv'
    have ov : ∀ u g, u ≠ x → (f u).ownBlock = some g → ¬ a'.ownBlock = some g := by
      intro u g hux hu ha
      rcases la g ha with h2 | h2
      · exact hd u x g hux hu h2
      · have := ((hO u).lt g hu).2; omega
    by_cases hvx : v = x
    · rw [if_pos hvx] at hv
      rw [if_neg (by omega)] at hv'
      exact ov v' g (by omega) hv' hv
    · rw [if_neg hvx] at hv
      by_cases hvx' : v' = x
      · rw [if_pos hvx'] at hv'; exact ov v g hvx hv hv'
      · rw [if_neg hvx'] at hv'; exact hd v v' g hne hv hv'
end
end Go.Proofs.YtbnbjiddffihoaaGreatDoor

/- Round of the package linear. -/
namespace Go.Proofs.YtbnbjiddffihoaaGreatDoor
open Go.RowKit Go.Maps

theorem normal_le (N : List Nd) (P : List Pr) : (normalN N P).length ≤ N.length ∧ (0 < (normalN N P).length → checkN N = 0) := by
  unfold normalN
  split
  · rename_i h; exact ⟨by rw [List.length_map, sortN_length]; exact Nat.le_refl _, fun _ => h⟩
  · exact ⟨Nat.zero_le _, fun h => by cases h⟩
theorem normal_small (N : List Nd) {P : List Pr} (h : SmallP P) : SmallP (normalN N P) := by
  intro p hp
  unfold normalN at hp
  split at hp
  · obtain ⟨x, _, rfl⟩ := List.mem_map.1 hp
    unfold peerN
    cases hf : P.find? fun p => p.id == x.id with
    | none => exact ⟨Nat.zero_le _, Nat.zero_le _⟩
    | some q => exact h q (List.mem_of_find?_eq_some hf)
  · cases hp
theorem AccM.one {β lo hi bm : Nat} {w6 wp w1 w3 : World} {f : Int → Value} {x : Int} {va : Value} (h : AccM β lo hi bm w6 wp f) (hb : ∀ v g, (f v).ownBlock = some g → β ≤ g)
    (k1 : Chg (fun k => k < wp.heap.size ∧ ¬ (f x).ownBlock = some k) wp w1) (la : ∀ g, va.ownBlock = some g → (f x).ownBlock = some g ∨ wp.heap.size ≤ g) (k3 : Exb bm w1 w3) : AccM β lo hi bm w6 w3 (upd f x va) := by
  have s1 := k1.size
  have s3 := k3.size
  have hs := h.2.1
  have key : ∀ v k, k < hi ∧ k ≠ bm ∧ (k < β ∨ lo ≤ k) → ¬ (f v).ownBlock = some k := fun v k hk hv => by
    have h1 := hb v k hv
    have h2 := h.2.2 v k hv
    omega
  refine ⟨h.1.trans ((k1.mono fun k hk => ⟨by omega, key x k hk⟩).trans (Chg.mono k3 fun k hk => ⟨by omega, hk.2.1⟩)), by omega, fun v g hv => ?_⟩
  unfold upd at hv
  by_cases h3 : v = x
  · rw [if_pos h3] at hv
    rcases la g hv with h2 | h2
    · exact h.2.2 x g h2
    · omega
  · rw [if_neg h3] at hv
    exact h.2.2 v g hv
end Go.Proofs.YtbnbjiddffihoaaGreatDoor
