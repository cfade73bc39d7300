/- Texts for the statement BridgeClimbsProof, part 8 of 12: RedJ. -/
import Derived.Test.YtbnbjiddffihoaaGreatDoorBridgeClimbsProofPk3
import Derived.Test.YtbnbjiddffihoaaGreatDoorBridgeClimbsProofPk4
import Derived.Test.YtbnbjiddffihoaaGreatDoorBridgeClimbsProofPk7

/- Peers of the package redundant and of its reference (printed by gen_prs.py). -/
namespace Go.Proofs.YtbnbjiddffihoaaGreatDoor
open Go.RowKit

theorem newPr {w0 u : World} (_ : Ex w0 u) : ∃ g v, g = u.heap.size ∧ v = u.alloc (.cells #[.int .i64 0, .slice none 0 0, .int .i64 0, .int .i64 0, .slice none 0 0] 45) ∧ Blk v g [.int .i64 0, .slice none 0 0, .int .i64 0, .int .i64 0, .slice none 0 0] 45 ∧ Ex u v :=
  ⟨_, _, rfl, rfl, Blk.new _ _ _, Ex.new _ _⟩
theorem litN4 {w0 u : World} (_ : Ex w0 u) (y : Nr) : ∃ g v, g = u.heap.size ∧ v = u.alloc (.cells #[.int .i64 y.1, .int .i64 y.2.1, .int .i64 y.2.2.1, .int .i64 y.2.2.2] 49) ∧ Sl 4 encNr v (some ⟨g, 0, none⟩) 1 [y] ∧ Ex u v :=
  ⟨_, _, rfl, rfl, Sl.lit [y] rfl rfl (fun _ => rfl) rfl, Ex.new _ _⟩
theorem OwnL.ne_blk {α : Type} {sz e base g' : Nat} {enc : α → List Value} {w : World} {v : Value} {l : List α} {cs : List Value} {ty : TypeId} (h : OwnL sz enc e base w v l) (B : Blk w g' cs ty) (hne : e ≠ ty) {g : Nat} (hg : v.ownBlock = some g) : g ≠ g' := by
  rintro rfl
  obtain ⟨_, cur, hh⟩ := h.blk hg
  exact blk_kind hne hh B
/-- a store into a block of another type -/
theorem OwnL.put {α : Type} {sz e base g' : Nat} {enc : α → List Value} {w w' : World} {v : Value} {l : List α} {cs : List Value} {ty : TypeId} (h : OwnL sz enc e base w v l) (B : Blk w g' cs ty) (hne : e ≠ ty) (k : Exb g' w w') : OwnL sz enc e base w' v l :=
  h.chg k fun _ hx hv => ⟨hx, h.ne_blk B hne hv⟩
theorem thr_sort {N : List Nd} (h0 : checkN N = 0) (id : Int) (i : Int) : throughN (sortN N) id i = throughN N id i := by
  have hs : sortN (sortN N) = sortN N := sort_perm (sortN_perm N) h0
  have hc : checkN (sortN N) = checkN N := by rw [check_perm (sortN_perm N) h0, h0]
  by_cases hx : ∃ x ∈ N, x.id = id
  · obtain ⟨x, hx, rfl⟩ := hx
    unfold throughN thrG
    rw [find_in h0 hx, find_in (hc.trans h0) ((sortN_mem N x).2 hx), hs, hc]
  · rw [thr_no (fun x hx' he => hx ⟨x, hx', he⟩), thr_no (fun x hx' he => hx ⟨x, (sortN_mem N x).1 hx', he⟩)]
theorem neigh_sort {N : List Nd} (h0 : checkN N = 0) (id : Int) (i : Int) : neighN (sortN N) id i = neighN N id i := by
  unfold neighN
  rw [thr_sort h0]
theorem nearG_sort {N : List Nd} (h0 : checkN N = 0) (x : Nd) (i : Nat) : nearG (sortN N) x i = nearG N x i := by
  have hs : sortN (sortN N) = sortN N := sort_perm (sortN_perm N) h0
  unfold nearG grpS
  rw [hs]
theorem peerC_eq {N : List Nd} (h0 : checkN N = 0) (width height : Int) (x : Nd) : peerC N width height x = ⟨x.id, (neighN N x.id 0).1.1, (neighN N x.id 0).1.2, contactsN N x.id width height, (List.range height.toNat).map (nearG N x)⟩ := by
  unfold peerC
  rw [neigh_sort h0, contacts_sort h0]
  congr 1
  exact List.map_congr_left fun i _ => nearG_sort h0 x i
def PsRel (N : List Nd) (width height : Int) (w : World) (o i : Value) (wr : World) : Prop :=
  ∃ (j : Nat) (qs : List PQ), j ≤ (sortN N).length ∧ i = .int .i64 j ∧ OwnPr w.heap.size wr o qs (((sortN N).take j).map (peerC N width height)) ∧ Ex w wr
/-- behind the making of a peer -/
def PcRel (N : List Nd) (x : Nd) (width : Int) (hh : Nat) (nl nr : Int) (β : Nat) (w6 : World) (s : Value) (wx : World) : Prop :=
  ∃ (g : Nat) (A : Option Addr) (C : Nat), s = .pointer (some ⟨g, 0, none⟩) ∧ w6.heap.size ≤ g ∧ Blk wx g [.int .i64 x.id, .slice A (contactsN N x.id width hh).length C, .int .i64 nl, .int .i64 nr, .slice none 0 0] 45 ∧ OwnL 1 encI 3 β wx (.slice A (contactsN N x.id width hh).length C) (contactsN N x.id width hh) ∧ Ex w6 wx
theorem Blk.low {w w' : World} {g B : Nat} {cs : List Value} {ty : TypeId} (h : Blk w g cs ty) (hg : g < B) (k : Chg (· < B) w w') : Blk w' g cs ty := (Chg.block k g hg).trans h
theorem Exb.nxb' {g : Nat} {wk wp wq wz : World} (h : Exb g wk wp) (k : Exb g wp wq) (c : Chg (· < wk.heap.size) wq wz) : Exb g wk wz :=
  Chg.trans (h.nxb k) (Chg.mono c fun _ hk => hk.1)
/-- the near row of a peer grows -/
def PnRel (N : List Nd) (x : Nd) (hh g : Nat) (kv : Value) (l r : Int) (w : World) (p : Value) (wr : World) : Prop :=
  ∃ (j : Nat) (A : Option Addr) (m c : Nat), j ≤ hh ∧ p = .int .i64 j ∧ Blk wr g [.int .i64 x.id, kv, .int .i64 l, .int .i64 r, .slice A m c] 45 ∧ OwnL 4 encNr 49 w.heap.size wr (.slice A m c) ((List.range j).map (nearG N x)) ∧ Exb g w wr

set_option maxRecDepth 100000 in
set_option maxHeartbeats 16000000 in
theorem peers_p (a : Option Addr) (n c : Nat) (N : List Nd) (width height : Int) (w : World) (h : Sl 3 encN w a n N) (hn : n ≤ 1000) (hc : n ≤ c) (hm : c ≤ maxLen) (hw : ∀ x ∈ N, x.word < 4294967296) (hT : TabG w) :
    Calls Tryz.prog 55 #[.slice a n c, .int .i64 width, .int .i64 height] w (PlPost (peersN N width height) w) := by
  have HL := Lib.hid h.len
  have HW := Lib.hid hw
  have EX := Ex.refl w
  clear hw
  have NO : Hid (checkN N ≠ 0 ∨ lvlN height = false → ∀ wx, Ex w wx → PlPost (peersN N width height) w (.returned (.slice none 0 0)) wx) := Lib.hid (fun hh wx kx => by
    unfold peersN
    rw [if_neg (by
      rintro ⟨h1, h2⟩
      rcases hh with h | h
      · exact h h1
      · rw [h] at h2; cases h2)]
    exact ⟨_, [], rfl, OwnP.nil _ _ _ _ _, kx⟩)
  go_enter Tryz.func55, Tryz.ntmps55
  go_wp2_with fail
  (with_reducible refine (check_p _ _ _ _ _ h (by omega) hc hm).mono ?_)
  rintro e w1 ⟨rfl, kk⟩
  replace h := h.nx kk
  replace EX := EX.nx kk
  replace hT := hT.nx kk
  clear kk
  by_cases hck : checkN N = 0
  case neg =>
    have d1 : (checkN N != 0) = true := by simpa using hck
    have FI := Lib.hid (NO.out (.inl hck) _ EX)
    clear h NO EX hck hT
    go_wp2_with fail
    go_ret
    exact FI.out
  have d1 : (checkN N != 0) = false := by simpa using hck
  by_cases hh0 : height < 0
  · have FI := Lib.hid (NO.out (.inr (by unfold lvlN; simp; omega)) _ EX)
    clear h NO EX hck hT
    go_wp2_with fail
    go_ret
    exact FI.out
  by_cases hh1 : 16 < height
  · have FI := Lib.hid (NO.out (.inr (by unfold lvlN; simp; omega)) _ EX)
    clear h NO EX hck hT
    go_wp2_with fail
    go_ret
    exact FI.out
  obtain ⟨hh, rfl⟩ := Int.eq_ofNat_of_zero_le (show 0 ≤ height by omega)
  have hh16 : hh ≤ 16 := by omega
  have HC := Lib.hid hck
  have FIN : Hid (peersN N width hh = (sortN N).map (peerC N width hh)) := Lib.hid (by unfold peersN; rw [if_pos ⟨hck, by unfold lvlN; simp; omega⟩])
  have hsN : (sortN N).length = n := by rw [sortN_length, HL.out]
  have hn64 : n ≤ 64 := by have := check_len hck; have := HL.out; omega
  clear NO hck
  go_wp2_with fail
  (with_reducible refine (sort_p _ _ _ _ _ h hn).mono ?_)
  rintro e w3 ⟨v, S, rfl, OS, ⟨hp, hsrt⟩, kk⟩
  replace h := h.nx kk
  replace EX := EX.nx kk
  replace hT := hT.nx kk
  clear kk
  have hSe : S = sortN N := sortN_unique (check_keys HC.out) hp hsrt
  subst hSe
  obtain ⟨a3, c3, rfl, S3, _, _⟩ := sorted_own HC.out OS
  rw [HL.out] at S3 ⊢
  clear OS hp hsrt
  replace hT := Lib.hid hT
  replace h := Lib.hid h
  replace S3 := Lib.hid S3
  replace EX := Lib.hid EX
  go_wp2_with fail
  go_loopw [8, 30] (fun o i wr => PsRel N width hh w3 o i wr) (fun _ i _ => n - (intOf i).toNat)
  case atStart => exact ⟨0, [], by omega, rfl, OwnP.nil _ _ _ _ _, Ex.refl _⟩
  case round =>
    obtain ⟨j, qs, hj, rfl, own, ki⟩ := hrel
    obtain ⟨wi, rfl⟩ : ∃ wi : World, wi = wr := ⟨_, rfl⟩
    rw [hsN] at hj
    by_cases hjm : j < n
    · obtain ⟨x3, o3, x, rfl, hx3, hy, hc3⟩ := (S3.out.nx ki).at hjm
      have e0 : wi.cell? ⟨x3, o3 + j * 3, none⟩ = some (.int .i64 x.id) := hc3 0 _ rfl
      have e1 : wi.cell? ⟨x3, o3 + j * 3 + 1, none⟩ = some (.string x.key) := hc3 1 _ rfl
      have e2 : wi.cell? ⟨x3, o3 + j * 3 + 1 + 1, none⟩ = some (.int .u32 x.word) := by simpa [Nat.add_assoc] using hc3 2 _ rfl
      have hxN : x ∈ N := (sortN_mem N x).1 (List.mem_of_getElem? hy)
      have HX := Lib.hid hxN
      have SN : Hid (((sortN N).take (j + 1)).map (peerC N width hh) = ((sortN N).take j).map (peerC N width hh) ++ [peerC N width hh x]) := Lib.hid (by rw [take_snocN _ j x hy, List.map_append]; rfl)
      have PQ : Hid (peerC N width hh x = ⟨x.id, (neighN N x.id 0).1.1, (neighN N x.id 0).1.2, contactsN N x.id width hh, (List.range hh).map (nearG N x)⟩) := Lib.hid (by have := peerC_eq HC.out width hh x; simpa using this)
      have hql : qs.length = j := by rw [own.2.1, List.length_map, List.length_take]; omega
      have hwi := ki.size
      have KI := Lib.hid ki
      have OWN := Lib.hid own
      clear hy own ki hxN hc3
      have B10 := Blk.new wi [.int .i64 x.id, .string x.key, .int .u32 x.word] 57
      have kk := Ex.new wi (.cells #[.int .i64 x.id, .string x.key, .int .u32 x.word] 57)
      obtain ⟨w4, hw4⟩ : ∃ w4, w4 = wi.alloc (.cells #[.int .i64 x.id, .string x.key, .int .u32 x.word] 57) := ⟨_, rfl⟩
      obtain ⟨g10, hg10⟩ : ∃ g10, g10 = wi.heap.size := ⟨_, rfl⟩
      replace B10 : Blk w4 g10 [.int .i64 x.id, .string x.key, .int .u32 x.word] 57 := by rw [hw4, hg10]; exact B10
      rw [← hw4] at kk
      have Hw4 := Lib.hid hw4
      have Hg10 := Lib.hid hg10
      have zg10 : wi.heap.size ≤ g10 := by omega
      have K4 := Lib.hid kk
      clear kk hw4 hg10
      go_upto_region 8 with fail
      rw [← Hg10.out, ← Hw4.out]
      clear Hg10 Hw4
      have q0 := B10.cell 0 _ rfl
      clear e0 e1 e2
      go_wp2_with fail
      (with_reducible refine (neigh_p _ _ _ N x.id 0 _ (h.out.nx (KI.out.nx K4.out)) hn hc hm HW.out (hT.out.nx (KI.out.nx K4.out))).mono ?_)
      rintro e w5 ⟨rfl, kk⟩
      replace B10 := B10.nx kk
      replace K4 := Lib.hid (K4.out.nx kk)
      clear kk q0
      generalize hL : (neighN N x.id 0).1.1 = nl at PQ ⊢
      generalize hR : (neighN N x.id 0).1.2 = nr at PQ ⊢
      clear hL hR
      have hz5 := K4.out.size
      have B11 := Blk.new w5 [.int .i64 nl, .int .i64 nr] 65
      have kk := Ex.new w5 (.cells #[.int .i64 nl, .int .i64 nr] 65)
      obtain ⟨w6, hw6⟩ : ∃ w6, w6 = w5.alloc (.cells #[.int .i64 nl, .int .i64 nr] 65) := ⟨_, rfl⟩
      obtain ⟨g11, hg11⟩ : ∃ g11, g11 = w5.heap.size := ⟨_, rfl⟩
      replace B11 : Blk w6 g11 [.int .i64 nl, .int .i64 nr] 65 := by rw [hw6, hg11]; exact B11
      rw [← hw6] at kk
      have Hw6 := Lib.hid hw6
      have Hg11 := Lib.hid hg11
      replace B10 := B10.nx kk
      replace K4 := Lib.hid (K4.out.nx kk)
      have zg11 : wi.heap.size ≤ g11 := by have := hz5; omega
      clear kk hw6 hg11
      go_upto_region 9 with fail
      rw [← Hg11.out, ← Hw6.out]
      clear Hg11 Hw6
      replace B11 := Lib.hid B11
      replace B10 := Lib.hid B10
      have SK := Lib.hid (S3.out.nx (KI.out.nx K4.out))
      have hz6 := K4.out.size
      go_cut [13] from 41 to 53 (fun s13 wx => PcRel N x width hh nl nr wi.heap.size w6 s13 wx)
      case first =>
        refine wp_region_late_drew (S := Ex w6) [14] (by kernel_rfl) ((Ex.refl w6).drew) (fun hHeld => ?_)
        obtain ⟨wd, hwdx⟩ : ∃ wd : World, wd = World.drew w6 := ⟨_, rfl⟩
        rw [← hwdx] at hHeld ⊢
        have hDrew : Ex w6 wd := by rw [hwdx]; exact (Ex.refl w6).drew
        clear hwdx
        refine wpAnyL_take (i := 0) (oi := ⟨some 41, .fieldAddr 57 (.tmp 10) 0, 0, "redundant.go:86", #[], none⟩) (v := ?_) rfl (by kernel_rfl) (by kernel_rfl) (by kernel_rfl) (fun _ _ _ h => h) (Or.inl ⟨by rfl, ?hyr1x0q5⟩) (by kernel_rfl) (by kernel_rfl) (by assumption) ?restr1x0q5
        case hyr1x0q5 => intro wq hSw; (go_simp); (try with_reducible rfl)
        try simp only [Act.put, List.setIfInBounds_toArray, List.set_cons_zero, List.set_cons_succ]
        refine wpAnyL_take (i := 1) (oi := ⟨some 42, .load 3 (.tmp 41), 3, "redundant.go:86", #[⟨0, .data⟩], none⟩) (v := ?_) rfl (by kernel_rfl) (by kernel_rfl) (by kernel_rfl) (fun _ _ _ h => h) (Or.inl ⟨by rfl, ?hyr1x1q8⟩) (by kernel_rfl) (by kernel_rfl) (by assumption) ?restr1x1q8
        case hyr1x1q8 => intro wq hSw; (have cq := (B10.out.nx hSw).cell 0 _ rfl; go_simp); (try with_reducible rfl)
        try simp only [Act.put, List.setIfInBounds_toArray, List.set_cons_zero, List.set_cons_succ]
        refine wpAnyL_take (i := 2) (oi := ⟨some 43, .move (.tmp 0), 23, "redundant.go:86", #[], none⟩) (v := ?_) rfl (by kernel_rfl) (by kernel_rfl) (by kernel_rfl) (fun _ _ _ h => h) (Or.inl ⟨by rfl, ?hyr1x2q11⟩) (by kernel_rfl) (by kernel_rfl) (by assumption) ?restr1x2q11
        case hyr1x2q11 => intro wq hSw; (go_simp); (try with_reducible rfl)
        try simp only [Act.put, List.setIfInBounds_toArray, List.set_cons_zero, List.set_cons_succ]
        refine wpAnyL_take (i := 3) (oi := ⟨some 44, .fieldAddr 57 (.tmp 10) 0, 0, "redundant.go:86", #[], none⟩) (v := ?_) rfl (by kernel_rfl) (by kernel_rfl) (by kernel_rfl) (fun _ _ _ h => h) (Or.inl ⟨by rfl, ?hyr1x3q14⟩) (by kernel_rfl) (by kernel_rfl) (by assumption) ?restr1x3q14
        case hyr1x3q14 => intro wq hSw; (go_simp); (try with_reducible rfl)
        try simp only [Act.put, List.setIfInBounds_toArray, List.set_cons_zero, List.set_cons_succ]
        refine wpAnyL_take (i := 4) (oi := ⟨some 45, .load 3 (.tmp 44), 3, "redundant.go:86", #[⟨3, .data⟩], none⟩) (v := ?_) rfl (by kernel_rfl) (by kernel_rfl) (by kernel_rfl) (fun _ _ _ h => h) (Or.inl ⟨by rfl, ?hyr1x4q17⟩) (by kernel_rfl) (by kernel_rfl) (by assumption) ?restr1x4q17
        case hyr1x4q17 => intro wq hSw; (have cq := (B10.out.nx hSw).cell 0 _ rfl; go_simp); (try with_reducible rfl)
        try simp only [Act.put, List.setIfInBounds_toArray, List.set_cons_zero, List.set_cons_succ]
        refine wpAnyL_take (i := 5) (oi := ⟨some 46, .move (.tmp 1), 3, "redundant.go:86", #[], none⟩) (v := ?_) rfl (by kernel_rfl) (by kernel_rfl) (by kernel_rfl) (fun _ _ _ h => h) (Or.inl ⟨by rfl, ?hyr1x5q20⟩) (by kernel_rfl) (by kernel_rfl) (by assumption) ?restr1x5q20
        case hyr1x5q20 => intro wq hSw; (go_simp); (try with_reducible rfl)
        try simp only [Act.put, List.setIfInBounds_toArray, List.set_cons_zero, List.set_cons_succ]
        refine wpAnyL_take (i := 6) (oi := ⟨some 47, .move (.tmp 2), 3, "redundant.go:86", #[], none⟩) (v := ?_) rfl (by kernel_rfl) (by kernel_rfl) (by kernel_rfl) (fun _ _ _ h => h) (Or.inl ⟨by rfl, ?hyr1x6q23⟩) (by kernel_rfl) (by kernel_rfl) (by assumption) ?restr1x6q23
        case hyr1x6q23 => intro wq hSw; (go_simp); (try with_reducible rfl)
        try simp only [Act.put, List.setIfInBounds_toArray, List.set_cons_zero, List.set_cons_succ]
        refine wpAnyL_take (i := 8) (oi := ⟨some 49, .fieldAddr 65 (.tmp 11) 0, 0, "redundant.go:86", #[], none⟩) (v := ?_) rfl (by kernel_rfl) (by kernel_rfl) (by kernel_rfl) (fun _ _ _ h => h) (Or.inl ⟨by rfl, ?hyr1x8q26⟩) (by kernel_rfl) (by kernel_rfl) (by assumption) ?restr1x8q26
        case hyr1x8q26 => intro wq hSw; (go_simp); (try with_reducible rfl)
        try simp only [Act.put, List.setIfInBounds_toArray, List.set_cons_zero, List.set_cons_succ]
        refine wpAnyL_take (i := 9) (oi := ⟨some 50, .load 3 (.tmp 49), 3, "redundant.go:86", #[⟨8, .data⟩], none⟩) (v := ?_) rfl (by kernel_rfl) (by kernel_rfl) (by kernel_rfl) (fun _ _ _ h => h) (Or.inl ⟨by rfl, ?hyr1x9q29⟩) (by kernel_rfl) (by kernel_rfl) (by assumption) ?restr1x9q29
        case hyr1x9q29 => intro wq hSw; (have cq := (B11.out.nx hSw).cell 0 _ rfl; go_simp); (try with_reducible rfl)
        try simp only [Act.put, List.setIfInBounds_toArray, List.set_cons_zero, List.set_cons_succ]
        refine wpAnyL_take (i := 10) (oi := ⟨some 51, .fieldAddr 65 (.tmp 11) 1, 0, "redundant.go:86", #[], none⟩) (v := ?_) rfl (by kernel_rfl) (by kernel_rfl) (by kernel_rfl) (fun _ _ _ h => h) (Or.inl ⟨by rfl, ?hyr1x10q32⟩) (by kernel_rfl) (by kernel_rfl) (by assumption) ?restr1x10q32
        case hyr1x10q32 => intro wq hSw; (go_simp); (try with_reducible rfl)
        try simp only [Act.put, List.setIfInBounds_toArray, List.set_cons_zero, List.set_cons_succ]
        refine wpAnyL_take (i := 11) (oi := ⟨some 52, .load 3 (.tmp 51), 3, "redundant.go:86", #[⟨10, .data⟩], none⟩) (v := ?_) rfl (by kernel_rfl) (by kernel_rfl) (by kernel_rfl) (fun _ _ _ h => h) (Or.inl ⟨by rfl, ?hyr1x11q35⟩) (by kernel_rfl) (by kernel_rfl) (by assumption) ?restr1x11q35
        case hyr1x11q35 => intro wq hSw; (have cq := (B11.out.nx hSw).cell 1 _ rfl; go_simp); (try with_reducible rfl)
        try simp only [Act.put, List.setIfInBounds_toArray, List.set_cons_zero, List.set_cons_succ]
        refine wpAnyL_ready (rs := [7, 13]) (by kernel_rfl) (by simp) ?_
        refine AllReadyL.cons (o := ⟨some 48, .call { callee := .value (.func 89), args := #[.tmp 43, .tmp 45, .tmp 46, .tmp 47], argTypes := #[23, 3, 3, 3] }, 22, "redundant.go:86", #[⟨2, .data⟩, ⟨4, .data⟩, ⟨5, .data⟩, ⟨6, .data⟩], none⟩) rfl (fun K hK => ?_) ?_
        · go_simp
          (with_reducible refine (contacts_p _ _ _ N x.id width hh _ (h.out.nx (KI.out.nx (K4.out.nx hHeld))) hn hc hm HW.out (hT.out.nx (KI.out.nx (K4.out.nx hHeld)))).mono ?_)
          rintro e wz ⟨vc, rfl, own2, kk⟩
          (try replace B13 := B13.nx kk)
          obtain ⟨A2, C2, rfl, _, _, _, _⟩ := own2.slf (fun _ => rfl)
          replace own2 := own2.base (Nat.le_trans hz6 hHeld.size)
          replace hHeld := hHeld.nx kk
          clear kk
          refine hK.out _ _ (hHeld) (fun hHeld => ?_)
          clear hK K
          try simp only [Act.put, List.setIfInBounds_toArray, List.set_cons_zero, List.set_cons_succ]
          refine wpAnyL_take (i := 12) (oi := ⟨some 53, .build 45 #[(0, .tmp 42), (1, .tmp 48), (2, .tmp 50), (3, .tmp 52)], 45, "redundant.go:86", #[⟨1, .data⟩, ⟨7, .data⟩, ⟨9, .data⟩, ⟨11, .data⟩], none⟩) (v := ?_) rfl (by kernel_rfl) (by kernel_rfl) (by kernel_rfl) (fun _ _ _ h => h) (Or.inl ⟨by rfl, ?hyr1x12q51⟩) (by kernel_rfl) (by kernel_rfl) (by assumption) ?restr1x12q51
          case hyr1x12q51 => intro wq hSw; (go_simp); (try with_reducible rfl)
          try simp only [Act.put, List.setIfInBounds_toArray, List.set_cons_zero, List.set_cons_succ]
          refine wpAnyL_ready (rs := [13]) (by kernel_rfl) (by simp) ?_
          refine AllReadyL.cons (o := ⟨some 13, .alloc 45, 0, "redundant.go:86", #[], none⟩) rfl (fun K hK => ?_) AllReadyL.nil
          go_simp
          have z13 := hHeld.size
          obtain ⟨g13, wz, hg13, hwz, B13, kk⟩ := newPr hHeld
          rw [← hg13, ← hwz]
          have zg13 : w6.heap.size ≤ g13 := by omega
          clear hg13 hwz z13
          (try replace own2 := own2.nx kk)
          replace hHeld := hHeld.nx kk
          clear kk
          refine hK.out _ _ (hHeld) (fun hHeld => ?_)
          clear hK K
          try simp only [Act.put, List.setIfInBounds_toArray, List.set_cons_zero, List.set_cons_succ]
          refine wpAnyL_ready (rs := [14]) (by kernel_rfl) (by simp) ?_
          refine AllReadyL.consL (o := ⟨none, .store 45 (.tmp 13) (.tmp 53), 0, "redundant.go:86", #[⟨13, .data⟩, ⟨12, .data⟩, ⟨7, .chain⟩, ⟨0, .phase⟩, ⟨1, .phase⟩, ⟨2, .phase⟩, ⟨3, .phase⟩, ⟨4, .phase⟩, ⟨5, .phase⟩, ⟨6, .phase⟩, ⟨7, .phase⟩, ⟨8, .phase⟩, ⟨9, .phase⟩, ⟨10, .phase⟩, ⟨11, .phase⟩, ⟨12, .phase⟩, ⟨13, .phase⟩], none⟩) rfl (by rfl) (fun K hK => ?_) AllReadyL.nil
          have c0 := B13.cell 0 _ rfl
          have c1 := B13.cell 1 _ rfl
          have c2 := B13.cell 2 _ rfl
          have c3 := B13.cell 3 _ rfl
          have c4 := B13.cell 4 _ rfl
          have f0 := B13.free 0
          have f1 := B13.free 1
          have f2 := B13.free 2
          have f3 := B13.free 3
          have f4 := B13.free 4
          go_simp
          clear c0 c1 c2 c3 c4 f0 f1 f2 f3 f4
          refine hK.out _ _ ?_
          clear hK K
          try simp only [Act.put, List.setIfInBounds_toArray, List.set_cons_zero, List.set_cons_succ]
          refine wpAnyL_done (by kernel_rfl) ?_ _
          obtain ⟨wk, hwk⟩ : ∃ wk, wk = ((((wz.setCell ⟨g13, 0, none⟩ (.int .i64 x.id)).setCell ⟨g13, 1, none⟩ (.slice A2 (contactsN N x.id width hh).length C2)).setCell ⟨g13, 2, none⟩ (.int .i64 nl)).setCell ⟨g13, 3, none⟩ (.int .i64 nr)).setCell ⟨g13, 4, none⟩ (.slice none 0 0) := ⟨_, rfl⟩
          rw [← hwk]
          have BP : Blk wk g13 [.int .i64 x.id, .slice A2 (contactsN N x.id width hh).length C2, .int .i64 nl, .int .i64 nr, .slice none 0 0] 45 := by rw [hwk]; exact ((((B13.set 0 _).set 1 _).set 2 _).set 3 _).set 4 _
          have KB : Exb g13 wz wk := by rw [hwk]; exact (((((Exb.refl g13 wz).setB (p := ⟨g13, 0, none⟩) _ rfl).setB (p := ⟨g13, 1, none⟩) _ rfl).setB (p := ⟨g13, 2, none⟩) _ rfl).setB (p := ⟨g13, 3, none⟩) _ rfl).setB (p := ⟨g13, 4, none⟩) _ rfl
          have CUT := Lib.hid (show PcRel N x width hh nl nr wi.heap.size w6 (.pointer (some ⟨g13, 0, none⟩)) wk from ⟨g13, A2, C2, rfl, zg13, BP, own2.put B13 (by decide) KB, (Exl.nxb (b := g13) (w := w6) ⟨hHeld, zg13⟩ KB).1⟩)
          clear hwk B13 KB hHeld BP own2
          go_wp2_with fail
          go_meet
          exact CUT.out
        refine AllReadyL.cons (o := ⟨some 13, .alloc 45, 0, "redundant.go:86", #[], none⟩) rfl (fun K hK => ?_) AllReadyL.nil
        · go_simp
          have z13 := hHeld.size
          obtain ⟨g13, wz, hg13, hwz, B13, kk⟩ := newPr hHeld
          rw [← hg13, ← hwz]
          have zg13 : w6.heap.size ≤ g13 := by omega
          clear hg13 hwz z13
          (try replace own2 := own2.nx kk)
          replace hHeld := hHeld.nx kk
          clear kk
          refine hK.out _ _ (hHeld) (fun hHeld => ?_)
          clear hK K
          try simp only [Act.put, List.setIfInBounds_toArray, List.set_cons_zero, List.set_cons_succ]
          refine wpAnyL_ready (rs := [7]) (by kernel_rfl) (by simp) ?_
          refine AllReadyL.cons (o := ⟨some 48, .call { callee := .value (.func 89), args := #[.tmp 43, .tmp 45, .tmp 46, .tmp 47], argTypes := #[23, 3, 3, 3] }, 22, "redundant.go:86", #[⟨2, .data⟩, ⟨4, .data⟩, ⟨5, .data⟩, ⟨6, .data⟩], none⟩) rfl (fun K hK => ?_) AllReadyL.nil
          go_simp
          (with_reducible refine (contacts_p _ _ _ N x.id width hh _ (h.out.nx (KI.out.nx (K4.out.nx hHeld))) hn hc hm HW.out (hT.out.nx (KI.out.nx (K4.out.nx hHeld)))).mono ?_)
          rintro e wz ⟨vc, rfl, own2, kk⟩
          (try replace B13 := B13.nx kk)
          obtain ⟨A2, C2, rfl, _, _, _, _⟩ := own2.slf (fun _ => rfl)
          replace own2 := own2.base (Nat.le_trans hz6 hHeld.size)
          replace hHeld := hHeld.nx kk
          clear kk
          refine hK.out _ _ (hHeld) (fun hHeld => ?_)
          clear hK K
          try simp only [Act.put, List.setIfInBounds_toArray, List.set_cons_zero, List.set_cons_succ]
          refine wpAnyL_take (i := 12) (oi := ⟨some 53, .build 45 #[(0, .tmp 42), (1, .tmp 48), (2, .tmp 50), (3, .tmp 52)], 45, "redundant.go:86", #[⟨1, .data⟩, ⟨7, .data⟩, ⟨9, .data⟩, ⟨11, .data⟩], none⟩) (v := ?_) rfl (by kernel_rfl) (by kernel_rfl) (by kernel_rfl) (fun _ _ _ h => h) (Or.inl ⟨by rfl, ?hyr1x12q113⟩) (by kernel_rfl) (by kernel_rfl) (by assumption) ?restr1x12q113
          case hyr1x12q113 => intro wq hSw; (go_simp); (try with_reducible rfl)
          try simp only [Act.put, List.setIfInBounds_toArray, List.set_cons_zero, List.set_cons_succ]
          refine wpAnyL_ready (rs := [14]) (by kernel_rfl) (by simp) ?_
          refine AllReadyL.consL (o := ⟨none, .store 45 (.tmp 13) (.tmp 53), 0, "redundant.go:86", #[⟨13, .data⟩, ⟨12, .data⟩, ⟨7, .chain⟩, ⟨0, .phase⟩, ⟨1, .phase⟩, ⟨2, .phase⟩, ⟨3, .phase⟩, ⟨4, .phase⟩, ⟨5, .phase⟩, ⟨6, .phase⟩, ⟨7, .phase⟩, ⟨8, .phase⟩, ⟨9, .phase⟩, ⟨10, .phase⟩, ⟨11, .phase⟩, ⟨12, .phase⟩, ⟨13, .phase⟩], none⟩) rfl (by rfl) (fun K hK => ?_) AllReadyL.nil
          have c0 := B13.cell 0 _ rfl
          have c1 := B13.cell 1 _ rfl
          have c2 := B13.cell 2 _ rfl
          have c3 := B13.cell 3 _ rfl
          have c4 := B13.cell 4 _ rfl
          have f0 := B13.free 0
          have f1 := B13.free 1
          have f2 := B13.free 2
          have f3 := B13.free 3
          have f4 := B13.free 4
          go_simp
          clear c0 c1 c2 c3 c4 f0 f1 f2 f3 f4
          refine hK.out _ _ ?_
          clear hK K
          try simp only [Act.put, List.setIfInBounds_toArray, List.set_cons_zero, List.set_cons_succ]
          refine wpAnyL_done (by kernel_rfl) ?_ _
          obtain ⟨wk, hwk⟩ : ∃ wk, wk = ((((wz.setCell ⟨g13, 0, none⟩ (.int .i64 x.id)).setCell ⟨g13, 1, none⟩ (.slice A2 (contactsN N x.id width hh).length C2)).setCell ⟨g13, 2, none⟩ (.int .i64 nl)).setCell ⟨g13, 3, none⟩ (.int .i64 nr)).setCell ⟨g13, 4, none⟩ (.slice none 0 0) := ⟨_, rfl⟩
          rw [← hwk]
          have BP : Blk wk g13 [.int .i64 x.id, .slice A2 (contactsN N x.id width hh).length C2, .int .i64 nl, .int .i64 nr, .slice none 0 0] 45 := by rw [hwk]; exact ((((B13.set 0 _).set 1 _).set 2 _).set 3 _).set 4 _
          have KB : Exb g13 wz wk := by rw [hwk]; exact (((((Exb.refl g13 wz).setB (p := ⟨g13, 0, none⟩) _ rfl).setB (p := ⟨g13, 1, none⟩) _ rfl).setB (p := ⟨g13, 2, none⟩) _ rfl).setB (p := ⟨g13, 3, none⟩) _ rfl).setB (p := ⟨g13, 4, none⟩) _ rfl
          have CUT := Lib.hid (show PcRel N x width hh nl nr wi.heap.size w6 (.pointer (some ⟨g13, 0, none⟩)) wk from ⟨g13, A2, C2, rfl, zg13, BP, own2.put B13 (by decide) KB, (Exl.nxb (b := g13) (w := w6) ⟨hHeld, zg13⟩ KB).1⟩)
          clear hwk B13 KB hHeld BP own2
          go_wp2_with fail
          go_meet
          exact CUT.out
      case rest =>
        obtain ⟨g13, A2, C2, rfl, zg13, BP, own2, k6⟩ := hcut
        rename World => wk
        have zgi : wi.heap.size ≤ g13 := by have := K4.out.size; omega
        have KW := Lib.hid (K4.out.nx k6)
        have hgk := BP.lt
        have B10k := Lib.hid (B10.out.nx k6)
        clear k6
        go_wp2_with fail
        go_loopw [55] (fun p wr => PnRel N x hh g13 (.slice A2 (contactsN N x.id width hh).length C2) nl nr wk p wr) (fun p _ => hh - (intOf p).toNat)
        case atStart => exact ⟨0, none, 0, 0, by omega, rfl, BP, OwnL.nil _ _ _ _ _, Exb.refl _ _⟩
        case round =>
          obtain ⟨lev, A, m, cc, hlev, rfl, BR, nrow, kv⟩ := hrel
          obtain ⟨wp, rfl⟩ : ∃ wp : World, wp = wr := ⟨_, rfl⟩
          have O2 := Lib.hid (own2.put BP (by decide) kv)
          have KV := Lib.hid (Exl.nxb (b := g13) (w := wi) ⟨KW.out, zgi⟩ kv).1
          by_cases hl2 : lev < hh
          · have SP := Lib.hid (S3.out.nx (KI.out.nx KV.out))
            have KVV := Lib.hid kv
            have NSN : Hid ((List.range (lev + 1)).map (nearG N x) = (List.range lev).map (nearG N x) ++ [nearG N x lev]) := Lib.hid (by rw [List.range_succ, List.map_append]; rfl)
            have hrl : ((List.range lev).map (nearG N x)).length = lev := by simp
            generalize hyy : nearG N x lev = yy at NSN
            have HYY := Lib.hid hyy
            generalize (List.range lev).map (nearG N x) = row at nrow NSN hrl
            have BPP := Lib.hid BR
            have NROW := Lib.hid nrow
            have zk := kv.size
            have hi16 : lev < 16 := by omega
            clear hyy nrow kv BR BP own2
            have BN := Lib.hid (B10k.out.nxb (show g10 ≠ g13 by have := B10.out.lt; omega) KVV.out)
            have TV := Lib.hid (hT.out.nx (KI.out.nx KV.out))
            go_upto_region 13 with fail
            refine wp_region_late_drew (S := Ex wp) [7, 8, 9] (by kernel_rfl) ((Ex.refl wp).drew) (fun hHeld => ?_)
            obtain ⟨wd, hwdx⟩ : ∃ wd : World, wd = World.drew wp := ⟨_, rfl⟩
            rw [← hwdx] at hHeld ⊢
            have hDrew : Ex wp wd := by rw [hwdx]; exact (Ex.refl wp).drew
            clear hwdx
            refine wpAnyL_take (i := 0) (oi := ⟨some 58, .fieldAddr 45 (.tmp 13) 4, 0, "redundant.go:88", #[], none⟩) (v := ?_) rfl (by kernel_rfl) (by kernel_rfl) (by kernel_rfl) (fun _ _ _ h => h) (Or.inl ⟨by rfl, ?hyr2x0q5⟩) (by kernel_rfl) (by kernel_rfl) (by assumption) ?restr2x0q5
            case hyr2x0q5 => intro wq hSw; (go_simp); (try with_reducible rfl)
            try simp only [Act.put, List.setIfInBounds_toArray, List.set_cons_zero, List.set_cons_succ]
            refine wpAnyL_take (i := 1) (oi := ⟨some 59, .load 43 (.tmp 58), 43, "redundant.go:88", #[⟨0, .data⟩], none⟩) (v := ?_) rfl (by kernel_rfl) (by kernel_rfl) (by kernel_rfl) (fun _ _ _ h => h) (Or.inl ⟨by rfl, ?hyr2x1q8⟩) (by kernel_rfl) (by kernel_rfl) (by assumption) ?restr2x1q8
            case hyr2x1q8 => intro wq hSw; (have cq := (BPP.out.nx hSw).cell 4 _ rfl; go_simp); (try with_reducible rfl)
            try simp only [Act.put, List.setIfInBounds_toArray, List.set_cons_zero, List.set_cons_succ]
            refine wpAnyL_take (i := 2) (oi := ⟨some 60, .move (.tmp 7), 23, "redundant.go:88", #[], none⟩) (v := ?_) rfl (by kernel_rfl) (by kernel_rfl) (by kernel_rfl) (fun _ _ _ h => h) (Or.inl ⟨by rfl, ?hyr2x2q11⟩) (by kernel_rfl) (by kernel_rfl) (by assumption) ?restr2x2q11
            case hyr2x2q11 => intro wq hSw; (go_simp); (try with_reducible rfl)
            try simp only [Act.put, List.setIfInBounds_toArray, List.set_cons_zero, List.set_cons_succ]
            refine wpAnyL_take (i := 3) (oi := ⟨some 61, .load 57 (.tmp 10), 57, "redundant.go:88", #[], none⟩) (v := ?_) rfl (by kernel_rfl) (by kernel_rfl) (by kernel_rfl) (fun _ _ _ h => h) (Or.inl ⟨by rfl, ?hyr2x3q14⟩) (by kernel_rfl) (by kernel_rfl) (by assumption) ?restr2x3q14
            case hyr2x3q14 => intro wq hSw; (have B := BN.out.nx hSw; have c0 := B.cell 0 _ rfl; have c1 := B.cell 1 _ rfl; have c2 := B.cell 2 _ rfl; go_simp); (try with_reducible rfl)
            try simp only [Act.put, List.setIfInBounds_toArray, List.set_cons_zero, List.set_cons_succ]
            refine wpAnyL_take (i := 4) (oi := ⟨some 62, .move (.tmp 14), 3, "redundant.go:88", #[], none⟩) (v := ?_) rfl (by kernel_rfl) (by kernel_rfl) (by kernel_rfl) (fun _ _ _ h => h) (Or.inl ⟨by rfl, ?hyr2x4q17⟩) (by kernel_rfl) (by kernel_rfl) (by assumption) ?restr2x4q17
            case hyr2x4q17 => intro wq hSw; (go_simp); (try with_reducible rfl)
            try simp only [Act.put, List.setIfInBounds_toArray, List.set_cons_zero, List.set_cons_succ]
            refine wpAnyL_ready (rs := [5]) (by kernel_rfl) (by simp) ?_
            refine AllReadyL.cons (o := ⟨some 63, .call { callee := .value (.func 90), args := #[.tmp 60, .tmp 61, .tmp 62], argTypes := #[23, 57, 3] }, 49, "redundant.go:88", #[⟨2, .data⟩, ⟨3, .data⟩, ⟨4, .data⟩], none⟩) rfl (fun K hK => ?_) AllReadyL.nil
            go_simp
            (with_reducible refine (near_p _ _ _ N x lev _ (SP.out.nx hHeld) hn HC.out HW.out HX.out hi16 (TV.out.nx hHeld)).mono ?_)
            rintro e wq ⟨rfl, kk⟩
            rw [HYY.out]
            simp only [encNr]
            replace hHeld := hHeld.nx kk
            clear kk
            refine hK.out _ _ (hHeld) (fun hHeld => ?_)
            clear hK K
            try simp only [Act.put, List.setIfInBounds_toArray, List.set_cons_zero, List.set_cons_succ]
            refine wpAnyL_ready (rs := [6]) (by kernel_rfl) (by simp) ?_
            refine AllReadyL.cons (o := ⟨some 64, .buildSlice 43 1 #[(0, .tmp 63)], 43, "redundant.go:88", #[⟨5, .data⟩], none⟩) rfl (fun K hK => ?_) AllReadyL.nil
            go_simp
            obtain ⟨g8, wq2, hg8, hwq2, SX, kk⟩ := litN4 hHeld yy
            rw [← hg8, ← hwq2]
            replace hHeld := hHeld.nx kk
            clear hg8 hwq2 kk
            refine hK.out _ _ (hHeld) (fun hHeld => ?_)
            clear hK K
            try simp only [Act.put, List.setIfInBounds_toArray, List.set_cons_zero, List.set_cons_succ]
            refine wpAnyL_ready (rs := [7]) (by kernel_rfl) (by simp) ?_
            refine AllReadyL.consL (o := ⟨some 65, .call { callee := .builtin .append, args := #[.tmp 59, .tmp 64], argTypes := #[43, 43] }, 43, "redundant.go:88", #[⟨1, .data⟩, ⟨6, .data⟩, ⟨5, .chain⟩], none⟩) rfl (by rfl) (fun K hK => ?_) AllReadyL.nil
            rw [if_pos (by rfl)]
            have own4 := NROW.out.nx hHeld
            refine wp_append_rd (enc := encNr) _ (.tmp 59) (.tmp 64) 43 rfl wk.heap.size 49 (.agg #[.int .i64 0, .int .i64 0, .int .i64 0, .int .i64 0]) 4 32 Tryz.underlying43 Tryz.infoNr rfl (by omega) (by omega) _ row own4 rfl _ _ 1 1 [yy] SX (fun h => by cases h) (fun _ => rfl) (by simp [encNr, Value.oneCell']) rfl (by omega) (by omega) (Nat.le_trans zk hHeld.size) ?_
            intro v9 wz own9 ch0 ch1
            obtain ⟨A9, C9, e9, _⟩ := own9.rd (fun _ => rfl)
            rw [show (row ++ [yy]).length = lev + 1 by rw [List.length_append, hrl]; rfl] at e9
            subst e9
            have BZ := (BPP.out.nx hHeld).low hgk ch1
            have KQ : Exb g13 wk wz := KVV.out.nxb' (hHeld.b g13) ch1
            refine hK.out _ _ ?_
            clear hK K
            try simp only [Act.put, List.setIfInBounds_toArray, List.set_cons_zero, List.set_cons_succ]
            refine wpAnyL_ready (rs := [8]) (by kernel_rfl) (by simp) ?_
            refine AllReadyL.consL (o := ⟨some 66, .fieldAddr 45 (.tmp 13) 4, 0, "redundant.go:88", #[⟨0, .phase⟩, ⟨1, .phase⟩, ⟨2, .phase⟩, ⟨3, .phase⟩, ⟨4, .phase⟩, ⟨5, .phase⟩, ⟨6, .phase⟩, ⟨7, .phase⟩], none⟩) rfl (by rfl) (fun K hK => ?_) AllReadyL.nil
            go_simp
            refine hK.out _ _ ?_
            clear hK K
            try simp only [Act.put, List.setIfInBounds_toArray, List.set_cons_zero, List.set_cons_succ]
            refine wpAnyL_ready (rs := [9]) (by kernel_rfl) (by simp) ?_
            refine AllReadyL.consL (o := ⟨none, .store 43 (.tmp 66) (.tmp 65), 0, "redundant.go:88", #[⟨8, .data⟩, ⟨7, .data⟩, ⟨7, .chain⟩, ⟨0, .phase⟩, ⟨1, .phase⟩, ⟨2, .phase⟩, ⟨3, .phase⟩, ⟨4, .phase⟩, ⟨5, .phase⟩, ⟨6, .phase⟩, ⟨7, .phase⟩], none⟩) rfl (by rfl) (fun K hK => ?_) AllReadyL.nil
            have c4 := BZ.cell 4 _ rfl
            have f4 := BZ.free 4
            go_simp
            clear c4 f4
            refine hK.out _ _ ?_
            clear hK K
            try simp only [Act.put, List.setIfInBounds_toArray, List.set_cons_zero, List.set_cons_succ]
            refine wpAnyL_done (by kernel_rfl) ?_ _
            have BY := BZ.set 4 (.slice A9 (lev + 1) C9)
            have K9 : Exb g13 wk (wz.setCell ⟨g13, 4, none⟩ (.slice A9 (lev + 1) C9)) := KQ.setB (p := ⟨g13, 4, none⟩) _ rfl
            have own8 := Lib.hid (own9.put BZ (by decide) ((Exb.refl g13 wz).setB (p := ⟨g13, 4, none⟩) (.slice A9 (lev + 1) C9) rfl))
            have RR := Lib.hid (show PnRel N x hh g13 (.slice A2 (contactsN N x.id width hh).length C2) nl nr wk (.int .i64 ((lev : Int) + 1)) (wz.setCell ⟨g13, 4, none⟩ (.slice A9 (lev + 1) C9)) from ⟨lev + 1, A9, _, C9, by omega, by go_num, BY, by rw [NSN.out]; exact own8.out, K9⟩)
            clear BY K9 own8 own9 BZ KQ ch0 ch1 hHeld own4 SX
            go_wp2_with fail
            exact ⟨RR.out, by simp [intOf]; omega⟩
          · obtain rfl : lev = hh := by omega
            have p0 := BR.cell 0 _ rfl
            have p1 := BR.cell 1 _ rfl
            have p2 := BR.cell 2 _ rfl
            have p3 := BR.cell 3 _ rfl
            have p4 := BR.cell 4 _ rfl
            have OP := Lib.hid (OWN.out.nx KV.out)
            have KN := KV.out.nx (Ex.new _ (.cells #[.int .i64 x.id, .slice A2 (contactsN N x.id width lev).length C2, .int .i64 nl, .int .i64 nr, .slice A m cc] 45))
            have zn := Nat.le_trans hwi KN.size
            have zwk := Lib.hid (nrow.base (KW.out.size))
            clear BR nrow kv hlev hl2 BP own2
            go_wp2_with (at_builtin; (refine wpList_append_W (enc := encQ) _ rfl _ _ 24 rfl w3.heap.size 45 (.agg #[.int .i64 0, .slice none 0 0, .int .i64 0, .int .i64 0, .slice none 0 0]) 5 72 Tryz.underlying24 Tryz.infoPr rfl (by omega) (by omega) _ qs (OP.out.nx (Ex.new _ _)).row rfl _ 1 1 [((x.id, nl, nr), (A2, (contactsN N x.id width lev).length, C2), (A, m, cc))] (Sl.lit _ rfl rfl encQ_len rfl) encQ_len encQ_one rfl (by omega) (by omega) zn ?_); intro v9 w9 own9 ch0 ch1 _)
            have RR := OWN.out.app (p := peerC N width lev x) (hk := (A2, (contactsN N x.id width lev).length, C2)) (hn := (A, m, cc)) (by decide) (by decide) hwi KN (by rw [PQ.out]; exact (O2.out.nx (Ex.new _ _))) (by rw [PQ.out]; exact (zwk.out.nx (Ex.new _ _))) (by rw [PQ.out]; exact own9) ch0
            exact ⟨⟨j + 1, _, by omega, by go_num, by rw [SN.out]; exact RR, Chg.trans (KI.out.nx KN) ch1⟩, by simp [intOf]; omega⟩
    · obtain rfl : j = n := by omega
      rw [List.take_of_length_le (by omega)] at own
      have O := Lib.hid (own.lower EX.out.size)
      have KE := Lib.hid (EX.out.nx ki)
      clear own ki hj hjm
      go_wp2_with fail
      go_ret
      exact ⟨_, qs, rfl, by rw [FIN.out]; exact O.out, KE.out⟩

set_option maxRecDepth 100000 in
set_option maxHeartbeats 16000000 in
theorem peers_r (a : Option Addr) (n c : Nat) (N : List Nd) (width height : Int) (w : World) (h : Sl 3 encN w a n N) (hn : n ≤ 1000) (hw : ∀ x ∈ N, x.word < 4294967296) (hw2 : width ≤ 9223372036854775807) :
    Calls Tryz.prog 57 #[.slice a n c, .int .i64 width, .int .i64 height] w (PlPost (peersN N width height) w) := by
  have HL := Lib.hid h.len
  have HW := Lib.hid hw
  have EX := Ex.refl w
  clear hw
  have NO : Hid (checkN N ≠ 0 ∨ lvlN height = false → ∀ wx, Ex w wx → PlPost (peersN N width height) w (.returned (.slice none 0 0)) wx) := Lib.hid (fun hh wx kx => by
    unfold peersN
    rw [if_neg (by
      rintro ⟨h1, h2⟩
      rcases hh with h | h
      · exact h h1
      · rw [h] at h2; cases h2)]
    exact ⟨_, [], rfl, OwnP.nil _ _ _ _ _, kx⟩)
  go_enter Tryz.func57, Tryz.ntmps57
  go_wp2_with fail
  (with_reducible refine (is_r _ _ _ _ _ h (by omega)).mono ?_)
  rintro e w1 ⟨rfl, kk⟩
  replace h := h.nx kk
  replace EX := EX.nx kk
  clear kk
  by_cases hck : checkN N = 0
  case neg =>
    have d1 : (checkN N == 0) = false := by simpa using hck
    have FI := Lib.hid (NO.out (.inl hck) _ EX)
    rw [d1]
    clear h NO EX hck d1
    go_wp2_with fail
    go_ret
    exact FI.out
  have d1 : (checkN N == 0) = true := by simpa using hck
  rw [d1]
  go_wp2_with fail
  (with_reducible refine (level_r height _).mono ?_)
  rintro e w1' ⟨rfl, rfl⟩
  cases hlv : lvlN height with
  | false =>
    have FI := Lib.hid (NO.out (.inr hlv) _ EX)
    clear h NO EX hck hlv d1
    go_wp2_with fail
    go_ret
    exact FI.out
  | true =>
  obtain ⟨hh, rfl⟩ := Int.eq_ofNat_of_zero_le (show 0 ≤ height by unfold lvlN at hlv; simp at hlv; omega)
  have hh16 : hh ≤ 16 := by unfold lvlN at hlv; simp at hlv; omega
  clear hlv d1
  have HC := Lib.hid hck
  have FIN : Hid (peersN N width hh = (sortN N).map (peerC N width hh)) := Lib.hid (by unfold peersN; rw [if_pos ⟨hck, by unfold lvlN; simp; omega⟩])
  have hsN : (sortN N).length = n := by rw [sortN_length, HL.out]
  have hn64 : n ≤ 64 := by have := check_len hck; have := HL.out; omega
  clear NO hck
  go_wp2_with fail
  (with_reducible refine (sort_r _ _ _ _ _ h hn).mono ?_)
  rintro e w3 ⟨a3, n3, c3, rfl, r3, kk⟩
  replace h := h.nx kk
  replace EX := EX.nx kk
  clear kk
  have S3 : Sl 3 encN w3 a3 n3 (sortN N) := Slf.sl r3
  obtain rfl : n = n3 := hsN.symm.trans S3.len
  clear r3
  replace h := Lib.hid h
  replace S3 := Lib.hid S3
  replace EX := Lib.hid EX
  go_wp2_with fail
  go_loopw [7, 9] (fun o i wr => PsRel N width hh w3 o i wr) (fun _ i _ => n - (intOf i).toNat)
  case atStart => exact ⟨0, [], by omega, rfl, OwnP.nil _ _ _ _ _, Ex.refl _⟩
  case round =>
    obtain ⟨j, qs, hj, rfl, own, ki⟩ := hrel
    obtain ⟨wi, rfl⟩ : ∃ wi : World, wi = wr := ⟨_, rfl⟩
    rw [hsN] at hj
    by_cases hjm : j < n
    · obtain ⟨x3, o3, x, rfl, hx3, hy, hc3⟩ := (S3.out.nx ki).at hjm
      have e0 : wi.cell? ⟨x3, o3 + j * 3, none⟩ = some (.int .i64 x.id) := hc3 0 _ rfl
      have e1 : wi.cell? ⟨x3, o3 + j * 3 + 1, none⟩ = some (.string x.key) := hc3 1 _ rfl
      have e2 : wi.cell? ⟨x3, o3 + j * 3 + 1 + 1, none⟩ = some (.int .u32 x.word) := by simpa [Nat.add_assoc] using hc3 2 _ rfl
      have hxN : x ∈ N := (sortN_mem N x).1 (List.mem_of_getElem? hy)
      have HX := Lib.hid hxN
      have SN : Hid (((sortN N).take (j + 1)).map (peerC N width hh) = ((sortN N).take j).map (peerC N width hh) ++ [peerC N width hh x]) := Lib.hid (by rw [take_snocN _ j x hy, List.map_append]; rfl)
      have PQ : Hid (peerC N width hh x = ⟨x.id, (neighN N x.id 0).1.1, (neighN N x.id 0).1.2, contactsN N x.id width hh, (List.range hh).map (nearG N x)⟩) := Lib.hid (by have := peerC_eq HC.out width hh x; simpa using this)
      have hql : qs.length = j := by rw [own.2.1, List.length_map, List.length_take]; omega
      have hwi := ki.size
      have KI := Lib.hid ki
      have OWN := Lib.hid own
      clear hy own ki hxN hc3
      go_wp2_with fail
      (with_reducible refine (neigh_r _ _ _ (sortN N) x.id 0 _ (S3.out.nx KI.out) hn (sort_word HW.out)).mono ?_)
      rintro e w5 ⟨rfl, kk⟩
      rw [neigh_sort HC.out]
      have K4 := Lib.hid kk
      clear kk e1 e2
      generalize hL : (neighN N x.id 0).1.1 = nl at PQ ⊢
      generalize hR : (neighN N x.id 0).1.2 = nr at PQ ⊢
      clear hL hR
      have hz5 := K4.out.size
      have B11 := Blk.new w5 [.int .i64 nl, .int .i64 nr] 65
      have kk := Ex.new w5 (.cells #[.int .i64 nl, .int .i64 nr] 65)
      obtain ⟨w6, hw6⟩ : ∃ w6, w6 = w5.alloc (.cells #[.int .i64 nl, .int .i64 nr] 65) := ⟨_, rfl⟩
      obtain ⟨g11, hg11⟩ : ∃ g11, g11 = w5.heap.size := ⟨_, rfl⟩
      replace B11 : Blk w6 g11 [.int .i64 nl, .int .i64 nr] 65 := by rw [hw6, hg11]; exact B11
      rw [← hw6] at kk
      have Hw6 := Lib.hid hw6
      have Hg11 := Lib.hid hg11
      replace K4 := Lib.hid (K4.out.nx kk)
      have zg11 : wi.heap.size ≤ g11 := by have := hz5; omega
      clear kk hw6 hg11
      go_upto_region 9 with fail
      rw [← Hg11.out, ← Hw6.out]
      clear Hg11 Hw6
      replace B11 := Lib.hid B11
      have SX0 := Lib.hid (fun wq (k : Ex wi wq) => Chg.cellv (p := ⟨x3, o3 + j * 3, none⟩) k e0 hx3)
      clear e0
      have SK := Lib.hid (S3.out.nx (KI.out.nx K4.out))
      have hz6 := K4.out.size
      go_cut [12] from 40 to 58 (fun s13 wx => PcRel N x width hh nl nr wi.heap.size w6 s13 wx)
      case first =>
        refine wp_region_late_drew (S := Ex w6) [20] (by kernel_rfl) ((Ex.refl w6).drew) (fun hHeld => ?_)
        obtain ⟨wd, hwdx⟩ : ∃ wd : World, wd = World.drew w6 := ⟨_, rfl⟩
        rw [← hwdx] at hHeld ⊢
        have hDrew : Ex w6 wd := by rw [hwdx]; exact (Ex.refl w6).drew
        clear hwdx
        refine wpAnyL_take (i := 0) (oi := ⟨some 40, .move (.tmp 8), 23, "ref.go:88", #[], none⟩) (v := ?_) rfl (by kernel_rfl) (by kernel_rfl) (by kernel_rfl) (fun _ _ _ h => h) (Or.inl ⟨by rfl, ?hyr3x0q5⟩) (by kernel_rfl) (by kernel_rfl) (by assumption) ?restr3x0q5
        case hyr3x0q5 => intro wq hSw; (go_simp); (try with_reducible rfl)
        try simp only [Act.put, List.setIfInBounds_toArray, List.set_cons_zero, List.set_cons_succ]
        refine wpAnyL_take (i := 1) (oi := ⟨some 41, .move (.tmp 9), 3, "ref.go:88", #[], none⟩) (v := ?_) rfl (by kernel_rfl) (by kernel_rfl) (by kernel_rfl) (fun _ _ _ h => h) (Or.inl ⟨by rfl, ?hyr3x1q8⟩) (by kernel_rfl) (by kernel_rfl) (by assumption) ?restr3x1q8
        case hyr3x1q8 => intro wq hSw; (go_simp); (try with_reducible rfl)
        try simp only [Act.put, List.setIfInBounds_toArray, List.set_cons_zero, List.set_cons_succ]
        refine wpAnyL_take (i := 2) (oi := ⟨some 42, .indexAddr 23 (.tmp 40) (.tmp 41), 0, "ref.go:88", #[⟨0, .data⟩, ⟨1, .data⟩], none⟩) (v := ?_) rfl (by kernel_rfl) (by kernel_rfl) (by kernel_rfl) (fun _ _ _ h => h) (Or.inl ⟨by rfl, ?hyr3x2q11⟩) (by kernel_rfl) (by kernel_rfl) (by assumption) ?restr3x2q11
        case hyr3x2q11 => intro wq hSw; (go_simp); (try with_reducible rfl)
        try simp only [Act.put, List.setIfInBounds_toArray, List.set_cons_zero, List.set_cons_succ]
        refine wpAnyL_take (i := 3) (oi := ⟨some 43, .fieldAddr 57 (.tmp 42) 0, 0, "ref.go:88", #[⟨2, .data⟩], none⟩) (v := ?_) rfl (by kernel_rfl) (by kernel_rfl) (by kernel_rfl) (fun _ _ _ h => h) (Or.inl ⟨by rfl, ?hyr3x3q14⟩) (by kernel_rfl) (by kernel_rfl) (by assumption) ?restr3x3q14
        case hyr3x3q14 => intro wq hSw; (go_simp); (try with_reducible rfl)
        try simp only [Act.put, List.setIfInBounds_toArray, List.set_cons_zero, List.set_cons_succ]
        refine wpAnyL_take (i := 4) (oi := ⟨some 44, .load 3 (.tmp 43), 3, "ref.go:88", #[⟨3, .data⟩], none⟩) (v := ?_) rfl (by kernel_rfl) (by kernel_rfl) (by kernel_rfl) (fun _ _ _ h => h) (Or.inl ⟨by rfl, ?hyr3x4q17⟩) (by kernel_rfl) (by kernel_rfl) (by assumption) ?restr3x4q17
        case hyr3x4q17 => intro wq hSw; (have cq := SX0.out _ (K4.out.nx hSw); go_simp); (try with_reducible rfl)
        try simp only [Act.put, List.setIfInBounds_toArray, List.set_cons_zero, List.set_cons_succ]
        refine wpAnyL_take (i := 5) (oi := ⟨some 45, .move (.tmp 8), 23, "ref.go:88", #[], none⟩) (v := ?_) rfl (by kernel_rfl) (by kernel_rfl) (by kernel_rfl) (fun _ _ _ h => h) (Or.inl ⟨by rfl, ?hyr3x5q20⟩) (by kernel_rfl) (by kernel_rfl) (by assumption) ?restr3x5q20
        case hyr3x5q20 => intro wq hSw; (go_simp); (try with_reducible rfl)
        try simp only [Act.put, List.setIfInBounds_toArray, List.set_cons_zero, List.set_cons_succ]
        refine wpAnyL_take (i := 6) (oi := ⟨some 46, .move (.tmp 8), 23, "ref.go:88", #[], none⟩) (v := ?_) rfl (by kernel_rfl) (by kernel_rfl) (by kernel_rfl) (fun _ _ _ h => h) (Or.inl ⟨by rfl, ?hyr3x6q23⟩) (by kernel_rfl) (by kernel_rfl) (by assumption) ?restr3x6q23
        case hyr3x6q23 => intro wq hSw; (go_simp); (try with_reducible rfl)
        try simp only [Act.put, List.setIfInBounds_toArray, List.set_cons_zero, List.set_cons_succ]
        refine wpAnyL_take (i := 7) (oi := ⟨some 47, .move (.tmp 9), 3, "ref.go:88", #[], none⟩) (v := ?_) rfl (by kernel_rfl) (by kernel_rfl) (by kernel_rfl) (fun _ _ _ h => h) (Or.inl ⟨by rfl, ?hyr3x7q26⟩) (by kernel_rfl) (by kernel_rfl) (by assumption) ?restr3x7q26
        case hyr3x7q26 => intro wq hSw; (go_simp); (try with_reducible rfl)
        try simp only [Act.put, List.setIfInBounds_toArray, List.set_cons_zero, List.set_cons_succ]
        refine wpAnyL_take (i := 8) (oi := ⟨some 48, .indexAddr 23 (.tmp 46) (.tmp 47), 0, "ref.go:88", #[⟨6, .data⟩, ⟨7, .data⟩], none⟩) (v := ?_) rfl (by kernel_rfl) (by kernel_rfl) (by kernel_rfl) (fun _ _ _ h => h) (Or.inl ⟨by rfl, ?hyr3x8q29⟩) (by kernel_rfl) (by kernel_rfl) (by assumption) ?restr3x8q29
        case hyr3x8q29 => intro wq hSw; (go_simp); (try with_reducible rfl)
        try simp only [Act.put, List.setIfInBounds_toArray, List.set_cons_zero, List.set_cons_succ]
        refine wpAnyL_take (i := 9) (oi := ⟨some 49, .fieldAddr 57 (.tmp 48) 0, 0, "ref.go:88", #[⟨8, .data⟩], none⟩) (v := ?_) rfl (by kernel_rfl) (by kernel_rfl) (by kernel_rfl) (fun _ _ _ h => h) (Or.inl ⟨by rfl, ?hyr3x9q32⟩) (by kernel_rfl) (by kernel_rfl) (by assumption) ?restr3x9q32
        case hyr3x9q32 => intro wq hSw; (go_simp); (try with_reducible rfl)
        try simp only [Act.put, List.setIfInBounds_toArray, List.set_cons_zero, List.set_cons_succ]
        refine wpAnyL_take (i := 10) (oi := ⟨some 50, .load 3 (.tmp 49), 3, "ref.go:88", #[⟨9, .data⟩], none⟩) (v := ?_) rfl (by kernel_rfl) (by kernel_rfl) (by kernel_rfl) (fun _ _ _ h => h) (Or.inl ⟨by rfl, ?hyr3x10q35⟩) (by kernel_rfl) (by kernel_rfl) (by assumption) ?restr3x10q35
        case hyr3x10q35 => intro wq hSw; (have cq := SX0.out _ (K4.out.nx hSw); go_simp); (try with_reducible rfl)
        try simp only [Act.put, List.setIfInBounds_toArray, List.set_cons_zero, List.set_cons_succ]
        refine wpAnyL_take (i := 11) (oi := ⟨some 51, .move (.tmp 1), 3, "ref.go:88", #[], none⟩) (v := ?_) rfl (by kernel_rfl) (by kernel_rfl) (by kernel_rfl) (fun _ _ _ h => h) (Or.inl ⟨by rfl, ?hyr3x11q38⟩) (by kernel_rfl) (by kernel_rfl) (by assumption) ?restr3x11q38
        case hyr3x11q38 => intro wq hSw; (go_simp); (try with_reducible rfl)
        try simp only [Act.put, List.setIfInBounds_toArray, List.set_cons_zero, List.set_cons_succ]
        refine wpAnyL_take (i := 12) (oi := ⟨some 52, .move (.tmp 2), 3, "ref.go:88", #[], none⟩) (v := ?_) rfl (by kernel_rfl) (by kernel_rfl) (by kernel_rfl) (fun _ _ _ h => h) (Or.inl ⟨by rfl, ?hyr3x12q41⟩) (by kernel_rfl) (by kernel_rfl) (by assumption) ?restr3x12q41
        case hyr3x12q41 => intro wq hSw; (go_simp); (try with_reducible rfl)
        try simp only [Act.put, List.setIfInBounds_toArray, List.set_cons_zero, List.set_cons_succ]
        refine wpAnyL_take (i := 14) (oi := ⟨some 54, .fieldAddr 65 (.tmp 10) 0, 0, "ref.go:88", #[], none⟩) (v := ?_) rfl (by kernel_rfl) (by kernel_rfl) (by kernel_rfl) (fun _ _ _ h => h) (Or.inl ⟨by rfl, ?hyr3x14q44⟩) (by kernel_rfl) (by kernel_rfl) (by assumption) ?restr3x14q44
        case hyr3x14q44 => intro wq hSw; (go_simp); (try with_reducible rfl)
        try simp only [Act.put, List.setIfInBounds_toArray, List.set_cons_zero, List.set_cons_succ]
        refine wpAnyL_take (i := 15) (oi := ⟨some 55, .load 3 (.tmp 54), 3, "ref.go:88", #[⟨14, .data⟩], none⟩) (v := ?_) rfl (by kernel_rfl) (by kernel_rfl) (by kernel_rfl) (fun _ _ _ h => h) (Or.inl ⟨by rfl, ?hyr3x15q47⟩) (by kernel_rfl) (by kernel_rfl) (by assumption) ?restr3x15q47
        case hyr3x15q47 => intro wq hSw; (have cq := (B11.out.nx hSw).cell 0 _ rfl; go_simp); (try with_reducible rfl)
        try simp only [Act.put, List.setIfInBounds_toArray, List.set_cons_zero, List.set_cons_succ]
        refine wpAnyL_take (i := 16) (oi := ⟨some 56, .fieldAddr 65 (.tmp 10) 1, 0, "ref.go:88", #[], none⟩) (v := ?_) rfl (by kernel_rfl) (by kernel_rfl) (by kernel_rfl) (fun _ _ _ h => h) (Or.inl ⟨by rfl, ?hyr3x16q50⟩) (by kernel_rfl) (by kernel_rfl) (by assumption) ?restr3x16q50
        case hyr3x16q50 => intro wq hSw; (go_simp); (try with_reducible rfl)
        try simp only [Act.put, List.setIfInBounds_toArray, List.set_cons_zero, List.set_cons_succ]
        refine wpAnyL_take (i := 17) (oi := ⟨some 57, .load 3 (.tmp 56), 3, "ref.go:88", #[⟨16, .data⟩], none⟩) (v := ?_) rfl (by kernel_rfl) (by kernel_rfl) (by kernel_rfl) (fun _ _ _ h => h) (Or.inl ⟨by rfl, ?hyr3x17q53⟩) (by kernel_rfl) (by kernel_rfl) (by assumption) ?restr3x17q53
        case hyr3x17q53 => intro wq hSw; (have cq := (B11.out.nx hSw).cell 1 _ rfl; go_simp); (try with_reducible rfl)
        try simp only [Act.put, List.setIfInBounds_toArray, List.set_cons_zero, List.set_cons_succ]
        refine wpAnyL_ready (rs := [13, 19]) (by kernel_rfl) (by simp) ?_
        refine AllReadyL.cons (o := ⟨some 53, .call { callee := .value (.func 91), args := #[.tmp 45, .tmp 50, .tmp 51, .tmp 52], argTypes := #[23, 3, 3, 3] }, 22, "ref.go:88", #[⟨5, .data⟩, ⟨10, .data⟩, ⟨11, .data⟩, ⟨12, .data⟩], none⟩) rfl (fun K hK => ?_) ?_
        · go_simp
          (with_reducible refine (contacts_r _ _ _ (sortN N) x.id width hh _ (S3.out.nx (KI.out.nx (K4.out.nx hHeld))) hn (sort_word HW.out) hw2).mono ?_)
          rintro e wz ⟨vc, rfl, own2, kk⟩
          rw [contacts_sort HC.out] at own2
          (try replace B13 := B13.nx kk)
          obtain ⟨A2, C2, rfl, _, _, _, _⟩ := own2.slf (fun _ => rfl)
          replace own2 := own2.base (Nat.le_trans hz6 hHeld.size)
          replace hHeld := hHeld.nx kk
          clear kk
          refine hK.out _ _ (hHeld) (fun hHeld => ?_)
          clear hK K
          try simp only [Act.put, List.setIfInBounds_toArray, List.set_cons_zero, List.set_cons_succ]
          refine wpAnyL_take (i := 18) (oi := ⟨some 58, .build 45 #[(0, .tmp 44), (1, .tmp 53), (2, .tmp 55), (3, .tmp 57)], 45, "ref.go:88", #[⟨4, .data⟩, ⟨13, .data⟩, ⟨15, .data⟩, ⟨17, .data⟩], none⟩) (v := ?_) rfl (by kernel_rfl) (by kernel_rfl) (by kernel_rfl) (fun _ _ _ h => h) (Or.inl ⟨by rfl, ?hyr3x18q70⟩) (by kernel_rfl) (by kernel_rfl) (by assumption) ?restr3x18q70
          case hyr3x18q70 => intro wq hSw; (go_simp); (try with_reducible rfl)
          try simp only [Act.put, List.setIfInBounds_toArray, List.set_cons_zero, List.set_cons_succ]
          refine wpAnyL_ready (rs := [19]) (by kernel_rfl) (by simp) ?_
          refine AllReadyL.cons (o := ⟨some 12, .alloc 45, 0, "ref.go:88", #[], none⟩) rfl (fun K hK => ?_) AllReadyL.nil
          go_simp
          have z13 := hHeld.size
          obtain ⟨g13, wz, hg13, hwz, B13, kk⟩ := newPr hHeld
          rw [← hg13, ← hwz]
          have zg13 : w6.heap.size ≤ g13 := by omega
          clear hg13 hwz z13
          (try replace own2 := own2.nx kk)
          replace hHeld := hHeld.nx kk
          clear kk
          refine hK.out _ _ (hHeld) (fun hHeld => ?_)
          clear hK K
          try simp only [Act.put, List.setIfInBounds_toArray, List.set_cons_zero, List.set_cons_succ]
          refine wpAnyL_ready (rs := [20]) (by kernel_rfl) (by simp) ?_
          refine AllReadyL.consL (o := ⟨none, .store 45 (.tmp 12) (.tmp 58), 0, "ref.go:88", #[⟨19, .data⟩, ⟨18, .data⟩, ⟨13, .chain⟩, ⟨0, .phase⟩, ⟨1, .phase⟩, ⟨2, .phase⟩, ⟨3, .phase⟩, ⟨4, .phase⟩, ⟨5, .phase⟩, ⟨6, .phase⟩, ⟨7, .phase⟩, ⟨8, .phase⟩, ⟨9, .phase⟩, ⟨10, .phase⟩, ⟨11, .phase⟩, ⟨12, .phase⟩, ⟨13, .phase⟩, ⟨14, .phase⟩, ⟨15, .phase⟩, ⟨16, .phase⟩, ⟨17, .phase⟩, ⟨18, .phase⟩, ⟨19, .phase⟩], none⟩) rfl (by rfl) (fun K hK => ?_) AllReadyL.nil
          have c0 := B13.cell 0 _ rfl
          have c1 := B13.cell 1 _ rfl
          have c2 := B13.cell 2 _ rfl
          have c3 := B13.cell 3 _ rfl
          have c4 := B13.cell 4 _ rfl
          have f0 := B13.free 0
          have f1 := B13.free 1
          have f2 := B13.free 2
          have f3 := B13.free 3
          have f4 := B13.free 4
          go_simp
          clear c0 c1 c2 c3 c4 f0 f1 f2 f3 f4
          refine hK.out _ _ ?_
          clear hK K
          try simp only [Act.put, List.setIfInBounds_toArray, List.set_cons_zero, List.set_cons_succ]
          refine wpAnyL_done (by kernel_rfl) ?_ _
          obtain ⟨wk, hwk⟩ : ∃ wk, wk = ((((wz.setCell ⟨g13, 0, none⟩ (.int .i64 x.id)).setCell ⟨g13, 1, none⟩ (.slice A2 (contactsN N x.id width hh).length C2)).setCell ⟨g13, 2, none⟩ (.int .i64 nl)).setCell ⟨g13, 3, none⟩ (.int .i64 nr)).setCell ⟨g13, 4, none⟩ (.slice none 0 0) := ⟨_, rfl⟩
          rw [← hwk]
          have BP : Blk wk g13 [.int .i64 x.id, .slice A2 (contactsN N x.id width hh).length C2, .int .i64 nl, .int .i64 nr, .slice none 0 0] 45 := by rw [hwk]; exact ((((B13.set 0 _).set 1 _).set 2 _).set 3 _).set 4 _
          have KB : Exb g13 wz wk := by rw [hwk]; exact (((((Exb.refl g13 wz).setB (p := ⟨g13, 0, none⟩) _ rfl).setB (p := ⟨g13, 1, none⟩) _ rfl).setB (p := ⟨g13, 2, none⟩) _ rfl).setB (p := ⟨g13, 3, none⟩) _ rfl).setB (p := ⟨g13, 4, none⟩) _ rfl
          have CUT := Lib.hid (show PcRel N x width hh nl nr wi.heap.size w6 (.pointer (some ⟨g13, 0, none⟩)) wk from ⟨g13, A2, C2, rfl, zg13, BP, own2.put B13 (by decide) KB, (Exl.nxb (b := g13) (w := w6) ⟨hHeld, zg13⟩ KB).1⟩)
          clear hwk B13 KB hHeld BP own2
          go_wp2_with fail
          go_meet
          exact CUT.out
        refine AllReadyL.cons (o := ⟨some 12, .alloc 45, 0, "ref.go:88", #[], none⟩) rfl (fun K hK => ?_) AllReadyL.nil
        · go_simp
          have z13 := hHeld.size
          obtain ⟨g13, wz, hg13, hwz, B13, kk⟩ := newPr hHeld
          rw [← hg13, ← hwz]
          have zg13 : w6.heap.size ≤ g13 := by omega
          clear hg13 hwz z13
          (try replace own2 := own2.nx kk)
          replace hHeld := hHeld.nx kk
          clear kk
          refine hK.out _ _ (hHeld) (fun hHeld => ?_)
          clear hK K
          try simp only [Act.put, List.setIfInBounds_toArray, List.set_cons_zero, List.set_cons_succ]
          refine wpAnyL_ready (rs := [13]) (by kernel_rfl) (by simp) ?_
          refine AllReadyL.cons (o := ⟨some 53, .call { callee := .value (.func 91), args := #[.tmp 45, .tmp 50, .tmp 51, .tmp 52], argTypes := #[23, 3, 3, 3] }, 22, "ref.go:88", #[⟨5, .data⟩, ⟨10, .data⟩, ⟨11, .data⟩, ⟨12, .data⟩], none⟩) rfl (fun K hK => ?_) AllReadyL.nil
          go_simp
          (with_reducible refine (contacts_r _ _ _ (sortN N) x.id width hh _ (S3.out.nx (KI.out.nx (K4.out.nx hHeld))) hn (sort_word HW.out) hw2).mono ?_)
          rintro e wz ⟨vc, rfl, own2, kk⟩
          rw [contacts_sort HC.out] at own2
          (try replace B13 := B13.nx kk)
          obtain ⟨A2, C2, rfl, _, _, _, _⟩ := own2.slf (fun _ => rfl)
          replace own2 := own2.base (Nat.le_trans hz6 hHeld.size)
          replace hHeld := hHeld.nx kk
          clear kk
          refine hK.out _ _ (hHeld) (fun hHeld => ?_)
          clear hK K
          try simp only [Act.put, List.setIfInBounds_toArray, List.set_cons_zero, List.set_cons_succ]
          refine wpAnyL_take (i := 18) (oi := ⟨some 58, .build 45 #[(0, .tmp 44), (1, .tmp 53), (2, .tmp 55), (3, .tmp 57)], 45, "ref.go:88", #[⟨4, .data⟩, ⟨13, .data⟩, ⟨15, .data⟩, ⟨17, .data⟩], none⟩) (v := ?_) rfl (by kernel_rfl) (by kernel_rfl) (by kernel_rfl) (fun _ _ _ h => h) (Or.inl ⟨by rfl, ?hyr3x18q133⟩) (by kernel_rfl) (by kernel_rfl) (by assumption) ?restr3x18q133
          case hyr3x18q133 => intro wq hSw; (go_simp); (try with_reducible rfl)
          try simp only [Act.put, List.setIfInBounds_toArray, List.set_cons_zero, List.set_cons_succ]
          refine wpAnyL_ready (rs := [20]) (by kernel_rfl) (by simp) ?_
          refine AllReadyL.consL (o := ⟨none, .store 45 (.tmp 12) (.tmp 58), 0, "ref.go:88", #[⟨19, .data⟩, ⟨18, .data⟩, ⟨13, .chain⟩, ⟨0, .phase⟩, ⟨1, .phase⟩, ⟨2, .phase⟩, ⟨3, .phase⟩, ⟨4, .phase⟩, ⟨5, .phase⟩, ⟨6, .phase⟩, ⟨7, .phase⟩, ⟨8, .phase⟩, ⟨9, .phase⟩, ⟨10, .phase⟩, ⟨11, .phase⟩, ⟨12, .phase⟩, ⟨13, .phase⟩, ⟨14, .phase⟩, ⟨15, .phase⟩, ⟨16, .phase⟩, ⟨17, .phase⟩, ⟨18, .phase⟩, ⟨19, .phase⟩], none⟩) rfl (by rfl) (fun K hK => ?_) AllReadyL.nil
          have c0 := B13.cell 0 _ rfl
          have c1 := B13.cell 1 _ rfl
          have c2 := B13.cell 2 _ rfl
          have c3 := B13.cell 3 _ rfl
          have c4 := B13.cell 4 _ rfl
          have f0 := B13.free 0
          have f1 := B13.free 1
          have f2 := B13.free 2
          have f3 := B13.free 3
          have f4 := B13.free 4
          go_simp
          clear c0 c1 c2 c3 c4 f0 f1 f2 f3 f4
          refine hK.out _ _ ?_
          clear hK K
          try simp only [Act.put, List.setIfInBounds_toArray, List.set_cons_zero, List.set_cons_succ]
          refine wpAnyL_done (by kernel_rfl) ?_ _
          obtain ⟨wk, hwk⟩ : ∃ wk, wk = ((((wz.setCell ⟨g13, 0, none⟩ (.int .i64 x.id)).setCell ⟨g13, 1, none⟩ (.slice A2 (contactsN N x.id width hh).length C2)).setCell ⟨g13, 2, none⟩ (.int .i64 nl)).setCell ⟨g13, 3, none⟩ (.int .i64 nr)).setCell ⟨g13, 4, none⟩ (.slice none 0 0) := ⟨_, rfl⟩
          rw [← hwk]
          have BP : Blk wk g13 [.int .i64 x.id, .slice A2 (contactsN N x.id width hh).length C2, .int .i64 nl, .int .i64 nr, .slice none 0 0] 45 := by rw [hwk]; exact ((((B13.set 0 _).set 1 _).set 2 _).set 3 _).set 4 _
          have KB : Exb g13 wz wk := by rw [hwk]; exact (((((Exb.refl g13 wz).setB (p := ⟨g13, 0, none⟩) _ rfl).setB (p := ⟨g13, 1, none⟩) _ rfl).setB (p := ⟨g13, 2, none⟩) _ rfl).setB (p := ⟨g13, 3, none⟩) _ rfl).setB (p := ⟨g13, 4, none⟩) _ rfl
          have CUT := Lib.hid (show PcRel N x width hh nl nr wi.heap.size w6 (.pointer (some ⟨g13, 0, none⟩)) wk from ⟨g13, A2, C2, rfl, zg13, BP, own2.put B13 (by decide) KB, (Exl.nxb (b := g13) (w := w6) ⟨hHeld, zg13⟩ KB).1⟩)
          clear hwk B13 KB hHeld BP own2
          go_wp2_with fail
          go_meet
          exact CUT.out
      case rest =>
        obtain ⟨g13, A2, C2, rfl, zg13, BP, own2, k6⟩ := hcut
        rename World => wk
        have zgi : wi.heap.size ≤ g13 := by have := K4.out.size; omega
        have KW := Lib.hid (K4.out.nx k6)
        have hgk := BP.lt
        clear k6
        go_wp2_with fail
        go_loopw [13] (fun p wr => PnRel N x hh g13 (.slice A2 (contactsN N x.id width hh).length C2) nl nr wk p wr) (fun p _ => hh - (intOf p).toNat)
        case atStart => exact ⟨0, none, 0, 0, by omega, rfl, BP, OwnL.nil _ _ _ _ _, Exb.refl _ _⟩
        case round =>
          obtain ⟨lev, A, m, cc, hlev, rfl, BR, nrow, kv⟩ := hrel
          obtain ⟨wp, rfl⟩ : ∃ wp : World, wp = wr := ⟨_, rfl⟩
          have O2 := Lib.hid (own2.put BP (by decide) kv)
          have KV := Lib.hid (Exl.nxb (b := g13) (w := wi) ⟨KW.out, zgi⟩ kv).1
          by_cases hl2 : lev < hh
          · have SP := Lib.hid (S3.out.nx (KI.out.nx KV.out))
            have KVV := Lib.hid kv
            have NSN : Hid ((List.range (lev + 1)).map (nearG N x) = (List.range lev).map (nearG N x) ++ [nearG N x lev]) := Lib.hid (by rw [List.range_succ, List.map_append]; rfl)
            have hrl : ((List.range lev).map (nearG N x)).length = lev := by simp
            generalize hyy : nearG N x lev = yy at NSN
            have HYY := Lib.hid hyy
            generalize (List.range lev).map (nearG N x) = row at nrow NSN hrl
            have BPP := Lib.hid BR
            have NROW := Lib.hid nrow
            have zk := kv.size
            have hi16 : lev < 16 := by omega
            clear hyy nrow kv BR BP own2
            go_upto_region 13 with fail
            refine wp_region_late_drew (S := Ex wp) [11, 12, 13] (by kernel_rfl) ((Ex.refl wp).drew) (fun hHeld => ?_)
            obtain ⟨wd, hwdx⟩ : ∃ wd : World, wd = World.drew wp := ⟨_, rfl⟩
            rw [← hwdx] at hHeld ⊢
            have hDrew : Ex wp wd := by rw [hwdx]; exact (Ex.refl wp).drew
            clear hwdx
            refine wpAnyL_take (i := 0) (oi := ⟨some 64, .fieldAddr 45 (.tmp 12) 4, 0, "ref.go:90", #[], none⟩) (v := ?_) rfl (by kernel_rfl) (by kernel_rfl) (by kernel_rfl) (fun _ _ _ h => h) (Or.inl ⟨by rfl, ?hyr4x0q5⟩) (by kernel_rfl) (by kernel_rfl) (by assumption) ?restr4x0q5
            case hyr4x0q5 => intro wq hSw; (go_simp); (try with_reducible rfl)
            try simp only [Act.put, List.setIfInBounds_toArray, List.set_cons_zero, List.set_cons_succ]
            refine wpAnyL_take (i := 1) (oi := ⟨some 65, .load 43 (.tmp 64), 43, "ref.go:90", #[⟨0, .data⟩], none⟩) (v := ?_) rfl (by kernel_rfl) (by kernel_rfl) (by kernel_rfl) (fun _ _ _ h => h) (Or.inl ⟨by rfl, ?hyr4x1q8⟩) (by kernel_rfl) (by kernel_rfl) (by assumption) ?restr4x1q8
            case hyr4x1q8 => intro wq hSw; (have cq := (BPP.out.nx hSw).cell 4 _ rfl; go_simp); (try with_reducible rfl)
            try simp only [Act.put, List.setIfInBounds_toArray, List.set_cons_zero, List.set_cons_succ]
            refine wpAnyL_take (i := 2) (oi := ⟨some 66, .move (.tmp 8), 23, "ref.go:90", #[], none⟩) (v := ?_) rfl (by kernel_rfl) (by kernel_rfl) (by kernel_rfl) (fun _ _ _ h => h) (Or.inl ⟨by rfl, ?hyr4x2q11⟩) (by kernel_rfl) (by kernel_rfl) (by assumption) ?restr4x2q11
            case hyr4x2q11 => intro wq hSw; (go_simp); (try with_reducible rfl)
            try simp only [Act.put, List.setIfInBounds_toArray, List.set_cons_zero, List.set_cons_succ]
            refine wpAnyL_take (i := 3) (oi := ⟨some 67, .move (.tmp 8), 23, "ref.go:90", #[], none⟩) (v := ?_) rfl (by kernel_rfl) (by kernel_rfl) (by kernel_rfl) (fun _ _ _ h => h) (Or.inl ⟨by rfl, ?hyr4x3q14⟩) (by kernel_rfl) (by kernel_rfl) (by assumption) ?restr4x3q14
            case hyr4x3q14 => intro wq hSw; (go_simp); (try with_reducible rfl)
            try simp only [Act.put, List.setIfInBounds_toArray, List.set_cons_zero, List.set_cons_succ]
            refine wpAnyL_take (i := 4) (oi := ⟨some 68, .move (.tmp 9), 3, "ref.go:90", #[], none⟩) (v := ?_) rfl (by kernel_rfl) (by kernel_rfl) (by kernel_rfl) (fun _ _ _ h => h) (Or.inl ⟨by rfl, ?hyr4x4q17⟩) (by kernel_rfl) (by kernel_rfl) (by assumption) ?restr4x4q17
            case hyr4x4q17 => intro wq hSw; (go_simp); (try with_reducible rfl)
            try simp only [Act.put, List.setIfInBounds_toArray, List.set_cons_zero, List.set_cons_succ]
            refine wpAnyL_take (i := 5) (oi := ⟨some 69, .indexAddr 23 (.tmp 67) (.tmp 68), 0, "ref.go:90", #[⟨3, .data⟩, ⟨4, .data⟩], none⟩) (v := ?_) rfl (by kernel_rfl) (by kernel_rfl) (by kernel_rfl) (fun _ _ _ h => h) (Or.inl ⟨by rfl, ?hyr4x5q20⟩) (by kernel_rfl) (by kernel_rfl) (by assumption) ?restr4x5q20
            case hyr4x5q20 => intro wq hSw; (go_simp); (try with_reducible rfl)
            try simp only [Act.put, List.setIfInBounds_toArray, List.set_cons_zero, List.set_cons_succ]
            refine wpAnyL_take (i := 6) (oi := ⟨some 70, .fieldAddr 57 (.tmp 69) 0, 0, "ref.go:90", #[⟨5, .data⟩], none⟩) (v := ?_) rfl (by kernel_rfl) (by kernel_rfl) (by kernel_rfl) (fun _ _ _ h => h) (Or.inl ⟨by rfl, ?hyr4x6q23⟩) (by kernel_rfl) (by kernel_rfl) (by assumption) ?restr4x6q23
            case hyr4x6q23 => intro wq hSw; (go_simp); (try with_reducible rfl)
            try simp only [Act.put, List.setIfInBounds_toArray, List.set_cons_zero, List.set_cons_succ]
            refine wpAnyL_take (i := 7) (oi := ⟨some 71, .load 3 (.tmp 70), 3, "ref.go:90", #[⟨6, .data⟩], none⟩) (v := ?_) rfl (by kernel_rfl) (by kernel_rfl) (by kernel_rfl) (fun _ _ _ h => h) (Or.inl ⟨by rfl, ?hyr4x7q26⟩) (by kernel_rfl) (by kernel_rfl) (by assumption) ?restr4x7q26
            case hyr4x7q26 => intro wq hSw; (have cq := SX0.out _ (KV.out.nx hSw); go_simp); (try with_reducible rfl)
            try simp only [Act.put, List.setIfInBounds_toArray, List.set_cons_zero, List.set_cons_succ]
            refine wpAnyL_take (i := 8) (oi := ⟨some 72, .move (.tmp 13), 3, "ref.go:90", #[], none⟩) (v := ?_) rfl (by kernel_rfl) (by kernel_rfl) (by kernel_rfl) (fun _ _ _ h => h) (Or.inl ⟨by rfl, ?hyr4x8q29⟩) (by kernel_rfl) (by kernel_rfl) (by assumption) ?restr4x8q29
            case hyr4x8q29 => intro wq hSw; (go_simp); (try with_reducible rfl)
            try simp only [Act.put, List.setIfInBounds_toArray, List.set_cons_zero, List.set_cons_succ]
            refine wpAnyL_ready (rs := [9]) (by kernel_rfl) (by simp) ?_
            refine AllReadyL.cons (o := ⟨some 73, .call { callee := .value (.func 92), args := #[.tmp 66, .tmp 71, .tmp 72], argTypes := #[23, 3, 3] }, 49, "ref.go:90", #[⟨2, .data⟩, ⟨7, .data⟩, ⟨8, .data⟩], none⟩) rfl (fun K hK => ?_) AllReadyL.nil
            go_simp
            (with_reducible refine (nearest_r _ _ _ (sortN N) x lev _ (SP.out.nx hHeld) hn (check_perm (sortN_perm N) HC.out) (sort_word HW.out) ((sortN_mem N x).2 HX.out) hi16).mono ?_)
            rintro e wq ⟨rfl, kk⟩
            rw [nearG_sort HC.out, HYY.out]
            simp only [encNr]
            replace hHeld := hHeld.nx kk
            clear kk
            refine hK.out _ _ (hHeld) (fun hHeld => ?_)
            clear hK K
            try simp only [Act.put, List.setIfInBounds_toArray, List.set_cons_zero, List.set_cons_succ]
            refine wpAnyL_ready (rs := [10]) (by kernel_rfl) (by simp) ?_
            refine AllReadyL.cons (o := ⟨some 74, .buildSlice 43 1 #[(0, .tmp 73)], 43, "ref.go:90", #[⟨9, .data⟩], none⟩) rfl (fun K hK => ?_) AllReadyL.nil
            go_simp
            obtain ⟨g8, wq2, hg8, hwq2, SX, kk⟩ := litN4 hHeld yy
            rw [← hg8, ← hwq2]
            replace hHeld := hHeld.nx kk
            clear hg8 hwq2 kk
            refine hK.out _ _ (hHeld) (fun hHeld => ?_)
            clear hK K
            try simp only [Act.put, List.setIfInBounds_toArray, List.set_cons_zero, List.set_cons_succ]
            refine wpAnyL_ready (rs := [11]) (by kernel_rfl) (by simp) ?_
            refine AllReadyL.consL (o := ⟨some 75, .call { callee := .builtin .append, args := #[.tmp 65, .tmp 74], argTypes := #[43, 43] }, 43, "ref.go:90", #[⟨1, .data⟩, ⟨10, .data⟩, ⟨9, .chain⟩], none⟩) rfl (by rfl) (fun K hK => ?_) AllReadyL.nil
            rw [if_pos (by rfl)]
            have own4 := NROW.out.nx hHeld
            refine wp_append_rd (enc := encNr) _ (.tmp 65) (.tmp 74) 43 rfl wk.heap.size 49 (.agg #[.int .i64 0, .int .i64 0, .int .i64 0, .int .i64 0]) 4 32 Tryz.underlying43 Tryz.infoNr rfl (by omega) (by omega) _ row own4 rfl _ _ 1 1 [yy] SX (fun h => by cases h) (fun _ => rfl) (by simp [encNr, Value.oneCell']) rfl (by omega) (by omega) (Nat.le_trans zk hHeld.size) ?_
            intro v9 wz own9 ch0 ch1
            obtain ⟨A9, C9, e9, _⟩ := own9.rd (fun _ => rfl)
            rw [show (row ++ [yy]).length = lev + 1 by rw [List.length_append, hrl]; rfl] at e9
            subst e9
            have BZ := (BPP.out.nx hHeld).low hgk ch1
            have KQ : Exb g13 wk wz := KVV.out.nxb' (hHeld.b g13) ch1
            refine hK.out _ _ ?_
            clear hK K
            try simp only [Act.put, List.setIfInBounds_toArray, List.set_cons_zero, List.set_cons_succ]
            refine wpAnyL_ready (rs := [12]) (by kernel_rfl) (by simp) ?_
            refine AllReadyL.consL (o := ⟨some 76, .fieldAddr 45 (.tmp 12) 4, 0, "ref.go:90", #[⟨0, .phase⟩, ⟨1, .phase⟩, ⟨2, .phase⟩, ⟨3, .phase⟩, ⟨4, .phase⟩, ⟨5, .phase⟩, ⟨6, .phase⟩, ⟨7, .phase⟩, ⟨8, .phase⟩, ⟨9, .phase⟩, ⟨10, .phase⟩, ⟨11, .phase⟩], none⟩) rfl (by rfl) (fun K hK => ?_) AllReadyL.nil
            go_simp
            refine hK.out _ _ ?_
            clear hK K
            try simp only [Act.put, List.setIfInBounds_toArray, List.set_cons_zero, List.set_cons_succ]
            refine wpAnyL_ready (rs := [13]) (by kernel_rfl) (by simp) ?_
            refine AllReadyL.consL (o := ⟨none, .store 43 (.tmp 76) (.tmp 75), 0, "ref.go:90", #[⟨12, .data⟩, ⟨11, .data⟩, ⟨11, .chain⟩, ⟨0, .phase⟩, ⟨1, .phase⟩, ⟨2, .phase⟩, ⟨3, .phase⟩, ⟨4, .phase⟩, ⟨5, .phase⟩, ⟨6, .phase⟩, ⟨7, .phase⟩, ⟨8, .phase⟩, ⟨9, .phase⟩, ⟨10, .phase⟩, ⟨11, .phase⟩], none⟩) rfl (by rfl) (fun K hK => ?_) AllReadyL.nil
            have c4 := BZ.cell 4 _ rfl
            have f4 := BZ.free 4
            go_simp
            clear c4 f4
            refine hK.out _ _ ?_
            clear hK K
            try simp only [Act.put, List.setIfInBounds_toArray, List.set_cons_zero, List.set_cons_succ]
            refine wpAnyL_done (by kernel_rfl) ?_ _
            have BY := BZ.set 4 (.slice A9 (lev + 1) C9)
            have K9 : Exb g13 wk (wz.setCell ⟨g13, 4, none⟩ (.slice A9 (lev + 1) C9)) := KQ.setB (p := ⟨g13, 4, none⟩) _ rfl
            have own8 := Lib.hid (own9.put BZ (by decide) ((Exb.refl g13 wz).setB (p := ⟨g13, 4, none⟩) (.slice A9 (lev + 1) C9) rfl))
            have RR := Lib.hid (show PnRel N x hh g13 (.slice A2 (contactsN N x.id width hh).length C2) nl nr wk (.int .i64 ((lev : Int) + 1)) (wz.setCell ⟨g13, 4, none⟩ (.slice A9 (lev + 1) C9)) from ⟨lev + 1, A9, _, C9, by omega, by go_num, BY, by rw [NSN.out]; exact own8.out, K9⟩)
            clear BY K9 own8 own9 BZ KQ ch0 ch1 hHeld own4 SX
            go_wp2_with fail
            exact ⟨RR.out, by simp [intOf]; omega⟩
          · obtain rfl : lev = hh := by omega
            have p0 := BR.cell 0 _ rfl
            have p1 := BR.cell 1 _ rfl
            have p2 := BR.cell 2 _ rfl
            have p3 := BR.cell 3 _ rfl
            have p4 := BR.cell 4 _ rfl
            have OP := Lib.hid (OWN.out.nx KV.out)
            have KN := KV.out.nx (Ex.new _ (.cells #[.int .i64 x.id, .slice A2 (contactsN N x.id width lev).length C2, .int .i64 nl, .int .i64 nr, .slice A m cc] 45))
            have zn := Nat.le_trans hwi KN.size
            have zwk := Lib.hid (nrow.base (KW.out.size))
            clear BR nrow kv hlev hl2 BP own2
            go_wp2_with (at_builtin; (refine wpList_append_W (enc := encQ) _ rfl _ _ 24 rfl w3.heap.size 45 (.agg #[.int .i64 0, .slice none 0 0, .int .i64 0, .int .i64 0, .slice none 0 0]) 5 72 Tryz.underlying24 Tryz.infoPr rfl (by omega) (by omega) _ qs (OP.out.nx (Ex.new _ _)).row rfl _ 1 1 [((x.id, nl, nr), (A2, (contactsN N x.id width lev).length, C2), (A, m, cc))] (Sl.lit _ rfl rfl encQ_len rfl) encQ_len encQ_one rfl (by omega) (by omega) zn ?_); intro v9 w9 own9 ch0 ch1 _)
            have RR := OWN.out.app (p := peerC N width lev x) (hk := (A2, (contactsN N x.id width lev).length, C2)) (hn := (A, m, cc)) (by decide) (by decide) hwi KN (by rw [PQ.out]; exact (O2.out.nx (Ex.new _ _))) (by rw [PQ.out]; exact (zwk.out.nx (Ex.new _ _))) (by rw [PQ.out]; exact own9) ch0
            exact ⟨⟨j + 1, _, by omega, by go_num, by rw [SN.out]; exact RR, Chg.trans (KI.out.nx KN) ch1⟩, by simp [intOf]; omega⟩
    · obtain rfl : j = n := by omega
      rw [List.take_of_length_le (by omega)] at own
      have O := Lib.hid (own.lower EX.out.size)
      have KE := Lib.hid (EX.out.nx ki)
      clear own ki hj hjm
      go_wp2_with fail
      go_ret
      exact ⟨_, qs, rfl, by rw [FIN.out]; exact O.out, KE.out⟩
end Go.Proofs.YtbnbjiddffihoaaGreatDoor
