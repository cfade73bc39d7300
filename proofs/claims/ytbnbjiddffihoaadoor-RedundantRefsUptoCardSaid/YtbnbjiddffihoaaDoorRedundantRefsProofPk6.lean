/- Texts for the statement RedundantRefsProof, part 6 of 10: RedC, RedH, RedI, RedJ, MapR, Que, MapG, BfsP, RedK. -/
import Derived.BigRegion
import Derived.WideKeyEntry
import Derived.Deep.LoopGhost
import Derived.Test.YtbnbjiddffihoaaDoorRedundantRefsProofPk1
import Derived.Test.YtbnbjiddffihoaaDoorRedundantRefsProofPk3
import Derived.Test.YtbnbjiddffihoaaDoorRedundantRefsProofPk4
import Derived.Test.YtbnbjiddffihoaaDoorRedundantRefsProofPk5

/- The nearest nodes of the package redundant. -/
namespace Go.Proofs.YtbnbjiddffihoaaDoor
open Go.RowKit

def nearF (x : Nd) (i : Nat) (s : Nr) (y : Nd) : Nr :=
  if Op.bytesLess y.key.toList x.key.toList = true then (if bitN y.word i = 0 then (y.id, s.2.1, s.2.2.1, s.2.2.2) else (s.1, y.id, s.2.2.1, s.2.2.2))
  else if y.key.toList = x.key.toList then s
  else if bitN y.word i = 0 then (if s.2.2.1 = 0 then (s.1, s.2.1, y.id, s.2.2.2) else s) else (if s.2.2.2 = 0 then (s.1, s.2.1, s.2.2.1, y.id) else s)
def lastD (d : Int) (l : List Nd) : Int := match l.getLast? with
  | some y => y.id
  | none => d
theorem lastD_cons (d : Int) (y : Nd) (l : List Nd) : lastD d (y :: l) = lastD y.id l := by
  unfold lastD
  cases l with
  | nil => rfl
  | cons z l => rw [List.getLast?_cons_cons]; cases h : (z :: l).getLast? with
    | none => simp at h
    | some u => rfl
theorem lastD_zero (l : List Nd) : lastD 0 l = lastI l := by
  unfold lastD lastI
  cases h : l.getLast? with
  | none => rfl
  | some u => rfl
theorem bit_two (a : Nat) (i : Int) : bitN a i = 0 ∨ bitN a i = 1 := by
  unfold bitN
  split
  · exact .inl rfl
  · omega
theorem near_left {x : Nd} {i : Nat} : ∀ (A : List Nd) (s : Nr), (∀ y ∈ A, Op.bytesLess y.key.toList x.key.toList = true) → A.foldl (nearF x i) s = (lastD s.1 (A.filter (bitIs i 0)), lastD s.2.1 (A.filter (bitIs i 1)), s.2.2.1, s.2.2.2)
  | [], s, _ => rfl
  | y :: A, s, h => by
    rw [List.foldl_cons, near_left A _ (fun z hz => h z (List.mem_cons_of_mem _ hz))]
    unfold nearF
    rw [if_pos (h y List.mem_cons_self)]
    rcases bit_two y.word i with hb | hb
    · rw [if_pos hb, List.filter_cons_of_pos (by simp [bitIs, hb]), List.filter_cons_of_neg (by simp [bitIs, hb]), lastD_cons]
    · rw [if_neg (by omega), List.filter_cons_of_neg (by simp [bitIs, hb]), List.filter_cons_of_pos (by simp [bitIs, hb]), lastD_cons]
theorem headI_cons (y : Nd) (l : List Nd) : headI (y :: l) = y.id := rfl
theorem near_right {x : Nd} {i : Nat} : ∀ (B : List Nd) (s : Nr), (∀ y ∈ B, Op.bytesLess x.key.toList y.key.toList = true ∧ y.id ≠ 0) →
    B.foldl (nearF x i) s = (s.1, s.2.1, if s.2.2.1 = 0 then headI (B.filter (bitIs i 0)) else s.2.2.1, if s.2.2.2 = 0 then headI (B.filter (bitIs i 1)) else s.2.2.2)
  | [], s, _ => by
    obtain ⟨s1, s2, s3, s4⟩ := s
    have : headI ([] : List Nd) = 0 := rfl
    simp only [List.foldl_nil, List.filter_nil, this, Prod.mk.injEq, true_and]
    constructor <;> split <;> simp_all
  | y :: B, s, h => by
    rw [List.foldl_cons, near_right B _ (fun z hz => h z (List.mem_cons_of_mem _ hz))]
    obtain ⟨hl, hid⟩ := h y List.mem_cons_self
    have h1 := bl_asymm hl
    have h2 : ¬ y.key.toList = x.key.toList := by
      intro he
      rw [he, bytesLess_irrefl] at hl
      cases hl
    unfold nearF
    rw [if_neg (by rw [h1]; simp), if_neg h2]
    rcases bit_two y.word i with hb | hb
    · rw [if_pos hb, List.filter_cons_of_pos (by simp [bitIs, hb]), List.filter_cons_of_neg (by simp [bitIs, hb]), headI_cons]
      by_cases h3 : s.2.2.1 = 0
      · rw [if_pos h3]; simp [h3, hid]
      · rw [if_neg h3]; simp [h3]
    · rw [if_neg (by omega), List.filter_cons_of_neg (by simp [bitIs, hb]), List.filter_cons_of_pos (by simp [bitIs, hb]), headI_cons]
      by_cases h3 : s.2.2.2 = 0
      · rw [if_pos h3]; simp [h3, hid]
      · rw [if_neg h3]; simp [h3]
theorem near_fold {N : List Nd} (h0 : checkN N = 0) {x : Nd} {i : Nat} {A B : List Nd} (e : grpS N i x.word = A ++ x :: B) : (grpS N i x.word).foldl (nearF x i) (0, 0, 0, 0) = nearG N x i := by
  rw [nearG_at h0 e]
  have ha := grp_asc h0 (i : Int) x.word
  rw [e] at ha ⊢
  have hp := List.pairwise_append.1 ha
  rw [List.foldl_append, near_left A _ (fun y hy => (hp.2.2 y hy x List.mem_cons_self).1), List.foldl_cons]
  have hs : ∀ s : Nr, nearF x i s x = s := fun s => by unfold nearF; rw [bytesLess_irrefl]; simp
  rw [hs, near_right B _ (fun y hy => ⟨((List.pairwise_cons.1 hp.2.1).1 y hy).1, ?_⟩)]
  · simp only [lastD_zero, if_true]
  · have hm : y ∈ grpS N i x.word := by rw [e]; simp [hy]
    have := (roster_ok h0 y (grp_mem.1 hm).1).2.1
    omega

def NrRel (G : List Nd) (x : Nd) (i g7 : Nat) (w : World) (p : Value) (wr : World) : Prop :=
  ∃ (j : Nat) (s : Nr), j ≤ G.length ∧ p = .int .i64 j ∧ s = (G.take j).foldl (nearF x i) (0, 0, 0, 0) ∧ Blk wr g7 (encNr s) 77 ∧ Exb g7 w wr
theorem nr_snoc {G : List Nd} {x y : Nd} {i j : Nat} (hy : G[j]? = some y) : (G.take (j + 1)).foldl (nearF x i) (0, 0, 0, 0) = nearF x i ((G.take j).foldl (nearF x i) (0, 0, 0, 0)) y := by
  rw [take_snocN G j y hy, List.foldl_append]; rfl
set_option maxRecDepth 100000 in
set_option maxHeartbeats 8000000 in
theorem near_p (a : Option Addr) (n c : Nat) (N : List Nd) (x : Nd) (i : Nat) (w : World) (h : Sl 3 encN w a n (sortN N)) (hn : n ≤ 1000) (h0 : checkN N = 0) (hw : ∀ x ∈ N, x.word < 4294967296) (hx : x ∈ N) (hi : i < 16) (hT : TabG w) :
    Calls Tryd.prog 74 #[.slice a n c, .agg #[.int .i64 x.id, .string x.key, .int .u32 x.word], .int .i64 i] w fun e w' => e = .returned (.agg (encNr (nearG N x i)).toArray) ∧ Ex w w' := by
  have HW := Lib.hid (sort_word hw)
  have hxw := hw x hx
  have EX := Ex.refl w
  have FO : Hid ((grpS N i x.word).foldl (nearF x i) (0, 0, 0, 0) = nearG N x i) := Lib.hid (by
    obtain ⟨A, B, e⟩ := grp_at hx (h := (i : Int)) (by unfold lvlN; simp; omega)
    exact near_fold h0 e)
  have HI : Hid (∀ y ∈ grpS N i x.word, I64 y.id ∧ y.word < 4294967296) := Lib.hid (fun y hy => ⟨(roster_ok h0 y (grp_mem.1 hy).1).1.1, hw y (grp_mem.1 hy).1⟩)
  obtain ⟨g4, hg4⟩ : ∃ g4, g4 = w.heap.size := ⟨_, rfl⟩
  obtain ⟨g6, hg6⟩ : ∃ g6, g6 = (w.heap.size + 1) := ⟨_, rfl⟩
  obtain ⟨g7, hg7⟩ : ∃ g7, g7 = (w.heap.size + 1 + 1) := ⟨_, rfl⟩
  obtain ⟨g8, hg8⟩ : ∃ g8, g8 = (w.heap.size + 1 + 1 + 1) := ⟨_, rfl⟩
  obtain ⟨g9, hg9⟩ : ∃ g9, g9 = (w.heap.size + 1 + 1 + 1 + 1) := ⟨_, rfl⟩
  obtain ⟨w1, hw1⟩ : ∃ w1, w1 = (((((w.alloc (.cells #[.int .i64 x.id, .string x.key, .int .u32 x.word] 52)).alloc (.cells #[.int .i64 0, .int .i64 0, .int .i64 0, .int .i64 0] 77)).alloc (.cells #[.int .i64 0, .int .i64 0, .int .i64 0, .int .i64 0] 77)).alloc (.cells #[.pointer (some ⟨(w.heap.size + 1 + 1), 0, none⟩), .pointer (some ⟨(w.heap.size + 1 + 1), 1, none⟩)] 134)).alloc (.cells #[.pointer (some ⟨(w.heap.size + 1 + 1), 2, none⟩), .pointer (some ⟨(w.heap.size + 1 + 1), 3, none⟩)] 134)) := ⟨_, rfl⟩
  have kk : Ex w w1 := by rw [hw1]; exact ((((((Ex.refl w).alloc (.cells #[.int .i64 x.id, .string x.key, .int .u32 x.word] 52)).alloc (.cells #[.int .i64 0, .int .i64 0, .int .i64 0, .int .i64 0] 77)).alloc (.cells #[.int .i64 0, .int .i64 0, .int .i64 0, .int .i64 0] 77)).alloc (.cells #[.pointer (some ⟨(w.heap.size + 1 + 1), 0, none⟩), .pointer (some ⟨(w.heap.size + 1 + 1), 1, none⟩)] 134)).alloc (.cells #[.pointer (some ⟨(w.heap.size + 1 + 1), 2, none⟩), .pointer (some ⟨(w.heap.size + 1 + 1), 3, none⟩)] 134))
  have B4 : Blk w1 g4 [.int .i64 x.id, .string x.key, .int .u32 x.word] 52 := by rw [hw1]; simp only [hg4, hg6, hg7, hg8, hg9]; have hbk := (((((Blk.new w [.int .i64 x.id, .string x.key, .int .u32 x.word] 52).nx (Ex.new _ (.cells #[.int .i64 0, .int .i64 0, .int .i64 0, .int .i64 0] 77))).nx (Ex.new _ (.cells #[.int .i64 0, .int .i64 0, .int .i64 0, .int .i64 0] 77))).nx (Ex.new _ (.cells #[.pointer (some ⟨(w.heap.size + 1 + 1), 0, none⟩), .pointer (some ⟨(w.heap.size + 1 + 1), 1, none⟩)] 134))).nx (Ex.new _ (.cells #[.pointer (some ⟨(w.heap.size + 1 + 1), 2, none⟩), .pointer (some ⟨(w.heap.size + 1 + 1), 3, none⟩)] 134))); simpa using hbk
  have B6 : Blk w1 g6 [.int .i64 0, .int .i64 0, .int .i64 0, .int .i64 0] 77 := by rw [hw1]; simp only [hg4, hg6, hg7, hg8, hg9]; have hbk := ((((Blk.new (w.alloc (.cells #[.int .i64 x.id, .string x.key, .int .u32 x.word] 52)) [.int .i64 0, .int .i64 0, .int .i64 0, .int .i64 0] 77).nx (Ex.new _ (.cells #[.int .i64 0, .int .i64 0, .int .i64 0, .int .i64 0] 77))).nx (Ex.new _ (.cells #[.pointer (some ⟨(w.heap.size + 1 + 1), 0, none⟩), .pointer (some ⟨(w.heap.size + 1 + 1), 1, none⟩)] 134))).nx (Ex.new _ (.cells #[.pointer (some ⟨(w.heap.size + 1 + 1), 2, none⟩), .pointer (some ⟨(w.heap.size + 1 + 1), 3, none⟩)] 134))); simpa using hbk
  have B7 : Blk w1 g7 [.int .i64 0, .int .i64 0, .int .i64 0, .int .i64 0] 77 := by rw [hw1]; simp only [hg4, hg6, hg7, hg8, hg9]; have hbk := (((Blk.new ((w.alloc (.cells #[.int .i64 x.id, .string x.key, .int .u32 x.word] 52)).alloc (.cells #[.int .i64 0, .int .i64 0, .int .i64 0, .int .i64 0] 77)) [.int .i64 0, .int .i64 0, .int .i64 0, .int .i64 0] 77).nx (Ex.new _ (.cells #[.pointer (some ⟨(w.heap.size + 1 + 1), 0, none⟩), .pointer (some ⟨(w.heap.size + 1 + 1), 1, none⟩)] 134))).nx (Ex.new _ (.cells #[.pointer (some ⟨(w.heap.size + 1 + 1), 2, none⟩), .pointer (some ⟨(w.heap.size + 1 + 1), 3, none⟩)] 134))); simpa using hbk
  have B8 : Blk w1 g8 [.pointer (some ⟨g7, 0, none⟩), .pointer (some ⟨g7, 1, none⟩)] 134 := by rw [hw1]; simp only [hg4, hg6, hg7, hg8, hg9]; have hbk := ((Blk.new (((w.alloc (.cells #[.int .i64 x.id, .string x.key, .int .u32 x.word] 52)).alloc (.cells #[.int .i64 0, .int .i64 0, .int .i64 0, .int .i64 0] 77)).alloc (.cells #[.int .i64 0, .int .i64 0, .int .i64 0, .int .i64 0] 77)) [.pointer (some ⟨(w.heap.size + 1 + 1), 0, none⟩), .pointer (some ⟨(w.heap.size + 1 + 1), 1, none⟩)] 134).nx (Ex.new _ (.cells #[.pointer (some ⟨(w.heap.size + 1 + 1), 2, none⟩), .pointer (some ⟨(w.heap.size + 1 + 1), 3, none⟩)] 134))); simpa using hbk
  have B9 : Blk w1 g9 [.pointer (some ⟨g7, 2, none⟩), .pointer (some ⟨g7, 3, none⟩)] 134 := by rw [hw1]; simp only [hg4, hg6, hg7, hg8, hg9]; have hbk := (Blk.new ((((w.alloc (.cells #[.int .i64 x.id, .string x.key, .int .u32 x.word] 52)).alloc (.cells #[.int .i64 0, .int .i64 0, .int .i64 0, .int .i64 0] 77)).alloc (.cells #[.int .i64 0, .int .i64 0, .int .i64 0, .int .i64 0] 77)).alloc (.cells #[.pointer (some ⟨(w.heap.size + 1 + 1), 0, none⟩), .pointer (some ⟨(w.heap.size + 1 + 1), 1, none⟩)] 134)) [.pointer (some ⟨(w.heap.size + 1 + 1), 2, none⟩), .pointer (some ⟨(w.heap.size + 1 + 1), 3, none⟩)] 134); simpa using hbk
  have Hw1 := Lib.hid hw1
  have Hg4 := Lib.hid hg4
  have Hg6 := Lib.hid hg6
  have Hg7 := Lib.hid hg7
  have Hg8 := Lib.hid hg8
  have Hg9 := Lib.hid hg9
  replace h := h.nx kk
  replace hT := hT.nx kk
  replace EX := EX.nx kk
  have n47 : g4 ≠ g7 := by omega
  have n67 : g6 ≠ g7 := by omega
  have n87 : g8 ≠ g7 := by omega
  have n97 : g9 ≠ g7 := by omega
  have hw7 : w.heap.size ≤ g7 := by omega
  have hw6 : w.heap.size ≤ g6 := by omega
  clear kk hw hx h0 hw1 hg4 hg6 hg7 hg8 hg9
  go_enter Tryd.func74, Tryd.ntmps74
  go_upto_region 4 with fail
  rw [← Hw1.out, ← Hg9.out, ← Hg8.out, ← Hg7.out, ← Hg6.out, ← Hg4.out]
  clear Hw1 Hg9 Hg8 Hg7 Hg6 Hg4
  have hb7 := B7.lt
  have q0 := B4.cell 0 _ rfl
  have q1 := B4.cell 1 _ rfl
  have q2 := B4.cell 2 _ rfl
  go_wp2_with fail
  (with_reducible refine (group_q _ _ _ (sortN N) i x.word _ h (by omega) HW.out hxw hT).mono ?_)
  rintro e w6 ⟨a3, c3, rfl, r3, kk⟩
  replace EX := EX.nx kk
  replace B4 := B4.nx kk
  replace B6 := B6.nx kk
  replace B7 := B7.nx kk
  replace B8 := B8.nx kk
  replace B9 := B9.nx kk
  clear kk
  have hG : groupN (sortN N) i x.word = grpS N i x.word := rfl
  have hgl : (groupN (sortN N) i x.word).length ≤ 1000 := by have := groupN_length (sortN N) i x.word; have := h.len; omega
  rw [hG] at r3 hgl ⊢
  generalize grpS N i x.word = G at r3 hgl FO HI ⊢
  have G3 := Lib.hid (r3.slb hb7)
  replace EX := Lib.hid EX
  replace B4 := Lib.hid B4
  replace B6 := Lib.hid B6
  replace B8 := Lib.hid B8
  replace B9 := Lib.hid B9
  clear r3 hG h hT q0 q1 q2 HW
  go_wp2_with fail
  go_loopw [25] (fun p wr => NrRel G x i g7 w6 p wr) (fun p _ => G.length - (intOf p).toNat)
  case atStart => exact ⟨0, (0, 0, 0, 0), by omega, rfl, rfl, B7, Exb.refl _ _⟩
  case round =>
    clear B7
    obtain ⟨j, s, hj, rfl, hs, B7, kw⟩ := hrel
    obtain ⟨wo, rfl⟩ : ∃ wo : World, wo = wr := ⟨_, rfl⟩
    by_cases hjl : j < G.length
    · obtain ⟨x3, o3, y, rfl, hx3, hy, hc3⟩ := (G3.out.nxb kw).sl.at (j := j) hjl
      have e0 : wo.cell? ⟨x3, o3 + j * 3, none⟩ = some (.int .i64 y.id) := hc3 0 _ rfl
      have e1 : wo.cell? ⟨x3, o3 + j * 3 + 1, none⟩ = some (.string y.key) := hc3 1 _ rfl
      have e2 : wo.cell? ⟨x3, o3 + j * 3 + 1 + 1, none⟩ = some (.int .u32 y.word) := by simpa [Nat.add_assoc] using hc3 2 _ rfl
      have SN := Lib.hid (nr_snoc (x := x) (i := i) hy)
      rw [← hs] at SN
      obtain ⟨hyi, hyw⟩ := HI.out y (List.mem_of_getElem? hy)
      have hg7w := B7.lt
      have Q8 := B8.out.nxb n87 kw
      have Q9 := B9.out.nxb n97 kw
      have Q4 := B4.out.nxb n47 kw
      have KV := Lib.hid kw
      clear hc3 hy kw hs
      have B11 := Blk.new wo [.int .i64 y.id, .string y.key, .int .u32 y.word] 52
      have kk := Ex.new wo (.cells #[.int .i64 y.id, .string y.key, .int .u32 y.word] 52)
      obtain ⟨w8, hw8⟩ : ∃ w8, w8 = wo.alloc (.cells #[.int .i64 y.id, .string y.key, .int .u32 y.word] 52) := ⟨_, rfl⟩
      obtain ⟨g11, hg11⟩ : ∃ g11, g11 = wo.heap.size := ⟨_, rfl⟩
      replace B11 : Blk w8 g11 [.int .i64 y.id, .string y.key, .int .u32 y.word] 52 := by rw [hw8, hg11]; exact B11
      rw [← hw8] at kk
      have Hw8 := Lib.hid hw8
      have Hg11 := Lib.hid hg11
      replace B7 := B7.nx kk
      replace Q8 := Q8.nx kk
      replace Q9 := Q9.nx kk
      replace Q4 := Q4.nx kk
      replace KV := Lib.hid (KV.out.nxb (kk.b g7))
      have hn11 : ¬ g11 = g7 := by omega
      clear kk hw8 hg11
      go_upto_region 7 with fail
      rw [← Hg11.out, ← Hw8.out]
      clear Hg11 Hw8
      have p0 := B11.cell 0 _ rfl
      have p1 := B11.cell 1 _ rfl
      have p2 := B11.cell 2 _ rfl
      have q1 := Q4.cell 1 _ rfl
      have l0 := Q8.cell 0 _ rfl
      have l1 := Q8.cell 1 _ rfl
      have m0 := Q9.cell 0 _ rfl
      have m1 := Q9.cell 1 _ rfl
      have r0 := B7.cell 0 _ rfl
      have r1 := B7.cell 1 _ rfl
      have r2 := B7.cell 2 _ rfl
      have r3 := B7.cell 3 _ rfl
      have f0 := B7.free 0
      have f1 := B7.free 1
      have f2 := B7.free 2
      have f3 := B7.free 3
      have HB := Lib.hid B7
      clear e0 e1 e2 B7 B11 Q8 Q9 Q4
      go_wp2_with fail
      (with_reducible refine (bit_p y.word i _ hyw (by omega) (by omega)).mono ?_)
      rintro e w9 ⟨rfl, rfl⟩
      have hb2 := bit_two y.word i
      have HBT : Hid (nearF x i s y = if Op.bytesLess y.key.toList x.key.toList = true then (if bitN y.word i = 0 then (y.id, s.2.1, s.2.2.1, s.2.2.2) else (s.1, y.id, s.2.2.1, s.2.2.2))
          else if y.key.toList = x.key.toList then s else if bitN y.word i = 0 then (if s.2.2.1 = 0 then (s.1, s.2.1, y.id, s.2.2.2) else s) else (if s.2.2.2 = 0 then (s.1, s.2.1, s.2.2.1, y.id) else s)) := Lib.hid rfl
      generalize bitN y.word i = bt at hb2 HBT ⊢
      have RR : Hid (∀ (s' : Nr) wx, nearF x i s y = s' → Blk wx g7 (encNr s') 77 → Exb g7 w6 wx → NrRel G x i g7 w6 (.int .i64 ((j : Int) + 1)) wx) := Lib.hid (fun s' wx h1 h2 h3 => ⟨j + 1, s', by omega, by go_num, by rw [SN.out, h1], h2, h3⟩)
      cases hle : Op.bytesLess y.key.toList x.key.toList with
      | true =>
        rcases hb2 with rfl | rfl
        · have NF : Hid (nearF x i s y = (y.id, s.2.1, s.2.2.1, s.2.2.2)) := Lib.hid (by rw [HBT.out, if_pos hle]; rfl)
          clear HBT
          go_wp2_with fail
          go_region
          go_wp2_with fail
          exact ⟨RR.out _ _ NF.out (HB.out.set 0 _) (KV.out.drew.setB (p := ⟨g7, 0, none⟩) _ rfl), by simp [intOf]; omega⟩
        · have NF : Hid (nearF x i s y = (s.1, y.id, s.2.2.1, s.2.2.2)) := Lib.hid (by rw [HBT.out, if_pos hle]; rfl)
          clear HBT
          go_wp2_with fail
          go_region
          go_wp2_with fail
          exact ⟨RR.out _ _ NF.out (HB.out.set 1 _) (KV.out.drew.setB (p := ⟨g7, 1, none⟩) _ rfl), by simp [intOf]; omega⟩
      | false =>
        by_cases hke : y.key.toList = x.key.toList
        · have hkb : (y.key.toList == x.key.toList) = true := by rw [hke]; exact beq_self_eq_true _
          have NF := Lib.hid (RR.out s w8 (by rw [HBT.out, if_neg (by rw [hle]; simp), if_pos hke]) HB.out KV.out)
          clear HBT hke
          go_wp2_with fail
          exact ⟨NF.out, by simp [intOf]; omega⟩
        · have hkb : (y.key.toList == x.key.toList) = false := by rw [beq_eq_false_iff_ne]; exact hke
          have HN : Hid (nearF x i s y = if bt = 0 then (if s.2.2.1 = 0 then (s.1, s.2.1, y.id, s.2.2.2) else s) else (if s.2.2.2 = 0 then (s.1, s.2.1, s.2.2.1, y.id) else s)) := Lib.hid (by rw [HBT.out, if_neg (by rw [hle]; simp), if_neg hke])
          clear HBT hke
          rcases hb2 with rfl | rfl
          · by_cases hz : s.2.2.1 = 0
            · have NF : Hid (nearF x i s y = (s.1, s.2.1, y.id, s.2.2.2)) := Lib.hid (by rw [HN.out, if_pos rfl, if_pos hz])
              clear HN
              go_wp2_with fail
              go_region
              go_wp2_with fail
              exact ⟨RR.out _ _ NF.out (HB.out.set 2 _) (KV.out.drew.setB (p := ⟨g7, 2, none⟩) _ rfl), by simp [intOf]; omega⟩
            · have hzb : (s.2.2.1 == 0) = false := by simpa using hz
              have NF := Lib.hid (RR.out s w8 (by rw [HN.out, if_pos rfl, if_neg hz]) HB.out KV.out)
              clear HN hz
              go_wp2_with fail
              exact ⟨NF.out, by simp [intOf]; omega⟩
          · by_cases hz : s.2.2.2 = 0
            · have NF : Hid (nearF x i s y = (s.1, s.2.1, s.2.2.1, y.id)) := Lib.hid (by rw [HN.out, if_neg (by omega), if_pos hz])
              clear HN
              go_wp2_with fail
              go_region
              go_wp2_with fail
              exact ⟨RR.out _ _ NF.out (HB.out.set 3 _) (KV.out.drew.setB (p := ⟨g7, 3, none⟩) _ rfl), by simp [intOf]; omega⟩
            · have hzb : (s.2.2.2 == 0) = false := by simpa using hz
              have NF := Lib.hid (RR.out s w8 (by rw [HN.out, if_neg (by omega), if_neg hz]) HB.out KV.out)
              clear HN hz
              go_wp2_with fail
              exact ⟨NF.out, by simp [intOf]; omega⟩
    · obtain rfl : j = G.length := by omega
      have FS : Hid (s = nearG N x i) := Lib.hid (by rw [← FO.out, hs, List.take_of_length_le (Nat.le_refl _)])
      have r0 := B7.cell 0 _ rfl
      have r1 := B7.cell 1 _ rfl
      have r2 := B7.cell 2 _ rfl
      have r3 := B7.cell 3 _ rfl
      have Q6 := B6.out.nxb n67 kw
      have z0 := Q6.cell 0 _ rfl
      have z1 := Q6.cell 1 _ rfl
      have z2 := Q6.cell 2 _ rfl
      have z3 := Q6.cell 3 _ rfl
      have f0 := Q6.free 0
      have f1 := Q6.free 1
      have f2 := Q6.free 2
      have f3 := Q6.free 3
      have EF : Ex w wo := (Exl.nxb (b := g7) (w := w) ⟨EX.out, hw7⟩ kw).1
      have KE := Lib.hid ((((EF.setNew (p := ⟨g6, 0, none⟩) (.int .i64 s.1) hw6).setNew (p := ⟨g6, 1, none⟩) (.int .i64 s.2.1) hw6).setNew (p := ⟨g6, 2, none⟩) (.int .i64 s.2.2.1) hw6).setNew (p := ⟨g6, 3, none⟩) (.int .i64 s.2.2.2) hw6)
      clear hj hjl kw hs B7 Q6 EF
      go_wp2_with fail
      refine bodyPost_ret (v := .agg #[.int .i64 s.1, .int .i64 s.2.1, .int .i64 s.2.2.1, .int .i64 s.2.2.2]) (by simp [results, Tryd.results74, go_sem, *]) rfl ⟨by rw [← FS.out]; rfl, KE.out⟩
end Go.Proofs.YtbnbjiddffihoaaDoor

/- Refs, Contacts and nearest of the reference. -/
namespace Go.Proofs.YtbnbjiddffihoaaDoor
open Go.RowKit

theorem nums_len_p (p : Pr) : (numsP p).length = p.known.length + 2 + 4 * p.near.length := by
  unfold numsP
  rw [List.length_append, List.length_append, nums_len]
  rfl
set_option maxRecDepth 100000 in
set_option maxHeartbeats 4000000 in
theorem refs_r (a : Option Addr) (n c : Nat) (N : List Nd) (p : Pr) (a1 : Option Addr) (n1 c1 : Nat) (a2 : Option Addr) (n2 c2 : Nat) (w : World) (h : Sl 3 encN w a n N) (hn : n ≤ 1000) (h1 : Sl 1 encI w a1 n1 p.known) (h2 : Sl 4 encNr w a2 n2 p.near) (hn1 : n1 ≤ 2000000) (hn2 : n2 ≤ 2000000) (z1 : a1 = none → c1 = 0) :
    Calls Tryd.prog 26 #[.slice a n c, .agg #[.int .i64 p.id, .slice a1 n1 c1, .int .i64 p.left, .int .i64 p.right, .slice a2 n2 c2]] w (OiPost (refsN N p) w) := by
  have EX := Ex.refl w
  have Z1 := Lib.hid z1
  have hl1 : p.known.length = n1 := h1.len
  have hl2 : p.near.length = n2 := h2.len
  have HNL := Lib.hid (nums_len_p p)
  clear z1
  have B3 := Blk.new w [.int .i64 p.id, .slice a1 n1 c1, .int .i64 p.left, .int .i64 p.right, .slice a2 n2 c2] 41
  have kk := Ex.new w (.cells #[.int .i64 p.id, .slice a1 n1 c1, .int .i64 p.left, .int .i64 p.right, .slice a2 n2 c2] 41)
  obtain ⟨w1, hw1⟩ : ∃ w1, w1 = w.alloc (.cells #[.int .i64 p.id, .slice a1 n1 c1, .int .i64 p.left, .int .i64 p.right, .slice a2 n2 c2] 41) := ⟨_, rfl⟩
  obtain ⟨g3, hg3⟩ : ∃ g3, g3 = w.heap.size := ⟨_, rfl⟩
  replace B3 : Blk w1 g3 [.int .i64 p.id, .slice a1 n1 c1, .int .i64 p.left, .int .i64 p.right, .slice a2 n2 c2] 41 := by rw [hw1, hg3]; exact B3
  rw [← hw1] at kk
  have Hw1 := Lib.hid hw1
  have Hg3 := Lib.hid hg3
  replace h := h.nx kk
  replace h1 := h1.nx kk
  replace h2 := h2.nx kk
  replace EX := EX.nx kk
  clear kk hw1 hg3
  go_enter Tryd.func26, Tryd.ntmps26
  go_upto_region 1 with fail
  rw [← Hg3.out, ← Hw1.out]
  clear Hg3 Hw1
  go_wp2_with fail
  (with_reducible refine (is_r _ _ _ _ _ h (by omega)).mono ?_)
  rintro e w2 ⟨rfl, kk⟩
  replace h := h.nx kk
  replace h1 := h1.nx kk
  replace h2 := h2.nx kk
  replace EX := EX.nx kk
  replace B3 := B3.nx kk
  clear kk
  by_cases hck : checkN N = 0
  case neg =>
    have d1 : (checkN N == 0) = false := by simpa using hck
    have E0 : Hid (refsN N p = []) := Lib.hid (by unfold refsN; rw [if_neg hck])
    rw [d1]
    clear h h1 h2 hck B3
    go_wp2_with fail
    go_ret
    exact ⟨_, rfl, by rw [E0.out]; exact OwnL.nil _ _ _ _ _, EX⟩
  have d1 : (checkN N == 0) = true := by simpa using hck
  have E0 : Hid (refsN N p = ordN N (numsP p) p.id) := Lib.hid (by unfold refsN; rw [if_pos hck])
  rw [d1]
  clear hck d1
  have HB := Lib.hid B3
  have HN := Lib.hid h
  have H1 := Lib.hid h1
  have H2 := Lib.hid h2
  have EXH := Lib.hid EX
  clear B3 h h1 h2 EX
  go_upto_region 3 with fail
  refine wp_region_held_drew (S := Ex w2) (by kernel_rfl) ((Ex.refl w2).drew) (fun hHeld => ?_)
  refine wpAnyH_take (i := 0) (oi := ⟨some 8, .move (.tmp 0), 23, "ref.go:129", #[], none⟩) (v := ?_) rfl (by kernel_rfl) (by kernel_rfl) (by kernel_rfl) (fun _ _ _ h => h) (Or.inl ⟨by rfl, ?hyr1x0q1⟩) (by assumption) ?restr1x0q1
  case hyr1x0q1 => intro wq hSw; (go_simp); (try with_reducible rfl)
  try simp only [Act.put, List.setIfInBounds_toArray, List.set_cons_zero, List.set_cons_succ]
  refine wpAnyH_take (i := 1) (oi := ⟨some 9, .load 41 (.tmp 3), 41, "ref.go:129", #[], none⟩) (v := ?_) rfl (by kernel_rfl) (by kernel_rfl) (by kernel_rfl) (fun _ _ _ h => h) (Or.inl ⟨by rfl, ?hyr1x1q4⟩) (by assumption) ?restr1x1q4
  case hyr1x1q4 => intro wq hSw; (have B := HB.out.nx hSw; have c0 := B.cell 0 _ rfl; have c1 := B.cell 1 _ rfl; have c2 := B.cell 2 _ rfl; have c3 := B.cell 3 _ rfl; have c4 := B.cell 4 _ rfl; go_simp); (try with_reducible rfl)
  try simp only [Act.put, List.setIfInBounds_toArray, List.set_cons_zero, List.set_cons_succ]
  refine wpAnyH_take (i := 3) (oi := ⟨some 11, .fieldAddr 41 (.tmp 3) 0, 0, "ref.go:129", #[], none⟩) (v := ?_) rfl (by kernel_rfl) (by kernel_rfl) (by kernel_rfl) (fun _ _ _ h => h) (Or.inl ⟨by rfl, ?hyr1x3q7⟩) (by assumption) ?restr1x3q7
  case hyr1x3q7 => intro wq hSw; (go_simp); (try with_reducible rfl)
  try simp only [Act.put, List.setIfInBounds_toArray, List.set_cons_zero, List.set_cons_succ]
  refine wpAnyH_take (i := 4) (oi := ⟨some 12, .load 3 (.tmp 11), 3, "ref.go:129", #[⟨3, .data⟩], none⟩) (v := ?_) rfl (by kernel_rfl) (by kernel_rfl) (by kernel_rfl) (fun _ _ _ h => h) (Or.inl ⟨by rfl, ?hyr1x4q10⟩) (by assumption) ?restr1x4q10
  case hyr1x4q10 => intro wq hSw; (have c0 := (HB.out.nx hSw).cell 0 _ rfl; go_simp); (try with_reducible rfl)
  try simp only [Act.put, List.setIfInBounds_toArray, List.set_cons_zero, List.set_cons_succ]
  refine wpAnyH_ready (rs := [2]) (by kernel_rfl) (by simp) ?_
  refine AllReadyH.cons (o := ⟨some 10, .call { callee := .value (.func 67), args := #[.tmp 9], argTypes := #[41] }, 22, "ref.go:129", #[⟨1, .data⟩], none⟩) rfl (fun K hK => ?_) AllReadyH.nil
  go_simp
  (with_reducible refine (numbers_r p _ _ _ _ _ _ _ (H1.out.nx hHeld) (H2.out.nx hHeld) hn1 hn2 Z1.out).mono ?_)
  rintro e w5 ⟨v5, rfl, own5, kk⟩
  obtain ⟨A5, C5, rfl, sl5, _, _, _⟩ := own5.slf (fun _ => rfl)
  have sl5 := Lib.hid sl5.sl
  replace hHeld := hHeld.nx kk
  clear kk own5
  refine hK.out _ _ (hHeld) (fun hHeld => ?_)
  clear hK K
  try simp only [Act.put, List.setIfInBounds_toArray, List.set_cons_zero, List.set_cons_succ]
  refine wpAnyH_ready (rs := [5]) (by kernel_rfl) (by simp) ?_
  refine AllReadyH.cons (o := ⟨some 13, .call { callee := .value (.func 66), args := #[.tmp 8, .tmp 10, .tmp 12], argTypes := #[23, 22, 3] }, 22, "ref.go:129", #[⟨0, .data⟩, ⟨2, .data⟩, ⟨4, .data⟩, ⟨2, .chain⟩], none⟩) rfl (fun K hK => ?_) AllReadyH.nil
  go_simp
  (with_reducible refine (ordered_r _ _ _ N _ _ _ (numsP p) p.id _ (HN.out.nx hHeld) hn sl5.out (by rw [HNL.out]; omega)).mono ?_)
  rintro e w6 ⟨v6, rfl, own6, kk⟩
  have own6 := Lib.hid (own6.base (EXH.out.nx hHeld).size)
  replace hHeld := hHeld.nx kk
  clear kk
  refine hK.out _ _ (hHeld) (fun hHeld => ?_)
  clear hK K
  try simp only [Act.put, List.setIfInBounds_toArray, List.set_cons_zero, List.set_cons_succ]
  refine wpAnyH_take (i := 6) (oi := ⟨some 4, .assign (.tmp 13), 22, "ref.go:129", #[⟨5, .data⟩, ⟨5, .chain⟩, ⟨0, .phase⟩, ⟨1, .phase⟩, ⟨2, .phase⟩, ⟨3, .phase⟩, ⟨4, .phase⟩, ⟨5, .phase⟩], none⟩) (v := ?_) rfl (by kernel_rfl) (by kernel_rfl) (by kernel_rfl) (fun _ _ _ h => h) (Or.inl ⟨by rfl, ?hyr1x6q36⟩) (by assumption) ?restr1x6q36
  case hyr1x6q36 => intro wq hSw; (go_simp); (try with_reducible rfl)
  try simp only [Act.put, List.setIfInBounds_toArray, List.set_cons_zero, List.set_cons_succ]
  refine wpAnyH_done (by kernel_rfl) ?_ _
  have KE := Lib.hid (EXH.out.nx hHeld)
  clear hHeld
  go_wp2_with fail
  go_ret
  exact ⟨_, rfl, by rw [E0.out]; exact own6.out, KE.out⟩

/-- behind w6 a row of the call's own (base β) has grown, which does not lie among the blocks from lo to hi -/
def Acc (β lo hi : Nat) (w6 wr : World) (o : Value) : Prop := Chg (fun k => k < hi ∧ (k < β ∨ lo ≤ k)) w6 wr ∧ hi ≤ wr.heap.size ∧ ∀ g, o.ownBlock = some g → g < lo ∨ hi ≤ g
theorem Acc.start {β lo hi : Nat} {w : World} {o : Value} (hs : hi ≤ w.heap.size) (ho : ∀ g, o.ownBlock = some g → g < lo ∨ hi ≤ g) : Acc β lo hi w w o := ⟨Chg.refl _ _, hs, ho⟩
theorem Acc.step {β lo hi : Nat} {w6 wr w9 : World} {o o' : Value} (h : Acc β lo hi w6 wr o) (hb : ∀ g, o.ownBlock = some g → β ≤ g) (k : Chg (fun k => k < wr.heap.size ∧ ¬ o.ownBlock = some k) wr w9) (ho : o'.ownBlock = o.ownBlock ∨ ∀ g, o'.ownBlock = some g → wr.heap.size ≤ g) : Acc β lo hi w6 w9 o' := by
  refine ⟨h.1.trans (k.mono fun x hx => ⟨Nat.lt_of_lt_of_le hx.1 h.2.1, fun hv => ?_⟩), Nat.le_trans h.2.1 k.size, fun g hg => ?_⟩
  · have h1 := hb x hv
    have h2 := h.2.2 x hv
    have h3 := hx.2
    have h4 := hx.1
    omega
  · rcases ho with h1 | h1
    · exact h.2.2 g (by rw [← h1]; exact hg)
    · have := h1 g hg; have := h.2.1; omega
theorem Acc.nx {β lo hi : Nat} {w6 wr w9 : World} {o : Value} (h : Acc β lo hi w6 wr o) (k : Ex wr w9) : Acc β lo hi w6 w9 o :=
  ⟨h.1.trans (Chg.mono k fun x hx => Nat.lt_of_lt_of_le hx.1 h.2.1), Nat.le_trans h.2.1 k.size, h.2.2⟩
theorem Acc.sl {α : Type} {sz n : Nat} {enc : α → List Value} {a : Option Addr} {l : List α} {β : Nat} {w5 w6 wr : World} {o : Value} (h : Acc β w5.heap.size w6.heap.size w6 wr o) (s : Slf sz enc w5 w6 a n l) : Sl sz enc wr a n l :=
  (Rd.chg s h.1 (fun _ hk => ⟨hk.2, .inr hk.1⟩)).mono fun _ hk => Nat.lt_of_lt_of_le hk.2 h.2.1
theorem Acc.ex {w2 w6 wr : World} {lo : Nat} {o : Value} (h : Acc w2.heap.size lo w6.heap.size w6 wr o) (k : Ex w2 w6) : Ex w2 wr :=
  Chg.trans k (Chg.mono h.1 fun _ hk => ⟨Nat.lt_of_lt_of_le hk k.size, .inl hk⟩)
theorem OwnW.blk_lt {α : Type} {sz e base : Nat} {enc : α → List Value} {w : World} {v : Value} {l : List α} (h : OwnW sz enc e base w v l) {g : Nat} (hg : v.ownBlock = some g) : g < w.heap.size := by
  obtain ⟨_, cur, hh⟩ := h.blk hg
  exact heap_lt hh
end Go.Proofs.YtbnbjiddffihoaaDoor

/- nearest of the reference (printed by gen_nst.py). -/
namespace Go.Proofs.YtbnbjiddffihoaaDoor
open Go.RowKit

end Go.Proofs.YtbnbjiddffihoaaDoor

/- Peers of the package redundant and of its reference (printed by gen_prs.py). -/
namespace Go.Proofs.YtbnbjiddffihoaaDoor
open Go.RowKit

theorem newPr {w0 u : World} (_ : Ex w0 u) : ∃ g v, g = u.heap.size ∧ v = u.alloc (.cells #[.int .i64 0, .slice none 0 0, .int .i64 0, .int .i64 0, .slice none 0 0] 41) ∧ Blk v g [.int .i64 0, .slice none 0 0, .int .i64 0, .int .i64 0, .slice none 0 0] 41 ∧ Ex u v :=
  ⟨_, _, rfl, rfl, Blk.new _ _ _, Ex.new _ _⟩
theorem litN4 {w0 u : World} (_ : Ex w0 u) (y : Nr) : ∃ g v, g = u.heap.size ∧ v = u.alloc (.cells #[.int .i64 y.1, .int .i64 y.2.1, .int .i64 y.2.2.1, .int .i64 y.2.2.2] 77) ∧ Sl 4 encNr v (some ⟨g, 0, none⟩) 1 [y] ∧ Ex u v :=
  ⟨_, _, rfl, rfl, Sl.lit [y] rfl rfl (fun _ => rfl) rfl, Ex.new _ _⟩
theorem OwnL.ne_blk {α : Type} {sz e base g' : Nat} {enc : α → List Value} {w : World} {v : Value} {l : List α} {cs : List Value} {ty : TypeId} (h : OwnL sz enc e base w v l) (B : Blk w g' cs ty) (hne : e ≠ ty) {g : Nat} (hg : v.ownBlock = some g) : g ≠ g' := by
  rintro rfl
  obtain ⟨_, cur, hh⟩ := h.blk hg
  exact blk_kind hne hh B
/-- a store into a block of another type -/
theorem OwnL.put {α : Type} {sz e base g' : Nat} {enc : α → List Value} {w w' : World} {v : Value} {l : List α} {cs : List Value} {ty : TypeId} (h : OwnL sz enc e base w v l) (B : Blk w g' cs ty) (hne : e ≠ ty) (k : Exb g' w w') : OwnL sz enc e base w' v l :=
  h.chg k fun _ hx hv => ⟨hx, h.ne_blk B hne hv⟩
theorem thr_sort {N : List Nd} (h0 : checkN N = 0) (id : Int) (i : Int) : throughN (sortN N) id i = throughN N id i := by
  have hs : sortN (sortN N) = sortN N := sort_perm (sortN_perm N) h0
  have hc : checkN (sortN N) = checkN N := by rw [check_perm (sortN_perm N) h0, h0]
  by_cases hx : ∃ x ∈ N, x.id = id
  · obtain ⟨x, hx, rfl⟩ := hx
    unfold throughN thrG
    rw [find_in h0 hx, find_in (hc.trans h0) ((sortN_mem N x).2 hx), hs, hc]
  · rw [thr_no (fun x hx' he => hx ⟨x, hx', he⟩), thr_no (fun x hx' he => hx ⟨x, (sortN_mem N x).1 hx', he⟩)]
theorem neigh_sort {N : List Nd} (h0 : checkN N = 0) (id : Int) (i : Int) : neighN (sortN N) id i = neighN N id i := by
  unfold neighN
  rw [thr_sort h0]
theorem nearG_sort {N : List Nd} (h0 : checkN N = 0) (x : Nd) (i : Nat) : nearG (sortN N) x i = nearG N x i := by
  have hs : sortN (sortN N) = sortN N := sort_perm (sortN_perm N) h0
  unfold nearG grpS
  rw [hs]
theorem peerC_eq {N : List Nd} (h0 : checkN N = 0) (width height : Int) (x : Nd) : peerC N width height x = ⟨x.id, (neighN N x.id 0).1.1, (neighN N x.id 0).1.2, contactsN N x.id width height, (List.range height.toNat).map (nearG N x)⟩ := by
  unfold peerC
  rw [neigh_sort h0, contacts_sort h0]
  congr 1
  exact List.map_congr_left fun i _ => nearG_sort h0 x i
def PsRel (N : List Nd) (width height : Int) (w : World) (o i : Value) (wr : World) : Prop :=
  ∃ (j : Nat) (qs : List PQ), j ≤ (sortN N).length ∧ i = .int .i64 j ∧ OwnPr w.heap.size wr o qs (((sortN N).take j).map (peerC N width height)) ∧ Ex w wr
/-- behind the making of a peer -/
def PcRel (N : List Nd) (x : Nd) (width : Int) (hh : Nat) (nl nr : Int) (β : Nat) (w6 : World) (s : Value) (wx : World) : Prop :=
  ∃ (g : Nat) (A : Option Addr) (C : Nat), s = .pointer (some ⟨g, 0, none⟩) ∧ w6.heap.size ≤ g ∧ Blk wx g [.int .i64 x.id, .slice A (contactsN N x.id width hh).length C, .int .i64 nl, .int .i64 nr, .slice none 0 0] 41 ∧ OwnL 1 encI 3 β wx (.slice A (contactsN N x.id width hh).length C) (contactsN N x.id width hh) ∧ Ex w6 wx
theorem Blk.low {w w' : World} {g B : Nat} {cs : List Value} {ty : TypeId} (h : Blk w g cs ty) (hg : g < B) (k : Chg (· < B) w w') : Blk w' g cs ty := (Chg.block k g hg).trans h
theorem Exb.nxb' {g : Nat} {wk wp wq wz : World} (h : Exb g wk wp) (k : Exb g wp wq) (c : Chg (· < wk.heap.size) wq wz) : Exb g wk wz :=
  Chg.trans (h.nxb k) (Chg.mono c fun _ hk => hk.1)
/-- the near row of a peer grows -/
def PnRel (N : List Nd) (x : Nd) (hh g : Nat) (kv : Value) (l r : Int) (w : World) (p : Value) (wr : World) : Prop :=
  ∃ (j : Nat) (A : Option Addr) (m c : Nat), j ≤ hh ∧ p = .int .i64 j ∧ Blk wr g [.int .i64 x.id, kv, .int .i64 l, .int .i64 r, .slice A m c] 41 ∧ OwnL 4 encNr 77 w.heap.size wr (.slice A m c) ((List.range j).map (nearG N x)) ∧ Exb g w wr

set_option maxRecDepth 100000 in
set_option maxHeartbeats 16000000 in
theorem peers_p (a : Option Addr) (n c : Nat) (N : List Nd) (width height : Int) (w : World) (h : Sl 3 encN w a n N) (hn : n ≤ 1000) (hc : n ≤ c) (hm : c ≤ maxLen) (hw : ∀ x ∈ N, x.word < 4294967296) (hT : TabG w) :
    Calls Tryd.prog 38 #[.slice a n c, .int .i64 width, .int .i64 height] w (PlPost (peersN N width height) w) := by
  have HL := Lib.hid h.len
  have HW := Lib.hid hw
  have EX := Ex.refl w
  clear hw
  have NO : Hid (checkN N ≠ 0 ∨ lvlN height = false → ∀ wx, Ex w wx → PlPost (peersN N width height) w (.returned (.slice none 0 0)) wx) := Lib.hid (fun hh wx kx => by
    unfold peersN
    rw [if_neg (by
      rintro ⟨h1, h2⟩
      rcases hh with h | h
      · exact h h1
      · rw [h] at h2; cases h2)]
    exact ⟨_, [], rfl, OwnP.nil _ _ _ _ _, kx⟩)
  go_enter Tryd.func38, Tryd.ntmps38
  go_wp2_with fail
  (with_reducible refine (check_p _ _ _ _ _ h (by omega) hc hm).mono ?_)
  rintro e w1 ⟨rfl, kk⟩
  replace h := h.nx kk
  replace EX := EX.nx kk
  replace hT := hT.nx kk
  clear kk
  by_cases hck : checkN N = 0
  case neg =>
    have d1 : (checkN N != 0) = true := by simpa using hck
    have FI := Lib.hid (NO.out (.inl hck) _ EX)
    clear h NO EX hck hT
    go_wp2_with fail
    go_ret
    exact FI.out
  have d1 : (checkN N != 0) = false := by simpa using hck
  by_cases hh0 : height < 0
  · have FI := Lib.hid (NO.out (.inr (by unfold lvlN; simp; omega)) _ EX)
    clear h NO EX hck hT
    go_wp2_with fail
    go_ret
    exact FI.out
  by_cases hh1 : 16 < height
  · have FI := Lib.hid (NO.out (.inr (by unfold lvlN; simp; omega)) _ EX)
    clear h NO EX hck hT
    go_wp2_with fail
    go_ret
    exact FI.out
  obtain ⟨hh, rfl⟩ := Int.eq_ofNat_of_zero_le (show 0 ≤ height by omega)
  have hh16 : hh ≤ 16 := by omega
  have HC := Lib.hid hck
  have FIN : Hid (peersN N width hh = (sortN N).map (peerC N width hh)) := Lib.hid (by unfold peersN; rw [if_pos ⟨hck, by unfold lvlN; simp; omega⟩])
  have hsN : (sortN N).length = n := by rw [sortN_length, HL.out]
  have hn64 : n ≤ 64 := by have := check_len hck; have := HL.out; omega
  clear NO hck
  go_wp2_with fail
  (with_reducible refine (sort_p _ _ _ _ _ h hn).mono ?_)
  rintro e w3 ⟨v, S, rfl, OS, ⟨hp, hsrt⟩, kk⟩
  replace h := h.nx kk
  replace EX := EX.nx kk
  replace hT := hT.nx kk
  clear kk
  have hSe : S = sortN N := sortN_unique (check_keys HC.out) hp hsrt
  subst hSe
  obtain ⟨a3, c3, rfl, S3, _, _⟩ := sorted_own HC.out OS
  rw [HL.out] at S3 ⊢
  clear OS hp hsrt
  replace hT := Lib.hid hT
  replace h := Lib.hid h
  replace S3 := Lib.hid S3
  replace EX := Lib.hid EX
  go_wp2_with fail
  go_loopw [8, 30] (fun o i wr => PsRel N width hh w3 o i wr) (fun _ i _ => n - (intOf i).toNat)
  case atStart => exact ⟨0, [], by omega, rfl, OwnP.nil _ _ _ _ _, Ex.refl _⟩
  case round =>
    obtain ⟨j, qs, hj, rfl, own, ki⟩ := hrel
    obtain ⟨wi, rfl⟩ : ∃ wi : World, wi = wr := ⟨_, rfl⟩
    rw [hsN] at hj
    by_cases hjm : j < n
    · obtain ⟨x3, o3, x, rfl, hx3, hy, hc3⟩ := (S3.out.nx ki).at hjm
      have e0 : wi.cell? ⟨x3, o3 + j * 3, none⟩ = some (.int .i64 x.id) := hc3 0 _ rfl
      have e1 : wi.cell? ⟨x3, o3 + j * 3 + 1, none⟩ = some (.string x.key) := hc3 1 _ rfl
      have e2 : wi.cell? ⟨x3, o3 + j * 3 + 1 + 1, none⟩ = some (.int .u32 x.word) := by simpa [Nat.add_assoc] using hc3 2 _ rfl
      have hxN : x ∈ N := (sortN_mem N x).1 (List.mem_of_getElem? hy)
      have HX := Lib.hid hxN
      have SN : Hid (((sortN N).take (j + 1)).map (peerC N width hh) = ((sortN N).take j).map (peerC N width hh) ++ [peerC N width hh x]) := Lib.hid (by rw [take_snocN _ j x hy, List.map_append]; rfl)
      have PQ : Hid (peerC N width hh x = ⟨x.id, (neighN N x.id 0).1.1, (neighN N x.id 0).1.2, contactsN N x.id width hh, (List.range hh).map (nearG N x)⟩) := Lib.hid (by have := peerC_eq HC.out width hh x; simpa using this)
      have hql : qs.length = j := by rw [own.2.1, List.length_map, List.length_take]; omega
      have hwi := ki.size
      have KI := Lib.hid ki
      have OWN := Lib.hid own
      clear hy own ki hxN hc3
      have B10 := Blk.new wi [.int .i64 x.id, .string x.key, .int .u32 x.word] 52
      have kk := Ex.new wi (.cells #[.int .i64 x.id, .string x.key, .int .u32 x.word] 52)
      obtain ⟨w4, hw4⟩ : ∃ w4, w4 = wi.alloc (.cells #[.int .i64 x.id, .string x.key, .int .u32 x.word] 52) := ⟨_, rfl⟩
      obtain ⟨g10, hg10⟩ : ∃ g10, g10 = wi.heap.size := ⟨_, rfl⟩
      replace B10 : Blk w4 g10 [.int .i64 x.id, .string x.key, .int .u32 x.word] 52 := by rw [hw4, hg10]; exact B10
      rw [← hw4] at kk
      have Hw4 := Lib.hid hw4
      have Hg10 := Lib.hid hg10
      have zg10 : wi.heap.size ≤ g10 := by omega
      have K4 := Lib.hid kk
      clear kk hw4 hg10
      go_upto_region 8 with fail
      rw [← Hg10.out, ← Hw4.out]
      clear Hg10 Hw4
      have q0 := B10.cell 0 _ rfl
      clear e0 e1 e2
      go_wp2_with fail
      (with_reducible refine (neigh_p _ _ _ N x.id 0 _ (h.out.nx (KI.out.nx K4.out)) hn hc hm HW.out (hT.out.nx (KI.out.nx K4.out))).mono ?_)
      rintro e w5 ⟨rfl, kk⟩
      replace B10 := B10.nx kk
      replace K4 := Lib.hid (K4.out.nx kk)
      clear kk q0
      generalize hL : (neighN N x.id 0).1.1 = nl at PQ ⊢
      generalize hR : (neighN N x.id 0).1.2 = nr at PQ ⊢
      clear hL hR
      have hz5 := K4.out.size
      have B11 := Blk.new w5 [.int .i64 nl, .int .i64 nr] 92
      have kk := Ex.new w5 (.cells #[.int .i64 nl, .int .i64 nr] 92)
      obtain ⟨w6, hw6⟩ : ∃ w6, w6 = w5.alloc (.cells #[.int .i64 nl, .int .i64 nr] 92) := ⟨_, rfl⟩
      obtain ⟨g11, hg11⟩ : ∃ g11, g11 = w5.heap.size := ⟨_, rfl⟩
      replace B11 : Blk w6 g11 [.int .i64 nl, .int .i64 nr] 92 := by rw [hw6, hg11]; exact B11
      rw [← hw6] at kk
      have Hw6 := Lib.hid hw6
      have Hg11 := Lib.hid hg11
      replace B10 := B10.nx kk
      replace K4 := Lib.hid (K4.out.nx kk)
      have zg11 : wi.heap.size ≤ g11 := by have := hz5; omega
      clear kk hw6 hg11
      go_upto_region 9 with fail
      rw [← Hg11.out, ← Hw6.out]
      clear Hg11 Hw6
      replace B11 := Lib.hid B11
      replace B10 := Lib.hid B10
      have SK := Lib.hid (S3.out.nx (KI.out.nx K4.out))
      have hz6 := K4.out.size
      go_cut [13] from 41 to 53 (fun s13 wx => PcRel N x width hh nl nr wi.heap.size w6 s13 wx)
      case first =>
        refine wp_region_late_drew (S := Ex w6) [14] (by kernel_rfl) ((Ex.refl w6).drew) (fun hHeld => ?_)
        obtain ⟨wd, hwdx⟩ : ∃ wd : World, wd = World.drew w6 := ⟨_, rfl⟩
        rw [← hwdx] at hHeld ⊢
        have hDrew : Ex w6 wd := by rw [hwdx]; exact (Ex.refl w6).drew
        clear hwdx
        refine wpAnyL_take (i := 0) (oi := ⟨some 41, .fieldAddr 52 (.tmp 10) 0, 0, "redundant.go:86", #[], none⟩) (v := ?_) rfl (by kernel_rfl) (by kernel_rfl) (by kernel_rfl) (fun _ _ _ h => h) (Or.inl ⟨by rfl, ?hyr1x0q5⟩) (by kernel_rfl) (by kernel_rfl) (by assumption) ?restr1x0q5
        case hyr1x0q5 => intro wq hSw; (go_simp); (try with_reducible rfl)
        try simp only [Act.put, List.setIfInBounds_toArray, List.set_cons_zero, List.set_cons_succ]
        refine wpAnyL_take (i := 1) (oi := ⟨some 42, .load 3 (.tmp 41), 3, "redundant.go:86", #[⟨0, .data⟩], none⟩) (v := ?_) rfl (by kernel_rfl) (by kernel_rfl) (by kernel_rfl) (fun _ _ _ h => h) (Or.inl ⟨by rfl, ?hyr1x1q8⟩) (by kernel_rfl) (by kernel_rfl) (by assumption) ?restr1x1q8
        case hyr1x1q8 => intro wq hSw; (have cq := (B10.out.nx hSw).cell 0 _ rfl; go_simp); (try with_reducible rfl)
        try simp only [Act.put, List.setIfInBounds_toArray, List.set_cons_zero, List.set_cons_succ]
        refine wpAnyL_take (i := 2) (oi := ⟨some 43, .move (.tmp 0), 23, "redundant.go:86", #[], none⟩) (v := ?_) rfl (by kernel_rfl) (by kernel_rfl) (by kernel_rfl) (fun _ _ _ h => h) (Or.inl ⟨by rfl, ?hyr1x2q11⟩) (by kernel_rfl) (by kernel_rfl) (by assumption) ?restr1x2q11
        case hyr1x2q11 => intro wq hSw; (go_simp); (try with_reducible rfl)
        try simp only [Act.put, List.setIfInBounds_toArray, List.set_cons_zero, List.set_cons_succ]
        refine wpAnyL_take (i := 3) (oi := ⟨some 44, .fieldAddr 52 (.tmp 10) 0, 0, "redundant.go:86", #[], none⟩) (v := ?_) rfl (by kernel_rfl) (by kernel_rfl) (by kernel_rfl) (fun _ _ _ h => h) (Or.inl ⟨by rfl, ?hyr1x3q14⟩) (by kernel_rfl) (by kernel_rfl) (by assumption) ?restr1x3q14
        case hyr1x3q14 => intro wq hSw; (go_simp); (try with_reducible rfl)
        try simp only [Act.put, List.setIfInBounds_toArray, List.set_cons_zero, List.set_cons_succ]
        refine wpAnyL_take (i := 4) (oi := ⟨some 45, .load 3 (.tmp 44), 3, "redundant.go:86", #[⟨3, .data⟩], none⟩) (v := ?_) rfl (by kernel_rfl) (by kernel_rfl) (by kernel_rfl) (fun _ _ _ h => h) (Or.inl ⟨by rfl, ?hyr1x4q17⟩) (by kernel_rfl) (by kernel_rfl) (by assumption) ?restr1x4q17
        case hyr1x4q17 => intro wq hSw; (have cq := (B10.out.nx hSw).cell 0 _ rfl; go_simp); (try with_reducible rfl)
        try simp only [Act.put, List.setIfInBounds_toArray, List.set_cons_zero, List.set_cons_succ]
        refine wpAnyL_take (i := 5) (oi := ⟨some 46, .move (.tmp 1), 3, "redundant.go:86", #[], none⟩) (v := ?_) rfl (by kernel_rfl) (by kernel_rfl) (by kernel_rfl) (fun _ _ _ h => h) (Or.inl ⟨by rfl, ?hyr1x5q20⟩) (by kernel_rfl) (by kernel_rfl) (by assumption) ?restr1x5q20
        case hyr1x5q20 => intro wq hSw; (go_simp); (try with_reducible rfl)
        try simp only [Act.put, List.setIfInBounds_toArray, List.set_cons_zero, List.set_cons_succ]
        refine wpAnyL_take (i := 6) (oi := ⟨some 47, .move (.tmp 2), 3, "redundant.go:86", #[], none⟩) (v := ?_) rfl (by kernel_rfl) (by kernel_rfl) (by kernel_rfl) (fun _ _ _ h => h) (Or.inl ⟨by rfl, ?hyr1x6q23⟩) (by kernel_rfl) (by kernel_rfl) (by assumption) ?restr1x6q23
        case hyr1x6q23 => intro wq hSw; (go_simp); (try with_reducible rfl)
        try simp only [Act.put, List.setIfInBounds_toArray, List.set_cons_zero, List.set_cons_succ]
        refine wpAnyL_take (i := 8) (oi := ⟨some 49, .fieldAddr 92 (.tmp 11) 0, 0, "redundant.go:86", #[], none⟩) (v := ?_) rfl (by kernel_rfl) (by kernel_rfl) (by kernel_rfl) (fun _ _ _ h => h) (Or.inl ⟨by rfl, ?hyr1x8q26⟩) (by kernel_rfl) (by kernel_rfl) (by assumption) ?restr1x8q26
        case hyr1x8q26 => intro wq hSw; (go_simp); (try with_reducible rfl)
        try simp only [Act.put, List.setIfInBounds_toArray, List.set_cons_zero, List.set_cons_succ]
        refine wpAnyL_take (i := 9) (oi := ⟨some 50, .load 3 (.tmp 49), 3, "redundant.go:86", #[⟨8, .data⟩], none⟩) (v := ?_) rfl (by kernel_rfl) (by kernel_rfl) (by kernel_rfl) (fun _ _ _ h => h) (Or.inl ⟨by rfl, ?hyr1x9q29⟩) (by kernel_rfl) (by kernel_rfl) (by assumption) ?restr1x9q29
        case hyr1x9q29 => intro wq hSw; (have cq := (B11.out.nx hSw).cell 0 _ rfl; go_simp); (try with_reducible rfl)
        try simp only [Act.put, List.setIfInBounds_toArray, List.set_cons_zero, List.set_cons_succ]
        refine wpAnyL_take (i := 10) (oi := ⟨some 51, .fieldAddr 92 (.tmp 11) 1, 0, "redundant.go:86", #[], none⟩) (v := ?_) rfl (by kernel_rfl) (by kernel_rfl) (by kernel_rfl) (fun _ _ _ h => h) (Or.inl ⟨by rfl, ?hyr1x10q32⟩) (by kernel_rfl) (by kernel_rfl) (by assumption) ?restr1x10q32
        case hyr1x10q32 => intro wq hSw; (go_simp); (try with_reducible rfl)
        try simp only [Act.put, List.setIfInBounds_toArray, List.set_cons_zero, List.set_cons_succ]
        refine wpAnyL_take (i := 11) (oi := ⟨some 52, .load 3 (.tmp 51), 3, "redundant.go:86", #[⟨10, .data⟩], none⟩) (v := ?_) rfl (by kernel_rfl) (by kernel_rfl) (by kernel_rfl) (fun _ _ _ h => h) (Or.inl ⟨by rfl, ?hyr1x11q35⟩) (by kernel_rfl) (by kernel_rfl) (by assumption) ?restr1x11q35
        case hyr1x11q35 => intro wq hSw; (have cq := (B11.out.nx hSw).cell 1 _ rfl; go_simp); (try with_reducible rfl)
        try simp only [Act.put, List.setIfInBounds_toArray, List.set_cons_zero, List.set_cons_succ]
        refine wpAnyL_ready (rs := [7, 13]) (by kernel_rfl) (by simp) ?_
        refine AllReadyL.cons (o := ⟨some 48, .call { callee := .value (.func 51), args := #[.tmp 43, .tmp 45, .tmp 46, .tmp 47], argTypes := #[23, 3, 3, 3] }, 22, "redundant.go:86", #[⟨2, .data⟩, ⟨4, .data⟩, ⟨5, .data⟩, ⟨6, .data⟩], none⟩) rfl (fun K hK => ?_) ?_
        · go_simp
          (with_reducible refine (contacts_p _ _ _ N x.id width hh _ (h.out.nx (KI.out.nx (K4.out.nx hHeld))) hn hc hm HW.out (hT.out.nx (KI.out.nx (K4.out.nx hHeld)))).mono ?_)
          rintro e wz ⟨vc, rfl, own2, kk⟩
          (try replace B13 := B13.nx kk)
          obtain ⟨A2, C2, rfl, _, _, _, _⟩ := own2.slf (fun _ => rfl)
          replace own2 := own2.base (Nat.le_trans hz6 hHeld.size)
          replace hHeld := hHeld.nx kk
          clear kk
          refine hK.out _ _ (hHeld) (fun hHeld => ?_)
          clear hK K
          try simp only [Act.put, List.setIfInBounds_toArray, List.set_cons_zero, List.set_cons_succ]
          refine wpAnyL_take (i := 12) (oi := ⟨some 53, .build 41 #[(0, .tmp 42), (1, .tmp 48), (2, .tmp 50), (3, .tmp 52)], 41, "redundant.go:86", #[⟨1, .data⟩, ⟨7, .data⟩, ⟨9, .data⟩, ⟨11, .data⟩], none⟩) (v := ?_) rfl (by kernel_rfl) (by kernel_rfl) (by kernel_rfl) (fun _ _ _ h => h) (Or.inl ⟨by rfl, ?hyr1x12q51⟩) (by kernel_rfl) (by kernel_rfl) (by assumption) ?restr1x12q51
          case hyr1x12q51 => intro wq hSw; (go_simp); (try with_reducible rfl)
          try simp only [Act.put, List.setIfInBounds_toArray, List.set_cons_zero, List.set_cons_succ]
          refine wpAnyL_ready (rs := [13]) (by kernel_rfl) (by simp) ?_
          refine AllReadyL.cons (o := ⟨some 13, .alloc 41, 0, "redundant.go:86", #[], none⟩) rfl (fun K hK => ?_) AllReadyL.nil
          go_simp
          have z13 := hHeld.size
          obtain ⟨g13, wz, hg13, hwz, B13, kk⟩ := newPr hHeld
          rw [← hg13, ← hwz]
          have zg13 : w6.heap.size ≤ g13 := by omega
          clear hg13 hwz z13
          (try replace own2 := own2.nx kk)
          replace hHeld := hHeld.nx kk
          clear kk
          refine hK.out _ _ (hHeld) (fun hHeld => ?_)
          clear hK K
          try simp only [Act.put, List.setIfInBounds_toArray, List.set_cons_zero, List.set_cons_succ]
          refine wpAnyL_ready (rs := [14]) (by kernel_rfl) (by simp) ?_
          refine AllReadyL.consL (o := ⟨none, .store 41 (.tmp 13) (.tmp 53), 0, "redundant.go:86", #[⟨13, .data⟩, ⟨12, .data⟩, ⟨7, .chain⟩, ⟨0, .phase⟩, ⟨1, .phase⟩, ⟨2, .phase⟩, ⟨3, .phase⟩, ⟨4, .phase⟩, ⟨5, .phase⟩, ⟨6, .phase⟩, ⟨7, .phase⟩, ⟨8, .phase⟩, ⟨9, .phase⟩, ⟨10, .phase⟩, ⟨11, .phase⟩, ⟨12, .phase⟩, ⟨13, .phase⟩], none⟩) rfl (by rfl) (fun K hK => ?_) AllReadyL.nil
          have c0 := B13.cell 0 _ rfl
          have c1 := B13.cell 1 _ rfl
          have c2 := B13.cell 2 _ rfl
          have c3 := B13.cell 3 _ rfl
          have c4 := B13.cell 4 _ rfl
          have f0 := B13.free 0
          have f1 := B13.free 1
          have f2 := B13.free 2
          have f3 := B13.free 3
          have f4 := B13.free 4
          go_simp
          clear c0 c1 c2 c3 c4 f0 f1 f2 f3 f4
          refine hK.out _ _ ?_
          clear hK K
          try simp only [Act.put, List.setIfInBounds_toArray, List.set_cons_zero, List.set_cons_succ]
          refine wpAnyL_done (by kernel_rfl) ?_ _
          obtain ⟨wk, hwk⟩ : ∃ wk, wk = ((((wz.setCell ⟨g13, 0, none⟩ (.int .i64 x.id)).setCell ⟨g13, 1, none⟩ (.slice A2 (contactsN N x.id width hh).length C2)).setCell ⟨g13, 2, none⟩ (.int .i64 nl)).setCell ⟨g13, 3, none⟩ (.int .i64 nr)).setCell ⟨g13, 4, none⟩ (.slice none 0 0) := ⟨_, rfl⟩
          rw [← hwk]
          have BP : Blk wk g13 [.int .i64 x.id, .slice A2 (contactsN N x.id width hh).length C2, .int .i64 nl, .int .i64 nr, .slice none 0 0] 41 := by rw [hwk]; exact ((((B13.set 0 _).set 1 _).set 2 _).set 3 _).set 4 _
          have KB : Exb g13 wz wk := by rw [hwk]; exact (((((Exb.refl g13 wz).setB (p := ⟨g13, 0, none⟩) _ rfl).setB (p := ⟨g13, 1, none⟩) _ rfl).setB (p := ⟨g13, 2, none⟩) _ rfl).setB (p := ⟨g13, 3, none⟩) _ rfl).setB (p := ⟨g13, 4, none⟩) _ rfl
          have CUT := Lib.hid (show PcRel N x width hh nl nr wi.heap.size w6 (.pointer (some ⟨g13, 0, none⟩)) wk from ⟨g13, A2, C2, rfl, zg13, BP, own2.put B13 (by decide) KB, (Exl.nxb (b := g13) (w := w6) ⟨hHeld, zg13⟩ KB).1⟩)
          clear hwk B13 KB hHeld BP own2
          go_wp2_with fail
          go_meet
          exact CUT.out
        refine AllReadyL.cons (o := ⟨some 13, .alloc 41, 0, "redundant.go:86", #[], none⟩) rfl (fun K hK => ?_) AllReadyL.nil
        · go_simp
          have z13 := hHeld.size
          obtain ⟨g13, wz, hg13, hwz, B13, kk⟩ := newPr hHeld
          rw [← hg13, ← hwz]
          have zg13 : w6.heap.size ≤ g13 := by omega
          clear hg13 hwz z13
          (try replace own2 := own2.nx kk)
          replace hHeld := hHeld.nx kk
          clear kk
          refine hK.out _ _ (hHeld) (fun hHeld => ?_)
          clear hK K
          try simp only [Act.put, List.setIfInBounds_toArray, List.set_cons_zero, List.set_cons_succ]
          refine wpAnyL_ready (rs := [7]) (by kernel_rfl) (by simp) ?_
          refine AllReadyL.cons (o := ⟨some 48, .call { callee := .value (.func 51), args := #[.tmp 43, .tmp 45, .tmp 46, .tmp 47], argTypes := #[23, 3, 3, 3] }, 22, "redundant.go:86", #[⟨2, .data⟩, ⟨4, .data⟩, ⟨5, .data⟩, ⟨6, .data⟩], none⟩) rfl (fun K hK => ?_) AllReadyL.nil
          go_simp
          (with_reducible refine (contacts_p _ _ _ N x.id width hh _ (h.out.nx (KI.out.nx (K4.out.nx hHeld))) hn hc hm HW.out (hT.out.nx (KI.out.nx (K4.out.nx hHeld)))).mono ?_)
          rintro e wz ⟨vc, rfl, own2, kk⟩
          (try replace B13 := B13.nx kk)
          obtain ⟨A2, C2, rfl, _, _, _, _⟩ := own2.slf (fun _ => rfl)
          replace own2 := own2.base (Nat.le_trans hz6 hHeld.size)
          replace hHeld := hHeld.nx kk
          clear kk
          refine hK.out _ _ (hHeld) (fun hHeld => ?_)
          clear hK K
          try simp only [Act.put, List.setIfInBounds_toArray, List.set_cons_zero, List.set_cons_succ]
          refine wpAnyL_take (i := 12) (oi := ⟨some 53, .build 41 #[(0, .tmp 42), (1, .tmp 48), (2, .tmp 50), (3, .tmp 52)], 41, "redundant.go:86", #[⟨1, .data⟩, ⟨7, .data⟩, ⟨9, .data⟩, ⟨11, .data⟩], none⟩) (v := ?_) rfl (by kernel_rfl) (by kernel_rfl) (by kernel_rfl) (fun _ _ _ h => h) (Or.inl ⟨by rfl, ?hyr1x12q113⟩) (by kernel_rfl) (by kernel_rfl) (by assumption) ?restr1x12q113
          case hyr1x12q113 => intro wq hSw; (go_simp); (try with_reducible rfl)
          try simp only [Act.put, List.setIfInBounds_toArray, List.set_cons_zero, List.set_cons_succ]
          refine wpAnyL_ready (rs := [14]) (by kernel_rfl) (by simp) ?_
          refine AllReadyL.consL (o := ⟨none, .store 41 (.tmp 13) (.tmp 53), 0, "redundant.go:86", #[⟨13, .data⟩, ⟨12, .data⟩, ⟨7, .chain⟩, ⟨0, .phase⟩, ⟨1, .phase⟩, ⟨2, .phase⟩, ⟨3, .phase⟩, ⟨4, .phase⟩, ⟨5, .phase⟩, ⟨6, .phase⟩, ⟨7, .phase⟩, ⟨8, .phase⟩, ⟨9, .phase⟩, ⟨10, .phase⟩, ⟨11, .phase⟩, ⟨12, .phase⟩, ⟨13, .phase⟩], none⟩) rfl (by rfl) (fun K hK => ?_) AllReadyL.nil
          have c0 := B13.cell 0 _ rfl
          have c1 := B13.cell 1 _ rfl
          have c2 := B13.cell 2 _ rfl
          have c3 := B13.cell 3 _ rfl
          have c4 := B13.cell 4 _ rfl
          have f0 := B13.free 0
          have f1 := B13.free 1
          have f2 := B13.free 2
          have f3 := B13.free 3
          have f4 := B13.free 4
          go_simp
          clear c0 c1 c2 c3 c4 f0 f1 f2 f3 f4
          refine hK.out _ _ ?_
          clear hK K
          try simp only [Act.put, List.setIfInBounds_toArray, List.set_cons_zero, List.set_cons_succ]
          refine wpAnyL_done (by kernel_rfl) ?_ _
          obtain ⟨wk, hwk⟩ : ∃ wk, wk = ((((wz.setCell ⟨g13, 0, none⟩ (.int .i64 x.id)).setCell ⟨g13, 1, none⟩ (.slice A2 (contactsN N x.id width hh).length C2)).setCell ⟨g13, 2, none⟩ (.int .i64 nl)).setCell ⟨g13, 3, none⟩ (.int .i64 nr)).setCell ⟨g13, 4, none⟩ (.slice none 0 0) := ⟨_, rfl⟩
          rw [← hwk]
          have BP : Blk wk g13 [.int .i64 x.id, .slice A2 (contactsN N x.id width hh).length C2, .int .i64 nl, .int .i64 nr, .slice none 0 0] 41 := by rw [hwk]; exact ((((B13.set 0 _).set 1 _).set 2 _).set 3 _).set 4 _
          have KB : Exb g13 wz wk := by rw [hwk]; exact (((((Exb.refl g13 wz).setB (p := ⟨g13, 0, none⟩) _ rfl).setB (p := ⟨g13, 1, none⟩) _ rfl).setB (p := ⟨g13, 2, none⟩) _ rfl).setB (p := ⟨g13, 3, none⟩) _ rfl).setB (p := ⟨g13, 4, none⟩) _ rfl
          have CUT := Lib.hid (show PcRel N x width hh nl nr wi.heap.size w6 (.pointer (some ⟨g13, 0, none⟩)) wk from ⟨g13, A2, C2, rfl, zg13, BP, own2.put B13 (by decide) KB, (Exl.nxb (b := g13) (w := w6) ⟨hHeld, zg13⟩ KB).1⟩)
          clear hwk B13 KB hHeld BP own2
          go_wp2_with fail
          go_meet
          exact CUT.out
      case rest =>
        obtain ⟨g13, A2, C2, rfl, zg13, BP, own2, k6⟩ := hcut
        rename World => wk
        have zgi : wi.heap.size ≤ g13 := by have := K4.out.size; omega
        have KW := Lib.hid (K4.out.nx k6)
        have hgk := BP.lt
        have B10k := Lib.hid (B10.out.nx k6)
        clear k6
        go_wp2_with fail
        go_loopw [55] (fun p wr => PnRel N x hh g13 (.slice A2 (contactsN N x.id width hh).length C2) nl nr wk p wr) (fun p _ => hh - (intOf p).toNat)
        case atStart => exact ⟨0, none, 0, 0, by omega, rfl, BP, OwnL.nil _ _ _ _ _, Exb.refl _ _⟩
        case round =>
          obtain ⟨lev, A, m, cc, hlev, rfl, BR, nrow, kv⟩ := hrel
          obtain ⟨wp, rfl⟩ : ∃ wp : World, wp = wr := ⟨_, rfl⟩
          have O2 := Lib.hid (own2.put BP (by decide) kv)
          have KV := Lib.hid (Exl.nxb (b := g13) (w := wi) ⟨KW.out, zgi⟩ kv).1
          by_cases hl2 : lev < hh
          · have SP := Lib.hid (S3.out.nx (KI.out.nx KV.out))
            have KVV := Lib.hid kv
            have NSN : Hid ((List.range (lev + 1)).map (nearG N x) = (List.range lev).map (nearG N x) ++ [nearG N x lev]) := Lib.hid (by rw [List.range_succ, List.map_append]; rfl)
            have hrl : ((List.range lev).map (nearG N x)).length = lev := by simp
            generalize hyy : nearG N x lev = yy at NSN
            have HYY := Lib.hid hyy
            generalize (List.range lev).map (nearG N x) = row at nrow NSN hrl
            have BPP := Lib.hid BR
            have NROW := Lib.hid nrow
            have zk := kv.size
            have hi16 : lev < 16 := by omega
            clear hyy nrow kv BR BP own2
            have BN := Lib.hid (B10k.out.nxb (show g10 ≠ g13 by have := B10.out.lt; omega) KVV.out)
            have TV := Lib.hid (hT.out.nx (KI.out.nx KV.out))
            go_upto_region 13 with fail
            refine wp_region_late_drew (S := Ex wp) [7, 8, 9] (by kernel_rfl) ((Ex.refl wp).drew) (fun hHeld => ?_)
            obtain ⟨wd, hwdx⟩ : ∃ wd : World, wd = World.drew wp := ⟨_, rfl⟩
            rw [← hwdx] at hHeld ⊢
            have hDrew : Ex wp wd := by rw [hwdx]; exact (Ex.refl wp).drew
            clear hwdx
            refine wpAnyL_take (i := 0) (oi := ⟨some 58, .fieldAddr 41 (.tmp 13) 4, 0, "redundant.go:88", #[], none⟩) (v := ?_) rfl (by kernel_rfl) (by kernel_rfl) (by kernel_rfl) (fun _ _ _ h => h) (Or.inl ⟨by rfl, ?hyr2x0q5⟩) (by kernel_rfl) (by kernel_rfl) (by assumption) ?restr2x0q5
            case hyr2x0q5 => intro wq hSw; (go_simp); (try with_reducible rfl)
            try simp only [Act.put, List.setIfInBounds_toArray, List.set_cons_zero, List.set_cons_succ]
            refine wpAnyL_take (i := 1) (oi := ⟨some 59, .load 39 (.tmp 58), 39, "redundant.go:88", #[⟨0, .data⟩], none⟩) (v := ?_) rfl (by kernel_rfl) (by kernel_rfl) (by kernel_rfl) (fun _ _ _ h => h) (Or.inl ⟨by rfl, ?hyr2x1q8⟩) (by kernel_rfl) (by kernel_rfl) (by assumption) ?restr2x1q8
            case hyr2x1q8 => intro wq hSw; (have cq := (BPP.out.nx hSw).cell 4 _ rfl; go_simp); (try with_reducible rfl)
            try simp only [Act.put, List.setIfInBounds_toArray, List.set_cons_zero, List.set_cons_succ]
            refine wpAnyL_take (i := 2) (oi := ⟨some 60, .move (.tmp 7), 23, "redundant.go:88", #[], none⟩) (v := ?_) rfl (by kernel_rfl) (by kernel_rfl) (by kernel_rfl) (fun _ _ _ h => h) (Or.inl ⟨by rfl, ?hyr2x2q11⟩) (by kernel_rfl) (by kernel_rfl) (by assumption) ?restr2x2q11
            case hyr2x2q11 => intro wq hSw; (go_simp); (try with_reducible rfl)
            try simp only [Act.put, List.setIfInBounds_toArray, List.set_cons_zero, List.set_cons_succ]
            refine wpAnyL_take (i := 3) (oi := ⟨some 61, .load 52 (.tmp 10), 52, "redundant.go:88", #[], none⟩) (v := ?_) rfl (by kernel_rfl) (by kernel_rfl) (by kernel_rfl) (fun _ _ _ h => h) (Or.inl ⟨by rfl, ?hyr2x3q14⟩) (by kernel_rfl) (by kernel_rfl) (by assumption) ?restr2x3q14
            case hyr2x3q14 => intro wq hSw; (have B := BN.out.nx hSw; have c0 := B.cell 0 _ rfl; have c1 := B.cell 1 _ rfl; have c2 := B.cell 2 _ rfl; go_simp); (try with_reducible rfl)
            try simp only [Act.put, List.setIfInBounds_toArray, List.set_cons_zero, List.set_cons_succ]
            refine wpAnyL_take (i := 4) (oi := ⟨some 62, .move (.tmp 14), 3, "redundant.go:88", #[], none⟩) (v := ?_) rfl (by kernel_rfl) (by kernel_rfl) (by kernel_rfl) (fun _ _ _ h => h) (Or.inl ⟨by rfl, ?hyr2x4q17⟩) (by kernel_rfl) (by kernel_rfl) (by assumption) ?restr2x4q17
            case hyr2x4q17 => intro wq hSw; (go_simp); (try with_reducible rfl)
            try simp only [Act.put, List.setIfInBounds_toArray, List.set_cons_zero, List.set_cons_succ]
            refine wpAnyL_ready (rs := [5]) (by kernel_rfl) (by simp) ?_
            refine AllReadyL.cons (o := ⟨some 63, .call { callee := .value (.func 74), args := #[.tmp 60, .tmp 61, .tmp 62], argTypes := #[23, 52, 3] }, 77, "redundant.go:88", #[⟨2, .data⟩, ⟨3, .data⟩, ⟨4, .data⟩], none⟩) rfl (fun K hK => ?_) AllReadyL.nil
            go_simp
            (with_reducible refine (near_p _ _ _ N x lev _ (SP.out.nx hHeld) hn HC.out HW.out HX.out hi16 (TV.out.nx hHeld)).mono ?_)
            rintro e wq ⟨rfl, kk⟩
            rw [HYY.out]
            simp only [encNr]
            replace hHeld := hHeld.nx kk
            clear kk
            refine hK.out _ _ (hHeld) (fun hHeld => ?_)
            clear hK K
            try simp only [Act.put, List.setIfInBounds_toArray, List.set_cons_zero, List.set_cons_succ]
            refine wpAnyL_ready (rs := [6]) (by kernel_rfl) (by simp) ?_
            refine AllReadyL.cons (o := ⟨some 64, .buildSlice 39 1 #[(0, .tmp 63)], 39, "redundant.go:88", #[⟨5, .data⟩], none⟩) rfl (fun K hK => ?_) AllReadyL.nil
            go_simp
            obtain ⟨g8, wq2, hg8, hwq2, SX, kk⟩ := litN4 hHeld yy
            rw [← hg8, ← hwq2]
            replace hHeld := hHeld.nx kk
            clear hg8 hwq2 kk
            refine hK.out _ _ (hHeld) (fun hHeld => ?_)
            clear hK K
            try simp only [Act.put, List.setIfInBounds_toArray, List.set_cons_zero, List.set_cons_succ]
            refine wpAnyL_ready (rs := [7]) (by kernel_rfl) (by simp) ?_
            refine AllReadyL.consL (o := ⟨some 65, .call { callee := .builtin .append, args := #[.tmp 59, .tmp 64], argTypes := #[39, 39] }, 39, "redundant.go:88", #[⟨1, .data⟩, ⟨6, .data⟩, ⟨5, .chain⟩], none⟩) rfl (by rfl) (fun K hK => ?_) AllReadyL.nil
            rw [if_pos (by rfl)]
            have own4 := NROW.out.nx hHeld
            refine wp_append_rd (enc := encNr) _ (.tmp 59) (.tmp 64) 39 rfl wk.heap.size 77 (.agg #[.int .i64 0, .int .i64 0, .int .i64 0, .int .i64 0]) 4 32 Tryd.underlying39 Tryd.infoNr rfl (by omega) (by omega) _ row own4 rfl _ _ 1 1 [yy] SX (fun h => by cases h) (fun _ => rfl) (by simp [encNr, Value.oneCell']) rfl (by omega) (by omega) (Nat.le_trans zk hHeld.size) ?_
            intro v9 wz own9 ch0 ch1
            obtain ⟨A9, C9, e9, _⟩ := own9.rd (fun _ => rfl)
            rw [show (row ++ [yy]).length = lev + 1 by rw [List.length_append, hrl]; rfl] at e9
            subst e9
            have BZ := (BPP.out.nx hHeld).low hgk ch1
            have KQ : Exb g13 wk wz := KVV.out.nxb' (hHeld.b g13) ch1
            refine hK.out _ _ ?_
            clear hK K
            try simp only [Act.put, List.setIfInBounds_toArray, List.set_cons_zero, List.set_cons_succ]
            refine wpAnyL_ready (rs := [8]) (by kernel_rfl) (by simp) ?_
            refine AllReadyL.consL (o := ⟨some 66, .fieldAddr 41 (.tmp 13) 4, 0, "redundant.go:88", #[⟨0, .phase⟩, ⟨1, .phase⟩, ⟨2, .phase⟩, ⟨3, .phase⟩, ⟨4, .phase⟩, ⟨5, .phase⟩, ⟨6, .phase⟩, ⟨7, .phase⟩], none⟩) rfl (by rfl) (fun K hK => ?_) AllReadyL.nil
            go_simp
            refine hK.out _ _ ?_
            clear hK K
            try simp only [Act.put, List.setIfInBounds_toArray, List.set_cons_zero, List.set_cons_succ]
            refine wpAnyL_ready (rs := [9]) (by kernel_rfl) (by simp) ?_
            refine AllReadyL.consL (o := ⟨none, .store 39 (.tmp 66) (.tmp 65), 0, "redundant.go:88", #[⟨8, .data⟩, ⟨7, .data⟩, ⟨7, .chain⟩, ⟨0, .phase⟩, ⟨1, .phase⟩, ⟨2, .phase⟩, ⟨3, .phase⟩, ⟨4, .phase⟩, ⟨5, .phase⟩, ⟨6, .phase⟩, ⟨7, .phase⟩], none⟩) rfl (by rfl) (fun K hK => ?_) AllReadyL.nil
            have c4 := BZ.cell 4 _ rfl
            have f4 := BZ.free 4
            go_simp
            clear c4 f4
            refine hK.out _ _ ?_
            clear hK K
            try simp only [Act.put, List.setIfInBounds_toArray, List.set_cons_zero, List.set_cons_succ]
            refine wpAnyL_done (by kernel_rfl) ?_ _
            have BY := BZ.set 4 (.slice A9 (lev + 1) C9)
            have K9 : Exb g13 wk (wz.setCell ⟨g13, 4, none⟩ (.slice A9 (lev + 1) C9)) := KQ.setB (p := ⟨g13, 4, none⟩) _ rfl
            have own8 := Lib.hid (own9.put BZ (by decide) ((Exb.refl g13 wz).setB (p := ⟨g13, 4, none⟩) (.slice A9 (lev + 1) C9) rfl))
            have RR := Lib.hid (show PnRel N x hh g13 (.slice A2 (contactsN N x.id width hh).length C2) nl nr wk (.int .i64 ((lev : Int) + 1)) (wz.setCell ⟨g13, 4, none⟩ (.slice A9 (lev + 1) C9)) from ⟨lev + 1, A9, _, C9, by omega, by go_num, BY, by rw [NSN.out]; exact own8.out, K9⟩)
            clear BY K9 own8 own9 BZ KQ ch0 ch1 hHeld own4 SX
            go_wp2_with fail
            exact ⟨RR.out, by simp [intOf]; omega⟩
          · obtain rfl : lev = hh := by omega
            have p0 := BR.cell 0 _ rfl
            have p1 := BR.cell 1 _ rfl
            have p2 := BR.cell 2 _ rfl
            have p3 := BR.cell 3 _ rfl
            have p4 := BR.cell 4 _ rfl
            have OP := Lib.hid (OWN.out.nx KV.out)
            have KN := KV.out.nx (Ex.new _ (.cells #[.int .i64 x.id, .slice A2 (contactsN N x.id width lev).length C2, .int .i64 nl, .int .i64 nr, .slice A m cc] 41))
            have zn := Nat.le_trans hwi KN.size
            have zwk := Lib.hid (nrow.base (KW.out.size))
            clear BR nrow kv hlev hl2 BP own2
            go_wp2_with (at_builtin; (refine wpList_append_W (enc := encQ) _ rfl _ _ 36 rfl w3.heap.size 41 (.agg #[.int .i64 0, .slice none 0 0, .int .i64 0, .int .i64 0, .slice none 0 0]) 5 72 Tryd.underlying36 Tryd.infoPr rfl (by omega) (by omega) _ qs (OP.out.nx (Ex.new _ _)).row rfl _ 1 1 [((x.id, nl, nr), (A2, (contactsN N x.id width lev).length, C2), (A, m, cc))] (Sl.lit _ rfl rfl encQ_len rfl) encQ_len encQ_one rfl (by omega) (by omega) zn ?_); intro v9 w9 own9 ch0 ch1 _)
            have RR := OWN.out.app (p := peerC N width lev x) (hk := (A2, (contactsN N x.id width lev).length, C2)) (hn := (A, m, cc)) (by decide) (by decide) hwi KN (by rw [PQ.out]; exact (O2.out.nx (Ex.new _ _))) (by rw [PQ.out]; exact (zwk.out.nx (Ex.new _ _))) (by rw [PQ.out]; exact own9) ch0
            exact ⟨⟨j + 1, _, by omega, by go_num, by rw [SN.out]; exact RR, Chg.trans (KI.out.nx KN) ch1⟩, by simp [intOf]; omega⟩
    · obtain rfl : j = n := by omega
      rw [List.take_of_length_le (by omega)] at own
      have O := Lib.hid (own.lower EX.out.size)
      have KE := Lib.hid (EX.out.nx ki)
      clear own ki hj hjm
      go_wp2_with fail
      go_ret
      exact ⟨_, qs, rfl, by rw [FIN.out]; exact O.out, KE.out⟩

end Go.Proofs.YtbnbjiddffihoaaDoor

/- A map from numbers to slices that the call itself has made: what lies at each key, as it stands; and the entry that is taken before it is stored. -/
namespace Go.Proofs.YtbnbjiddffihoaaDoor
open Go.RowKit Go.Maps
open Go.ChangeMaps Go.MapKept
open Go.WideElems (Fit findIdx_born findIdx_arr modify_last set_self)

def rawR (v : Value) : Option (DataW Value × List MemPlace) := some (.held v, [])
abbrev nilS : Value := .slice none 0 0
/-- block b is a map of at most n entries; at key v lies f v, the nil slice where there is none -/
def RawM (P : Program) (k : TypeId) (w : World) (b n : Nat) (f : Int → Value) : Prop :=
  ∃ D, w.ownsMap P k rawR b n D ∧ ∀ v, D.atKey (keyI v) (.held nilS) = .held (f v)
def upd (f : Int → Value) (v : Int) (u : Value) : Int → Value := fun x => if x = v then u else f x
section
variable {P : Program} {k e t : TypeId} {w w' : World} {b n : Nat} {f : Int → Value}
theorem RawM.made (w : World) (P : Program) (k : TypeId) : RawM P k (w.alloc (.map #[] 0)) w.heap.size 0 (fun _ => nilS) := ⟨_, World.ownsMap_made _ _ _ _, fun _ => rfl⟩
theorem RawM.lt (h : RawM P k w b n f) : b < w.heap.size := by obtain ⟨D, h, _⟩ := h; exact World.ownsMap.lt h
theorem RawM.same (h : RawM P k w b n f) (hh : w'.heap[b]? = w.heap[b]?) : RawM P k w' b n f := by
  obtain ⟨D, ⟨es, clock, hb, r⟩, hf⟩ := h
  exact ⟨D, ⟨es, clock, hh.trans hb, r⟩, hf⟩
theorem RawM.nx (h : RawM P k w b n f) (kk : Ex w w') : RawM P k w' b n f := h.same (kk.block b h.lt)
theorem RawM.nxb {c : Nat} (h : RawM P k w b n f) (hc : b ≠ c) (kk : Exb c w w') : RawM P k w' b n f := h.same (kk.block b ⟨h.lt, hc⟩)
theorem RawM.get (h : RawM P k w b n f) (hk : P.underlying k = some (.int .i64)) (ht : P.underlying t = some (.map k e)) (hz : (zeroValue e).run P w = .ok nilS w) {v : Int} (hv : (Lit.int .i64 v).wf = true) :
    (Instr.lookup t (.map (some b)) (.int .i64 v) false).run P w = .ok (f v) w := by
  obtain ⟨D, h, hf⟩ := h
  obtain ⟨u, ps, hrun, hR⟩ := World.ownsMap.lookup (t := t) (e := e) h (int_keyed hk) ht hz (zd := .held nilS) (zp := []) rfl (keyOf_int_mk hk hv)
  rw [hf] at hR
  unfold rawR at hR
  simp only [Option.some.injEq, Prod.mk.injEq, DataW.held.injEq] at hR
  rw [hrun, hR.1]
theorem raw_put {D : DataW Value} (hD : IsMap D) (hf : ∀ v, D.atKey (keyI v) (.held nilS) = .held (f v)) (v : Int) (u : Value) : ∀ x, (D.put (keyI v) (.held u)).atKey (keyI x) (.held nilS) = .held (upd f v u x) := by
  intro x
  unfold upd
  by_cases hx : x = v
  · subst hx
    rw [atKey_put_same hD (key_lit x), if_pos rfl]
  · rw [atKey_put_other (by simpa [keyI] using hx), hf, if_neg hx]
theorem RawM.put (h : RawM P k w b n f) (hk : P.underlying k = some (.int .i64)) (ht : P.underlying t = some (.map k e)) (hn : n < 100000000) {v : Int} (hv : (Lit.int .i64 v).wf = true) (u : Value) :
    ∃ w', (Instr.mapUpdate t (.map (some b)) (.int .i64 v) u).run P w = .ok () w' ∧ RawM P k w' b (n + 1) (upd f v u) ∧ Exb b w w' ∧ w'.heap.size = w.heap.size := by
  obtain ⟨D, h, hf⟩ := h
  obtain ⟨w', hrun, ho, ht'⟩ := World.ownsMap.store (t := t) (e := e) (val := u) (d := .held u) (ps := []) h (int_keyed hk) ht (by unfold maxLen; omega) (keyOf_int_mk hk hv) rfl
  refine ⟨w', hrun, ⟨_, ho, raw_put h.isMap hf v u⟩, turned_exb ht', ?_⟩
  obtain ⟨es, clock, es', clock', hb, rfl⟩ := ht'
  simp [Go.ChangeMaps.setBlock]
/-- the entry, then the store into it -/
theorem RawM.entry (h : RawM P k w b n f) (hk : P.underlying k = some (.int .i64)) (ht : P.underlying t = some (.map k e)) (hz : ∀ u : World, (zeroValue e).run P u = .ok nilS u) (hn : n < 100000000) {v : Int} (hv : (Lit.int .i64 v).wf = true) :
    ∃ (v0 : Value) (st : Nat) (w1 : World), (Instr.mapEntry t (.map (some b)) (.int .i64 v)).run P w = .ok (.tuple #[v0, goInt st]) w1 ∧ Exb b w w1 ∧ w1.heap.size = w.heap.size ∧
      ∀ (w2 : World) (u : Value), w2.heap[b]? = w1.heap[b]? → ∃ w3, (Instr.entryStore t (.map (some b)) (goInt st) u).run P w2 = .ok () w3 ∧ RawM P k w3 b (n + 1) (upd f v u) ∧ Exb b w2 w3 ∧ w3.heap.size = w2.heap.size := by
  have K := int_keyed (P := P) hk
  have hkey := keyOf_int_mk (P := P) hk hv
  obtain ⟨D, ⟨es, clock, hb, F, hs, hD⟩, hf⟩ := h
  have hM : RawM P k w b n f := ⟨D, ⟨es, clock, hb, F, hs, hD⟩, hf⟩
  obtain ⟨s1, s2, _⟩ := F.stamped
  have fin : ∀ (es1 : Array MapEntry) (c1 : Nat) (w2 : World) (u : Value) (es' : Array MapEntry) (c' : Nat), (setBlock w b (.map es1 c1)).heap[b]? = w2.heap[b]? →
      (Instr.mapUpdate t (.map (some b)) (.int .i64 v) u).run P w = .ok () (setBlock w b (.map es' c')) → RawM P k (setBlock w2 b (.map es' c')) b (n + 1) (upd f v u) ∧ Exb b w2 (setBlock w2 b (.map es' c')) ∧ (setBlock w2 b (.map es' c')).heap.size = w2.heap.size := by
    intro es1 c1 w2 u es' c' hw2 hrun
    obtain ⟨w', hrun', hM', _, _⟩ := hM.put hk ht hn hv u
    rw [hrun] at hrun'
    cases hrun'
    have h2 : w2.heap[b]? = some (.map es1 c1) := hw2.symm.trans (heap_setBlock_same hb _)
    refine ⟨hM'.same ((heap_setBlock_same h2 _).trans (heap_setBlock_same hb _).symm), turned_exb ⟨es1, c1, es', c', h2, rfl⟩, by simp [setBlock]⟩
  rcases K.find w hkey es.toList F.keys with ⟨h1, h2⟩ | ⟨j, e0, h1, h2, h3⟩
  · refine ⟨nilS, clock, setBlock w b (.map (es.push ⟨.int .i64 v, nilS, clock⟩) (clock + 1)), ?_, turned_exb ⟨es, clock, _, _, hb, rfl⟩, by simp [setBlock], fun w2 u hw2 => ⟨setBlock w2 b (.map (es.push ⟨.int .i64 v, u, clock⟩) (clock + 1)), ?_, fin _ _ w2 u _ _ hw2.symm ?_⟩⟩
    · simp [Instr.mapEntry, run_underlying ht, MapKept.run_getObj_map hb, K.check w false hkey, h1, hz, MapKept.run_setObj_map _ hb, Result.andThen, setBlock]
    · have hw2 : w2.heap[b]? = some (.map (es.push ⟨.int .i64 v, nilS, clock⟩) (clock + 1)) := hw2.trans (heap_setBlock_same hb _)
      have hidx : (es.push ⟨.int .i64 v, nilS, clock⟩).findIdx? (fun e => ((e.born : Nat) : Int) == ((clock : Nat) : Int)) = some es.size := by
        rw [findIdx_arr]
        refine findIdx_born (l := (es.push ⟨.int .i64 v, nilS, clock⟩).toList) (j := es.size) (e0 := ⟨.int .i64 v, nilS, clock⟩) ?_ (by simp)
        simp only [Array.toList_push, List.map_append, List.map_cons, List.map_nil]
        refine List.nodup_append.2 ⟨s2, by simp, fun a ha c hc e1 => ?_⟩
        simp only [List.mem_singleton] at hc
        obtain ⟨x, hx, rfl⟩ := List.mem_map.1 ha
        have := s1 x hx
        omega
      have hmod : (es.push ⟨.int .i64 v, nilS, clock⟩).modify es.size (fun e => { e with val := u }) = es.push ⟨.int .i64 v, u, clock⟩ := by
        apply Array.ext'
        rw [Array.toList_modify, Array.toList_push, Array.toList_push, ← Array.length_toList, modify_last]
      simp [Instr.entryStore, MapKept.run_getObj_map hw2, asInt, asIntOf, goInt, hidx, hmod, MapKept.run_setObj_map _ hw2, Result.andThen, setBlock]
    · simp [Instr.mapUpdate, run_underlying ht, MapKept.run_getObj_map hb, K.check w false hkey, h1, MapKept.run_setObj_map _ hb, Result.andThen, setBlock]
  · have hj : es[j]? = some e0 := by simpa using h2
    have hsame : es.modify j (fun e => { e with key := .int .i64 v }) = es := by
      apply Array.ext'
      rw [Array.toList_modify, modify_eq_set _ _ _ _ h2]
      have : ({ e0 with key := .int .i64 v } : MapEntry) = e0 := by rw [← h3]
      rw [this]
      exact set_self _ _ _ h2
    refine ⟨e0.val, e0.born, setBlock w b (.map es clock), ?_, turned_exb ⟨es, clock, _, _, hb, rfl⟩, by simp [setBlock], fun w2 u hw2 => ⟨setBlock w2 b (.map (es.modify j (fun e' => { e' with key := .int .i64 v, val := u })) clock), ?_, fin _ _ w2 u _ _ hw2.symm ?_⟩⟩
    · simp [Instr.mapEntry, run_underlying ht, MapKept.run_getObj_map hb, K.check w false hkey, h1, hj, h3, K.stays w hkey, hsame, MapKept.run_setObj_map _ hb, Result.andThen, setBlock]
    · have hw2 : w2.heap[b]? = some (.map es clock) := hw2.trans (heap_setBlock_same hb _)
      have hidx : es.findIdx? (fun e => ((e.born : Nat) : Int) == ((e0.born : Nat) : Int)) = some j := by
        rw [findIdx_arr]
        exact findIdx_born s2 h2
      have hmod : es.modify j (fun e => { e with val := u }) = es.modify j (fun e' => { e' with key := .int .i64 v, val := u }) := by
        apply Array.ext'
        rw [Array.toList_modify, Array.toList_modify, modify_eq_set _ _ _ _ h2, modify_eq_set _ _ _ _ h2, ← h3]
      simp [Instr.entryStore, MapKept.run_getObj_map hw2, asInt, asIntOf, goInt, hidx, hmod, MapKept.run_setObj_map _ hw2, Result.andThen, setBlock]
    · simp [Instr.mapUpdate, run_underlying ht, MapKept.run_getObj_map hb, K.check w false hkey, h1, hj, h3, K.stays w hkey, MapKept.run_setObj_map _ hb, Result.andThen, setBlock]
end
end Go.Proofs.YtbnbjiddffihoaaDoor

/- A row of numbers of the call's own, of which the first ones may be cut off: append behind, take in front. -/
namespace Go.Proofs.YtbnbjiddffihoaaDoor
open Go.RowKit

def QuL (e : TypeId) (base : Nat) (w : World) (v : Value) (l : List Int) : Prop :=
  (v = .slice none 0 0 ∧ l = []) ∨ ∃ (g o cap : Nat) (cur : Array Value), v = .slice (some ⟨g, o, none⟩) l.length cap ∧ base ≤ g ∧ w.heap[g]? = some (.cells cur e (0, 0)) ∧ l.length ≤ cap ∧ cap ≤ maxLen ∧ o + cap ≤ cur.size ∧ (cur.toList.drop o).take l.length = l.flatMap encI
section
variable {e : TypeId} {base : Nat} {w w' : World} {v : Value} {l : List Int}
theorem flatI_len (l : List Int) : (l.flatMap encI).length = l.length := by
  induction l with
  | nil => rfl
  | cons x l ih => rw [List.flatMap_cons, List.length_append, ih, List.length_cons, show (encI x).length = 1 from rfl]; omega
theorem flatI_map (l : List Int) : l.flatMap encI = l.map (Value.int .i64) := by
  induction l with
  | nil => rfl
  | cons y r ih => rw [List.flatMap_cons, ih]; rfl
theorem QuL.ofL (h : OwnL 1 encI e base w v l) : QuL e base w v l := by
  rcases h.2 with ⟨h1, h2⟩ | ⟨g, cap, cur, h1, h2, h3, h4, h5, h6, h7⟩
  · exact .inl ⟨h1, List.eq_nil_of_length_eq_zero h2⟩
  · exact .inr ⟨g, 0, cap, cur, h1, h2, h3, h4, h5, by omega, by simpa using h7⟩
theorem QuL.chg (h : QuL e base w v l) {S : Nat → Prop} (k : Chg S w w') (hs : ∀ k, k < w.heap.size → v.ownBlock = some k → S k) : QuL e base w' v l := by
  rcases h with h | ⟨g, o, cap, cur, rfl, hb, hg, rest⟩
  · exact .inl h
  · exact .inr ⟨g, o, cap, cur, rfl, hb, (k.block g (hs g (heap_lt hg) rfl)).trans hg, rest⟩
theorem QuL.nx (h : QuL e base w v l) (k : Ex w w') : QuL e base w' v l := h.chg k (fun _ hk _ => hk)
theorem QuL.lt (h : QuL e base w v l) {g : Nat} (hg : v.ownBlock = some g) : base ≤ g ∧ g < w.heap.size := by
  rcases h with ⟨rfl, _⟩ | ⟨g', o, cap, cur, rfl, hb, hh, _⟩
  · cases hg
  · cases hg
    exact ⟨hb, heap_lt hh⟩
theorem QuL.nxb {b : Nat} (h : QuL e base w v l) (hb : b < base) (k : Exb b w w') : QuL e base w' v l := h.chg k (fun x hx hv => ⟨hx, by have := (h.lt hv).1; omega⟩)
/-- what stands in front -/
theorem QuL.front {x : Int} (h : QuL e base w v (x :: l)) : ∃ g o cap, v = .slice (some ⟨g, o, none⟩) (l.length + 1) cap ∧ g < w.heap.size ∧ base ≤ g ∧ 1 ≤ cap ∧ l.length + 1 ≤ cap ∧ w.cell? ⟨g, o, none⟩ = some (.int .i64 x) ∧
    QuL e base w (.slice (some (if cap = 1 then ⟨g, o, none⟩ else ⟨g, o + 1, none⟩)) l.length (cap - 1)) l := by
  rcases h with ⟨_, h⟩ | ⟨g, o, cap, cur, rfl, hb, hg, h1, h2, h3, h4⟩
  · cases h
  · have h1' : l.length + 1 ≤ cap := by simpa using h1
    have hc : cur.toList[o]? = some (.int .i64 x) := by
      have := congrArg (fun L : List Value => L[0]?) h4
      simpa [List.getElem?_take, List.getElem?_drop, encI] using this
    refine ⟨g, o, cap, by simp, heap_lt hg, hb, by omega, h1', ?_, ?_⟩
    · have : cur[o]? = some (.int .i64 x) := by simpa using hc
      simp [World.cell?, hg, this]
    · have h5 : (cur.toList.drop (o + 1)).take l.length = l.flatMap encI := by
        have hd : cur.toList.drop o = .int .i64 x :: cur.toList.drop (o + 1) := by
          obtain ⟨hlt, he⟩ := List.getElem?_eq_some_iff.1 hc
          rw [List.drop_eq_getElem_cons hlt, he]
        rw [hd, List.length_cons, List.take_succ_cons, List.flatMap_cons] at h4
        exact (List.cons.inj h4).2
      by_cases hcap : cap = 1
      · have hl0 : l = [] := List.eq_nil_of_length_eq_zero (by omega)
        subst hl0
        rw [if_pos hcap]
        exact .inr ⟨g, o, cap - 1, cur, by simp, hb, hg, by simp, by omega, by omega, by simp⟩
      · rw [if_neg hcap]
        exact .inr ⟨g, o + 1, cap - 1, cur, by simp, hb, hg, by omega, by omega, by omega, h5⟩
/-- append of what reads as a list -/
theorem QuL.append {P : Program} (h : QuL e base w v l) (t ty : TypeId) {z : Value} {bytes : Nat} (ht : P.underlying t = some (.slice e)) (hi : (P.info? e).map (fun i => (i.zero, i.size, i.bytes)) = some (some z, 1, bytes)) (hzs : z.cells.size = 1) (hby : bytes ≤ 65536)
    {S : Nat → Prop} {A : Option Addr} {n c : Nat} {news : List Int} (hrd : Rd 1 encI S w A n news) (hA : A = none → c = 0) (hl : l.length ≤ 100000000) (hn : n ≤ 100000000) (hbase : base ≤ w.heap.size) :
    ∃ v' w', (Builtin.append_ #[t, t] ty #[v, .slice A n c]).run P w = .ok v' w' ∧ QuL e base w' v' (l ++ news) ∧ Chg (fun k => k < w.heap.size ∧ ¬ v.ownBlock = some k) w w' ∧ Chg (· < base) w w' ∧ (v'.ownBlock = v.ownBlock ∨ v'.ownBlock = some w.heap.size) := by
  obtain ⟨i, hi, hz0, hz1, hz2⟩ := info_parts hi
  have hmul : (l.length + n) * bytes ≤ 200000000 * 65536 := Nat.mul_le_mul (by omega) hby
  have hnl := hrd.1
  have nothing : news = [] → (Builtin.append_ #[t, t] ty #[v, .slice A n c]).run P w = .ok v w → ∃ v' w', (Builtin.append_ #[t, t] ty #[v, .slice A n c]).run P w = .ok v' w' ∧ QuL e base w' v' (l ++ news) ∧ Chg (fun k => k < w.heap.size ∧ ¬ v.ownBlock = some k) w w' ∧ Chg (· < base) w w' ∧ (v'.ownBlock = v.ownBlock ∨ v'.ownBlock = some w.heap.size) :=
    fun hnews hrun => ⟨v, w, hrun, by rw [hnews]; simpa using h, Chg.refl _ _, Chg.refl _ _, .inl rfl⟩
  by_cases hn0 : n = 0
  · subst hn0
    have hnews : news = [] := List.eq_nil_of_length_eq_zero hnl
    refine nothing hnews ?_
    rcases h with ⟨rfl, _⟩ | ⟨g, o, cap, cur, rfl, _, _, hnc, _⟩
    · cases A <;> simp [Builtin.append_, run_underlying ht, sizeOf, typeInfo, hi, Builtin.lenOf, Builtin.firstCells, loadCells, loadCellsFrom]
    · cases A <;> simp [Builtin.append_, run_underlying ht, sizeOf, typeInfo, hi, Builtin.lenOf, Builtin.firstCells, hnc, storeCells, loadCells, loadCellsFrom]
  · obtain ⟨ad, rfl, hcells⟩ : ∃ ad, A = some ad ∧ ∀ j u, (news.flatMap encI)[j]? = some u → w.cell? (ad.add j) = some u := by
      rcases hrd.2 with h0 | ⟨x, o, rfl, hx, hc⟩
      · exact absurd h0 hn0
      · refine ⟨_, rfl, fun j u hu => ?_⟩
        have hflat := flatI_map news
        rw [hflat, List.getElem?_map] at hu
        cases hy : news[j]? with
        | none => rw [hy] at hu; cases hu
        | some y =>
          rw [hy] at hu
          cases hu
          have := hc j y hy 0 _ rfl
          have hadd : (⟨x, o, none⟩ : Addr).add j = ⟨x, o + j, none⟩ := by unfold Addr.add; split <;> simp_all
          rw [hadd]
          simpa using this
    have hfl : (news.flatMap encI).length = n * i.size := by rw [flatI_len, hz1, hnl, Nat.mul_one]
    have h1f : ∀ u ∈ news.flatMap encI, u.oneCell' = true := by
      intro u hu
      obtain ⟨y, _, hy⟩ := List.mem_flatMap.1 hu
      simp only [encI, List.mem_singleton] at hy
      subst hy
      rfl
    have fresh : ∀ (old : Nat), old < l.length + n →
        QuL e base (w.drew.alloc (.cells ((l.flatMap encI).toArray ++ (news.flatMap encI).toArray ++ Builtin.zeroCells z.cells (grownCap w (l.length + n) old e - (l.length + n))) e)) (.slice (some ⟨w.heap.size, 0, none⟩) (l.length + n) (grownCap w (l.length + n) old e)) (l ++ news) := by
      intro old ho
      have hge := grownCap_ge w (l.length + n) old e
      have hcm : grownCap w (l.length + n) old e ≤ maxLen := grownCap_le_maxLen w (l.length + n) old e (by unfold maxLen; omega)
      refine .inr ⟨w.heap.size, 0, _, _, by rw [List.length_append, hnl], hbase, heap_alloc_new w.drew _, by rw [List.length_append, hnl]; exact hge, hcm, ?_, ?_⟩
      · simp only [Array.size_append, List.size_toArray, size_zeroCells, hzs, flatI_len, hnl]
        omega
      · simp only [Array.toList_append, List.append_assoc, List.drop_zero]
        rw [← List.append_assoc, ← List.flatMap_append, ← flatI_len (l ++ news)]
        exact List.take_left
    have hex : ∀ o : Obj, Ex w (w.drew.alloc o) := fun o => ⟨rfl, rfl, rfl, by simp, fun k hk => heap_alloc_old w.drew _ hk⟩
    rcases h with ⟨rfl, rfl⟩ | ⟨g, o, cap, cur, rfl, hb, hg, h1, h2, h3, h4⟩
    · have hr := run_append_nil (P := P) w t ty e i z ht hi hz0 ad n c (news.flatMap encI) hfl hcells (by omega) (by omega) (by rw [hz2]; simp only [List.length_nil, Nat.zero_add] at hmul; omega)
      have hf := fresh 0 (by simp; omega)
      simp only [List.length_nil, Nat.zero_add, List.flatMap_nil, List.nil_append] at hf ⊢
      refine ⟨_, _, hr, by simpa using hf, (hex _).mono fun k hk => hk.1, (hex _).mono fun k (hk : k < base) => by show k < w.heap.size; omega, .inr rfl⟩
    · by_cases hroom : l.length + n ≤ cap
      · have hfc := run_firstCells_some (P := P) w i.size n ad n c (news.flatMap encI) hfl hcells
        have hst := run_storeCells_at P g (o + l.length) e (news.flatMap encI) 0 cur w hg (by rw [flatI_len, hnl]; omega) h1f
        simp only [Nat.add_zero] at hst
        have hadd : (⟨g, o, none⟩ : Addr).add (l.length * i.size) = ⟨g, o + l.length, none⟩ := by rw [hz1, Nat.mul_one]; unfold Addr.add; split <;> simp_all
        refine ⟨.slice (some ⟨g, o, none⟩) (l.length + n) cap, w.setRow g (cur.toList.take (o + l.length) ++ news.flatMap encI ++ cur.toList.drop (o + l.length + (news.flatMap encI).length)).toArray, ?_, .inr ⟨g, o, cap, _, by rw [List.length_append, hnl], hb, setRow_heap w g cur _ e _ hg, by rw [List.length_append, hnl]; exact hroom, h2, ?_, ?_⟩, ⟨rfl, rfl, rfl, by simp [World.setRow], fun k hk => setRow_other w g k _ (fun he => hk.2 (by rw [he]; rfl))⟩, ⟨rfl, rfl, rfl, by simp [World.setRow], fun k (hk : k < base) => setRow_other w g k _ (by omega)⟩, .inl rfl⟩
        · simp [Builtin.append_, run_underlying ht, sizeOf, typeInfo, hi, Builtin.lenOf, hroom, hfc, hadd, hst]
        · simp only [List.size_toArray, List.length_append, List.length_take, List.length_drop, Array.length_toList, flatI_len, hnl]
          omega
        · rw [List.flatMap_append, ← h4, List.length_append, hnl]
          have hsz : o + l.length ≤ cur.toList.length := by simp; omega
          simp only [List.append_assoc]
          rw [List.drop_append_of_le_length (by rw [List.length_take]; omega), List.drop_take, show o + l.length - o = l.length by omega, ← List.append_assoc]
          rw [List.take_append_of_le_length (by rw [List.length_append, List.length_take, List.length_drop, flatI_len, hnl]; omega)]
          rw [List.take_of_length_le (by rw [List.length_append, List.length_take, List.length_drop, flatI_len, hnl]; omega)]
      · have holds : ∀ j u, (l.flatMap encI)[j]? = some u → w.cell? ((⟨g, o, none⟩ : Addr).add j) = some u := by
          intro j u hu
          have hadd : (⟨g, o, none⟩ : Addr).add j = ⟨g, o + j, none⟩ := by unfold Addr.add; split <;> simp_all
          rw [hadd]
          rw [← h4, List.getElem?_take] at hu
          split at hu
          · rw [List.getElem?_drop] at hu
            have : cur[o + j]? = some u := by simpa using hu
            simp [World.cell?, hg, this]
          · cases hu
        have hr := run_append_grow (P := P) w t ty e i z ht hi hz0 ⟨g, o, none⟩ l.length cap (l.flatMap encI) (by rw [flatI_len, hz1, Nat.mul_one]) holds ad n c (news.flatMap encI) hfl hcells (by omega) (by omega) (growslice_fits (by omega) (by rw [hz2]; omega))
        exact ⟨_, _, hr, fresh cap (by omega), (hex _).mono fun k hk => hk.1, (hex _).mono fun k (hk : k < base) => by show k < w.heap.size; omega, .inr rfl⟩
end
end Go.Proofs.YtbnbjiddffihoaaDoor

/- Groups of numbers: a map from numbers to rows of numbers, which the call itself has made. -/
namespace Go.Proofs.YtbnbjiddffihoaaDoor
open Go.RowKit

/-- at each number lies its row; no two share memory; all were made since base -/
def GrpM (P : Program) (k e : TypeId) (base : Nat) (w : World) (b n : Nat) (f : Int → Value) (J : Int → List Int) : Prop :=
  RawM P k w b n f ∧ b < base ∧ base ≤ w.heap.size ∧ (∀ v, OwnL 1 encI e base w (f v) (J v)) ∧ ∀ v v' g, v ≠ v' → (f v).ownBlock = some g → ¬ (f v').ownBlock = some g
section
variable {P : Program} {k e : TypeId} {base : Nat} {w w' : World} {b n : Nat} {f : Int → Value} {J : Int → List Int}
theorem GrpM.made (w : World) (P : Program) (k e : TypeId) : GrpM P k e (w.heap.size + 1) (w.alloc (.map #[] 0)) w.heap.size 0 (fun _ => nilS) (fun _ => []) :=
  ⟨RawM.made w P k, by omega, by simp, fun _ => OwnL.nil _ _ _ _ _, fun _ _ _ _ h => by cases h⟩
theorem GrpM.nx (h : GrpM P k e base w b n f J) (kk : Ex w w') : GrpM P k e base w' b n f J :=
  ⟨h.1.nx kk, h.2.1, Nat.le_trans h.2.2.1 kk.size, fun v => (h.2.2.2.1 v).nx kk, h.2.2.2.2⟩
/-- another block that was made before all rows may turn -/
theorem GrpM.nxb {c : Nat} (h : GrpM P k e base w b n f J) (hc : c < base) (hb : b ≠ c) (kk : Exb c w w') : GrpM P k e base w' b n f J :=
  ⟨h.1.nxb hb kk, h.2.1, Nat.le_trans h.2.2.1 kk.size, fun v => (h.2.2.2.1 v).nxb hc kk, h.2.2.2.2⟩
theorem GrpM.row (h : GrpM P k e base w b n f J) (v : Int) : OwnL 1 encI e base w (f v) (J v) := h.2.2.2.1 v
/-- one may take less memory for the rows' own -/
def grp2 (J : Int → List Int) (x y : Int) : Int → List Int := fun v => if v = y then J y ++ [x] else if v = x then J x ++ [y] else J v
/-- the rows at two numbers have grown, and are put back -/
theorem GrpM.two (h : GrpM P k e base w b n f J) {x y : Int} (hxy : x ≠ y) {w1 w2 w3 : World} {a' c' : Value} {n' : Nat}
    (A : OwnL 1 encI e base w1 a' (J x ++ [y])) (k1 : Chg (fun k => k < w.heap.size ∧ ¬ (f x).ownBlock = some k) w w1) (la : ∀ g, a'.ownBlock = some g → (f x).ownBlock = some g ∨ w.heap.size ≤ g)
    (C : OwnL 1 encI e base w2 c' (J y ++ [x])) (k2 : Chg (fun k => k < w1.heap.size ∧ ¬ (f y).ownBlock = some k) w1 w2) (lc : ∀ g, c'.ownBlock = some g → (f y).ownBlock = some g ∨ w1.heap.size ≤ g)
    (k3 : Exb b w2 w3) (R : RawM P k w3 b n' (upd (upd f x a') y c')) : GrpM P k e base w3 b n' (upd (upd f x a') y c') (grp2 J x y) := by
  obtain ⟨h1, hb, hs, hO, hd⟩ := h
  have s1 := k1.size
  have s2 := k2.size
  have s3 := k3.size
  have A2 : OwnL 1 encI e base w2 a' (J x ++ [y]) := A.chg k2 fun g hg hv => ⟨hg, fun hy => by
    rcases la g hv with h2 | h2
    · exact hd x y g hxy h2 hy
    · have := ((hO y).lt g hy).2; omega⟩
  have blk : ∀ v g, v ≠ x → v ≠ y → (f v).ownBlock = some g → g < w.heap.size := fun v g _ _ hv => ((hO v).lt g hv).2
  refine ⟨R, hb, by omega, fun v => ?_, fun v v' g hne hv hv' => ?_⟩
  · unfold upd grp2
    by_cases hvy : v = y
    · rw [if_pos hvy, if_pos hvy]
      exact C.nxb hb k3
    · rw [if_neg hvy, if_neg hvy]
      by_cases hvx : v = x
      · rw [if_pos hvx, if_pos hvx]
        exact A2.nxb hb k3
      · rw [if_neg hvx, if_neg hvx]
        have O1 : OwnL 1 encI e base w1 (f v) (J v) := (hO v).chg k1 fun g hg hv => ⟨hg, hd v x g hvx hv⟩
        have O2 : OwnL 1 encI e base w2 (f v) (J v) := O1.chg k2 fun g hg hv => ⟨hg, hd v y g hvy hv⟩
        exact O2.nxb hb k3
  · unfold upd at hv hv'
    have ca : ∀ g, a'.ownBlock = some g → c'.ownBlock = some g → False := by
      intro g ha hc
      rcases la g ha with h2 | h2
      · rcases lc g hc with h3 | h3
        · exact hd x y g hxy h2 h3
        · have := ((hO x).lt g h2).2; omega
      · rcases lc g hc with h3 | h3
        · have := ((hO y).lt g h3).2; omega
        · have := (A.lt g ha).2; omega
    have ov : ∀ u g, u ≠ x → u ≠ y → (f u).ownBlock = some g → ¬ a'.ownBlock = some g ∧ ¬ c'.ownBlock = some g := by
      intro u g hux huy hu
      refine ⟨fun ha => ?_, fun hc => ?_⟩
      · rcases la g ha with h2 | h2
        · exact hd u x g hux hu h2
        · have := ((hO u).lt g hu).2; omega
      · rcases lc g hc with h2 | h2
        · exact hd u y g huy hu h2
        · have := ((hO u).lt g hu).2; omega
    by_cases hvy : v = y
    · rw [if_pos hvy] at hv
      rw [if_neg (by omega)] at hv'
      by_cases hvx' : v' = x
      · rw [if_pos hvx'] at hv'; exact ca g hv' hv
      · rw [if_neg hvx'] at hv'; exact (ov v' g hvx' (by omega) hv').2 hv
    · rw [if_neg hvy] at hv
      by_cases hvx : v = x
      · rw [if_pos hvx] at hv
        by_cases hvy' : v' = y
        · rw [if_pos hvy'] at hv'; exact ca g hv hv'
        · rw [if_neg hvy', if_neg (by omega)] at hv'; exact (ov v' g (by omega) hvy' hv').1 hv
      · rw [if_neg hvx] at hv
        by_cases hvy' : v' = y
        · rw [if_pos hvy'] at hv'; exact (ov v g hvx hvy hv).2 hv'
        · rw [if_neg hvy'] at hv'
          by_cases hvx' : v' = x
          · rw [if_pos hvx'] at hv'; exact (ov v g hvx hvy hv).1 hv'
          · rw [if_neg hvx'] at hv'; exact hd v v' g hne hv hv'
end
end Go.Proofs.YtbnbjiddffihoaaDoor

/- Who is met from the first node along joined numbers, in plain Lean. -/
namespace Go.Proofs.YtbnbjiddffihoaaDoor
open Go.RowKit

def jOf (E : List (Int × Int)) : Int → List Int := E.foldl (fun J q => grp2 J q.1 q.2) (fun _ => [])
theorem jOf_snoc (E : List (Int × Int)) (q : Int × Int) : jOf (E ++ [q]) = grp2 (jOf E) q.1 q.2 := by unfold jOf; rw [List.foldl_append]; rfl
theorem jOf_law : ∀ (n : Nat) (E : List (Int × Int)), E.length = n → (∀ q ∈ E, q.1 ≠ q.2) → ∀ u, (jOf E u).length ≤ E.length ∧ ∀ v, v ∈ jOf E u ↔ (u, v) ∈ E ∨ (v, u) ∈ E
  | 0, E, h, _, u => by
    rw [List.length_eq_zero_iff.1 h]
    simp [jOf]
  | n + 1, E, h, hne, u => by
    rcases List.eq_nil_or_concat E with rfl | ⟨E', q, rfl⟩
    · cases h
    · rw [List.concat_eq_append] at h hne ⊢
      obtain ⟨q1, q2⟩ := q
      obtain ⟨h1, h2⟩ := jOf_law n E' (by simpa using h) (fun q hq => hne q (by simp [hq])) u
      have hq : q1 ≠ q2 := hne (q1, q2) (by simp)
      rw [jOf_snoc]
      unfold grp2
      refine ⟨?_, fun v => ?_⟩
      · by_cases ha : u = q2
        · rw [if_pos ha, ← ha]; simp; omega
        · rw [if_neg ha]
          by_cases hb : u = q1
          · rw [if_pos hb, ← hb]; simp; omega
          · rw [if_neg hb]; simp; omega
      · by_cases ha : u = q2
        · rw [if_pos ha, ← ha]
          simp only [List.mem_append, List.mem_singleton, h2, Prod.mk.injEq]
          constructor
          · rintro ((h | h) | h)
            · exact .inl (.inl h)
            · exact .inr (.inl h)
            · exact .inr (.inr ⟨h, trivial⟩)
          · rintro ((h | h) | (h | h))
            · exact .inl (.inl h)
            · exact absurd (h.1.symm.trans ha) hq
            · exact .inl (.inr h)
            · exact .inr h.1
        · rw [if_neg ha]
          by_cases hb : u = q1
          · rw [if_pos hb, ← hb]
            simp only [List.mem_append, List.mem_singleton, h2, Prod.mk.injEq]
            constructor
            · rintro ((h | h) | h)
              · exact .inl (.inl h)
              · exact .inr (.inl h)
              · exact .inl (.inr ⟨trivial, h⟩)
            · rintro ((h | h) | (h | h))
              · exact .inl (.inl h)
              · exact .inr h.2
              · exact .inl (.inr h)
              · exact absurd h.2 ha
          · rw [if_neg hb]
            simp only [List.mem_append, List.mem_singleton, h2, Prod.mk.injEq]
            constructor
            · rintro (h | h)
              · exact .inl (.inl h)
              · exact .inr (.inl h)
            · rintro ((h | h) | (h | h))
              · exact .inl h
              · exact absurd h.1 hb
              · exact .inr h
              · exact absurd h.2 ha
section
variable {N : List Nd} {P : List Pr} {J : Int → List Int} {M T : List Int}
theorem pairs_ne (h0 : checkN N = 0) {q : Int × Int} (hq : q ∈ pairsN N P) : q.1 ≠ q.2 := by
  unfold pairsN at hq
  obtain ⟨x, hx, hq⟩ := List.mem_flatMap.1 hq
  obtain ⟨v, hv, rfl⟩ := List.mem_map.1 hq
  have := ((mem_refs h0).1 hv).2.1
  rw [peer_id] at this
  exact fun h => this h.symm
theorem refs_len (h0 : checkN N = 0) (p : Pr) : (refsN N p).length ≤ N.length := by
  unfold refsN
  rw [if_pos h0]
  unfold ordN
  rw [List.length_map]
  have := List.length_filter_le (fun x => !(x.id == p.id) && (numsP p).contains x.id) (sortN N)
  rwa [sortN_length] at this
theorem pairs_len (h0 : checkN N = 0) : ∀ L : List Nd, (L.flatMap fun x => (refsN N (peerN P x.id)).map fun v => (x.id, v)).length ≤ L.length * N.length
  | [] => by simp
  | x :: L => by
    have := pairs_len h0 L
    have := refs_len h0 (peerN P x.id)
    rw [List.flatMap_cons, List.length_append, List.length_map, List.length_cons, Nat.succ_mul]
    omega
/-- the joined numbers are the references, in both directions -/
theorem joined_law (h0 : checkN N = 0) {u v : Int} : v ∈ jOf (pairsN N P) u ↔ EdgeN N P u v ∨ EdgeN N P v u := by
  rw [(jOf_law _ _ rfl (fun q hq => pairs_ne h0 hq) u).2 v]
  have key : ∀ a b, (a, b) ∈ pairsN N P ↔ EdgeN N P a b := by
    intro a b
    rw [← pairs_in h0]
    constructor
    · intro h
      refine ⟨h, ?_⟩
      unfold pairsN at h
      obtain ⟨x, hx, hq⟩ := List.mem_flatMap.1 h
      obtain ⟨c, hc, he⟩ := List.mem_map.1 hq
      cases he
      exact ⟨⟨x, hx, rfl⟩, ((mem_refs h0).1 hc).1⟩
    · exact fun h => h.1
  rw [key, key]
/-- what is met, what is still to do -/
def Bfs (N : List Nd) (P : List Pr) (J : Int → List Int) (M T : List Int) : Prop :=
  M.Nodup ∧ (∀ v, v ∈ M ∨ v ∈ T → ∃ s, N.head? = some s ∧ Cl (EdgeN N P) s.id v) ∧ (∀ u ∈ M, ∀ v ∈ J u, v ∈ M ∨ v ∈ T) ∧ ∀ s, N.head? = some s → s.id ∈ M ∨ s.id ∈ T
def todoN (N : List Nd) (J : Int → List Int) (M T : List Int) : Nat := T.length + ((N.filter fun x => !(M.contains x.id)).map fun x => (J x.id).length).sum
theorem bfs_start : Bfs N P J [] (match N with | [] => [] | s :: _ => [s.id]) := by
  refine ⟨List.nodup_nil, fun v hv => ?_, (by simp), fun s hs => ?_⟩
  · cases N with
    | nil => rcases hv with hv | hv <;> cases hv
    | cons s N =>
      rcases hv with hv | hv
      · cases hv
      · simp only [List.mem_singleton] at hv
        subst hv
        exact ⟨s, rfl, .refl _⟩
  · cases N with
    | nil => cases hs
    | cons a N => cases hs; simp
theorem bfs_old {v : Int} (h : Bfs N P J M (v :: T)) (hv : v ∈ M) : Bfs N P J M T := by
  obtain ⟨h1, h2, h3, h4⟩ := h
  refine ⟨h1, fun u hu => h2 u (hu.imp id (fun h => List.mem_cons_of_mem _ h)), fun u hu x hx => ?_, fun s hs => ?_⟩
  · rcases h3 u hu x hx with h | h
    · exact .inl h
    · rcases List.mem_cons.1 h with h | h
      · subst h; exact .inl hv
      · exact .inr h
  · rcases h4 s hs with h | h
    · exact .inl h
    · rcases List.mem_cons.1 h with h | h
      · rw [h]; exact .inl hv
      · exact .inr h
theorem bfs_new (hJ : ∀ u v, v ∈ J u → EdgeN N P u v ∨ EdgeN N P v u) {v : Int} (h : Bfs N P J M (v :: T)) (hv : v ∉ M) : Bfs N P J (M ++ [v]) (T ++ J v) := by
  obtain ⟨h1, h2, h3, h4⟩ := h
  refine ⟨List.nodup_append.2 ⟨h1, by simp, fun a ha b hb => by simp only [List.mem_singleton] at hb; subst hb; exact fun e => hv (e ▸ ha)⟩, fun u hu => ?_, fun u hu x hx => ?_, fun s hs => ?_⟩
  · have key : u ∈ M ∨ u ∈ v :: T ∨ u ∈ J v := by
      simp only [List.mem_append, List.mem_singleton] at hu
      rcases hu with (h | h) | (h | h)
      · exact .inl h
      · subst h; exact .inr (.inl (by simp))
      · exact .inr (.inl (by simp [h]))
      · exact .inr (.inr h)
    rcases key with h | h | h
    · exact h2 u (.inl h)
    · exact h2 u (.inr h)
    · obtain ⟨s, hs, hc⟩ := h2 v (.inr (by simp))
      exact ⟨s, hs, hc.trans (Cl.one (hJ v u h))⟩
  · simp only [List.mem_append, List.mem_singleton] at hu ⊢
    rcases hu with hu | hu
    · rcases h3 u hu x hx with h | h
      · exact .inl (.inl h)
      · rcases List.mem_cons.1 h with h | h
        · exact .inl (.inr h)
        · exact .inr (.inl h)
    · subst hu
      exact .inr (.inr hx)
  · simp only [List.mem_append, List.mem_singleton]
    rcases h4 s hs with h | h
    · exact .inl (.inl h)
    · rcases List.mem_cons.1 h with h | h
      · exact .inl (.inr h)
      · exact .inr (.inl h)
theorem todo_new (h0 : checkN N = 0) {x : Nd} (hx : x ∈ N) (hv : x.id ∉ M) : todoN N J (M ++ [x.id]) (T ++ J x.id) + 1 = todoN N J M (x.id :: T) := by
  have key : ∀ L : List Nd, (L.Pairwise fun a b => a.id ≠ b.id) → x ∈ L →
      ((L.filter fun y => !((M ++ [x.id]).contains y.id)).map fun y => (J y.id).length).sum + (J x.id).length = ((L.filter fun y => !(M.contains y.id)).map fun y => (J y.id).length).sum := by
    intro L
    induction L with
    | nil => intro _ h; cases h
    | cons y L ih =>
      intro hp hxl
      rw [List.pairwise_cons] at hp
      rw [List.filter_cons, List.filter_cons]
      rcases List.mem_cons.1 hxl with rfl | hxl
      · have h1 : (!((M ++ [x.id]).contains x.id)) = false := by simp
        have h2 : (!(M.contains x.id)) = true := by simpa using hv
        rw [h1, h2]
        simp only [if_true, Bool.false_eq_true, if_false, List.map_cons, List.sum_cons]
        have : (L.filter fun y => !((M ++ [x.id]).contains y.id)) = L.filter fun y => !(M.contains y.id) := by
          refine List.filter_congr fun y hy => ?_
          have := hp.1 y hy
          rw [Bool.eq_iff_iff]
          simp; exact fun _ h => this h.symm
        rw [this]
        omega
      · have hne := hp.1 x hxl
        have h1 : (!((M ++ [x.id]).contains y.id)) = !(M.contains y.id) := by
          rw [Bool.eq_iff_iff]
          simp [hne]
        rw [h1]
        have := ih hp.2 hxl
        split
        · simp only [List.map_cons, List.sum_cons]; omega
        · exact this
  have hp : N.Pairwise fun a b => a.id ≠ b.id := (keys_pw (check_keys h0)).imp (fun h => h.2)
  have := key N hp hx
  unfold todoN
  simp only [List.length_append, List.length_cons]
  omega
theorem bfs_node (h0 : checkN N = 0) (h : Bfs N P J M T) {v : Int} (hv : v ∈ M ∨ v ∈ T) : ∃ x ∈ N, x.id = v := by
  obtain ⟨s, hs, hc⟩ := h.2.1 v hv
  have hsN : s ∈ N := List.mem_of_mem_head? hs
  cases hc.symm with
  | refl => exact ⟨s, hsN, rfl⟩
  | step e _ =>
    rcases e with e | e
    · exact e.1
    · exact (edge_node h0 e).2
theorem bfs_len (h0 : checkN N = 0) (h : Bfs N P J M T) : M.length ≤ N.length := by
  have hsub : ∀ v ∈ M, v ∈ N.map Nd.id := fun v hv => by
    obtain ⟨x, hx, rfl⟩ := bfs_node h0 h (.inl hv)
    exact List.mem_map.2 ⟨x, hx, rfl⟩
  have := h.1.length_le_of_subset (l₂ := N.map Nd.id) (fun v hv => hsub v hv)
  simpa using this
theorem bfs_end (h0 : checkN N = 0) (hJ : ∀ u v, v ∈ J u ↔ EdgeN N P u v ∨ EdgeN N P v u) (h : Bfs N P J M []) : M.length = N.length ↔ ConnN N P := by
  cases N with
  | nil =>
    have := bfs_len h0 h
    simp only [List.length_nil, Nat.le_zero] at this
    simp only [this, List.length_nil, true_iff]
    exact ⟨h0, by simp⟩
  | cons s N =>
    have hs : s.id ∈ M := by
      rcases h.2.2.2 s rfl with h | h
      · exact h
      · cases h
    refine met_conn h0 (s := s) (by simp) hs h.1 (fun v hv => ?_) (fun u hu v e => ?_)
    · obtain ⟨s', hs', hc⟩ := h.2.1 v (.inl hv)
      cases hs'
      exact hc
    · rcases h.2.2.1 u hu v ((hJ u v).2 e) with h | h
      · exact h
      · cases h
theorem conn_bool (h0 : checkN N = 0) (hJ : ∀ u v, v ∈ J u ↔ EdgeN N P u v ∨ EdgeN N P v u) (h : Bfs N P J M []) : decide ((M.length : Int) = N.length) = connB N P := by
  rw [Bool.eq_iff_iff, connB_iff, ← bfs_end h0 hJ h, decide_eq_true_eq]
  omega
end
end Go.Proofs.YtbnbjiddffihoaaDoor

/- Connected of the package redundant, first half: the references are laid out by number. -/
namespace Go.Proofs.YtbnbjiddffihoaaDoor
open Go.RowKit Go.Maps

/-! ### the first peer with a number -/
def PredI (g : Nat) (lb : Array Value) (id : Int) (w : World) : Prop := ∀ (x : Pr) (h1 h2 : Hdr) (w' : World), Ex w w' → Calls Tryd.prog g (#[.agg #[.int .i64 x.id, h1.val, .int .i64 x.left, .int .i64 x.right, h2.val]] ++ lb) w' fun e w'' => e = .returned (.bool (x.id == id)) ∧ Ex w' w''
def idxQ (id : Int) (P : List Pr) : Int := if P.findIdx (fun p => p.id == id) < P.length then (P.findIdx (fun p => p.id == id) : Int) else -1
theorem idxQ_of {P : List Pr} {id : Int} {k : Nat} {y : Pr} (hy : P[k]? = some y) (he : y.id = id) (hno : ∀ j z, j < k → P[j]? = some z → z.id ≠ id) : idxQ id P = k := by
  have hk := (List.getElem?_eq_some_iff.1 hy)
  have hkl := hk.1
  have h1 : P.findIdx (fun p => p.id == id) = k := by
    rw [List.findIdx_eq hkl]
    refine ⟨by rw [hk.2]; simpa using he, fun j hj => ?_⟩
    have := hno j _ hj (List.getElem?_eq_getElem (by omega))
    simpa using this
  unfold idxQ
  rw [h1, if_pos hkl]
theorem idxQ_none {P : List Pr} {id : Int} (hno : ∀ j z, j < P.length → P[j]? = some z → z.id ≠ id) : idxQ id P = -1 := by
  unfold idxQ
  rw [if_neg]
  intro h
  have h1 := List.findIdx_getElem (w := h)
  have h2 := hno _ _ h (List.getElem?_eq_getElem h)
  simp at h1
  exact h2 h1
theorem idxQ_cases (P : List Pr) (id : Int) : (∃ (k : Nat) (y : Pr), idxQ id P = k ∧ k < P.length ∧ P[k]? = some y ∧ peerN P id = y ∧ y.id = id) ∨ (idxQ id P = -1 ∧ peerN P id = ⟨id, 0, 0, [], []⟩) := by
  by_cases h : P.findIdx (fun p => p.id == id) < P.length
  · have h1 : (P[P.findIdx (fun p => p.id == id)]).id = id := by simpa using List.findIdx_getElem (w := h)
    have hno : ∀ j z, j < P.findIdx (fun p => p.id == id) → P[j]? = some z → z.id ≠ id := fun j z hj hz => by
      have := List.not_of_lt_findIdx hj
      rw [List.getElem?_eq_getElem (by omega)] at hz
      cases hz
      simpa using this
    exact .inl ⟨_, _, by unfold idxQ; rw [if_pos h], h, List.getElem?_eq_getElem h, peerN_at (List.getElem?_eq_getElem h) h1 hno, h1⟩
  · have hno : ∀ j z, j < P.length → P[j]? = some z → z.id ≠ id := fun j z hj hz => by
      have := List.not_of_lt_findIdx (p := fun p : Pr => p.id == id) (xs := P) (i := j) (by omega)
      rw [List.getElem?_eq_getElem (by omega)] at hz
      cases hz
      simpa using this
    exact .inr ⟨by unfold idxQ; rw [if_neg h], peerN_none hno⟩
set_option maxRecDepth 100000 in
set_option maxHeartbeats 2000000 in
theorem idxf_pr (g : Nat) (lb : Array Value) (id : Int) (eg : ∀ args w, (callFunc g args).run Tryd.prog w = .ok (.enter g args) w) (a : Option Addr) (n c : Nat) (P : List Pr) (w : World) (h : PL w a n P) (hn : n ≤ 4000000000000000000) (hp : PredI g lb id w) :
    Calls Tryd.prog 60 #[.slice a n c, .func (.func g) #[] lb] w fun e w' => e = .returned (.int .i64 (idxQ id P)) ∧ Ex w w' := by
  have HL := Lib.hid h.len
  have HP := Lib.hid hp
  have hs := Lib.hid h
  clear h hp
  go_enter Tryd.func60, Tryd.ntmps60
  go_wp2
  go_loopw [8] (fun i wr => PeRel P id n w i wr) (fun i _ => n - (intOf i).toNat)
  case atStart => exact ⟨0, by omega, rfl, Ex.refl _, by intro j z h; omega⟩
  case round =>
    obtain ⟨k, hk, rfl, kw, hno⟩ := hrel
    have HNO := Lib.hid hno
    clear hno
    obtain ⟨wo, rfl⟩ : ∃ wo : World, wo = wr := ⟨_, rfl⟩
    by_cases hlt : k < n
    · obtain ⟨x3, o3, b1, m1, d1, b4, m4, d4, y, rfl, hx3, hy, e0, e1, e2, e3, e4, s1, s4⟩ := (hs.out.nx kw).rd hlt
      have HY := Lib.hid hy
      have hc := HP.out y (b1, m1, d1) (b4, m4, d4) wo kw
      have KW := Lib.hid kw
      simp only [Hdr.val] at hc
      clear hy kw s1 s4
      go_wp2_with fail
      refine hc.mono ?_
      rintro e w2 ⟨rfl, k2⟩
      have K2 := Lib.hid (KW.out.nx k2)
      clear hc k2 e0 e1 e2 e3 e4
      by_cases hv : y.id = id
      · have HI : Hid (idxQ id P = k) := Lib.hid (idxQ_of HY.out hv HNO.out)
        have hb : (y.id == id) = true := by simpa using hv
        rw [hb]
        clear hv hb
        go_wp2_with fail
        go_ret
        exact ⟨by rw [HI.out]; rfl, K2.out⟩
      · have HV := Lib.hid hv
        have hb : (y.id == id) = false := by simpa using hv
        rw [hb]
        clear hv hb
        go_wp2_with fail
        refine ⟨⟨k + 1, by omega, by go_num, K2.out, fun j z hj hz => ?_⟩, by simp [intOf]; omega⟩
        rcases Nat.lt_or_ge j k with h | h
        · exact HNO.out j z h hz
        · obtain rfl : j = k := by omega
          rw [Option.some.inj (hz.symm.trans HY.out)]
          exact HV.out
    · obtain rfl : k = n := by omega
      have HI : Hid (idxQ id P = -1) := Lib.hid (idxQ_none (fun j z hj hz => HNO.out j z (by rw [← HL.out]; exact hj) hz))
      have KW := Lib.hid kw
      clear kw hk hlt
      go_wp2_with fail
      go_ret
      exact ⟨by rw [HI.out]; rfl, KW.out⟩
set_option maxHeartbeats 1000000 in
theorem conn1_p (gx : Nat) (x : Nd) (w : World) (hx : Blk w gx [.int .i64 x.id, .string x.key, .int .u32 x.word] 52) : PredI 61 #[.pointer (some ⟨gx, 0, none⟩)] x.id w := by
  intro p h1 h2 w' kk
  have q0 := (hx.nx kk).cell 0 _ rfl
  have hg := (hx.nx kk).lt
  have hne : ¬ gx = w'.heap.size := by omega
  obtain ⟨a1, n1, c1⟩ := h1
  obtain ⟨a2, n2, c2⟩ := h2
  simp only [Hdr.val]
  clear hx kk
  go_enter Tryd.func61, Tryd.ntmps61
  go_wp2
  go_ret
  exact ⟨rfl, (Ex.refl _).alloc _⟩
end Go.Proofs.YtbnbjiddffihoaaDoor
