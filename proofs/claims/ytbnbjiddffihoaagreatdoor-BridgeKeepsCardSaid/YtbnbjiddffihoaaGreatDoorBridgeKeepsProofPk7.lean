/- Texts for the statement BridgeKeepsProof, part 7 of 12: RedC, RedH, RedI, RedJ. -/
import Derived.BigRegion
import Derived.Test.YtbnbjiddffihoaaGreatDoorBridgeKeepsProofPk3
import Derived.Test.YtbnbjiddffihoaaGreatDoorBridgeKeepsProofPk5
import Derived.Test.YtbnbjiddffihoaaGreatDoorBridgeKeepsProofPk6

/- The nearest nodes of the package redundant. -/
namespace Go.Proofs.YtbnbjiddffihoaaGreatDoor
open Go.RowKit

def nearF (x : Nd) (i : Nat) (s : Nr) (y : Nd) : Nr :=
  if Op.bytesLess y.key.toList x.key.toList = true then (if bitN y.word i = 0 then (y.id, s.2.1, s.2.2.1, s.2.2.2) else (s.1, y.id, s.2.2.1, s.2.2.2))
  else if y.key.toList = x.key.toList then s
  else if bitN y.word i = 0 then (if s.2.2.1 = 0 then (s.1, s.2.1, y.id, s.2.2.2) else s) else (if s.2.2.2 = 0 then (s.1, s.2.1, s.2.2.1, y.id) else s)
def lastD (d : Int) (l : List Nd) : Int := match l.getLast? with
  | some y => y.id
  | none => d
theorem lastD_cons (d : Int) (y : Nd) (l : List Nd) : lastD d (y :: l) = lastD y.id l := by
  unfold lastD
  cases l with
  | nil => rfl
  | cons z l => rw [List.getLast?_cons_cons]; cases h : (z :: l).getLast? with
    | none => simp at h
    | some u => rfl
theorem lastD_zero (l : List Nd) : lastD 0 l = lastI l := by
  unfold lastD lastI
  cases h : l.getLast? with
  | none => rfl
  | some u => rfl
theorem bit_two (a : Nat) (i : Int) : bitN a i = 0 ∨ bitN a i = 1 := by
  unfold bitN
  split
  · exact .inl rfl
  · omega
theorem near_left {x : Nd} {i : Nat} : ∀ (A : List Nd) (s : Nr), (∀ y ∈ A, Op.bytesLess y.key.toList x.key.toList = true) → A.foldl (nearF x i) s = (lastD s.1 (A.filter (bitIs i 0)), lastD s.2.1 (A.filter (bitIs i 1)), s.2.2.1, s.2.2.2)
  | [], s, _ => rfl
  | y :: A, s, h => by
    rw [List.foldl_cons, near_left A _ (fun z hz => h z (List.mem_cons_of_mem _ hz))]
    unfold nearF
    rw [if_pos (h y List.mem_cons_self)]
    rcases bit_two y.word i with hb | hb
    · rw [if_pos hb, List.filter_cons_of_pos (by simp [bitIs, hb]), List.filter_cons_of_neg (by simp [bitIs, hb]), lastD_cons]
    · rw [if_neg (by omega), List.filter_cons_of_neg (by simp [bitIs, hb]), List.filter_cons_of_pos (by simp [bitIs, hb]), lastD_cons]
theorem headI_cons (y : Nd) (l : List Nd) : headI (y :: l) = y.id := rfl
theorem near_right {x : Nd} {i : Nat} : ∀ (B : List Nd) (s : Nr), (∀ y ∈ B, Op.bytesLess x.key.toList y.key.toList = true ∧ y.id ≠ 0) →
    B.foldl (nearF x i) s = (s.1, s.2.1, if s.2.2.1 = 0 then headI (B.filter (bitIs i 0)) else s.2.2.1, if s.2.2.2 = 0 then headI (B.filter (bitIs i 1)) else s.2.2.2)
  | [], s, _ => by
    obtain ⟨s1, s2, s3, s4⟩ := s
    have : headI ([] : List Nd) = 0 := rfl
    simp only [List.foldl_nil, List.filter_nil, this, Prod.mk.injEq, true_and]
    constructor <;> split <;> simp_all
  | y :: B, s, h => by
    rw [List.foldl_cons, near_right B _ (fun z hz => h z (List.mem_cons_of_mem _ hz))]
    obtain ⟨hl, hid⟩ := h y List.mem_cons_self
    have h1 := bl_asymm hl
    have h2 : ¬ y.key.toList = x.key.toList := by
      intro he
      rw [he, bytesLess_irrefl] at hl
      cases hl
    unfold nearF
    rw [if_neg (by rw [h1]; simp), if_neg h2]
    rcases bit_two y.word i with hb | hb
    · rw [if_pos hb, List.filter_cons_of_pos (by simp [bitIs, hb]), List.filter_cons_of_neg (by simp [bitIs, hb]), headI_cons]
      by_cases h3 : s.2.2.1 = 0
      · rw [if_pos h3]; simp [h3, hid]
      · rw [if_neg h3]; simp [h3]
    · rw [if_neg (by omega), List.filter_cons_of_neg (by simp [bitIs, hb]), List.filter_cons_of_pos (by simp [bitIs, hb]), headI_cons]
      by_cases h3 : s.2.2.2 = 0
      · rw [if_pos h3]; simp [h3, hid]
      · rw [if_neg h3]; simp [h3]
theorem near_fold {N : List Nd} (h0 : checkN N = 0) {x : Nd} {i : Nat} {A B : List Nd} (e : grpS N i x.word = A ++ x :: B) : (grpS N i x.word).foldl (nearF x i) (0, 0, 0, 0) = nearG N x i := by
  rw [nearG_at h0 e]
  have ha := grp_asc h0 (i : Int) x.word
  rw [e] at ha ⊢
  have hp := List.pairwise_append.1 ha
  rw [List.foldl_append, near_left A _ (fun y hy => (hp.2.2 y hy x List.mem_cons_self).1), List.foldl_cons]
  have hs : ∀ s : Nr, nearF x i s x = s := fun s => by unfold nearF; rw [bytesLess_irrefl]; simp
  rw [hs, near_right B _ (fun y hy => ⟨((List.pairwise_cons.1 hp.2.1).1 y hy).1, ?_⟩)]
  · simp only [lastD_zero, if_true]
  · have hm : y ∈ grpS N i x.word := by rw [e]; simp [hy]
    have := (roster_ok h0 y (grp_mem.1 hm).1).2.1
    omega

def NrRel (G : List Nd) (x : Nd) (i g7 : Nat) (w : World) (p : Value) (wr : World) : Prop :=
  ∃ (j : Nat) (s : Nr), j ≤ G.length ∧ p = .int .i64 j ∧ s = (G.take j).foldl (nearF x i) (0, 0, 0, 0) ∧ Blk wr g7 (encNr s) 49 ∧ Exb g7 w wr
theorem nr_snoc {G : List Nd} {x y : Nd} {i j : Nat} (hy : G[j]? = some y) : (G.take (j + 1)).foldl (nearF x i) (0, 0, 0, 0) = nearF x i ((G.take j).foldl (nearF x i) (0, 0, 0, 0)) y := by
  rw [take_snocN G j y hy, List.foldl_append]; rfl
set_option maxRecDepth 100000 in
set_option maxHeartbeats 8000000 in
theorem near_p (a : Option Addr) (n c : Nat) (N : List Nd) (x : Nd) (i : Nat) (w : World) (h : Sl 3 encN w a n (sortN N)) (hn : n ≤ 1000) (h0 : checkN N = 0) (hw : ∀ x ∈ N, x.word < 4294967296) (hx : x ∈ N) (hi : i < 16) (hT : TabG w) :
    Calls Tryz.prog 90 #[.slice a n c, .agg #[.int .i64 x.id, .string x.key, .int .u32 x.word], .int .i64 i] w fun e w' => e = .returned (.agg (encNr (nearG N x i)).toArray) ∧ Ex w w' := by
  have HW := Lib.hid (sort_word hw)
  have hxw := hw x hx
  have EX := Ex.refl w
  have FO : Hid ((grpS N i x.word).foldl (nearF x i) (0, 0, 0, 0) = nearG N x i) := Lib.hid (by
    obtain ⟨A, B, e⟩ := grp_at hx (h := (i : Int)) (by unfold lvlN; simp; omega)
    exact near_fold h0 e)
  have HI : Hid (∀ y ∈ grpS N i x.word, I64 y.id ∧ y.word < 4294967296) := Lib.hid (fun y hy => ⟨(roster_ok h0 y (grp_mem.1 hy).1).1.1, hw y (grp_mem.1 hy).1⟩)
  obtain ⟨g4, hg4⟩ : ∃ g4, g4 = w.heap.size := ⟨_, rfl⟩
  obtain ⟨g6, hg6⟩ : ∃ g6, g6 = (w.heap.size + 1) := ⟨_, rfl⟩
  obtain ⟨g7, hg7⟩ : ∃ g7, g7 = (w.heap.size + 1 + 1) := ⟨_, rfl⟩
  obtain ⟨g8, hg8⟩ : ∃ g8, g8 = (w.heap.size + 1 + 1 + 1) := ⟨_, rfl⟩
  obtain ⟨g9, hg9⟩ : ∃ g9, g9 = (w.heap.size + 1 + 1 + 1 + 1) := ⟨_, rfl⟩
  obtain ⟨w1, hw1⟩ : ∃ w1, w1 = (((((w.alloc (.cells #[.int .i64 x.id, .string x.key, .int .u32 x.word] 57)).alloc (.cells #[.int .i64 0, .int .i64 0, .int .i64 0, .int .i64 0] 49)).alloc (.cells #[.int .i64 0, .int .i64 0, .int .i64 0, .int .i64 0] 49)).alloc (.cells #[.pointer (some ⟨(w.heap.size + 1 + 1), 0, none⟩), .pointer (some ⟨(w.heap.size + 1 + 1), 1, none⟩)] 141)).alloc (.cells #[.pointer (some ⟨(w.heap.size + 1 + 1), 2, none⟩), .pointer (some ⟨(w.heap.size + 1 + 1), 3, none⟩)] 141)) := ⟨_, rfl⟩
  have kk : Ex w w1 := by rw [hw1]; exact ((((((Ex.refl w).alloc (.cells #[.int .i64 x.id, .string x.key, .int .u32 x.word] 57)).alloc (.cells #[.int .i64 0, .int .i64 0, .int .i64 0, .int .i64 0] 49)).alloc (.cells #[.int .i64 0, .int .i64 0, .int .i64 0, .int .i64 0] 49)).alloc (.cells #[.pointer (some ⟨(w.heap.size + 1 + 1), 0, none⟩), .pointer (some ⟨(w.heap.size + 1 + 1), 1, none⟩)] 141)).alloc (.cells #[.pointer (some ⟨(w.heap.size + 1 + 1), 2, none⟩), .pointer (some ⟨(w.heap.size + 1 + 1), 3, none⟩)] 141))
  have B4 : Blk w1 g4 [.int .i64 x.id, .string x.key, .int .u32 x.word] 57 := by rw [hw1]; simp only [hg4, hg6, hg7, hg8, hg9]; have hbk := (((((Blk.new w [.int .i64 x.id, .string x.key, .int .u32 x.word] 57).nx (Ex.new _ (.cells #[.int .i64 0, .int .i64 0, .int .i64 0, .int .i64 0] 49))).nx (Ex.new _ (.cells #[.int .i64 0, .int .i64 0, .int .i64 0, .int .i64 0] 49))).nx (Ex.new _ (.cells #[.pointer (some ⟨(w.heap.size + 1 + 1), 0, none⟩), .pointer (some ⟨(w.heap.size + 1 + 1), 1, none⟩)] 141))).nx (Ex.new _ (.cells #[.pointer (some ⟨(w.heap.size + 1 + 1), 2, none⟩), .pointer (some ⟨(w.heap.size + 1 + 1), 3, none⟩)] 141))); simpa using hbk
  have B6 : Blk w1 g6 [.int .i64 0, .int .i64 0, .int .i64 0, .int .i64 0] 49 := by rw [hw1]; simp only [hg4, hg6, hg7, hg8, hg9]; have hbk := ((((Blk.new (w.alloc (.cells #[.int .i64 x.id, .string x.key, .int .u32 x.word] 57)) [.int .i64 0, .int .i64 0, .int .i64 0, .int .i64 0] 49).nx (Ex.new _ (.cells #[.int .i64 0, .int .i64 0, .int .i64 0, .int .i64 0] 49))).nx (Ex.new _ (.cells #[.pointer (some ⟨(w.heap.size + 1 + 1), 0, none⟩), .pointer (some ⟨(w.heap.size + 1 + 1), 1, none⟩)] 141))).nx (Ex.new _ (.cells #[.pointer (some ⟨(w.heap.size + 1 + 1), 2, none⟩), .pointer (some ⟨(w.heap.size + 1 + 1), 3, none⟩)] 141))); simpa using hbk
  have B7 : Blk w1 g7 [.int .i64 0, .int .i64 0, .int .i64 0, .int .i64 0] 49 := by rw [hw1]; simp only [hg4, hg6, hg7, hg8, hg9]; have hbk := (((Blk.new ((w.alloc (.cells #[.int .i64 x.id, .string x.key, .int .u32 x.word] 57)).alloc (.cells #[.int .i64 0, .int .i64 0, .int .i64 0, .int .i64 0] 49)) [.int .i64 0, .int .i64 0, .int .i64 0, .int .i64 0] 49).nx (Ex.new _ (.cells #[.pointer (some ⟨(w.heap.size + 1 + 1), 0, none⟩), .pointer (some ⟨(w.heap.size + 1 + 1), 1, none⟩)] 141))).nx (Ex.new _ (.cells #[.pointer (some ⟨(w.heap.size + 1 + 1), 2, none⟩), .pointer (some ⟨(w.heap.size + 1 + 1), 3, none⟩)] 141))); simpa using hbk
  have B8 : Blk w1 g8 [.pointer (some ⟨g7, 0, none⟩), .pointer (some ⟨g7, 1, none⟩)] 141 := by rw [hw1]; simp only [hg4, hg6, hg7, hg8, hg9]; have hbk := ((Blk.new (((w.alloc (.cells #[.int .i64 x.id, .string x.key, .int .u32 x.word] 57)).alloc (.cells #[.int .i64 0, .int .i64 0, .int .i64 0, .int .i64 0] 49)).alloc (.cells #[.int .i64 0, .int .i64 0, .int .i64 0, .int .i64 0] 49)) [.pointer (some ⟨(w.heap.size + 1 + 1), 0, none⟩), .pointer (some ⟨(w.heap.size + 1 + 1), 1, none⟩)] 141).nx (Ex.new _ (.cells #[.pointer (some ⟨(w.heap.size + 1 + 1), 2, none⟩), .pointer (some ⟨(w.heap.size + 1 + 1), 3, none⟩)] 141))); simpa using hbk
  have B9 : Blk w1 g9 [.pointer (some ⟨g7, 2, none⟩), .pointer (some ⟨g7, 3, none⟩)] 141 := by rw [hw1]; simp only [hg4, hg6, hg7, hg8, hg9]; have hbk := (Blk.new ((((w.alloc (.cells #[.int .i64 x.id, .string x.key, .int .u32 x.word] 57)).alloc (.cells #[.int .i64 0, .int .i64 0, .int .i64 0, .int .i64 0] 49)).alloc (.cells #[.int .i64 0, .int .i64 0, .int .i64 0, .int .i64 0] 49)).alloc (.cells #[.pointer (some ⟨(w.heap.size + 1 + 1), 0, none⟩), .pointer (some ⟨(w.heap.size + 1 + 1), 1, none⟩)] 141)) [.pointer (some ⟨(w.heap.size + 1 + 1), 2, none⟩), .pointer (some ⟨(w.heap.size + 1 + 1), 3, none⟩)] 141); simpa using hbk
  have Hw1 := Lib.hid hw1
  have Hg4 := Lib.hid hg4
  have Hg6 := Lib.hid hg6
  have Hg7 := Lib.hid hg7
  have Hg8 := Lib.hid hg8
  have Hg9 := Lib.hid hg9
  replace h := h.nx kk
  replace hT := hT.nx kk
  replace EX := EX.nx kk
  have n47 : g4 ≠ g7 := by omega
  have n67 : g6 ≠ g7 := by omega
  have n87 : g8 ≠ g7 := by omega
  have n97 : g9 ≠ g7 := by omega
  have hw7 : w.heap.size ≤ g7 := by omega
  have hw6 : w.heap.size ≤ g6 := by omega
  clear kk hw hx h0 hw1 hg4 hg6 hg7 hg8 hg9
  go_enter Tryz.func90, Tryz.ntmps90
  go_upto_region 4 with fail
  rw [← Hw1.out, ← Hg9.out, ← Hg8.out, ← Hg7.out, ← Hg6.out, ← Hg4.out]
  clear Hw1 Hg9 Hg8 Hg7 Hg6 Hg4
  have hb7 := B7.lt
  have q0 := B4.cell 0 _ rfl
  have q1 := B4.cell 1 _ rfl
  have q2 := B4.cell 2 _ rfl
  go_wp2_with fail
  (with_reducible refine (group_q _ _ _ (sortN N) i x.word _ h (by omega) HW.out hxw hT).mono ?_)
  rintro e w6 ⟨a3, c3, rfl, r3, kk⟩
  replace EX := EX.nx kk
  replace B4 := B4.nx kk
  replace B6 := B6.nx kk
  replace B7 := B7.nx kk
  replace B8 := B8.nx kk
  replace B9 := B9.nx kk
  clear kk
  have hG : groupN (sortN N) i x.word = grpS N i x.word := rfl
  have hgl : (groupN (sortN N) i x.word).length ≤ 1000 := by have := groupN_length (sortN N) i x.word; have := h.len; omega
  rw [hG] at r3 hgl ⊢
  generalize grpS N i x.word = G at r3 hgl FO HI ⊢
  have G3 := Lib.hid (r3.slb hb7)
  replace EX := Lib.hid EX
  replace B4 := Lib.hid B4
  replace B6 := Lib.hid B6
  replace B8 := Lib.hid B8
  replace B9 := Lib.hid B9
  clear r3 hG h hT q0 q1 q2 HW
  go_wp2_with fail
  go_loopw [25] (fun p wr => NrRel G x i g7 w6 p wr) (fun p _ => G.length - (intOf p).toNat)
  case atStart => exact ⟨0, (0, 0, 0, 0), by omega, rfl, rfl, B7, Exb.refl _ _⟩
  case round =>
    clear B7
    obtain ⟨j, s, hj, rfl, hs, B7, kw⟩ := hrel
    obtain ⟨wo, rfl⟩ : ∃ wo : World, wo = wr := ⟨_, rfl⟩
    by_cases hjl : j < G.length
    · obtain ⟨x3, o3, y, rfl, hx3, hy, hc3⟩ := (G3.out.nxb kw).sl.at (j := j) hjl
      have e0 : wo.cell? ⟨x3, o3 + j * 3, none⟩ = some (.int .i64 y.id) := hc3 0 _ rfl
      have e1 : wo.cell? ⟨x3, o3 + j * 3 + 1, none⟩ = some (.string y.key) := hc3 1 _ rfl
      have e2 : wo.cell? ⟨x3, o3 + j * 3 + 1 + 1, none⟩ = some (.int .u32 y.word) := by simpa [Nat.add_assoc] using hc3 2 _ rfl
      have SN := Lib.hid (nr_snoc (x := x) (i := i) hy)
      rw [← hs] at SN
      obtain ⟨hyi, hyw⟩ := HI.out y (List.mem_of_getElem? hy)
      have hg7w := B7.lt
      have Q8 := B8.out.nxb n87 kw
      have Q9 := B9.out.nxb n97 kw
      have Q4 := B4.out.nxb n47 kw
      have KV := Lib.hid kw
      clear hc3 hy kw hs
      have B11 := Blk.new wo [.int .i64 y.id, .string y.key, .int .u32 y.word] 57
      have kk := Ex.new wo (.cells #[.int .i64 y.id, .string y.key, .int .u32 y.word] 57)
      obtain ⟨w8, hw8⟩ : ∃ w8, w8 = wo.alloc (.cells #[.int .i64 y.id, .string y.key, .int .u32 y.word] 57) := ⟨_, rfl⟩
      obtain ⟨g11, hg11⟩ : ∃ g11, g11 = wo.heap.size := ⟨_, rfl⟩
      replace B11 : Blk w8 g11 [.int .i64 y.id, .string y.key, .int .u32 y.word] 57 := by rw [hw8, hg11]; exact B11
      rw [← hw8] at kk
      have Hw8 := Lib.hid hw8
      have Hg11 := Lib.hid hg11
      replace B7 := B7.nx kk
      replace Q8 := Q8.nx kk
      replace Q9 := Q9.nx kk
      replace Q4 := Q4.nx kk
      replace KV := Lib.hid (KV.out.nxb (kk.b g7))
      have hn11 : ¬ g11 = g7 := by omega
      clear kk hw8 hg11
      go_upto_region 7 with fail
      rw [← Hg11.out, ← Hw8.out]
      clear Hg11 Hw8
      have p0 := B11.cell 0 _ rfl
      have p1 := B11.cell 1 _ rfl
      have p2 := B11.cell 2 _ rfl
      have q1 := Q4.cell 1 _ rfl
      have l0 := Q8.cell 0 _ rfl
      have l1 := Q8.cell 1 _ rfl
      have m0 := Q9.cell 0 _ rfl
      have m1 := Q9.cell 1 _ rfl
      have r0 := B7.cell 0 _ rfl
      have r1 := B7.cell 1 _ rfl
      have r2 := B7.cell 2 _ rfl
      have r3 := B7.cell 3 _ rfl
      have f0 := B7.free 0
      have f1 := B7.free 1
      have f2 := B7.free 2
      have f3 := B7.free 3
      have HB := Lib.hid B7
      clear e0 e1 e2 B7 B11 Q8 Q9 Q4
      go_wp2_with fail
      (with_reducible refine (bit_p y.word i _ hyw (by omega) (by omega)).mono ?_)
      rintro e w9 ⟨rfl, rfl⟩
      have hb2 := bit_two y.word i
      have HBT : Hid (nearF x i s y = if Op.bytesLess y.key.toList x.key.toList = true then (if bitN y.word i = 0 then (y.id, s.2.1, s.2.2.1, s.2.2.2) else (s.1, y.id, s.2.2.1, s.2.2.2))
          else if y.key.toList = x.key.toList then s else if bitN y.word i = 0 then (if s.2.2.1 = 0 then (s.1, s.2.1, y.id, s.2.2.2) else s) else (if s.2.2.2 = 0 then (s.1, s.2.1, s.2.2.1, y.id) else s)) := Lib.hid rfl
      generalize bitN y.word i = bt at hb2 HBT ⊢
      have RR : Hid (∀ (s' : Nr) wx, nearF x i s y = s' → Blk wx g7 (encNr s') 49 → Exb g7 w6 wx → NrRel G x i g7 w6 (.int .i64 ((j : Int) + 1)) wx) := Lib.hid (fun s' wx h1 h2 h3 => ⟨j + 1, s', by omega, by go_num, by rw [SN.out, h1], h2, h3⟩)
      cases hle : Op.bytesLess y.key.toList x.key.toList with
      | true =>
        rcases hb2 with rfl | rfl
        · have NF : Hid (nearF x i s y = (y.id, s.2.1, s.2.2.1, s.2.2.2)) := Lib.hid (by rw [HBT.out, if_pos hle]; rfl)
          clear HBT
          go_wp2_with fail
          go_region
          go_wp2_with fail
          exact ⟨RR.out _ _ NF.out (HB.out.set 0 _) (KV.out.drew.setB (p := ⟨g7, 0, none⟩) _ rfl), by simp [intOf]; omega⟩
        · have NF : Hid (nearF x i s y = (s.1, y.id, s.2.2.1, s.2.2.2)) := Lib.hid (by rw [HBT.out, if_pos hle]; rfl)
          clear HBT
          go_wp2_with fail
          go_region
          go_wp2_with fail
          exact ⟨RR.out _ _ NF.out (HB.out.set 1 _) (KV.out.drew.setB (p := ⟨g7, 1, none⟩) _ rfl), by simp [intOf]; omega⟩
      | false =>
        by_cases hke : y.key.toList = x.key.toList
        · have hkb : (y.key.toList == x.key.toList) = true := by rw [hke]; exact beq_self_eq_true _
          have NF := Lib.hid (RR.out s w8 (by rw [HBT.out, if_neg (by rw [hle]; simp), if_pos hke]) HB.out KV.out)
          clear HBT hke
          go_wp2_with fail
          exact ⟨NF.out, by simp [intOf]; omega⟩
        · have hkb : (y.key.toList == x.key.toList) = false := by rw [beq_eq_false_iff_ne]; exact hke
          have HN : Hid (nearF x i s y = if bt = 0 then (if s.2.2.1 = 0 then (s.1, s.2.1, y.id, s.2.2.2) else s) else (if s.2.2.2 = 0 then (s.1, s.2.1, s.2.2.1, y.id) else s)) := Lib.hid (by rw [HBT.out, if_neg (by rw [hle]; simp), if_neg hke])
          clear HBT hke
          rcases hb2 with rfl | rfl
          · by_cases hz : s.2.2.1 = 0
            · have NF : Hid (nearF x i s y = (s.1, s.2.1, y.id, s.2.2.2)) := Lib.hid (by rw [HN.out, if_pos rfl, if_pos hz])
              clear HN
              go_wp2_with fail
              go_region
              go_wp2_with fail
              exact ⟨RR.out _ _ NF.out (HB.out.set 2 _) (KV.out.drew.setB (p := ⟨g7, 2, none⟩) _ rfl), by simp [intOf]; omega⟩
            · have hzb : (s.2.2.1 == 0) = false := by simpa using hz
              have NF := Lib.hid (RR.out s w8 (by rw [HN.out, if_pos rfl, if_neg hz]) HB.out KV.out)
              clear HN hz
              go_wp2_with fail
              exact ⟨NF.out, by simp [intOf]; omega⟩
          · by_cases hz : s.2.2.2 = 0
            · have NF : Hid (nearF x i s y = (s.1, s.2.1, s.2.2.1, y.id)) := Lib.hid (by rw [HN.out, if_neg (by omega), if_pos hz])
              clear HN
              go_wp2_with fail
              go_region
              go_wp2_with fail
              exact ⟨RR.out _ _ NF.out (HB.out.set 3 _) (KV.out.drew.setB (p := ⟨g7, 3, none⟩) _ rfl), by simp [intOf]; omega⟩
            · have hzb : (s.2.2.2 == 0) = false := by simpa using hz
              have NF := Lib.hid (RR.out s w8 (by rw [HN.out, if_neg (by omega), if_neg hz]) HB.out KV.out)
              clear HN hz
              go_wp2_with fail
              exact ⟨NF.out, by simp [intOf]; omega⟩
    · obtain rfl : j = G.length := by omega
      have FS : Hid (s = nearG N x i) := Lib.hid (by rw [← FO.out, hs, List.take_of_length_le (Nat.le_refl _)])
      have r0 := B7.cell 0 _ rfl
      have r1 := B7.cell 1 _ rfl
      have r2 := B7.cell 2 _ rfl
      have r3 := B7.cell 3 _ rfl
      have Q6 := B6.out.nxb n67 kw
      have z0 := Q6.cell 0 _ rfl
      have z1 := Q6.cell 1 _ rfl
      have z2 := Q6.cell 2 _ rfl
      have z3 := Q6.cell 3 _ rfl
      have f0 := Q6.free 0
      have f1 := Q6.free 1
      have f2 := Q6.free 2
      have f3 := Q6.free 3
      have EF : Ex w wo := (Exl.nxb (b := g7) (w := w) ⟨EX.out, hw7⟩ kw).1
      have KE := Lib.hid ((((EF.setNew (p := ⟨g6, 0, none⟩) (.int .i64 s.1) hw6).setNew (p := ⟨g6, 1, none⟩) (.int .i64 s.2.1) hw6).setNew (p := ⟨g6, 2, none⟩) (.int .i64 s.2.2.1) hw6).setNew (p := ⟨g6, 3, none⟩) (.int .i64 s.2.2.2) hw6)
      clear hj hjl kw hs B7 Q6 EF
      go_wp2_with fail
      refine bodyPost_ret (v := .agg #[.int .i64 s.1, .int .i64 s.2.1, .int .i64 s.2.2.1, .int .i64 s.2.2.2]) (by simp [results, Tryz.results90, go_sem, *]) rfl ⟨by rw [← FS.out]; rfl, KE.out⟩
end Go.Proofs.YtbnbjiddffihoaaGreatDoor

/- Refs, Contacts and nearest of the reference. -/
namespace Go.Proofs.YtbnbjiddffihoaaGreatDoor
open Go.RowKit

theorem nums_len_p (p : Pr) : (numsP p).length = p.known.length + 2 + 4 * p.near.length := by
  unfold numsP
  rw [List.length_append, List.length_append, nums_len]
  rfl
set_option maxRecDepth 100000 in
set_option maxHeartbeats 4000000 in
theorem refs_r (a : Option Addr) (n c : Nat) (N : List Nd) (p : Pr) (a1 : Option Addr) (n1 c1 : Nat) (a2 : Option Addr) (n2 c2 : Nat) (w : World) (h : Sl 3 encN w a n N) (hn : n ≤ 1000) (h1 : Sl 1 encI w a1 n1 p.known) (h2 : Sl 4 encNr w a2 n2 p.near) (hn1 : n1 ≤ 2000000) (hn2 : n2 ≤ 2000000) (z1 : a1 = none → c1 = 0) :
    Calls Tryz.prog 107 #[.slice a n c, .agg #[.int .i64 p.id, .slice a1 n1 c1, .int .i64 p.left, .int .i64 p.right, .slice a2 n2 c2]] w (OiPost (refsN N p) w) := by
  have EX := Ex.refl w
  have Z1 := Lib.hid z1
  have hl1 : p.known.length = n1 := h1.len
  have hl2 : p.near.length = n2 := h2.len
  have HNL := Lib.hid (nums_len_p p)
  clear z1
  have B3 := Blk.new w [.int .i64 p.id, .slice a1 n1 c1, .int .i64 p.left, .int .i64 p.right, .slice a2 n2 c2] 45
  have kk := Ex.new w (.cells #[.int .i64 p.id, .slice a1 n1 c1, .int .i64 p.left, .int .i64 p.right, .slice a2 n2 c2] 45)
  obtain ⟨w1, hw1⟩ : ∃ w1, w1 = w.alloc (.cells #[.int .i64 p.id, .slice a1 n1 c1, .int .i64 p.left, .int .i64 p.right, .slice a2 n2 c2] 45) := ⟨_, rfl⟩
  obtain ⟨g3, hg3⟩ : ∃ g3, g3 = w.heap.size := ⟨_, rfl⟩
  replace B3 : Blk w1 g3 [.int .i64 p.id, .slice a1 n1 c1, .int .i64 p.left, .int .i64 p.right, .slice a2 n2 c2] 45 := by rw [hw1, hg3]; exact B3
  rw [← hw1] at kk
  have Hw1 := Lib.hid hw1
  have Hg3 := Lib.hid hg3
  replace h := h.nx kk
  replace h1 := h1.nx kk
  replace h2 := h2.nx kk
  replace EX := EX.nx kk
  clear kk hw1 hg3
  go_enter Tryz.func107, Tryz.ntmps107
  go_upto_region 1 with fail
  rw [← Hg3.out, ← Hw1.out]
  clear Hg3 Hw1
  go_wp2_with fail
  (with_reducible refine (is_r _ _ _ _ _ h (by omega)).mono ?_)
  rintro e w2 ⟨rfl, kk⟩
  replace h := h.nx kk
  replace h1 := h1.nx kk
  replace h2 := h2.nx kk
  replace EX := EX.nx kk
  replace B3 := B3.nx kk
  clear kk
  by_cases hck : checkN N = 0
  case neg =>
    have d1 : (checkN N == 0) = false := by simpa using hck
    have E0 : Hid (refsN N p = []) := Lib.hid (by unfold refsN; rw [if_neg hck])
    rw [d1]
    clear h h1 h2 hck B3
    go_wp2_with fail
    go_ret
    exact ⟨_, rfl, by rw [E0.out]; exact OwnL.nil _ _ _ _ _, EX⟩
  have d1 : (checkN N == 0) = true := by simpa using hck
  have E0 : Hid (refsN N p = ordN N (numsP p) p.id) := Lib.hid (by unfold refsN; rw [if_pos hck])
  rw [d1]
  clear hck d1
  have HB := Lib.hid B3
  have HN := Lib.hid h
  have H1 := Lib.hid h1
  have H2 := Lib.hid h2
  have EXH := Lib.hid EX
  clear B3 h h1 h2 EX
  go_upto_region 3 with fail
  refine wp_region_held_drew (S := Ex w2) (by kernel_rfl) ((Ex.refl w2).drew) (fun hHeld => ?_)
  refine wpAnyH_take (i := 0) (oi := ⟨some 8, .move (.tmp 0), 23, "ref.go:129", #[], none⟩) (v := ?_) rfl (by kernel_rfl) (by kernel_rfl) (by kernel_rfl) (fun _ _ _ h => h) (Or.inl ⟨by rfl, ?hyr1x0q1⟩) (by assumption) ?restr1x0q1
  case hyr1x0q1 => intro wq hSw; (go_simp); (try with_reducible rfl)
  try simp only [Act.put, List.setIfInBounds_toArray, List.set_cons_zero, List.set_cons_succ]
  refine wpAnyH_take (i := 1) (oi := ⟨some 9, .load 45 (.tmp 3), 45, "ref.go:129", #[], none⟩) (v := ?_) rfl (by kernel_rfl) (by kernel_rfl) (by kernel_rfl) (fun _ _ _ h => h) (Or.inl ⟨by rfl, ?hyr1x1q4⟩) (by assumption) ?restr1x1q4
  case hyr1x1q4 => intro wq hSw; (have B := HB.out.nx hSw; have c0 := B.cell 0 _ rfl; have c1 := B.cell 1 _ rfl; have c2 := B.cell 2 _ rfl; have c3 := B.cell 3 _ rfl; have c4 := B.cell 4 _ rfl; go_simp); (try with_reducible rfl)
  try simp only [Act.put, List.setIfInBounds_toArray, List.set_cons_zero, List.set_cons_succ]
  refine wpAnyH_take (i := 3) (oi := ⟨some 11, .fieldAddr 45 (.tmp 3) 0, 0, "ref.go:129", #[], none⟩) (v := ?_) rfl (by kernel_rfl) (by kernel_rfl) (by kernel_rfl) (fun _ _ _ h => h) (Or.inl ⟨by rfl, ?hyr1x3q7⟩) (by assumption) ?restr1x3q7
  case hyr1x3q7 => intro wq hSw; (go_simp); (try with_reducible rfl)
  try simp only [Act.put, List.setIfInBounds_toArray, List.set_cons_zero, List.set_cons_succ]
  refine wpAnyH_take (i := 4) (oi := ⟨some 12, .load 3 (.tmp 11), 3, "ref.go:129", #[⟨3, .data⟩], none⟩) (v := ?_) rfl (by kernel_rfl) (by kernel_rfl) (by kernel_rfl) (fun _ _ _ h => h) (Or.inl ⟨by rfl, ?hyr1x4q10⟩) (by assumption) ?restr1x4q10
  case hyr1x4q10 => intro wq hSw; (have c0 := (HB.out.nx hSw).cell 0 _ rfl; go_simp); (try with_reducible rfl)
  try simp only [Act.put, List.setIfInBounds_toArray, List.set_cons_zero, List.set_cons_succ]
  refine wpAnyH_ready (rs := [2]) (by kernel_rfl) (by simp) ?_
  refine AllReadyH.cons (o := ⟨some 10, .call { callee := .value (.func 131), args := #[.tmp 9], argTypes := #[45] }, 22, "ref.go:129", #[⟨1, .data⟩], none⟩) rfl (fun K hK => ?_) AllReadyH.nil
  go_simp
  (with_reducible refine (numbers_r p _ _ _ _ _ _ _ (H1.out.nx hHeld) (H2.out.nx hHeld) hn1 hn2 Z1.out).mono ?_)
  rintro e w5 ⟨v5, rfl, own5, kk⟩
  obtain ⟨A5, C5, rfl, sl5, _, _, _⟩ := own5.slf (fun _ => rfl)
  have sl5 := Lib.hid sl5.sl
  replace hHeld := hHeld.nx kk
  clear kk own5
  refine hK.out _ _ (hHeld) (fun hHeld => ?_)
  clear hK K
  try simp only [Act.put, List.setIfInBounds_toArray, List.set_cons_zero, List.set_cons_succ]
  refine wpAnyH_ready (rs := [5]) (by kernel_rfl) (by simp) ?_
  refine AllReadyH.cons (o := ⟨some 13, .call { callee := .value (.func 79), args := #[.tmp 8, .tmp 10, .tmp 12], argTypes := #[23, 22, 3] }, 22, "ref.go:129", #[⟨0, .data⟩, ⟨2, .data⟩, ⟨4, .data⟩, ⟨2, .chain⟩], none⟩) rfl (fun K hK => ?_) AllReadyH.nil
  go_simp
  (with_reducible refine (ordered_r _ _ _ N _ _ _ (numsP p) p.id _ (HN.out.nx hHeld) hn sl5.out (by rw [HNL.out]; omega)).mono ?_)
  rintro e w6 ⟨v6, rfl, own6, kk⟩
  have own6 := Lib.hid (own6.base (EXH.out.nx hHeld).size)
  replace hHeld := hHeld.nx kk
  clear kk
  refine hK.out _ _ (hHeld) (fun hHeld => ?_)
  clear hK K
  try simp only [Act.put, List.setIfInBounds_toArray, List.set_cons_zero, List.set_cons_succ]
  refine wpAnyH_take (i := 6) (oi := ⟨some 4, .assign (.tmp 13), 22, "ref.go:129", #[⟨5, .data⟩, ⟨5, .chain⟩, ⟨0, .phase⟩, ⟨1, .phase⟩, ⟨2, .phase⟩, ⟨3, .phase⟩, ⟨4, .phase⟩, ⟨5, .phase⟩], none⟩) (v := ?_) rfl (by kernel_rfl) (by kernel_rfl) (by kernel_rfl) (fun _ _ _ h => h) (Or.inl ⟨by rfl, ?hyr1x6q36⟩) (by assumption) ?restr1x6q36
  case hyr1x6q36 => intro wq hSw; (go_simp); (try with_reducible rfl)
  try simp only [Act.put, List.setIfInBounds_toArray, List.set_cons_zero, List.set_cons_succ]
  refine wpAnyH_done (by kernel_rfl) ?_ _
  have KE := Lib.hid (EXH.out.nx hHeld)
  clear hHeld
  go_wp2_with fail
  go_ret
  exact ⟨_, rfl, by rw [E0.out]; exact own6.out, KE.out⟩

def Acc (β lo hi : Nat) (w6 wr : World) (o : Value) : Prop := Chg (fun k => k < hi ∧ (k < β ∨ lo ≤ k)) w6 wr ∧ hi ≤ wr.heap.size ∧ ∀ g, o.ownBlock = some g → g < lo ∨ hi ≤ g
theorem Acc.start {β lo hi : Nat} {w : World} {o : Value} (hs : hi ≤ w.heap.size) (ho : ∀ g, o.ownBlock = some g → g < lo ∨ hi ≤ g) : Acc β lo hi w w o := ⟨Chg.refl _ _, hs, ho⟩
theorem Acc.step {β lo hi : Nat} {w6 wr w9 : World} {o o' : Value} (h : Acc β lo hi w6 wr o) (hb : ∀ g, o.ownBlock = some g → β ≤ g) (k : Chg (fun k => k < wr.heap.size ∧ ¬ o.ownBlock = some k) wr w9) (ho : o'.ownBlock = o.ownBlock ∨ ∀ g, o'.ownBlock = some g → wr.heap.size ≤ g) : Acc β lo hi w6 w9 o' := by
  refine ⟨h.1.trans (k.mono fun x hx => ⟨Nat.lt_of_lt_of_le hx.1 h.2.1, fun hv => ?_⟩), Nat.le_trans h.2.1 k.size, fun g hg => ?_⟩
  · have h1 := hb x hv
    have h2 := h.2.2 x hv
    have h3 := hx.2
    have h4 := hx.1
    omega
  · rcases ho with h1 | h1
    · exact h.2.2 g (by rw [← h1]; exact hg)
    · have := h1 g hg; have := h.2.1; omega
theorem Acc.nx {β lo hi : Nat} {w6 wr w9 : World} {o : Value} (h : Acc β lo hi w6 wr o) (k : Ex wr w9) : Acc β lo hi w6 w9 o :=
  ⟨h.1.trans (Chg.mono k fun x hx => Nat.lt_of_lt_of_le hx.1 h.2.1), Nat.le_trans h.2.1 k.size, h.2.2⟩
theorem Acc.sl {α : Type} {sz n : Nat} {enc : α → List Value} {a : Option Addr} {l : List α} {β : Nat} {w5 w6 wr : World} {o : Value} (h : Acc β w5.heap.size w6.heap.size w6 wr o) (s : Slf sz enc w5 w6 a n l) : Sl sz enc wr a n l :=
  (Rd.chg s h.1 (fun _ hk => ⟨hk.2, .inr hk.1⟩)).mono fun _ hk => Nat.lt_of_lt_of_le hk.2 h.2.1
theorem Acc.ex {w2 w6 wr : World} {lo : Nat} {o : Value} (h : Acc w2.heap.size lo w6.heap.size w6 wr o) (k : Ex w2 w6) : Ex w2 wr :=
  Chg.trans k (Chg.mono h.1 fun _ hk => ⟨Nat.lt_of_lt_of_le hk k.size, .inl hk⟩)
theorem OwnW.blk_lt {α : Type} {sz e base : Nat} {enc : α → List Value} {w : World} {v : Value} {l : List α} (h : OwnW sz enc e base w v l) {g : Nat} (hg : v.ownBlock = some g) : g < w.heap.size := by
  obtain ⟨_, cur, hh⟩ := h.blk hg
  exact heap_lt hh
end Go.Proofs.YtbnbjiddffihoaaGreatDoor

/- nearest of the reference (printed by gen_nst.py). -/
namespace Go.Proofs.YtbnbjiddffihoaaGreatDoor
open Go.RowKit

end Go.Proofs.YtbnbjiddffihoaaGreatDoor

/- Peers of the package redundant and of its reference (printed by gen_prs.py). -/
namespace Go.Proofs.YtbnbjiddffihoaaGreatDoor
open Go.RowKit

theorem newPr {w0 u : World} (_ : Ex w0 u) : ∃ g v, g = u.heap.size ∧ v = u.alloc (.cells #[.int .i64 0, .slice none 0 0, .int .i64 0, .int .i64 0, .slice none 0 0] 45) ∧ Blk v g [.int .i64 0, .slice none 0 0, .int .i64 0, .int .i64 0, .slice none 0 0] 45 ∧ Ex u v :=
  ⟨_, _, rfl, rfl, Blk.new _ _ _, Ex.new _ _⟩
theorem litN4 {w0 u : World} (_ : Ex w0 u) (y : Nr) : ∃ g v, g = u.heap.size ∧ v = u.alloc (.cells #[.int .i64 y.1, .int .i64 y.2.1, .int .i64 y.2.2.1, .int .i64 y.2.2.2] 49) ∧ Sl 4 encNr v (some ⟨g, 0, none⟩) 1 [y] ∧ Ex u v :=
  ⟨_, _, rfl, rfl, Sl.lit [y] rfl rfl (fun _ => rfl) rfl, Ex.new _ _⟩
theorem OwnL.ne_blk {α : Type} {sz e base g' : Nat} {enc : α → List Value} {w : World} {v : Value} {l : List α} {cs : List Value} {ty : TypeId} (h : OwnL sz enc e base w v l) (B : Blk w g' cs ty) (hne : e ≠ ty) {g : Nat} (hg : v.ownBlock = some g) : g ≠ g' := by
  rintro rfl
  obtain ⟨_, cur, hh⟩ := h.blk hg
  exact blk_kind hne hh B
theorem OwnL.put {α : Type} {sz e base g' : Nat} {enc : α → List Value} {w w' : World} {v : Value} {l : List α} {cs : List Value} {ty : TypeId} (h : OwnL sz enc e base w v l) (B : Blk w g' cs ty) (hne : e ≠ ty) (k : Exb g' w w') : OwnL sz enc e base w' v l :=
  h.chg k fun _ hx hv => ⟨hx, h.ne_blk B hne hv⟩
theorem thr_sort {N : List Nd} (h0 : checkN N = 0) (id : Int) (i : Int) : throughN (sortN N) id i = throughN N id i := by
  have hs : sortN (sortN N) = sortN N := sort_perm (sortN_perm N) h0
  have hc : checkN (sortN N) = checkN N := by rw [check_perm (sortN_perm N) h0, h0]
  by_cases hx : ∃ x ∈ N, x.id = id
  · obtain ⟨x, hx, rfl⟩ := hx
    unfold throughN thrG
    rw [find_in h0 hx, find_in (hc.trans h0) ((sortN_mem N x).2 hx), hs, hc]
  · rw [thr_no (fun x hx' he => hx ⟨x, hx', he⟩), thr_no (fun x hx' he => hx ⟨x, (sortN_mem N x).1 hx', he⟩)]
theorem neigh_sort {N : List Nd} (h0 : checkN N = 0) (id : Int) (i : Int) : neighN (sortN N) id i = neighN N id i := by
  unfold neighN
  rw [thr_sort h0]
theorem nearG_sort {N : List Nd} (h0 : checkN N = 0) (x : Nd) (i : Nat) : nearG (sortN N) x i = nearG N x i := by
  have hs : sortN (sortN N) = sortN N := sort_perm (sortN_perm N) h0
  unfold nearG grpS
  rw [hs]
theorem peerC_eq {N : List Nd} (h0 : checkN N = 0) (width height : Int) (x : Nd) : peerC N width height x = ⟨x.id, (neighN N x.id 0).1.1, (neighN N x.id 0).1.2, contactsN N x.id width height, (List.range height.toNat).map (nearG N x)⟩ := by
  unfold peerC
  rw [neigh_sort h0, contacts_sort h0]
  congr 1
  exact List.map_congr_left fun i _ => nearG_sort h0 x i
def PsRel (N : List Nd) (width height : Int) (w : World) (o i : Value) (wr : World) : Prop :=
  ∃ (j : Nat) (qs : List PQ), j ≤ (sortN N).length ∧ i = .int .i64 j ∧ OwnPr w.heap.size wr o qs (((sortN N).take j).map (peerC N width height)) ∧ Ex w wr
def PcRel (N : List Nd) (x : Nd) (width : Int) (hh : Nat) (nl nr : Int) (β : Nat) (w6 : World) (s : Value) (wx : World) : Prop :=
  ∃ (g : Nat) (A : Option Addr) (C : Nat), s = .pointer (some ⟨g, 0, none⟩) ∧ w6.heap.size ≤ g ∧ Blk wx g [.int .i64 x.id, .slice A (contactsN N x.id width hh).length C, .int .i64 nl, .int .i64 nr, .slice none 0 0] 45 ∧ OwnL 1 encI 3 β wx (.slice A (contactsN N x.id width hh).length C) (contactsN N x.id width hh) ∧ Ex w6 wx
theorem Blk.low {w w' : World} {g B : Nat} {cs : List Value} {ty : TypeId} (h : Blk w g cs ty) (hg : g < B) (k : Chg (· < B) w w') : Blk w' g cs ty := (Chg.block k g hg).trans h
theorem Exb.nxb' {g : Nat} {wk wp wq wz : World} (h : Exb g wk wp) (k : Exb g wp wq) (c : Chg (· < wk.heap.size) wq wz) : Exb g wk wz :=
  Chg.trans (h.nxb k) (Chg.mono c fun _ hk => hk.1)
def PnRel (N : List Nd) (x : Nd) (hh g : Nat) (kv : Value) (l r : Int) (w : World) (p : Value) (wr : World) : Prop :=
  ∃ (j : Nat) (A : Option Addr) (m c : Nat), j ≤ hh ∧ p = .int .i64 j ∧ Blk wr g [.int .i64 x.id, kv, .int .i64 l, .int .i64 r, .slice A m c] 45 ∧ OwnL 4 encNr 49 w.heap.size wr (.slice A m c) ((List.range j).map (nearG N x)) ∧ Exb g w wr

set_option maxRecDepth 100000 in
set_option maxHeartbeats 16000000 in
theorem peers_p (a : Option Addr) (n c : Nat) (N : List Nd) (width height : Int) (w : World) (h : Sl 3 encN w a n N) (hn : n ≤ 1000) (hc : n ≤ c) (hm : c ≤ maxLen) (hw : ∀ x ∈ N, x.word < 4294967296) (hT : TabG w) :
    Calls Tryz.prog 55 #[.slice a n c, .int .i64 width, .int .i64 height] w (PlPost (peersN N width height) w) := by
  have HL := Lib.hid h.len
  have HW := Lib.hid hw
  have EX := Ex.refl w
  clear hw
  have NO : Hid (checkN N ≠ 0 ∨ lvlN height = false → ∀ wx, Ex w wx → PlPost (peersN N width height) w (.returned (.slice none 0 0)) wx) := Lib.hid (fun hh wx kx => by
    unfold peersN
    rw [if_neg (by
      rintro ⟨h1, h2⟩
      rcases hh with h | h
      · exact h h1
      · rw [h] at h2; cases h2)]
    exact ⟨_, [], rfl, OwnP.nil _ _ _ _ _, kx⟩)
  go_enter Tryz.func55, Tryz.ntmps55
  go_wp2_with fail
  (with_reducible refine (check_p _ _ _ _ _ h (by omega) hc hm).mono ?_)
  rintro e w1 ⟨rfl, kk⟩
  replace h := h.nx kk
  replace EX := EX.nx kk
  replace hT := hT.nx kk
  clear kk
  by_cases hck : checkN N = 0
  case neg =>
    have d1 : (checkN N != 0) = true := by simpa using hck
    have FI := Lib.hid (NO.out (.inl hck) _ EX)
    clear h NO EX hck hT
    go_wp2_with fail
    go_ret
    exact FI.out
  have d1 : (checkN N != 0) = false := by simpa using hck
  by_cases hh0 : height < 0
  · have FI := Lib.hid (NO.out (.inr (by unfold lvlN; simp; omega)) _ EX)
    clear h NO EX hck hT
    go_wp2_with fail
    go_ret
    exact FI.out
  by_cases hh1 : 16 < height
  · have FI := Lib.hid (NO.out (.inr (by unfold lvlN; simp; omega)) _ EX)
    clear h NO EX hck hT
    go_wp2_with fail
    go_ret
    exact FI.out
  obtain ⟨hh, rfl⟩ := Int.eq_ofNat_of_zero_le (show 0 ≤ height by omega)
  have hh16 : hh ≤ 16 := by omega
  have HC := Lib.hid hck
  have FIN : Hid (peersN N width hh = (sortN N).map (peerC N width hh)) := Lib.hid (by unfold peersN; rw [if_pos ⟨hck, by unfold lvlN; simp; omega⟩])
  have hsN : (sortN N).length = n := by rw [sortN_length, HL.out]
  have hn64 : n ≤ 64 := by have := check_len hck; have := HL.out; omega
  clear NO hck
  go_wp2_with fail
  (with_reducible refine (sort_p _ _ _ _ _ h hn).mono ?_)
  rintro e w3 ⟨v, S, rfl, OS, ⟨hp, hsrt⟩, kk⟩
  replace h := h.nx kk
  replace EX := EX.nx kk
  replace hT := hT.nx kk
  clear kk
  have hSe : S = sortN N := sortN_unique (check_keys HC.out) hp hsrt
  subst hSe
  obtain ⟨a3, c3, rfl, S3, _, _⟩ := sorted_own HC.out OS
  rw [HL.out] at S3 ⊢
  clear OS hp hsrt
  replace hT := Lib.hid hT
  replace h := Lib.hid h
  replace S3 := Lib.hid S3
  replace EX := Lib.hid EX
  go_wp2_with fail
  go_loopw [8, 30] (fun o i wr => PsRel N width hh w3 o i wr) (fun _ i _ => n - (intOf i).toNat)
  case atStart => exact ⟨0, [], by omega, rfl, OwnP.nil _ _ _ _ _, Ex.refl _⟩
  case round =>
    obtain ⟨j, qs, hj, rfl, own, ki⟩ := hrel
    obtain ⟨wi, rfl⟩ : ∃ wi : World, wi = wr := ⟨_, rfl⟩
    rw [hsN] at hj
    by_cases hjm : j < n
    · obtain ⟨x3, o3, x, rfl, hx3, hy, hc3⟩ := (S3.out.nx ki).at hjm
      have e0 : wi.cell? ⟨x3, o3 + j * 3, none⟩ = some (.int .i64 x.id) := hc3 0 _ rfl
      have e1 : wi.cell? ⟨x3, o3 + j * 3 + 1, none⟩ = some (.string x.key) := hc3 1 _ rfl
      have e2 : wi.cell? ⟨x3, o3 + j * 3 + 1 + 1, none⟩ = some (.int .u32 x.word) := by simpa [Nat.add_assoc] using hc3 2 _ rfl
      have hxN : x ∈ N := (sortN_mem N x).1 (List.mem_of_getElem? hy)
      have HX := Lib.hid hxN
      have SN : Hid (((sortN N).take (j + 1)).map (peerC N width hh) = ((sortN N).take j).map (peerC N width hh) ++ [peerC N width hh x]) := Lib.hid (by rw [take_snocN _ j x hy, List.map_append]; rfl)
      have PQ : Hid (peerC N width hh x = ⟨x.id, (neighN N x.id 0).1.1, (neighN N x.id 0).1.2, contactsN N x.id width hh, (List.range hh).map (nearG N x)⟩) := Lib.hid (by have := peerC_eq HC.out width hh x; simpa using this)
      have hql : qs.length = j := by rw [own.2.1, List.length_map, List.length_take]; omega
      have hwi := ki.size
      have KI := Lib.hid ki
      have OWN := Lib.hid own
      clear hy own ki hxN hc3
      have B10 := Blk.new wi [.int .i64 x.id, .string x.key, .int .u32 x.word] 57
      have kk := Ex.new wi (.cells #[.int .i64 x.id, .string x.key, .int .u32 x.word] 57)
      obtain ⟨w4, hw4⟩ : ∃ w4, w4 = wi.alloc (.cells #[.int .i64 x.id, .string x.key, .int .u32 x.word] 57) := ⟨_, rfl⟩
      obtain ⟨g10, hg10⟩ : ∃ g10, g10 = wi.heap.size := ⟨_, rfl⟩
      replace B10 : Blk w4 g10 [.int .i64 x.id, .string x.key, .int .u32 x.word] 57 := by rw [hw4, hg10]; exact B10
      rw [← hw4] at kk
      have Hw4 := Lib.hid hw4
      have Hg10 := Lib.hid hg10
      have zg10 : wi.heap.size ≤ g10 := by omega
      have K4 := Lib.hid kk
      clear kk hw4 hg10
      go_upto_region 8 with fail
      rw [← Hg10.out, ← Hw4.out]
      clear Hg10 Hw4
      have q0 := B10.cell 0 _ rfl
      clear e0 e1 e2
      go_wp2_with fail
      (with_reducible refine (neigh_p _ _ _ N x.id 0 _ (h.out.nx (KI.out.nx K4.out)) hn hc hm HW.out (hT.out.nx (KI.out.nx K4.out))).mono ?_)
      rintro e w5 ⟨rfl, kk⟩
      replace B10 := B10.nx kk
      replace K4 := Lib.hid (K4.out.nx kk)
      clear kk q0
      generalize hL : (neighN N x.id 0).1.1 = nl at PQ ⊢
      generalize hR : (neighN N x.id 0).1.2 = nr at PQ ⊢
      clear hL hR
      have hz5 := K4.out.size
      have B11 := Blk.new w5 [.int .i64 nl, .int .i64 nr] 65
      have kk := Ex.new w5 (.cells #[.int .i64 nl, .int .i64 nr] 65)
      obtain ⟨w6, hw6⟩ : ∃ w6, w6 = w5.alloc (.cells #[.int .i64 nl, .int .i64 nr] 65) := ⟨_, rfl⟩
      obtain ⟨g11, hg11⟩ : ∃ g11, g11 = w5.heap.size := ⟨_, rfl⟩
      replace B11 : Blk w6 g11 [.int .i64 nl, .int .i64 nr] 65 := by rw [hw6, hg11]; exact B11
      rw [← hw6] at kk
      have Hw6 := Lib.hid hw6
      have Hg11 := Lib.hid hg11
      replace B10 := B10.nx kk
      replace K4 := Lib.hid (K4.out.nx kk)
      have zg11 : wi.heap.size ≤ g11 := by have := hz5; omega
      clear kk hw6 hg11
      go_upto_region 9 with fail
      rw [← Hg11.out, ← Hw6.out]
      clear Hg11 Hw6
      replace B11 := Lib.hid B11
      replace B10 := Lib.hid B10
      have SK := Lib.hid (S3.out.nx (KI.out.nx K4.out))
      have hz6 := K4.out.size
      go_cut [13] from 41 to 53 (fun s13 wx => PcRel N x width hh nl nr wi.heap.size w6 s13 wx)
      case first =>
        refine wp_region_late_drew (S := Ex w6) [14] (by kernel_rfl) ((Ex.refl w6).drew) (fun hHeld => ?_)
        obtain ⟨wd, hwdx⟩ : ∃ wd : World, wd = World.drew w6 := ⟨_, rfl⟩
        rw [← hwdx] at hHeld ⊢
        have hDrew : Ex w6 wd := by rw [hwdx]; exact (Ex.refl w6).drew
        clear hwdx
        refine wpAnyL_take (i := 0) (oi := ⟨some 41, .fieldAddr 57 (.tmp 10) 0, 0, "redundant.go:86", #[], none⟩) (v := ?_) rfl (by kernel_rfl) (by kernel_rfl) (by kernel_rfl) (fun _ _ _ h => h) (Or.inl ⟨by rfl, ?hyr1x0q5⟩) (by kernel_rfl) (by kernel_rfl) (by assumption) ?restr1x0q5
        case hyr1x0q5 => intro wq hSw; (go_simp); (try with_reducible rfl)
        try simp only [Act.put, List.setIfInBounds_toArray, List.set_cons_zero, List.set_cons_succ]
        refine wpAnyL_take (i := 1) (oi := ⟨some 42, .load 3 (.tmp 41), 3, "redundant.go:86", #[⟨0, .data⟩], none⟩) (v := ?_) rfl (by kernel_rfl) (by kernel_rfl) (by kernel_rfl) (fun _ _ _ h => h) (Or.inl ⟨by rfl, ?hyr1x1q8⟩) (by kernel_rfl) (by kernel_rfl) (by assumption) ?restr1x1q8
        case hyr1x1q8 => intro wq hSw; (have cq := (B10.out.nx hSw).cell 0 _ rfl; go_simp); (try with_reducible rfl)
        try simp only [Act.put, List.setIfInBounds_toArray, List.set_cons_zero, List.set_cons_succ]
        refine wpAnyL_take (i := 2) (oi := ⟨some 43, .move (.tmp 0), 23, "redundant.go:86", #[], none⟩) (v := ?_) rfl (by kernel_rfl) (by kernel_rfl) (by kernel_rfl) (fun _ _ _ h => h) (Or.inl ⟨by rfl, ?hyr1x2q11⟩) (by kernel_rfl) (by kernel_rfl) (by assumption) ?restr1x2q11
        case hyr1x2q11 => intro wq hSw; (go_simp); (try with_reducible rfl)
        try simp only [Act.put, List.setIfInBounds_toArray, List.set_cons_zero, List.set_cons_succ]
        refine wpAnyL_take (i := 3) (oi := ⟨some 44, .fieldAddr 57 (.tmp 10) 0, 0, "redundant.go:86", #[], none⟩) (v := ?_) rfl (by kernel_rfl) (by kernel_rfl) (by kernel_rfl) (fun _ _ _ h => h) (Or.inl ⟨by rfl, ?hyr1x3q14⟩) (by kernel_rfl) (by kernel_rfl) (by assumption) ?restr1x3q14
        case hyr1x3q14 => intro wq hSw; (go_simp); (try with_reducible rfl)
        try simp only [Act.put, List.setIfInBounds_toArray, List.set_cons_zero, List.set_cons_succ]
        refine wpAnyL_take (i := 4) (oi := ⟨some 45, .load 3 (.tmp 44), 3, "redundant.go:86", #[⟨3, .data⟩], none⟩) (v := ?_) rfl (by kernel_rfl) (by kernel_rfl) (by kernel_rfl) (fun _ _ _ h => h) (Or.inl ⟨by rfl, ?hyr1x4q17⟩) (by kernel_rfl) (by kernel_rfl) (by assumption) ?restr1x4q17
        case hyr1x4q17 => intro wq hSw; (have cq := (B10.out.nx hSw).cell 0 _ rfl; go_simp); (try with_reducible rfl)
        try simp only [Act.put, List.setIfInBounds_toArray, List.set_cons_zero, List.set_cons_succ]
        refine wpAnyL_take (i := 5) (oi := ⟨some 46, .move (.tmp 1), 3, "redundant.go:86", #[], none⟩) (v := ?_) rfl (by kernel_rfl) (by kernel_rfl) (by kernel_rfl) (fun _ _ _ h => h) (Or.inl ⟨by rfl, ?hyr1x5q20⟩) (by kernel_rfl) (by kernel_rfl) (by assumption) ?restr1x5q20
        case hyr1x5q20 => intro wq hSw; (go_simp); (try with_reducible rfl)
        try simp only [Act.put, List.setIfInBounds_toArray, List.set_cons_zero, List.set_cons_succ]
        refine wpAnyL_take (i := 6) (oi := ⟨some 47, .move (.tmp 2), 3, "redundant.go:86", #[], none⟩) (v := ?_) rfl (by kernel_rfl) (by kernel_rfl) (by kernel_rfl) (fun _ _ _ h => h) (Or.inl ⟨by rfl, ?hyr1x6q23⟩) (by kernel_rfl) (by kernel_rfl) (by assumption) ?restr1x6q23
        case hyr1x6q23 => intro wq hSw; (go_simp); (try with_reducible rfl)
        try simp only [Act.put, List.setIfInBounds_toArray, List.set_cons_zero, List.set_cons_succ]
        refine wpAnyL_take (i := 8) (oi := ⟨some 49, .fieldAddr 65 (.tmp 11) 0, 0, "redundant.go:86", #[], none⟩) (v := ?_) rfl (by kernel_rfl) (by kernel_rfl) (by kernel_rfl) (fun _ _ _ h => h) (Or.inl ⟨by rfl, ?hyr1x8q26⟩) (by kernel_rfl) (by kernel_rfl) (by assumption) ?restr1x8q26
        case hyr1x8q26 => intro wq hSw; (go_simp); (try with_reducible rfl)
        try simp only [Act.put, List.setIfInBounds_toArray, List.set_cons_zero, List.set_cons_succ]
        refine wpAnyL_take (i := 9) (oi := ⟨some 50, .load 3 (.tmp 49), 3, "redundant.go:86", #[⟨8, .data⟩], none⟩) (v := ?_) rfl (by kernel_rfl) (by kernel_rfl) (by kernel_rfl) (fun _ _ _ h => h) (Or.inl ⟨by rfl, ?hyr1x9q29⟩) (by kernel_rfl) (by kernel_rfl) (by assumption) ?restr1x9q29
        case hyr1x9q29 => intro wq hSw; (have cq := (B11.out.nx hSw).cell 0 _ rfl; go_simp); (try with_reducible rfl)
        try simp only [Act.put, List.setIfInBounds_toArray, List.set_cons_zero, List.set_cons_succ]
        refine wpAnyL_take (i := 10) (oi := ⟨some 51, .fieldAddr 65 (.tmp 11) 1, 0, "redundant.go:86", #[], none⟩) (v := ?_) rfl (by kernel_rfl) (by kernel_rfl) (by kernel_rfl) (fun _ _ _ h => h) (Or.inl ⟨by rfl, ?hyr1x10q32⟩) (by kernel_rfl) (by kernel_rfl) (by assumption) ?restr1x10q32
        case hyr1x10q32 => intro wq hSw; (go_simp); (try with_reducible rfl)
        try simp only [Act.put, List.setIfInBounds_toArray, List.set_cons_zero, List.set_cons_succ]
        refine wpAnyL_take (i := 11) (oi := ⟨some 52, .load 3 (.tmp 51), 3, "redundant.go:86", #[⟨10, .data⟩], none⟩) (v := ?_) rfl (by kernel_rfl) (by kernel_rfl) (by kernel_rfl) (fun _ _ _ h => h) (Or.inl ⟨by rfl, ?hyr1x11q35⟩) (by kernel_rfl) (by kernel_rfl) (by assumption) ?restr1x11q35
        case hyr1x11q35 => intro wq hSw; (have cq := (B11.out.nx hSw).cell 1 _ rfl; go_simp); (try with_reducible rfl)
        try simp only [Act.put, List.setIfInBounds_toArray, List.set_cons_zero, List.set_cons_succ]
        refine wpAnyL_ready (rs := [7, 13]) (by kernel_rfl) (by simp) ?_
        refine AllReadyL.cons (o := ⟨some 48, .call { callee := .value (.func 89), args := #[.tmp 43, .tmp 45, .tmp 46, .tmp 47], argTypes := #[23, 3, 3, 3] }, 22, "redundant.go:86", #[⟨2, .data⟩, ⟨4, .data⟩, ⟨5, .data⟩, ⟨6, .data⟩], none⟩) rfl (fun K hK => ?_) ?_
        · go_simp
          (with_reducible refine (contacts_p _ _ _ N x.id width hh _ (h.out.nx (KI.out.nx (K4.out.nx hHeld))) hn hc hm HW.out (hT.out.nx (KI.out.nx (K4.out.nx hHeld)))).mono ?_)
          rintro e wz ⟨vc, rfl, own2, kk⟩
          (try replace B13 := B13.nx kk)
          obtain ⟨A2, C2, rfl, _, _, _, _⟩ := own2.slf (fun _ => rfl)
          replace own2 := own2.base (Nat.le_trans hz6 hHeld.size)
          replace hHeld := hHeld.nx kk
          clear kk
          refine hK.out _ _ (hHeld) (fun hHeld => ?_)
          clear hK K
          try simp only [Act.put, List.setIfInBounds_toArray, List.set_cons_zero, List.set_cons_succ]
          refine wpAnyL_take (i := 12) (oi := ⟨some 53, .build 45 #[(0, .tmp 42), (1, .tmp 48), (2, .tmp 50), (3, .tmp 52)], 45, "redundant.go:86", #[⟨1, .data⟩, ⟨7, .data⟩, ⟨9, .data⟩, ⟨11, .data⟩], none⟩) (v := ?_) rfl (by kernel_rfl) (by kernel_rfl) (by kernel_rfl) (fun _ _ _ h => h) (Or.inl ⟨by rfl, ?hyr1x12q51⟩) (by kernel_rfl) (by kernel_rfl) (by assumption) ?restr1x12q51
          case hyr1x12q51 => intro wq hSw; (go_simp); (try with_reducible rfl)
          try simp only [Act.put, List.setIfInBounds_toArray, List.set_cons_zero, List.set_cons_succ]
          refine wpAnyL_ready (rs := [13]) (by kernel_rfl) (by simp) ?_
          refine AllReadyL.cons (o := ⟨some 13, .alloc 45, 0, "redundant.go:86", #[], none⟩) rfl (fun K hK => ?_) AllReadyL.nil
          go_simp
          have z13 := hHeld.size
          obtain ⟨g13, wz, hg13, hwz, B13, kk⟩ := newPr hHeld
          rw [← hg13, ← hwz]
          have zg13 : w6.heap.size ≤ g13 := by omega
          clear hg13 hwz z13
          (try replace own2 := own2.nx kk)
          replace hHeld := hHeld.nx kk
          clear kk
          refine hK.out _ _ (hHeld) (fun hHeld => ?_)
          clear hK K
          try simp only [Act.put, List.setIfInBounds_toArray, List.set_cons_zero, List.set_cons_succ]
          refine wpAnyL_ready (rs := [14]) (by kernel_rfl) (by simp) ?_
          refine AllReadyL.consL (o := ⟨none, .store 45 (.tmp 13) (.tmp 53), 0, "redundant.go:86", #[⟨13, .data⟩, ⟨12, .data⟩, ⟨7, .chain⟩, ⟨0, .phase⟩, ⟨1, .phase⟩, ⟨2, .phase⟩, ⟨3, .phase⟩, ⟨4, .phase⟩, ⟨5, .phase⟩, ⟨6, .phase⟩, ⟨7, .phase⟩, ⟨8, .phase⟩, ⟨9, .phase⟩, ⟨10, .phase⟩, ⟨11, .phase⟩, ⟨12, .phase⟩, ⟨13, .phase⟩], none⟩) rfl (by rfl) (fun K hK => ?_) AllReadyL.nil
          have c0 := B13.cell 0 _ rfl
          have c1 := B13.cell 1 _ rfl
          have c2 := B13.cell 2 _ rfl
          have c3 := B13.cell 3 _ rfl
          have c4 := B13.cell 4 _ rfl
          have f0 := B13.free 0
          have f1 := B13.free 1
          have f2 := B13.free 2
          have f3 := B13.free 3
          have f4 := B13.free 4
          go_simp
          clear c0 c1 c2 c3 c4 f0 f1 f2 f3 f4
          refine hK.out _ _ ?_
          clear hK K
          try simp only [Act.put, List.setIfInBounds_toArray, List.set_cons_zero, List.set_cons_succ]
          refine wpAnyL_done (by kernel_rfl) ?_ _
          obtain ⟨wk, hwk⟩ : ∃ wk, wk = ((((wz.setCell ⟨g13, 0, none⟩ (.int .i64 x.id)).setCell ⟨g13, 1, none⟩ (.slice A2 (contactsN N x.id width hh).length C2)).setCell ⟨g13, 2, none⟩ (.int .i64 nl)).setCell ⟨g13, 3, none⟩ (.int .i64 nr)).setCell ⟨g13, 4, none⟩ (.slice none 0 0) := ⟨_, rfl⟩
          rw [← hwk]
          have BP : Blk wk g13 [.int .i64 x.id, .slice A2 (contactsN N x.id width hh).length C2, .int .i64 nl, .int .i64 nr, .slice none 0 0] 45 := by rw [hwk]; exact ((((B13.set 0 _).set 1 _).set 2 _).set 3 _).set 4 _
          have KB : Exb g13 wz wk := by rw [hwk]; exact (((((Exb.refl g13 wz).setB (p := ⟨g13, 0, none⟩) _ rfl).setB (p := ⟨g13, 1, none⟩) _ rfl).setB (p := ⟨g13, 2, none⟩) _ rfl).setB (p := ⟨g13, 3, none⟩) _ rfl).setB (p := ⟨g13, 4, none⟩) _ rfl
          have CUT := Lib.hid (show PcRel N x width hh nl nr wi.heap.size w6 (.pointer (some ⟨g13, 0, none⟩)) wk from ⟨g13, A2, C2, rfl, zg13, BP, own2.put B13 (by decide) KB, (Exl.nxb (b := g13) (w := w6) ⟨hHeld, zg13⟩ KB).1⟩)
          clear hwk B13 KB hHeld BP own2
          go_wp2_with fail
          go_meet
          exact CUT.out
        refine AllReadyL.cons (o := ⟨some 13, .alloc 45, 0, "redundant.go:86", #[], none⟩) rfl (fun K hK => ?_) AllReadyL.nil
        · go_simp
          have z13 := hHeld.size
          obtain ⟨g13, wz, hg13, hwz, B13, kk⟩ := newPr hHeld
          rw [← hg13, ← hwz]
          have zg13 : w6.heap.size ≤ g13 := by omega
          clear hg13 hwz z13
          (try replace own2 := own2.nx kk)
          replace hHeld := hHeld.nx kk
          clear kk
          refine hK.out _ _ (hHeld) (fun hHeld => ?_)
          clear hK K
          try simp only [Act.put, List.setIfInBounds_toArray, List.set_cons_zero, List.set_cons_succ]
          refine wpAnyL_ready (rs := [7]) (by kernel_rfl) (by simp) ?_
          refine AllReadyL.cons (o := ⟨some 48, .call { callee := .value (.func 89), args := #[.tmp 43, .tmp 45, .tmp 46, .tmp 47], argTypes := #[23, 3, 3, 3] }, 22, "redundant.go:86", #[⟨2, .data⟩, ⟨4, .data⟩, ⟨5, .data⟩, ⟨6, .data⟩], none⟩) rfl (fun K hK => ?_) AllReadyL.nil
          go_simp
          (with_reducible refine (contacts_p _ _ _ N x.id width hh _ (h.out.nx (KI.out.nx (K4.out.nx hHeld))) hn hc hm HW.out (hT.out.nx (KI.out.nx (K4.out.nx hHeld)))).mono ?_)
          rintro e wz ⟨vc, rfl, own2, kk⟩
          (try replace B13 := B13.nx kk)
          obtain ⟨A2, C2, rfl, _, _, _, _⟩ := own2.slf (fun _ => rfl)
          replace own2 := own2.base (Nat.le_trans hz6 hHeld.size)
          replace hHeld := hHeld.nx kk
          clear kk
          refine hK.out _ _ (hHeld) (fun hHeld => ?_)
          clear hK K
          try simp only [Act.put, List.setIfInBounds_toArray, List.set_cons_zero, List.set_cons_succ]
          refine wpAnyL_take (i := 12) (oi := ⟨some 53, .build 45 #[(0, .tmp 42), (1, .tmp 48), (2, .tmp 50), (3, .tmp 52)], 45, "redundant.go:86", #[⟨1, .data⟩, ⟨7, .data⟩, ⟨9, .data⟩, ⟨11, .data⟩], none⟩) (v := ?_) rfl (by kernel_rfl) (by kernel_rfl) (by kernel_rfl) (fun _ _ _ h => h) (Or.inl ⟨by rfl, ?hyr1x12q113⟩) (by kernel_rfl) (by kernel_rfl) (by assumption) ?restr1x12q113
          case hyr1x12q113 => intro wq hSw; (go_simp); (try with_reducible rfl)
          try simp only [Act.put, List.setIfInBounds_toArray, List.set_cons_zero, List.set_cons_succ]
          refine wpAnyL_ready (rs := [14]) (by kernel_rfl) (by simp) ?_
          refine AllReadyL.consL (o := ⟨none, .store 45 (.tmp 13) (.tmp 53), 0, "redundant.go:86", #[⟨13, .data⟩, ⟨12, .data⟩, ⟨7, .chain⟩, ⟨0, .phase⟩, ⟨1, .phase⟩, ⟨2, .phase⟩, ⟨3, .phase⟩, ⟨4, .phase⟩, ⟨5, .phase⟩, ⟨6, .phase⟩, ⟨7, .phase⟩, ⟨8, .phase⟩, ⟨9, .phase⟩, ⟨10, .phase⟩, ⟨11, .phase⟩, ⟨12, .phase⟩, ⟨13, .phase⟩], none⟩) rfl (by rfl) (fun K hK => ?_) AllReadyL.nil
          have c0 := B13.cell 0 _ rfl
          have c1 := B13.cell 1 _ rfl
          have c2 := B13.cell 2 _ rfl
          have c3 := B13.cell 3 _ rfl
          have c4 := B13.cell 4 _ rfl
          have f0 := B13.free 0
          have f1 := B13.free 1
          have f2 := B13.free 2
          have f3 := B13.free 3
          have f4 := B13.free 4
          go_simp
          clear c0 c1 c2 c3 c4 f0 f1 f2 f3 f4
          refine hK.out _ _ ?_
          clear hK K
          try simp only [Act.put, List.setIfInBounds_toArray, List.set_cons_zero, List.set_cons_succ]
          refine wpAnyL_done (by kernel_rfl) ?_ _
          obtain ⟨wk, hwk⟩ : ∃ wk, wk = ((((wz.setCell ⟨g13, 0, none⟩ (.int .i64 x.id)).setCell ⟨g13, 1, none⟩ (.slice A2 (contactsN N x.id width hh).length C2)).setCell ⟨g13, 2, none⟩ (.int .i64 nl)).setCell ⟨g13, 3, none⟩ (.int .i64 nr)).setCell ⟨g13, 4, none⟩ (.slice none 0 0) := ⟨_, rfl⟩
          rw [← hwk]
          have BP : Blk wk g13 [.int .i64 x.id, .slice A2 (contactsN N x.id width hh).length C2, .int .i64 nl, .int .i64 nr, .slice none 0 0] 45 := by rw [hwk]; exact ((((B13.set 0 _).set 1 _).set 2 _).set 3 _).set 4 _
          have KB : Exb g13 wz wk := by rw [hwk]; exact (((((Exb.refl g13 wz).setB (p := ⟨g13, 0, none⟩) _ rfl).setB (p := ⟨g13, 1, none⟩) _ rfl).setB (p := ⟨g13, 2, none⟩) _ rfl).setB (p := ⟨g13, 3, none⟩) _ rfl).setB (p := ⟨g13, 4, none⟩) _ rfl
          have CUT := Lib.hid (show PcRel N x width hh nl nr wi.heap.size w6 (.pointer (some ⟨g13, 0, none⟩)) wk from ⟨g13, A2, C2, rfl, zg13, BP, own2.put B13 (by decide) KB, (Exl.nxb (b := g13) (w := w6) ⟨hHeld, zg13⟩ KB).1⟩)
          clear hwk B13 KB hHeld BP own2
          go_wp2_with fail
          go_meet
          exact CUT.out
      case rest =>
        obtain ⟨g13, A2, C2, rfl, zg13, BP, own2, k6⟩ := hcut
        rename World => wk
        have zgi : wi.heap.size ≤ g13 := by have := K4.out.size; omega
        have KW := Lib.hid (K4.out.nx k6)
        have hgk := BP.lt
        have B10k := Lib.hid (B10.out.nx k6)
        clear k6
        go_wp2_with fail
        go_loopw [55] (fun p wr => PnRel N x hh g13 (.slice A2 (contactsN N x.id width hh).length C2) nl nr wk p wr) (fun p _ => hh - (intOf p).toNat)
        case atStart => exact ⟨0, none, 0, 0, by omega, rfl, BP, OwnL.nil _ _ _ _ _, Exb.refl _ _⟩
        case round =>
          obtain ⟨lev, A, m, cc, hlev, rfl, BR, nrow, kv⟩ := hrel
          obtain ⟨wp, rfl⟩ : ∃ wp : World, wp = wr := ⟨_, rfl⟩
          have O2 := Lib.hid (own2.put BP (by decide) kv)
          have KV := Lib.hid (Exl.nxb (b := g13) (w := wi) ⟨KW.out, zgi⟩ kv).1
          by_cases hl2 : lev < hh
          · have SP := Lib.hid (S3.out.nx (KI.out.nx KV.out))
            have KVV := Lib.hid kv
            have NSN : Hid ((List.range (lev + 1)).map (nearG N x) = (List.range lev).map (nearG N x) ++ [nearG N x lev]) := Lib.hid (by rw [List.range_succ, List.map_append]; rfl)
            have hrl : ((List.range lev).map (nearG N x)).length = lev := by simp
            generalize hyy : nearG N x lev = yy at NSN
            have HYY := Lib.hid hyy
            generalize (List.range lev).map (nearG N x) = row at nrow NSN hrl
            have BPP := Lib.hid BR
            have NROW := Lib.hid nrow
            have zk := kv.size
            have hi16 : lev < 16 := by omega
            clear hyy nrow kv BR BP own2
            have BN := Lib.hid (B10k.out.nxb (show g10 ≠ g13 by have := B10.out.lt; omega) KVV.out)
            have TV := Lib.hid (hT.out.nx (KI.out.nx KV.out))
            go_upto_region 13 with fail
            refine wp_region_late_drew (S := Ex wp) [7, 8, 9] (by kernel_rfl) ((Ex.refl wp).drew) (fun hHeld => ?_)
            obtain ⟨wd, hwdx⟩ : ∃ wd : World, wd = World.drew wp := ⟨_, rfl⟩
            rw [← hwdx] at hHeld ⊢
            have hDrew : Ex wp wd := by rw [hwdx]; exact (Ex.refl wp).drew
            clear hwdx
            refine wpAnyL_take (i := 0) (oi := ⟨some 58, .fieldAddr 45 (.tmp 13) 4, 0, "redundant.go:88", #[], none⟩) (v := ?_) rfl (by kernel_rfl) (by kernel_rfl) (by kernel_rfl) (fun _ _ _ h => h) (Or.inl ⟨by rfl, ?hyr2x0q5⟩) (by kernel_rfl) (by kernel_rfl) (by assumption) ?restr2x0q5
            case hyr2x0q5 => intro wq hSw; (go_simp); (try with_reducible rfl)
            try simp only [Act.put, List.setIfInBounds_toArray, List.set_cons_zero, List.set_cons_succ]
            refine wpAnyL_take (i := 1) (oi := ⟨some 59, .load 43 (.tmp 58), 43, "redundant.go:88", #[⟨0, .data⟩], none⟩) (v := ?_) rfl (by kernel_rfl) (by kernel_rfl) (by kernel_rfl) (fun _ _ _ h => h) (Or.inl ⟨by rfl, ?hyr2x1q8⟩) (by kernel_rfl) (by kernel_rfl) (by assumption) ?restr2x1q8
            case hyr2x1q8 => intro wq hSw; (have cq := (BPP.out.nx hSw).cell 4 _ rfl; go_simp); (try with_reducible rfl)
            try simp only [Act.put, List.setIfInBounds_toArray, List.set_cons_zero, List.set_cons_succ]
            refine wpAnyL_take (i := 2) (oi := ⟨some 60, .move (.tmp 7), 23, "redundant.go:88", #[], none⟩) (v := ?_) rfl (by kernel_rfl) (by kernel_rfl) (by kernel_rfl) (fun _ _ _ h => h) (Or.inl ⟨by rfl, ?hyr2x2q11⟩) (by kernel_rfl) (by kernel_rfl) (by assumption) ?restr2x2q11
            case hyr2x2q11 => intro wq hSw; (go_simp); (try with_reducible rfl)
            try simp only [Act.put, List.setIfInBounds_toArray, List.set_cons_zero, List.set_cons_succ]
            refine wpAnyL_take (i := 3) (oi := ⟨some 61, .load 57 (.tmp 10), 57, "redundant.go:88", #[], none⟩) (v := ?_) rfl (by kernel_rfl) (by kernel_rfl) (by kernel_rfl) (fun _ _ _ h => h) (Or.inl ⟨by rfl, ?hyr2x3q14⟩) (by kernel_rfl) (by kernel_rfl) (by assumption) ?restr2x3q14
            case hyr2x3q14 => intro wq hSw; (have B := BN.out.nx hSw; have c0 := B.cell 0 _ rfl; have c1 := B.cell 1 _ rfl; have c2 := B.cell 2 _ rfl; go_simp); (try with_reducible rfl)
            try simp only [Act.put, List.setIfInBounds_toArray, List.set_cons_zero, List.set_cons_succ]
            refine wpAnyL_take (i := 4) (oi := ⟨some 62, .move (.tmp 14), 3, "redundant.go:88", #[], none⟩) (v := ?_) rfl (by kernel_rfl) (by kernel_rfl) (by kernel_rfl) (fun _ _ _ h => h) (Or.inl ⟨by rfl, ?hyr2x4q17⟩) (by kernel_rfl) (by kernel_rfl) (by assumption) ?restr2x4q17
            case hyr2x4q17 => intro wq hSw; (go_simp); (try with_reducible rfl)
            try simp only [Act.put, List.setIfInBounds_toArray, List.set_cons_zero, List.set_cons_succ]
            refine wpAnyL_ready (rs := [5]) (by kernel_rfl) (by simp) ?_
            refine AllReadyL.cons (o := ⟨some 63, .call { callee := .value (.func 90), args := #[.tmp 60, .tmp 61, .tmp 62], argTypes := #[23, 57, 3] }, 49, "redundant.go:88", #[⟨2, .data⟩, ⟨3, .data⟩, ⟨4, .data⟩], none⟩) rfl (fun K hK => ?_) AllReadyL.nil
            go_simp
            (with_reducible refine (near_p _ _ _ N x lev _ (SP.out.nx hHeld) hn HC.out HW.out HX.out hi16 (TV.out.nx hHeld)).mono ?_)
            rintro e wq ⟨rfl, kk⟩
            rw [HYY.out]
            simp only [encNr]
            replace hHeld := hHeld.nx kk
            clear kk
            refine hK.out _ _ (hHeld) (fun hHeld => ?_)
            clear hK K
            try simp only [Act.put, List.setIfInBounds_toArray, List.set_cons_zero, List.set_cons_succ]
            refine wpAnyL_ready (rs := [6]) (by kernel_rfl) (by simp) ?_
            refine AllReadyL.cons (o := ⟨some 64, .buildSlice 43 1 #[(0, .tmp 63)], 43, "redundant.go:88", #[⟨5, .data⟩], none⟩) rfl (fun K hK => ?_) AllReadyL.nil
            go_simp
            obtain ⟨g8, wq2, hg8, hwq2, SX, kk⟩ := litN4 hHeld yy
            rw [← hg8, ← hwq2]
            replace hHeld := hHeld.nx kk
            clear hg8 hwq2 kk
            refine hK.out _ _ (hHeld) (fun hHeld => ?_)
            clear hK K
            try simp only [Act.put, List.setIfInBounds_toArray, List.set_cons_zero, List.set_cons_succ]
            refine wpAnyL_ready (rs := [7]) (by kernel_rfl) (by simp) ?_
            refine AllReadyL.consL (o := ⟨some 65, .call { callee := .builtin .append, args := #[.tmp 59, .tmp 64], argTypes := #[43, 43] }, 43, "redundant.go:88", #[⟨1, .data⟩, ⟨6, .data⟩, ⟨5, .chain⟩], none⟩) rfl (by rfl) (fun K hK => ?_) AllReadyL.nil
            rw [if_pos (by rfl)]
            have own4 := NROW.out.nx hHeld
            refine wp_append_rd (enc := encNr) _ (.tmp 59) (.tmp 64) 43 rfl wk.heap.size 49 (.agg #[.int .i64 0, .int .i64 0, .int .i64 0, .int .i64 0]) 4 32 Tryz.underlying43 Tryz.infoNr rfl (by omega) (by omega) _ row own4 rfl _ _ 1 1 [yy] SX (fun h => by cases h) (fun _ => rfl) (by simp [encNr, Value.oneCell']) rfl (by omega) (by omega) (Nat.le_trans zk hHeld.size) ?_
            intro v9 wz own9 ch0 ch1
            obtain ⟨A9, C9, e9, _⟩ := own9.rd (fun _ => rfl)
            rw [show (row ++ [yy]).length = lev + 1 by rw [List.length_append, hrl]; rfl] at e9
            subst e9
            have BZ := (BPP.out.nx hHeld).low hgk ch1
            have KQ : Exb g13 wk wz := KVV.out.nxb' (hHeld.b g13) ch1
            refine hK.out _ _ ?_
            clear hK K
            try simp only [Act.put, List.setIfInBounds_toArray, List.set_cons_zero, List.set_cons_succ]
            refine wpAnyL_ready (rs := [8]) (by kernel_rfl) (by simp) ?_
            refine AllReadyL.consL (o := ⟨some 66, .fieldAddr 45 (.tmp 13) 4, 0, "redundant.go:88", #[⟨0, .phase⟩, ⟨1, .phase⟩, ⟨2, .phase⟩, ⟨3, .phase⟩, ⟨4, .phase⟩, ⟨5, .phase⟩, ⟨6, .phase⟩, ⟨7, .phase⟩], none⟩) rfl (by rfl) (fun K hK => ?_) AllReadyL.nil
            go_simp
            refine hK.out _ _ ?_
            clear hK K
            try simp only [Act.put, List.setIfInBounds_toArray, List.set_cons_zero, List.set_cons_succ]
            refine wpAnyL_ready (rs := [9]) (by kernel_rfl) (by simp) ?_
            refine AllReadyL.consL (o := ⟨none, .store 43 (.tmp 66) (.tmp 65), 0, "redundant.go:88", #[⟨8, .data⟩, ⟨7, .data⟩, ⟨7, .chain⟩, ⟨0, .phase⟩, ⟨1, .phase⟩, ⟨2, .phase⟩, ⟨3, .phase⟩, ⟨4, .phase⟩, ⟨5, .phase⟩, ⟨6, .phase⟩, ⟨7, .phase⟩], none⟩) rfl (by rfl) (fun K hK => ?_) AllReadyL.nil
            have c4 := BZ.cell 4 _ rfl
            have f4 := BZ.free 4
            go_simp
            clear c4 f4
            refine hK.out _ _ ?_
            clear hK K
            try simp only [Act.put, List.setIfInBounds_toArray, List.set_cons_zero, List.set_cons_succ]
            refine wpAnyL_done (by kernel_rfl) ?_ _
            have BY := BZ.set 4 (.slice A9 (lev + 1) C9)
            have K9 : Exb g13 wk (wz.setCell ⟨g13, 4, none⟩ (.slice A9 (lev + 1) C9)) := KQ.setB (p := ⟨g13, 4, none⟩) _ rfl
            have own8 := Lib.hid (own9.put BZ (by decide) ((Exb.refl g13 wz).setB (p := ⟨g13, 4, none⟩) (.slice A9 (lev + 1) C9) rfl))
            have RR := Lib.hid (show PnRel N x hh g13 (.slice A2 (contactsN N x.id width hh).length C2) nl nr wk (.int .i64 ((lev : Int) + 1)) (wz.setCell ⟨g13, 4, none⟩ (.slice A9 (lev + 1) C9)) from ⟨lev + 1, A9, _, C9, by omega, by go_num, BY, by rw [NSN.out]; exact own8.out, K9⟩)
            clear BY K9 own8 own9 BZ KQ ch0 ch1 hHeld own4 SX
            go_wp2_with fail
            exact ⟨RR.out, by simp [intOf]; omega⟩
          · obtain rfl : lev = hh := by omega
            have p0 := BR.cell 0 _ rfl
            have p1 := BR.cell 1 _ rfl
            have p2 := BR.cell 2 _ rfl
            have p3 := BR.cell 3 _ rfl
            have p4 := BR.cell 4 _ rfl
            have OP := Lib.hid (OWN.out.nx KV.out)
            have KN := KV.out.nx (Ex.new _ (.cells #[.int .i64 x.id, .slice A2 (contactsN N x.id width lev).length C2, .int .i64 nl, .int .i64 nr, .slice A m cc] 45))
            have zn := Nat.le_trans hwi KN.size
            have zwk := Lib.hid (nrow.base (KW.out.size))
            clear BR nrow kv hlev hl2 BP own2
            go_wp2_with (at_builtin; (refine wpList_append_W (enc := encQ) _ rfl _ _ 24 rfl w3.heap.size 45 (.agg #[.int .i64 0, .slice none 0 0, .int .i64 0, .int .i64 0, .slice none 0 0]) 5 72 Tryz.underlying24 Tryz.infoPr rfl (by omega) (by omega) _ qs (OP.out.nx (Ex.new _ _)).row rfl _ 1 1 [((x.id, nl, nr), (A2, (contactsN N x.id width lev).length, C2), (A, m, cc))] (Sl.lit _ rfl rfl encQ_len rfl) encQ_len encQ_one rfl (by omega) (by omega) zn ?_); intro v9 w9 own9 ch0 ch1 _)
            have RR := OWN.out.app (p := peerC N width lev x) (hk := (A2, (contactsN N x.id width lev).length, C2)) (hn := (A, m, cc)) (by decide) (by decide) hwi KN (by rw [PQ.out]; exact (O2.out.nx (Ex.new _ _))) (by rw [PQ.out]; exact (zwk.out.nx (Ex.new _ _))) (by rw [PQ.out]; exact own9) ch0
            exact ⟨⟨j + 1, _, by omega, by go_num, by rw [SN.out]; exact RR, Chg.trans (KI.out.nx KN) ch1⟩, by simp [intOf]; omega⟩
    · obtain rfl : j = n := by omega
      rw [List.take_of_length_le (by omega)] at own
      have O := Lib.hid (own.lower EX.out.size)
      have KE := Lib.hid (EX.out.nx ki)
      clear own ki hj hjm
      go_wp2_with fail
      go_ret
      exact ⟨_, qs, rfl, by rw [FIN.out]; exact O.out, KE.out⟩

end Go.Proofs.YtbnbjiddffihoaaGreatDoor
