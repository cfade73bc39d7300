/- Texts for the statement RedundantRefsProof, part 5 of 10: RedB, RedD, PrR, ApW, RedE, Lat, RedF, RedG. -/
import Derived.BigRegion
import Derived.Test.YtbnbjiddffihoaaDoorRedundantRefsProofPk1
import Derived.Test.YtbnbjiddffihoaaDoorRedundantRefsProofPk3
import Derived.Test.YtbnbjiddffihoaaDoorRedundantRefsProofPk4

/- Contacts of the package redundant. -/
namespace Go.Proofs.YtbnbjiddffihoaaDoor
open Go.RowKit Go.Maps

set_option maxRecDepth 100000 in
set_option maxHeartbeats 2000000 in
/-- the place of a node in a list in which no earlier one has its number -/
theorem index_n (a : Option Addr) (n c : Nat) (l : List Nd) (x : Nd) (k0 : Nat) (w : World) (h : Sl 3 encN w a n l) (hn : n ≤ 1000) (hk0 : l[k0]? = some x) (hno : ∀ j z, j < k0 → l[j]? = some z → z.id ≠ x.id) :
    Calls Tryd.prog 91 #[.slice a n c, .agg #[.int .i64 x.id, .string x.key, .int .u32 x.word]] w fun e w' => e = .returned (.int .i64 k0) ∧ Ex w w' := by
  have HNO := Lib.hid hno
  have HK0 := Lib.hid hk0
  have hk0n : k0 < n := by have := (List.getElem?_eq_some_iff.1 hk0).1; have := h.len; omega
  have EX := Ex.refl w
  have B3 := Blk.new w [.int .i64 x.id, .string x.key, .int .u32 x.word] 52
  have kk := Ex.new w (.cells #[.int .i64 x.id, .string x.key, .int .u32 x.word] 52)
  obtain ⟨w1, hw1⟩ : ∃ w1, w1 = w.alloc (.cells #[.int .i64 x.id, .string x.key, .int .u32 x.word] 52) := ⟨_, rfl⟩
  obtain ⟨g3, hg3⟩ : ∃ g3, g3 = w.heap.size := ⟨_, rfl⟩
  replace B3 : Blk w1 g3 [.int .i64 x.id, .string x.key, .int .u32 x.word] 52 := by rw [hw1, hg3]; exact B3
  rw [← hw1] at kk
  have Hw1 := Lib.hid hw1
  have Hg3 := Lib.hid hg3
  replace h := h.nx kk
  replace EX := EX.nx kk
  clear kk hw1 hg3
  have HS := Lib.hid h
  have EX := Lib.hid EX
  clear hno hk0 h
  go_enter Tryd.func91, Tryd.ntmps91
  go_upto_region 1 with fail
  rw [← Hg3.out, ← Hw1.out]
  clear Hg3 Hw1
  have HB := Lib.hid B3
  clear B3
  go_wp2_with fail
  go_loopw [8] (fun i wr => ∃ j : Nat, j ≤ k0 ∧ i = .int .i64 j ∧ Ex w1 wr) (fun i _ => n - (intOf i).toNat)
  case atStart => exact ⟨0, by omega, rfl, Ex.refl _⟩
  case round =>
    obtain ⟨j, hj, rfl, kw⟩ := hrel
    obtain ⟨wo, rfl⟩ : ∃ wo : World, wo = wr := ⟨_, rfl⟩
    obtain ⟨x1, o1, y, rfl, hx1, hy, hc1⟩ := (HS.out.nx kw).at (j := j) (by omega)
    have e0 : wo.cell? ⟨x1, o1 + j * 3, none⟩ = some (.int .i64 y.id) := hc1 0 _ rfl
    have e1 : wo.cell? ⟨x1, o1 + j * 3 + 1, none⟩ = some (.string y.key) := hc1 1 _ rfl
    have e2 : wo.cell? ⟨x1, o1 + j * 3 + 1 + 1, none⟩ = some (.int .u32 y.word) := by simpa [Nat.add_assoc] using hc1 2 _ rfl
    have B := HB.out.nx kw
    have q0 := B.cell 0 _ rfl
    have q1 := B.cell 1 _ rfl
    have q2 := B.cell 2 _ rfl
    have KW := Lib.hid (EX.out.nx kw)
    have KV := Lib.hid kw
    by_cases hlt : j = k0
    · subst hlt
      obtain rfl : y = x := Option.some.inj (hy.symm.trans HK0.out)
      clear hc1 hy kw B
      go_wp2_with fail
      go_quiet (fail)
      go_wp2_with fail
      go_ret
      exact ⟨rfl, KW.out.drewN _⟩
    · have hb : (x.id == y.id) = false := by
        have := HNO.out j y (by omega) hy
        rw [beq_eq_false_iff_ne]
        exact fun h => this h.symm
      clear hc1 hy kw B
      go_wp2_with fail
      go_quiet (fail)
      go_wp2_with fail
      exact ⟨⟨j + 1, by omega, by go_num, KV.out.drewN _⟩, by simp [intOf]; omega⟩

/-- Group, in the standard forms -/
theorem group_q (a : Option Addr) (n cap : Nat) (l : List Nd) (h : Int) (v : Nat) (w : World) (hs : Sl 3 encN w a n l) (hn : n ≤ 1000) (hw : ∀ x ∈ l, x.word < 4294967296) (hv : v < 4294967296) (hT : TabG w) :
    Calls Tryd.prog 90 #[.slice a n cap, .int .i64 h, .int .u32 v] w fun e w' => ∃ a' c', e = .returned (.slice a' (groupN l h v).length c') ∧ Slf 3 encN w w' a' (groupN l h v).length (groupN l h v) ∧ Ex w w' := by
  refine (group_p (S := (· < w.heap.size)) a n cap l h v w hs (fun _ hk => hk) hn hw hv hT).mono ?_
  rintro e w' ⟨a', n', c', rfl, r, k⟩
  obtain rfl : (groupN l h v).length = n' := r.1
  exact ⟨a', c', rfl, r, k⟩

/-- the numbers beside a place, of the first j nodes of a list -/
def besP (g : List Nd) (k : Nat) (m : Int) (j : Nat) : List Int := ((g.zipIdx.take j).filter fun q => decide (q.2 ≠ k) && decide ((q.2 : Int) - k ≤ m) && decide ((k : Int) - q.2 ≤ m)).map fun q => q.1.id
theorem besP_snoc {g : List Nd} {k j : Nat} {m : Int} {y : Nd} (hy : g[j]? = some y) : besP g k m (j + 1) = besP g k m j ++ (if j ≠ k ∧ (j : Int) ≥ k - m ∧ (j : Int) ≤ k + m then [y.id] else []) := by
  unfold besP
  have hz : g.zipIdx[j]? = some (y, j) := by simp [List.getElem?_zipIdx, hy]
  rw [List.take_add_one, hz, List.filter_append, List.map_append]
  congr 1
  by_cases hp : j ≠ k ∧ (j : Int) ≥ k - m ∧ (j : Int) ≤ k + m
  · rw [if_pos hp]
    have : (decide (j ≠ k) && decide ((j : Int) - k ≤ m) && decide ((k : Int) - j ≤ m)) = true := by simp; omega
    simp only [Option.toList_some, List.filter_cons, this, if_true, List.filter_nil, List.map_cons, List.map_nil]
  · rw [if_neg hp]
    have : (decide (j ≠ k) && decide ((j : Int) - k ≤ m) && decide ((k : Int) - j ≤ m)) = false := by
      rw [Bool.eq_false_iff]
      intro h
      simp at h
      omega
    simp only [Option.toList_some, List.filter_cons, this, List.filter_nil, List.map_nil]
    rfl
theorem besP_all (g : List Nd) (k : Nat) (m : Int) : besP g k m g.length = besideN g k m := by
  unfold besP besideN
  rw [List.take_of_length_le (by simp)]
theorem besP_len (g : List Nd) (k : Nat) (m : Int) (j : Nat) : (besP g k m j).length ≤ g.length := by
  unfold besP
  rw [List.length_map]
  have := List.length_filter_le (fun q : Nd × Nat => decide (q.2 ≠ k) && decide ((q.2 : Int) - k ≤ m) && decide ((k : Int) - q.2 ≤ m)) (g.zipIdx.take j)
  rw [List.length_take, List.length_zipIdx] at this
  omega
/-- the numbers of all levels below i -/
def conS (N : List Nd) (x : Nd) (m : Int) (i : Nat) : List Int := (List.range i).flatMap fun h : Nat => besideN (grpS N h x.word) (idxI (grpS N h x.word) x.id) m
theorem conS_snoc (N : List Nd) (x : Nd) (m : Int) (i : Nat) : conS N x m (i + 1) = conS N x m i ++ besideN (grpS N i x.word) (idxI (grpS N i x.word) x.id) m := by
  unfold conS
  rw [List.range_succ, List.flatMap_append]
  simp
theorem grpS_le (N : List Nd) (h : Int) (v : Nat) : (grpS N h v).length ≤ N.length := by
  unfold grpS
  have := groupN_length (sortN N) h v
  rw [sortN_length] at this
  exact this
theorem beside_le (g : List Nd) (k : Nat) (m : Int) : (besideN g k m).length ≤ g.length := by
  rw [← besP_all]; exact besP_len _ _ _ _
theorem conS_len (N : List Nd) (x : Nd) (m : Int) (i : Nat) : (conS N x m i).length ≤ i * N.length := by
  induction i with
  | zero => simp [conS]
  | succ i ih =>
    rw [conS_snoc, List.length_append, Nat.succ_mul]
    have := beside_le (grpS N i x.word) (idxI (grpS N i x.word) x.id) m
    have := grpS_le N i x.word
    omega
theorem check_len {N : List Nd} (h0 : checkN N = 0) : N.length ≤ 64 := by
  unfold checkN at h0
  split at h0
  · cases h0
  · omega
theorem con_asc {N : List Nd} (h0 : checkN N = 0) {x : Nd} (hx : x ∈ N) {width height : Int} (hw : 1 ≤ width) (hh0 : 0 ≤ height) (hh : height ≤ 16) : ascN (sortN N) (conS N x (min width 64) (height.toNat + 1)) = contactsN N x.id width height := by
  have h64 := check_len h0
  unfold contactsN
  rw [if_neg (by
    rintro (h | h | h)
    · omega
    · unfold lvlN at h; simp at h; omega
    · exact h h0)]
  unfold ascN ordN
  congr 1
  refine List.filter_congr fun y hy => ?_
  have hy := (sortN_mem N y).1 hy
  rw [Bool.eq_iff_iff]
  simp only [Bool.and_eq_true, Bool.not_eq_true', beq_eq_false_iff_ne, List.contains_iff_mem, conS, List.mem_flatMap, List.mem_range]
  constructor
  · rintro ⟨i, hi, hb⟩
    obtain ⟨e1, e2⟩ := thr_at h0 hx (h := i) (by omega)
    obtain ⟨j, z, hz, h1, h2, h3, h4⟩ := mem_beside.1 hb
    have hzy : z = y := ids_eq (check_keys h0) (grp_mem.1 (List.mem_of_getElem? hz)).1 hy h4
    subst hzy
    refine ⟨fun he => h1 (grp_uniq h0 hz e2 he), i, hi, ?_⟩
    rw [e1]
    simp only
    exact mem_beside.2 ⟨j, z, hz, h1, by omega, by omega, rfl⟩
  · rintro ⟨hne, i, hi, hb⟩
    obtain ⟨e1, e2⟩ := thr_at h0 hx (h := i) (by omega)
    rw [e1] at hb
    simp only at hb
    obtain ⟨j, z, hz, h1, h2, h3, h4⟩ := mem_beside.1 hb
    have hj := (List.getElem?_eq_some_iff.1 hz).1
    have hk := (List.getElem?_eq_some_iff.1 e2).1
    have := grpS_le N i x.word
    exact ⟨i, hi, mem_beside.2 ⟨j, z, hz, h1, by omega, by omega, h4⟩⟩
theorem contacts_no {N : List Nd} {id width height : Int} (h : (findN N id).2 = false ∨ checkN N ≠ 0 ∨ width < 1 ∨ height < 0 ∨ 16 < height) : contactsN N id width height = [] := by
  unfold contactsN
  by_cases h1 : width < 1 ∨ lvlN height = false ∨ checkN N ≠ 0
  · rw [if_pos h1]
  · rw [if_neg h1]
    have hf : (findN N id).2 = false := by
      rcases h with h | h | h | h | h
      · exact h
      · exact absurd (.inr (.inr h)) h1
      · exact absurd (.inl h) h1
      · exact absurd (.inr (.inl (by unfold lvlN; simp; omega))) h1
      · exact absurd (.inr (.inl (by unfold lvlN; simp; omega))) h1
    have ht : ∀ i : Int, throughN N id i = ([], 0, false) := fun i => by
      unfold throughN
      rw [if_neg]
      rintro ⟨h1, _⟩
      rw [hf] at h1
      cases h1
    unfold ordN
    simp only [ht]
    have : (List.flatMap (fun h : Nat => besideN [] 0 width) (List.range (height.toNat + 1))) = [] := by
      rw [List.flatMap_eq_nil_iff]
      intro i _
      rfl
    rw [this]
    simp

def CoRel (N : List Nd) (x : Nd) (m : Int) (bm : Nat) (hh : Nat) (w : World) (i : Value) (wr : World) : Prop :=
  ∃ j : Nat, j ≤ hh ∧ i = .int .i64 j ∧ SetM Tryd.prog 3 4 wr bm (conS N x m j) ∧ Exb bm w wr
def CiRel (G : List Nd) (k : Nat) (m : Int) (C : List Int) (bm : Nat) (w : World) (i : Value) (wr : World) : Prop :=
  ∃ j : Nat, j ≤ G.length ∧ i = .int .i64 j ∧ SetM Tryd.prog 3 4 wr bm (C ++ besP G k m j) ∧ Exb bm w wr
set_option maxRecDepth 100000 in
set_option maxHeartbeats 8000000 in
theorem contacts_p (a : Option Addr) (n c : Nat) (N : List Nd) (id width height : Int) (w : World) (h : Sl 3 encN w a n N) (hn : n ≤ 1000) (hc : n ≤ c) (hm : c ≤ maxLen) (hw : ∀ x ∈ N, x.word < 4294967296) (hT : TabG w) :
    Calls Tryd.prog 51 #[.slice a n c, .int .i64 id, .int .i64 width, .int .i64 height] w (OiPost (contactsN N id width height) w) := by
  have HL := Lib.hid h.len
  have HXW := findN_word hw id
  have HW := Lib.hid (sort_word hw)
  have EX := Ex.refl w
  clear hw
  go_enter Tryd.func51, Tryd.ntmps51
  go_wp2_with fail
  (with_reducible refine (find_p _ _ _ _ id _ h (by omega)).mono ?_)
  rintro e w1 ⟨rfl, kk⟩
  replace h := h.nx kk
  replace hT := hT.nx kk
  replace EX := EX.nx kk
  clear kk
  obtain ⟨F, hF⟩ : ∃ F, F = findN N id := ⟨_, rfl⟩
  have HF := Lib.hid hF
  rw [← hF] at HXW ⊢
  clear hF
  obtain ⟨⟨xi, xk, xw⟩, ok⟩ := F
  simp only at HXW
  have B2 := Blk.new w1 [.int .i64 xi, .string xk, .int .u32 xw] 52
  have kk := Ex.new w1 (.cells #[.int .i64 xi, .string xk, .int .u32 xw] 52)
  obtain ⟨w2, hw2⟩ : ∃ w2, w2 = w1.alloc (.cells #[.int .i64 xi, .string xk, .int .u32 xw] 52) := ⟨_, rfl⟩
  obtain ⟨g2, hg2⟩ : ∃ g2, g2 = w1.heap.size := ⟨_, rfl⟩
  replace B2 : Blk w2 g2 [.int .i64 xi, .string xk, .int .u32 xw] 52 := by rw [hw2, hg2]; exact B2
  rw [← hw2] at kk
  have Hw2 := Lib.hid hw2
  have Hg2 := Lib.hid hg2
  replace h := h.nx kk
  replace hT := hT.nx kk
  replace EX := EX.nx kk
  clear kk hw2 hg2
  simp only [Nd.val]
  go_upto_region 2 with fail
  rw [← Hg2.out, ← Hw2.out]
  clear Hg2 Hw2
  have NO : Hid ((findN N id).2 = false ∨ checkN N ≠ 0 ∨ width < 1 ∨ height < 0 ∨ 16 < height → ∀ wx, Ex w wx → OiPost (contactsN N id width height) w (.returned (.slice none 0 0)) wx) := Lib.hid (fun hh wx kx => by rw [contacts_no hh]; exact ⟨_, rfl, OwnL.nil _ _ _ _ _, kx⟩)
  cases ok with
  | false =>
    have FI := Lib.hid (NO.out (.inl (by rw [← HF.out])) _ EX)
    clear h hT B2 NO EX
    go_wp2_with fail
    go_ret
    exact FI.out
  | true =>
    go_wp2_with fail
    (with_reducible refine (check_p _ _ _ _ _ h (by omega) hc hm).mono ?_)
    rintro e w3 ⟨rfl, kk⟩
    replace h := h.nx kk
    replace hT := hT.nx kk
    replace EX := EX.nx kk
    replace B2 := B2.nx kk
    clear kk
    by_cases hck : checkN N = 0
    case neg =>
      have d1 : (checkN N != 0) = true := by simpa using hck
      have FI := Lib.hid (NO.out (.inr (.inl hck)) _ EX)
      clear h hT B2 NO hck EX
      go_wp2_with fail
      go_ret
      exact FI.out
    have d1 : (checkN N != 0) = false := by simpa using hck
    have HC := Lib.hid hck
    clear hck
    by_cases hw1 : width < 1
    · have FI := Lib.hid (NO.out (.inr (.inr (.inl hw1))) _ EX)
      clear h hT B2 NO EX
      go_wp2_with fail
      go_ret
      exact FI.out
    by_cases hh0 : height < 0
    · have FI := Lib.hid (NO.out (.inr (.inr (.inr (.inl hh0)))) _ EX)
      clear h hT B2 NO EX
      go_wp2_with fail
      go_ret
      exact FI.out
    by_cases hh1 : 16 < height
    · have FI := Lib.hid (NO.out (.inr (.inr (.inr (.inr hh1)))) _ EX)
      clear h hT B2 NO EX
      go_wp2_with fail
      go_ret
      exact FI.out
    obtain ⟨hh, rfl⟩ := Int.eq_ofNat_of_zero_le (show 0 ≤ height by omega)
    have hh16 : hh ≤ 16 := by omega
    obtain ⟨hxN, hxi⟩ : (⟨xi, xk, xw⟩ : Nd) ∈ N ∧ xi = id := by
      have := findN_mem (l := N) (id := id) (by rw [← HF.out])
      rw [← HF.out] at this
      exact this
    replace hxi := Lib.hid hxi
    obtain ⟨x, hx⟩ : ∃ x : Nd, x = ⟨xi, xk, xw⟩ := ⟨_, rfl⟩
    rw [← hx] at hxN
    obtain ⟨rfl, rfl, rfl⟩ : xi = x.id ∧ xk = x.key ∧ xw = x.word := by rw [hx]; exact ⟨rfl, rfl, rfl⟩
    have HXN := Lib.hid hxN
    obtain ⟨m, hm64⟩ : ∃ m, min width 64 = m := ⟨_, rfl⟩
    have hm1 : 1 ≤ m := by omega
    have hm2 : m ≤ 64 := by omega
    have FIN : Hid (ascN (sortN N) (conS N x m (hh + 1)) = contactsN N id width hh) := Lib.hid (by rw [← hm64, ← hxi.out]; have := con_asc HC.out HXN.out (width := width) (height := hh) (by omega) (by omega) (by omega); simpa using this)
    have HI : Hid (∀ y ∈ sortN N, I64 y.id) := Lib.hid (fun y hy => (roster_ok HC.out y ((sortN_mem N y).1 hy)).1.1)
    have h64 := check_len HC.out
    clear hx hxN NO hxi HF
    have M4 := SetM.made w3 Tryd.prog 3 4
    have kk := Ex.new w3 (.map #[] 0)
    obtain ⟨w4, hw4⟩ : ∃ w4, w4 = w3.alloc (.map #[] 0) := ⟨_, rfl⟩
    obtain ⟨bm, hbm⟩ : ∃ bm, bm = w3.heap.size := ⟨_, rfl⟩
    replace M4 : SetM Tryd.prog 3 4 w4 bm [] := by rw [hw4, hbm]; exact M4
    rw [← hw4] at kk
    have Hw4 := Lib.hid hw4
    have Hbm := Lib.hid hbm
    have hgb : ¬ 1 = bm := by have := hT.lt; omega
    have hg2b : g2 ≠ bm := by have := B2.lt; omega
    have hwb : w.heap.size ≤ bm := by have := EX.size; omega
    have HS := Lib.hid (h.slb (show w3.heap.size ≤ bm by omega))
    replace HS := Lib.hid (HS.out.nxb (kk.b bm))
    replace hT := hT.nx kk
    replace EX := EX.nx kk
    replace B2 := B2.nx kk
    have h := h.nx kk
    clear kk hw4 hbm
    have hmm := @run_makeMap Tryd.prog
    go_upto_region 5 with fail
    rw [← Hbm.out, ← Hw4.out]
    clear Hbm Hw4
    clear hmm
    have hbm4 := M4.lt
    go_wp2_with fail
    (with_reducible refine (sort_p _ _ _ _ _ h hn).mono ?_)
    rintro e w5 ⟨v, S, rfl, OS, ⟨hp, hsrt⟩, kk⟩
    replace hT := hT.nx kk
    replace EX := EX.nx kk
    replace B2 := B2.nx kk
    replace M4 := M4.nx kk
    replace HS := Lib.hid (HS.out.nxb (kk.b bm))
    have hSe : S = sortN N := sortN_unique (check_keys HC.out) hp hsrt
    subst hSe
    obtain ⟨a1, c1, rfl, S1, _, _, _⟩ := OS.slf (fun _ => rfl)
    replace S1 := Lib.hid (S1.slb hbm4)
    have hsl : (sortN N).length ≤ 64 := by rw [sortN_length]; exact h64
    replace EX := Lib.hid EX
    replace hT := Lib.hid hT
    replace B2 := Lib.hid B2
    clear h OS kk hp hsrt
    go_wp2_with fail
    go_loopw [48] (fun i wr => CoRel N x m bm (hh + 1) w5 i wr) (fun i _ => hh + 1 - (intOf i).toNat)
    case atStart => exact ⟨0, by omega, rfl, M4, Exb.refl _ _⟩
    case round =>
      clear M4
      obtain ⟨i, hi, rfl, M, kw⟩ := hrel
      obtain ⟨wo, rfl⟩ : ∃ wo : World, wo = wr := ⟨_, rfl⟩
      by_cases hlt : i < hh + 1
      · have T1 := hT.out.nxb hgb kw
        have Q2 := B2.out.nxb hg2b kw
        have q0 := Q2.cell 0 _ rfl
        have q1 := Q2.cell 1 _ rfl
        have q2 := Q2.cell 2 _ rfl
        have S2 := (S1.out.nxb kw).sl
        have hi16 : i ≤ 16 := by omega
        have hbo := M.lt
        obtain ⟨_, hat⟩ := thr_at HC.out HXN.out (h := i) hi16
        replace hat := Lib.hid hat
        have KW := Lib.hid kw
        clear kw
        go_wp2_with fail
        (with_reducible refine (group_q _ _ _ (sortN N) i x.word _ S2 (by omega) HW.out HXW T1).mono ?_)
        rintro e w6 ⟨a3, c3, rfl, r3, kk⟩
        replace M := M.nx kk
        replace Q2 := Q2.nx kk
        have G3 := Lib.hid (r3.slb hbo)
        clear r3
        have hG : groupN (sortN N) i x.word = grpS N i x.word := rfl
        rw [hG] at G3 ⊢
        replace KW := Lib.hid (KW.out.nxb (kk.b bm))
        have hgl := grpS_le N i x.word
        have AI := Lib.hid (fun j z (hj : j < idxI (grpS N i x.word) x.id) (hz : (grpS N i x.word)[j]? = some z) => show z.id ≠ x.id from fun he => by have := grp_uniq HC.out hz hat.out he; omega)
        have GI : Hid (∀ y ∈ grpS N i x.word, I64 y.id) := Lib.hid (fun y hy => HI.out y (List.mem_filter.1 hy).1)
        have CS := Lib.hid (conS_snoc N x m i)
        have cl := conS_len N x m i
        have cl2 : (conS N x m i).length ≤ 17 * 64 := Nat.le_trans cl (Nat.mul_le_mul (by omega) h64)
        generalize hK : idxI (grpS N i x.word) x.id = k at hat AI CS
        generalize hGG : grpS N i x.word = G at G3 hgl hat AI GI CS hK ⊢
        generalize conS N x m i = C at M CS cl2
        have hkG : k < G.length := (List.getElem?_eq_some_iff.1 hat.out).1
        clear kk hK hGG hG cl S2 T1 q0 q1 q2
        have q0 := Q2.cell 0 _ rfl
        have q1 := Q2.cell 1 _ rfl
        have q2 := Q2.cell 2 _ rfl
        go_wp2_with fail
        (with_reducible refine (index_n _ _ _ G x k _ G3.out.sl (by omega) hat.out AI.out).mono ?_)
        rintro e w7 ⟨rfl, kk⟩
        replace M := M.nx kk
        replace G3 := Lib.hid (G3.out.nxb (kk.b bm))
        replace KW := Lib.hid (KW.out.nxb (kk.b bm))
        clear kk q0 q1 q2 Q2
        go_wp2_with fail
        go_loopw [61] (fun i wr => CiRel G k m C bm w7 i wr) (fun i _ => G.length - (intOf i).toNat)
        case atStart => exact ⟨0, by omega, rfl, by simpa [besP] using M, Exb.refl _ _⟩
        case round =>
          clear M
          obtain ⟨j, hj, rfl, M, kw⟩ := hrel
          obtain ⟨wp, rfl⟩ : ∃ wp : World, wp = wr := ⟨_, rfl⟩
          by_cases hjl : j < G.length
          · obtain ⟨x3, o3, y, rfl, hx3, hy, hc3⟩ := (G3.out.nxb kw).sl.at (j := j) (by omega)
            have e0 : wp.cell? ⟨x3, o3 + j * 3, none⟩ = some (.int .i64 y.id) := hc3 0 _ rfl
            have e1 : wp.cell? ⟨x3, o3 + j * 3 + 1, none⟩ = some (.string y.key) := hc3 1 _ rfl
            have e2 : wp.cell? ⟨x3, o3 + j * 3 + 1 + 1, none⟩ = some (.int .u32 y.word) := by simpa [Nat.add_assoc] using hc3 2 _ rfl
            have SN := Lib.hid (besP_snoc (k := k) (m := m) hy)
            have bl := besP_len G k m j
            have hyi := GI.out y (List.mem_of_getElem? hy)
            have hv := Lib.hid (wf_of hyi)
            have KV := Lib.hid kw
            clear hc3 hy kw
            generalize besP G k m j = R at M SN bl
            have B8 := Blk.new wp [.int .i64 y.id, .string y.key, .int .u32 y.word] 52
            have kk := Ex.new wp (.cells #[.int .i64 y.id, .string y.key, .int .u32 y.word] 52)
            obtain ⟨w8, hw8⟩ : ∃ w8, w8 = wp.alloc (.cells #[.int .i64 y.id, .string y.key, .int .u32 y.word] 52) := ⟨_, rfl⟩
            obtain ⟨g8, hg8⟩ : ∃ g8, g8 = wp.heap.size := ⟨_, rfl⟩
            replace B8 : Blk w8 g8 [.int .i64 y.id, .string y.key, .int .u32 y.word] 52 := by rw [hw8, hg8]; exact B8
            rw [← hw8] at kk
            have Hw8 := Lib.hid hw8
            have Hg8 := Lib.hid hg8
            replace M := M.nx kk
            replace KV := Lib.hid (KV.out.nxb (kk.b bm))
            clear kk hw8 hg8
            go_upto_region 14 with fail
            rw [← Hg8.out, ← Hw8.out]
            clear Hg8 Hw8
            have p0 := B8.cell 0 _ rfl
            clear e0 e1 e2 B8
            by_cases hp : j ≠ k ∧ (j : Int) ≥ k - m ∧ (j : Int) ≤ k + m
            · obtain ⟨b1, b2, b3⟩ := hp
              have SN : Hid (besP G k m (j + 1) = R ++ [y.id]) := Lib.hid (by rw [SN.out, if_pos ⟨b1, b2, b3⟩])
              have c1 : ((j : Int) != k) = true := by simp; omega
              obtain ⟨w9, hrun, M9, k9, _⟩ := M.put (t := 83) Tryd.underlying3 Tryd.underlying4 Tryd.underlying83 (by rw [List.length_append]; omega) hv.out
              have M9 := Lib.hid M9
              have K9 := Lib.hid (KV.out.nxb k9)
              clear M k9 hyi b1
              go_wp2_with fail
              refine ⟨⟨j + 1, by omega, by go_num, ?_, K9.out⟩, by simp [intOf]; omega⟩
              rw [SN.out, ← List.append_assoc]
              exact M9.out
            · have SN : Hid (besP G k m (j + 1) = R) := Lib.hid (by rw [SN.out, if_neg hp, List.append_nil])
              have RR := Lib.hid (show CiRel G k m C bm w7 (.int .i64 ((j : Int) + 1)) w8 from ⟨j + 1, by omega, by go_num, by rw [SN.out]; exact M, KV.out⟩)
              by_cases b1 : j = k
              · have c1 : ((j : Int) != k) = false := by simp; omega
                clear M hp b1
                go_wp2_with fail
                exact ⟨RR.out, by simp [intOf]; omega⟩
              · have c1 : ((j : Int) != k) = true := by simp; omega
                by_cases b2 : (j : Int) ≥ k - m
                · have b3 : ¬ (j : Int) ≤ k + m := fun h => hp ⟨b1, b2, h⟩
                  clear M hp b1
                  go_wp2_with fail
                  exact ⟨RR.out, by simp [intOf]; omega⟩
                · clear M hp b1
                  go_wp2_with fail
                  exact ⟨RR.out, by simp [intOf]; omega⟩
          · obtain rfl : j = G.length := by omega
            have RR := Lib.hid (show CoRel N x m bm (hh + 1) w5 (.int .i64 ((i : Int) + 1)) wp from ⟨i + 1, by omega, by go_num, by rw [CS.out, ← besP_all]; exact M, KW.out.nxb kw⟩)
            clear M kw
            go_wp2_with fail
            exact ⟨RR.out, by simp [intOf]; omega⟩
      · obtain rfl : i = hh + 1 := by omega
        have S0 := (HS.out.nxb kw).sl
        have EF := Lib.hid (Exl.nxb (b := bm) (w := w) ⟨EX.out, hwb⟩ kw).1
        clear kw hi hlt
        have hgo : ¬ ((hh + 1 : Nat) : Int) < (hh : Int) + 1 := by omega
        go_wp2_with fail
        (with_reducible refine (ascending_p _ _ _ N bm _ _ S0 hn HC.out M).mono ?_)
        rintro e wz ⟨vz, rfl, oz, kk⟩
        have OZ := Lib.hid (oz.base EF.out.size)
        have KZ := Lib.hid (EF.out.nx kk)
        clear M oz kk S0
        go_wp2_with fail
        go_ret
        exact ⟨_, rfl, by rw [← FIN.out]; exact OZ.out, KZ.out⟩
end Go.Proofs.YtbnbjiddffihoaaDoor

/- names and Refs of the package redundant. -/
namespace Go.Proofs.YtbnbjiddffihoaaDoor
open Go.RowKit

theorem cont4 (y : Nr) (id : Int) : (nums4 y).contains id = (y.1 == id || y.2.1 == id || y.2.2.1 == id || y.2.2.2 == id) := by
  unfold nums4
  rw [Bool.eq_iff_iff]
  simp only [List.contains_iff_mem, List.mem_cons, List.not_mem_nil, or_false, Bool.or_eq_true, beq_iff_eq]
  omega
set_option maxHeartbeats 1000000 in
theorem names1_p (gx : Nat) (id : Int) (y : Nr) (w : World) (hx : Blk w gx [.int .i64 id] 3) :
    Calls Tryd.prog 106 #[.agg #[.int .i64 y.1, .int .i64 y.2.1, .int .i64 y.2.2.1, .int .i64 y.2.2.2], .pointer (some ⟨gx, 0, none⟩)] w fun e w' => e = .returned (.bool ((nums4 y).contains id)) ∧ Ex w w' := by
  have hg := hx.lt
  have EX := Ex.refl w
  have CN := Lib.hid (cont4 y id)
  have B2 := Blk.new w [.int .i64 y.1, .int .i64 y.2.1, .int .i64 y.2.2.1, .int .i64 y.2.2.2] 77
  have kk := Ex.new w (.cells #[.int .i64 y.1, .int .i64 y.2.1, .int .i64 y.2.2.1, .int .i64 y.2.2.2] 77)
  obtain ⟨w1, hw1⟩ : ∃ w1, w1 = w.alloc (.cells #[.int .i64 y.1, .int .i64 y.2.1, .int .i64 y.2.2.1, .int .i64 y.2.2.2] 77) := ⟨_, rfl⟩
  obtain ⟨g2, hg2⟩ : ∃ g2, g2 = w.heap.size := ⟨_, rfl⟩
  replace B2 : Blk w1 g2 [.int .i64 y.1, .int .i64 y.2.1, .int .i64 y.2.2.1, .int .i64 y.2.2.2] 77 := by rw [hw1, hg2]; exact B2
  rw [← hw1] at kk
  have Hw1 := Lib.hid hw1
  have Hg2 := Lib.hid hg2
  replace hx := hx.nx kk
  replace EX := EX.nx kk
  clear kk hw1 hg2
  go_enter Tryd.func106, Tryd.ntmps106
  go_upto_region 1 with fail
  rw [← Hg2.out, ← Hw1.out]
  clear Hg2 Hw1
  have q0 := hx.cell 0 _ rfl
  have p0 := B2.cell 0 _ rfl
  have p1 := B2.cell 1 _ rfl
  have p2 := B2.cell 2 _ rfl
  have p3 := B2.cell 3 _ rfl
  clear hx B2
  generalize hc1 : (y.1 == id) = c1 at CN
  generalize hc2 : (y.2.1 == id) = c2 at CN
  generalize hc3 : (y.2.2.1 == id) = c3 at CN
  generalize hc4 : (y.2.2.2 == id) = c4 at CN
  cases c1 with
  | true =>
    go_wp2_with fail
    go_ret
    exact ⟨by rw [CN.out]; rfl, EX⟩
  | false =>
    cases c2 with
    | true =>
      go_wp2_with fail
      go_ret
      exact ⟨by rw [CN.out]; rfl, EX⟩
    | false =>
      cases c3 with
      | true =>
        go_wp2_with fail
        go_ret
        exact ⟨by rw [CN.out]; rfl, EX⟩
      | false =>
        go_wp2_with fail
        go_ret
        exact ⟨by rw [CN.out]; rfl, EX⟩
def NmfRel (id : Int) (l : List Nr) (n : Nat) (w : World) (i : Value) (wr : World) : Prop :=
  ∃ k : Nat, k ≤ n ∧ i = .int .i64 k ∧ Ex w wr ∧ ∀ j z, j < k → l[j]? = some z → (nums4 z).contains id = false
set_option maxRecDepth 100000 in
set_option maxHeartbeats 2000000 in
theorem idxf_nr (gx : Nat) (id : Int) (a : Option Addr) (n c : Nat) (l : List Nr) (w : World) (h : Sl 4 encNr w a n l) (hn : n ≤ 4000000000000000000) (hx : Blk w gx [.int .i64 id] 3) :
    Calls Tryd.prog 130 #[.slice a n c, .func (.func 106) #[] #[.pointer (some ⟨gx, 0, none⟩)]] w fun e w' => ∃ r : Int, e = .returned (.int .i64 r) ∧ decide (0 ≤ r) = (l.flatMap nums4).contains id ∧ Ex w w' := by
  have HL := Lib.hid h.len
  have HX := Lib.hid hx
  have hs := Lib.hid h
  have eg : ∀ args w, (callFunc 106 args).run Tryd.prog w = .ok (.enter 106 args) w := enters_of Tryd.func106 (by kernel_rfl) rfl
  clear h hx
  go_enter Tryd.func130, Tryd.ntmps130
  go_wp2
  go_loopw [8] (fun i wr => NmfRel id l n w i wr) (fun i _ => n - (intOf i).toNat)
  case atStart => exact ⟨0, by omega, rfl, Ex.refl _, by intro j z h; omega⟩
  case round =>
    obtain ⟨k, hk, rfl, kw, hno⟩ := hrel
    have HNO := Lib.hid hno
    clear hno
    obtain ⟨wo, rfl⟩ : ∃ wo : World, wo = wr := ⟨_, rfl⟩
    by_cases hlt : k < n
    · obtain ⟨x1, o1, y, rfl, hx1, hy, hc1⟩ := (hs.out.nx kw).at hlt
      have e0 : wo.cell? ⟨x1, o1 + k * 4, none⟩ = some (.int .i64 y.1) := hc1 0 _ rfl
      have e1 : wo.cell? ⟨x1, o1 + k * 4 + 1, none⟩ = some (.int .i64 y.2.1) := hc1 1 _ rfl
      have e2 : wo.cell? ⟨x1, o1 + k * 4 + 1 + 1, none⟩ = some (.int .i64 y.2.2.1) := by simpa [Nat.add_assoc] using hc1 2 _ rfl
      have e3 : wo.cell? ⟨x1, o1 + k * 4 + 1 + 1 + 1, none⟩ = some (.int .i64 y.2.2.2) := by simpa [Nat.add_assoc] using hc1 3 _ rfl
      have HY := Lib.hid hy
      have HB := Lib.hid (HX.out.nx kw)
      have KW := Lib.hid kw
      clear hc1 hy kw
      go_wp2_with fail
      (with_reducible refine (names1_p gx id y _ HB.out).mono ?_)
      rintro e w2 ⟨rfl, k2⟩
      have K2 := Lib.hid (KW.out.nx k2)
      clear k2 e0 e1 e2 e3
      cases hb : (nums4 y).contains id with
      | true =>
        have HI : Hid ((l.flatMap nums4).contains id = true) := Lib.hid (by
          rw [List.contains_iff_mem, List.mem_flatMap]
          exact ⟨y, List.mem_of_getElem? HY.out, List.contains_iff_mem.1 hb⟩)
        clear hb
        go_wp2_with fail
        go_ret
        exact ⟨_, rfl, by rw [HI.out]; simp, K2.out⟩
      | false =>
        have HB := Lib.hid hb
        clear hb
        go_wp2_with fail
        refine ⟨⟨k + 1, by omega, by go_num, K2.out, fun j z hj hz => ?_⟩, by simp [intOf]; omega⟩
        rcases Nat.lt_or_ge j k with h | h
        · exact HNO.out j z h hz
        · obtain rfl : j = k := by omega
          rw [Option.some.inj (hz.symm.trans HY.out)]
          exact HB.out
    · obtain rfl : k = n := by omega
      have HI : Hid ((l.flatMap nums4).contains id = false) := Lib.hid (by
        rw [Bool.eq_false_iff]
        intro hc
        rw [List.contains_iff_mem, List.mem_flatMap] at hc
        obtain ⟨y, hy, hm⟩ := hc
        obtain ⟨j, hj⟩ := List.mem_iff_getElem?.1 hy
        have := HNO.out j y (by rw [← HL.out]; exact (List.getElem?_eq_some_iff.1 hj).1) hj
        rw [List.contains_iff_mem.2 hm] at this
        cases this)
      have KW := Lib.hid kw
      clear kw hk hlt
      go_wp2_with fail
      go_ret
      exact ⟨-1, rfl, by rw [HI.out]; rfl, KW.out⟩
theorem contf_nr (gx : Nat) (id : Int) (a : Option Addr) (n c : Nat) (l : List Nr) (w : World) (h : Sl 4 encNr w a n l) (hn : n ≤ 4000000000000000000) (hx : Blk w gx [.int .i64 id] 3) :
    Calls Tryd.prog 107 #[.slice a n c, .func (.func 106) #[] #[.pointer (some ⟨gx, 0, none⟩)]] w fun e w' => e = .returned (.bool ((l.flatMap nums4).contains id)) ∧ Ex w w' := by
  go_enter Tryd.func107, Tryd.ntmps107
  go_wp2_with fail
  (with_reducible refine (idxf_nr gx id _ _ _ _ _ h hn hx).mono ?_)
  rintro e w1 ⟨r, rfl, hr, kk⟩
  have HR := Lib.hid hr
  clear h hx hr
  go_wp2_with fail
  go_ret
  exact ⟨by rw [← HR.out]; rfl, kk⟩

theorem cont_nums (p : Pr) (id : Int) : (numsP p).contains id = (p.left == id || p.right == id || p.known.contains id || (p.near.flatMap nums4).contains id) := by
  unfold numsP
  rw [Bool.eq_iff_iff]
  simp only [List.contains_iff_mem, List.mem_append, List.mem_cons, List.not_mem_nil, or_false, Bool.or_eq_true, beq_iff_eq]
  constructor
  · rintro ((h | h | h) | h)
    · exact .inl (.inr h)
    · exact .inl (.inl (.inl h.symm))
    · exact .inl (.inl (.inr h.symm))
    · exact .inr h
  · rintro (((h | h) | h) | h)
    · exact .inl (.inr (.inl h.symm))
    · exact .inl (.inr (.inr h.symm))
    · exact .inl (.inl h)
    · exact .inr h
set_option maxHeartbeats 2000000 in
theorem names_p (p : Pr) (a1 : Option Addr) (n1 c1 : Nat) (a2 : Option Addr) (n2 c2 : Nat) (id : Int) (w : World) (h1 : Sl 1 encI w a1 n1 p.known) (h2 : Sl 4 encNr w a2 n2 p.near) (hn1 : n1 ≤ 4000000000000000000) (hn2 : n2 ≤ 4000000000000000000) :
    Calls Tryd.prog 65 #[.agg #[.int .i64 p.id, .slice a1 n1 c1, .int .i64 p.left, .int .i64 p.right, .slice a2 n2 c2], .int .i64 id] w fun e w' => e = .returned (.bool ((numsP p).contains id)) ∧ Ex w w' := by
  have EX := Ex.refl w
  have CN := Lib.hid (cont_nums p id)
  obtain ⟨g2, hg2⟩ : ∃ g2, g2 = w.heap.size := ⟨_, rfl⟩
  obtain ⟨g3, hg3⟩ : ∃ g3, g3 = (w.heap.size + 1) := ⟨_, rfl⟩
  obtain ⟨w1, hw1⟩ : ∃ w1, w1 = ((w.alloc (.cells #[.int .i64 p.id, .slice a1 n1 c1, .int .i64 p.left, .int .i64 p.right, .slice a2 n2 c2] 41)).alloc (.cells #[.int .i64 id] 3)) := ⟨_, rfl⟩
  have kk : Ex w w1 := by rw [hw1]; exact (((Ex.refl w).alloc (.cells #[.int .i64 p.id, .slice a1 n1 c1, .int .i64 p.left, .int .i64 p.right, .slice a2 n2 c2] 41)).alloc (.cells #[.int .i64 id] 3))
  have B2 : Blk w1 g2 [.int .i64 p.id, .slice a1 n1 c1, .int .i64 p.left, .int .i64 p.right, .slice a2 n2 c2] 41 := by rw [hw1]; simp only [hg2, hg3]; have hbk := ((Blk.new w [.int .i64 p.id, .slice a1 n1 c1, .int .i64 p.left, .int .i64 p.right, .slice a2 n2 c2] 41).nx (Ex.new _ (.cells #[.int .i64 id] 3))); simpa using hbk
  have B3 : Blk w1 g3 [.int .i64 id] 3 := by rw [hw1]; simp only [hg2, hg3]; have hbk := (Blk.new (w.alloc (.cells #[.int .i64 p.id, .slice a1 n1 c1, .int .i64 p.left, .int .i64 p.right, .slice a2 n2 c2] 41)) [.int .i64 id] 3); simpa using hbk
  have Hw1 := Lib.hid hw1
  have Hg2 := Lib.hid hg2
  have Hg3 := Lib.hid hg3
  replace h1 := h1.nx kk
  replace h2 := h2.nx kk
  replace EX := EX.nx kk
  clear kk hw1 hg2 hg3
  go_enter Tryd.func65, Tryd.ntmps65
  go_upto_region 2 with fail
  rw [← Hw1.out, ← Hg3.out, ← Hg2.out]
  clear Hw1 Hg3 Hg2
  have p1 := B2.cell 1 _ rfl
  have p2 := B2.cell 2 _ rfl
  have p3 := B2.cell 3 _ rfl
  have p4 := B2.cell 4 _ rfl
  have q0 := B3.cell 0 _ rfl
  have S1 := Lib.hid h1
  have S2 := Lib.hid h2
  replace B2 := Lib.hid B2
  replace B3 := Lib.hid B3
  clear h1 h2
  generalize hc1 : (p.left == id) = b1 at CN
  generalize hc2 : (p.right == id) = b2 at CN
  cases b1 with
  | true =>
    go_wp2_with fail
    go_ret
    exact ⟨by rw [CN.out]; rfl, EX⟩
  | false =>
    cases b2 with
    | true =>
      go_wp2_with fail
      go_ret
      exact ⟨by rw [CN.out]; rfl, EX⟩
    | false =>
      go_wp2_with fail
      (with_reducible refine (contains_i _ _ _ _ id _ S1.out hn1).mono ?_)
      rintro e w2 ⟨rfl, kk⟩
      replace EX := EX.nx kk
      generalize hc3 : p.known.contains id = b3 at CN
      have p4 := (B2.out.nx kk).cell 4 _ rfl
      have S2 := Lib.hid (S2.out.nx kk)
      have B3 := Lib.hid (B3.out.nx kk)
      clear kk p1 p2 p3 q0
      cases b3 with
      | true =>
        go_wp2_with fail
        go_ret
        exact ⟨by rw [CN.out]; rfl, EX⟩
      | false =>
        go_wp2_with fail
        (with_reducible refine (contf_nr g3 id _ _ _ _ _ S2.out hn2 B3.out).mono ?_)
        rintro e w3 ⟨rfl, kk⟩
        replace EX := EX.nx kk
        clear kk
        generalize hc4 : (p.near.flatMap nums4).contains id = b4 at CN
        have CN : Hid ((numsP p).contains id = b4) := Lib.hid (by rw [CN.out]; rfl)
        clear p4
        go_wp2_with fail
        go_ret
        exact ⟨by rw [CN.out]; rfl, EX⟩

set_option maxRecDepth 100000 in
set_option maxHeartbeats 4000000 in
theorem refs_p (a : Option Addr) (n c : Nat) (N : List Nd) (p : Pr) (a1 : Option Addr) (n1 c1 : Nat) (a2 : Option Addr) (n2 c2 : Nat) (w : World) (h : Sl 3 encN w a n N) (hn : n ≤ 1000) (hc : n ≤ c) (hm : c ≤ maxLen) (h1 : Sl 1 encI w a1 n1 p.known) (h2 : Sl 4 encNr w a2 n2 p.near) (hn1 : n1 ≤ 4000000000000000000) (hn2 : n2 ≤ 4000000000000000000) :
    Calls Tryd.prog 25 #[.slice a n c, .agg #[.int .i64 p.id, .slice a1 n1 c1, .int .i64 p.left, .int .i64 p.right, .slice a2 n2 c2]] w (OiPost (refsN N p) w) := by
  have HL := Lib.hid h.len
  have EX := Ex.refl w
  have B3 := Blk.new w [.int .i64 p.id, .slice a1 n1 c1, .int .i64 p.left, .int .i64 p.right, .slice a2 n2 c2] 41
  have kk := Ex.new w (.cells #[.int .i64 p.id, .slice a1 n1 c1, .int .i64 p.left, .int .i64 p.right, .slice a2 n2 c2] 41)
  obtain ⟨w1, hw1⟩ : ∃ w1, w1 = w.alloc (.cells #[.int .i64 p.id, .slice a1 n1 c1, .int .i64 p.left, .int .i64 p.right, .slice a2 n2 c2] 41) := ⟨_, rfl⟩
  obtain ⟨g3, hg3⟩ : ∃ g3, g3 = w.heap.size := ⟨_, rfl⟩
  replace B3 : Blk w1 g3 [.int .i64 p.id, .slice a1 n1 c1, .int .i64 p.left, .int .i64 p.right, .slice a2 n2 c2] 41 := by rw [hw1, hg3]; exact B3
  rw [← hw1] at kk
  have Hw1 := Lib.hid hw1
  have Hg3 := Lib.hid hg3
  replace h := h.nx kk
  replace h1 := h1.nx kk
  replace h2 := h2.nx kk
  replace EX := EX.nx kk
  clear kk hw1 hg3
  go_enter Tryd.func25, Tryd.ntmps25
  go_upto_region 1 with fail
  rw [← Hg3.out, ← Hw1.out]
  clear Hg3 Hw1
  go_wp2_with fail
  (with_reducible refine (check_p _ _ _ _ _ h (by omega) hc hm).mono ?_)
  rintro e w2 ⟨rfl, kk⟩
  replace h := h.nx kk
  replace h1 := h1.nx kk
  replace h2 := h2.nx kk
  replace EX := EX.nx kk
  replace B3 := B3.nx kk
  clear kk
  by_cases hck : checkN N = 0
  case neg =>
    have d1 : (checkN N != 0) = true := by simpa using hck
    have E0 : Hid (refsN N p = []) := Lib.hid (by unfold refsN; rw [if_neg hck])
    clear h h1 h2 hck B3
    go_wp2_with fail
    go_ret
    exact ⟨_, rfl, by rw [E0.out]; exact OwnL.nil _ _ _ _ _, EX⟩
  have d1 : (checkN N != 0) = false := by simpa using hck
  have HC := Lib.hid hck
  clear hck
  go_wp2_with fail
  (with_reducible refine (sort_p _ _ _ _ _ h hn).mono ?_)
  rintro e w3 ⟨v, S, rfl, OS, ⟨hp, hsrt⟩, kk⟩
  replace h1 := h1.nx kk
  replace h2 := h2.nx kk
  replace EX := EX.nx kk
  replace B3 := B3.nx kk
  clear kk
  have hSe : S = sortN N := sortN_unique (check_keys HC.out) hp hsrt
  subst hSe
  obtain ⟨a3, c3, rfl, S3, _, _⟩ := sorted_own HC.out OS
  rw [HL.out] at S3 ⊢
  have ES : Hid (refsN N p = ((sortN N).filter (ordP (numsP p) p.id)).map Nd.id) := Lib.hid (by unfold refsN; rw [if_pos HC.out]; rfl)
  generalize sortN N = S at S3 ES
  have HSL := Lib.hid S3.len
  replace S3 := Lib.hid S3
  have S1 := Lib.hid h1
  have S2 := Lib.hid h2
  have K1 := Lib.hid EX
  have hz1 := EX.size
  replace B3 := Lib.hid B3
  clear h h1 h2 OS EX hp hsrt
  go_wp2_with fail
  go_loopw [5, 14] (fun o i wr => OrdRel S (numsP p) p.id w3 o i wr) (fun _ i _ => n - (intOf i).toNat)
  case atStart => exact ⟨0, by omega, rfl, OwnL.nil _ _ _ _ _, Ex.refl _⟩
  case round =>
    obtain ⟨j, hj, rfl, own, ki⟩ := hrel
    obtain ⟨wi, rfl⟩ : ∃ wi : World, wi = wr := ⟨_, rfl⟩
    by_cases hjm : j < n
    · obtain ⟨x3, o3, y, rfl, hx3, hy, hc3⟩ := (S3.out.nx ki).at hjm
      have e0 : wi.cell? ⟨x3, o3 + j * 3, none⟩ = some (.int .i64 y.id) := hc3 0 _ rfl
      have e1 : wi.cell? ⟨x3, o3 + j * 3 + 1, none⟩ = some (.string y.key) := hc3 1 _ rfl
      have e2 : wi.cell? ⟨x3, o3 + j * 3 + 1 + 1, none⟩ = some (.int .u32 y.word) := by simpa [Nat.add_assoc] using hc3 2 _ rfl
      have SN := Lib.hid (ord_snoc (l := numsP p) (but := p.id) hy)
      have hrl : (((S.take j).filter (ordP (numsP p) p.id)).map Nd.id).length ≤ 1000 := by
        rw [List.length_map]
        have := List.length_filter_le (ordP (numsP p) p.id) (S.take j)
        rw [List.length_take] at this
        omega
      generalize ((S.take j).filter (ordP (numsP p) p.id)).map Nd.id = row at own SN hrl
      have KI := Lib.hid ki
      clear hy hc3 ki
      have B7 := Blk.new wi [.int .i64 y.id, .string y.key, .int .u32 y.word] 52
      have kk := Ex.new wi (.cells #[.int .i64 y.id, .string y.key, .int .u32 y.word] 52)
      obtain ⟨w7, hw7⟩ : ∃ w7, w7 = wi.alloc (.cells #[.int .i64 y.id, .string y.key, .int .u32 y.word] 52) := ⟨_, rfl⟩
      obtain ⟨g7, hg7⟩ : ∃ g7, g7 = wi.heap.size := ⟨_, rfl⟩
      replace B7 : Blk w7 g7 [.int .i64 y.id, .string y.key, .int .u32 y.word] 52 := by rw [hw7, hg7]; exact B7
      rw [← hw7] at kk
      have Hw7 := Lib.hid hw7
      have Hg7 := Lib.hid hg7
      replace own := own.nx kk
      have K7 := Lib.hid (KI.out.nx kk)
      clear kk hw7 hg7
      have Q3 := B3.out.nx K7.out
      go_upto_region 7 with fail
      rw [← Hg7.out, ← Hw7.out]
      clear Hg7 Hw7
      have q0 := B7.cell 0 _ rfl
      have p0 := Q3.cell 0 _ rfl
      clear e0 e1 e2
      by_cases hb : y.id = p.id
      · have hq : (y.id != p.id) = false := by simp [hb]
        have hq2 : (y.id == p.id) = true := by simp [hb]
        have PF : Hid (ordP (numsP p) p.id y = false) := Lib.hid (by unfold ordP; rw [hq2]; rfl)
        have OWN := Lib.hid own
        clear hb own hq2 B7 Q3
        go_wp2_with fail
        exact ⟨⟨j + 1, by rw [HSL.out]; omega, by go_num, by rw [SN.out, PF.out]; simpa using OWN.out, K7.out⟩, by simp [intOf]; omega⟩
      · have hq : (y.id != p.id) = true := by simpa using hb
        have hq2 : (y.id == p.id) = false := by simpa using hb
        have PB : Hid (ordP (numsP p) p.id y = (numsP p).contains y.id) := Lib.hid (by unfold ordP; rw [hq2]; rfl)
        have p1 := Q3.cell 1 _ rfl
        have p2 := Q3.cell 2 _ rfl
        have p3 := Q3.cell 3 _ rfl
        have p4 := Q3.cell 4 _ rfl
        clear hb hq2 Q3
        go_wp2_with fail
        (with_reducible refine (names_p p _ _ _ _ _ _ y.id _ (S1.out.nx K7.out) (S2.out.nx K7.out) hn1 hn2).mono ?_)
        rintro e w5 ⟨rfl, kk⟩
        replace own := own.nx kk
        replace B7 := B7.nx kk
        have K5 := Lib.hid (K7.out.nx kk)
        have zb5 := K5.out.size
        have q0 := B7.cell 0 _ rfl
        have OWN := Lib.hid own
        clear kk p0 p1 p2 p3 p4 own B7
        generalize (numsP p).contains y.id = inl at PB ⊢
        generalize y.id = yi at SN q0 hq
        cases inl with
        | false =>
          clear q0 hq
          go_wp2_with fail
          exact ⟨⟨j + 1, by rw [HSL.out]; omega, by go_num, by rw [SN.out, PB.out]; simpa using OWN.out, K5.out⟩, by simp [intOf]; omega⟩
        | true =>
          have own5 := OWN.out
          have hl7 : row.length ≤ 1000000 := by omega
          clear hq
          go_wp2_with (at_builtin; (refine wpList_append_lit (enc := encI) w5 rfl _ _ 22 rfl w3.heap.size 3 (.int .i64 0) 1 8 Tryd.underlying22 Tryd.infoI6 rfl (by omega) (by omega) _ _ own5 rfl (yi : Int) _ rfl rfl (by simp [encI, Value.oneCell']) _ (by simp) rfl hl7 zb5 _ ?_); intro v6 w6 own6 _ ch1 _)
          refine ⟨⟨j + 1, by rw [HSL.out]; omega, by go_num, by rw [SN.out, PB.out]; exact own6, Chg.trans K5.out ch1⟩, by simp [intOf]; omega⟩
    · obtain rfl : j = n := by have := HSL.out; omega
      rw [List.take_of_length_le (by rw [HSL.out]; exact Nat.le_refl _)] at own
      have own := Lib.hid (own.base hz1)
      have KE := Lib.hid (K1.out.nx ki)
      clear hj hjm ki
      go_wp2_with fail
      go_ret
      exact ⟨_, rfl, by rw [ES.out]; exact own.out, KE.out⟩
end Go.Proofs.YtbnbjiddffihoaaDoor

/- Numbers, CopyPeer, Refs of the reference. NOT BUILT YET. -/
namespace Go.Proofs.YtbnbjiddffihoaaDoor
open Go.RowKit

/-- a literal of two numbers -/
theorem lit2 {w u : World} (h : Ex w u) (x y : Int) : ∃ g v, g = u.heap.size ∧ v = u.alloc (.cells #[.int .i64 x, .int .i64 y] 3) ∧ Sl 1 encI v (some ⟨g, 0, none⟩) 2 [x, y] ∧ Ex u v ∧ Ex w v :=
  ⟨_, _, rfl, rfl, Sl.lit [x, y] rfl rfl (fun _ => rfl) rfl, Ex.new _ _, h.nx (Ex.new _ _)⟩
theorem lit4 {w u : World} (h : Ex w u) (y : Nr) : ∃ g v, g = u.heap.size ∧ v = u.alloc (.cells #[.int .i64 y.1, .int .i64 y.2.1, .int .i64 y.2.2.1, .int .i64 y.2.2.2] 3) ∧ Sl 1 encI v (some ⟨g, 0, none⟩) 4 (nums4 y) ∧ Ex u v ∧ Ex w v :=
  ⟨_, _, rfl, rfl, Sl.lit (nums4 y) rfl rfl (fun _ => rfl) rfl, Ex.new _ _, h.nx (Ex.new _ _)⟩
def NmCut (l : List Int) (w : World) (s : Value) (wx : World) : Prop := OwnL 1 encI 3 w.heap.size wx s l ∧ Ex w wx
def NmRel (l0 : List Int) (nr : List Nr) (w : World) (o i : Value) (wr : World) : Prop :=
  ∃ j : Nat, j ≤ nr.length ∧ i = .int .i64 j ∧ OwnL 1 encI 3 w.heap.size wr o (l0 ++ (nr.take j).flatMap nums4) ∧ Ex w wr
theorem nm_snoc {l0 : List Int} {nr : List Nr} {j : Nat} {y : Nr} (hy : nr[j]? = some y) : l0 ++ (nr.take (j + 1)).flatMap nums4 = (l0 ++ (nr.take j).flatMap nums4) ++ nums4 y := by
  rw [List.take_add_one, hy]
  simp
theorem nums_len (l : List Nr) : (l.flatMap nums4).length = 4 * l.length := by
  induction l with
  | nil => rfl
  | cons x l ih => rw [List.flatMap_cons, List.length_append, ih, List.length_cons, show (nums4 x).length = 4 from rfl]; omega
set_option maxRecDepth 100000 in
set_option maxHeartbeats 8000000 in
theorem numbers_r (p : Pr) (a1 : Option Addr) (n1 c1 : Nat) (a2 : Option Addr) (n2 c2 : Nat) (w : World) (h1 : Sl 1 encI w a1 n1 p.known) (h2 : Sl 4 encNr w a2 n2 p.near) (hn1 : n1 ≤ 2000000) (hn2 : n2 ≤ 2000000) (z1 : a1 = none → c1 = 0) :
    Calls Tryd.prog 67 #[.agg #[.int .i64 p.id, .slice a1 n1 c1, .int .i64 p.left, .int .i64 p.right, .slice a2 n2 c2]] w (OiPost (numsP p) w) := by
  obtain ⟨id, lf, rt, kn, nr⟩ := p
  have HN : Hid (numsP ⟨id, lf, rt, kn, nr⟩ = (kn ++ [lf, rt]) ++ nr.flatMap nums4) := Lib.hid rfl
  have hkl : kn.length ≤ 2000000 := by have : kn.length = n1 := h1.len; omega
  have hnl : nr.length = n2 := h2.len
  have hw0 := Nat.le_refl w.heap.size
  simp only at h1 h2 ⊢
  have B1 := Blk.new w [.int .i64 id, .slice a1 n1 c1, .int .i64 lf, .int .i64 rt, .slice a2 n2 c2] 41
  have kk := Ex.new w (.cells #[.int .i64 id, .slice a1 n1 c1, .int .i64 lf, .int .i64 rt, .slice a2 n2 c2] 41)
  obtain ⟨w1, hw1⟩ : ∃ w1, w1 = w.alloc (.cells #[.int .i64 id, .slice a1 n1 c1, .int .i64 lf, .int .i64 rt, .slice a2 n2 c2] 41) := ⟨_, rfl⟩
  obtain ⟨g, hg⟩ : ∃ g, g = w.heap.size := ⟨_, rfl⟩
  replace B1 : Blk w1 g [.int .i64 id, .slice a1 n1 c1, .int .i64 lf, .int .i64 rt, .slice a2 n2 c2] 41 := by rw [hw1, hg]; exact B1
  rw [← hw1] at kk
  have Hw1 := Lib.hid hw1
  have Hg := Lib.hid hg
  replace h1 := h1.nx kk
  replace h2 := h2.nx kk
  have hz1 := kk.size
  have K1 := Lib.hid kk
  have S1 := Lib.hid h1
  have S2 := Lib.hid h2
  clear h1 h2 kk hw1 hg
  go_enter Tryd.func67, Tryd.ntmps67
  go_upto_region 1 with fail
  rw [← Hg.out, ← Hw1.out]
  clear Hg Hw1
  have BH := Lib.hid B1
  clear B1
  go_cut [3] from 5 to 14 (fun s3 wx => NmCut (kn ++ [lf, rt]) w1 s3 wx)
  case first =>
    refine wp_region_held_drew (S := Ex w1) (by kernel_rfl) ((Ex.refl w1).drew) (fun hHeld => ?_)
    refine wpAnyH_take (i := 0) (oi := ⟨some 5, .fieldAddr 41 (.tmp 1) 1, 0, "ref.go:117", #[], none⟩) (v := ?_) rfl (by kernel_rfl) (by kernel_rfl) (by kernel_rfl) (fun _ _ _ h => h) (Or.inl ⟨by rfl, ?hyr1x0q1⟩) (by assumption) ?restr1x0q1
    case hyr1x0q1 => intro wq hSw; (go_simp); (try with_reducible rfl)
    try simp only [Act.put, List.setIfInBounds_toArray, List.set_cons_zero, List.set_cons_succ]
    refine wpAnyH_take (i := 1) (oi := ⟨some 6, .load 22 (.tmp 5), 22, "ref.go:117", #[⟨0, .data⟩], none⟩) (v := ?_) rfl (by kernel_rfl) (by kernel_rfl) (by kernel_rfl) (fun _ _ _ h => h) (Or.inl ⟨by rfl, ?hyr1x1q4⟩) (by assumption) ?restr1x1q4
    case hyr1x1q4 => intro wq hSw; (have cq := (BH.out.nx hSw).cell 1 _ rfl; go_simp); (try with_reducible rfl)
    try simp only [Act.put, List.setIfInBounds_toArray, List.set_cons_zero, List.set_cons_succ]
    refine wpAnyH_take (i := 3) (oi := ⟨some 8, .fieldAddr 41 (.tmp 1) 2, 0, "ref.go:117", #[], none⟩) (v := ?_) rfl (by kernel_rfl) (by kernel_rfl) (by kernel_rfl) (fun _ _ _ h => h) (Or.inl ⟨by rfl, ?hyr1x3q7⟩) (by assumption) ?restr1x3q7
    case hyr1x3q7 => intro wq hSw; (go_simp); (try with_reducible rfl)
    try simp only [Act.put, List.setIfInBounds_toArray, List.set_cons_zero, List.set_cons_succ]
    refine wpAnyH_take (i := 4) (oi := ⟨some 9, .load 3 (.tmp 8), 3, "ref.go:117", #[⟨3, .data⟩], none⟩) (v := ?_) rfl (by kernel_rfl) (by kernel_rfl) (by kernel_rfl) (fun _ _ _ h => h) (Or.inl ⟨by rfl, ?hyr1x4q10⟩) (by assumption) ?restr1x4q10
    case hyr1x4q10 => intro wq hSw; (have cq := (BH.out.nx hSw).cell 2 _ rfl; go_simp); (try with_reducible rfl)
    try simp only [Act.put, List.setIfInBounds_toArray, List.set_cons_zero, List.set_cons_succ]
    refine wpAnyH_take (i := 5) (oi := ⟨some 10, .fieldAddr 41 (.tmp 1) 3, 0, "ref.go:117", #[], none⟩) (v := ?_) rfl (by kernel_rfl) (by kernel_rfl) (by kernel_rfl) (fun _ _ _ h => h) (Or.inl ⟨by rfl, ?hyr1x5q13⟩) (by assumption) ?restr1x5q13
    case hyr1x5q13 => intro wq hSw; (go_simp); (try with_reducible rfl)
    try simp only [Act.put, List.setIfInBounds_toArray, List.set_cons_zero, List.set_cons_succ]
    refine wpAnyH_take (i := 6) (oi := ⟨some 11, .load 3 (.tmp 10), 3, "ref.go:117", #[⟨5, .data⟩], none⟩) (v := ?_) rfl (by kernel_rfl) (by kernel_rfl) (by kernel_rfl) (fun _ _ _ h => h) (Or.inl ⟨by rfl, ?hyr1x6q16⟩) (by assumption) ?restr1x6q16
    case hyr1x6q16 => intro wq hSw; (have cq := (BH.out.nx hSw).cell 3 _ rfl; go_simp); (try with_reducible rfl)
    try simp only [Act.put, List.setIfInBounds_toArray, List.set_cons_zero, List.set_cons_succ]
    refine wpAnyH_ready (rs := [2, 7]) (by kernel_rfl) (by simp) ?_
    refine AllReadyH.cons (o := ⟨some 7, .call { callee := .builtin .append, args := #[.const (.slice none 0 0), .tmp 6], argTypes := #[22, 22] }, 22, "ref.go:117", #[⟨1, .data⟩], none⟩) rfl (fun K hK => ?_) ?_
    · rw [if_pos (by rfl)]
      have s0 := S1.out.nx hHeld
      have z0 := Ex.size hHeld
      refine wp_append_rd (enc := encI) _ (.const (.slice none 0 0)) (.tmp 6) 22 rfl w1.heap.size 3 (.int .i64 0) 1 8 Tryd.underlying22 Tryd.infoI6 rfl (by omega) (by omega) _ [] (OwnL.nil _ _ _ _ _) rfl _ _ n1 c1 kn s0 z1 (fun _ => rfl) (by simp [encI, Value.oneCell']) rfl (by simp) (by omega) z0 ?_
      intro v7 w7 own7 ch0 ch1
      have k7 : Ex _ w7 := ch0.mono (fun k hk => ⟨hk, by simp [Value.ownBlock]⟩)
      (try replace L8 := L8.nx k7)
      have j7 : Ex w1 w7 := Chg.trans hHeld ch1
      rw [List.nil_append] at own7
      clear ch0 ch1 s0 z0 k7 hHeld
      have hHeld := j7
      clear j7
      refine hK.out _ _ (hHeld) (fun hHeld => ?_)
      clear hK K
      try simp only [Act.put, List.setIfInBounds_toArray, List.set_cons_zero, List.set_cons_succ]
      refine wpAnyH_ready (rs := [7]) (by kernel_rfl) (by simp) ?_
      refine AllReadyH.cons (o := ⟨some 12, .buildSlice 22 2 #[(0, .tmp 9), (1, .tmp 11)], 22, "ref.go:117", #[⟨4, .data⟩, ⟨6, .data⟩], none⟩) rfl (fun K hK => ?_) AllReadyH.nil
      go_simp
      obtain ⟨g8, u8, hg8, hu8, L8, k8, j8⟩ := lit2 hHeld lf rt
      (try replace own7 := own7.nx k8)
      (first | rw [← hg8, ← hu8] | (rw [show w1.drew.heap.size = w1.heap.size from rfl] at hg8; rw [← hg8, show ∀ o, (w1.alloc o).drew = w1.drew.alloc o from fun _ => rfl, ← hu8]))
      clear hg8 hu8 k8 hHeld
      have hHeld := j8
      clear j8
      refine hK.out _ _ (hHeld) (fun hHeld => ?_)
      clear hK K
      try simp only [Act.put, List.setIfInBounds_toArray, List.set_cons_zero, List.set_cons_succ]
      refine wpAnyH_ready (rs := [8]) (by kernel_rfl) (by simp) ?_
      refine AllReadyH.cons (o := ⟨some 13, .call { callee := .builtin .append, args := #[.tmp 7, .tmp 12], argTypes := #[22, 22] }, 22, "ref.go:117", #[⟨2, .data⟩, ⟨7, .data⟩, ⟨2, .chain⟩], none⟩) rfl (fun K hK => ?_) AllReadyH.nil
      rw [if_pos (by rfl)]
      have z0 := Ex.size hHeld
      refine wp_append_rd (enc := encI) _ (.tmp 7) (.tmp 12) 22 rfl w1.heap.size 3 (.int .i64 0) 1 8 Tryd.underlying22 Tryd.infoI6 rfl (by omega) (by omega) _ kn own7 rfl _ _ 2 2 [lf, rt] L8 (fun h => by cases h) (fun _ => rfl) (by simp [encI, Value.oneCell']) rfl (by omega) (by omega) z0 ?_
      intro v9 w9 own9 ch0 ch1
      have j9 : Ex w1 w9 := Chg.trans hHeld ch1
      clear ch0 ch1 z0 own7 L8 hHeld
      have hHeld := j9
      clear j9
      refine hK.out _ _ (hHeld) (fun hHeld => ?_)
      clear hK K
      try simp only [Act.put, List.setIfInBounds_toArray, List.set_cons_zero, List.set_cons_succ]
      refine wpAnyH_take (i := 9) (oi := ⟨some 3, .assign (.tmp 13), 22, "ref.go:117", #[⟨8, .data⟩, ⟨8, .chain⟩, ⟨0, .phase⟩, ⟨1, .phase⟩, ⟨2, .phase⟩, ⟨3, .phase⟩, ⟨4, .phase⟩, ⟨5, .phase⟩, ⟨6, .phase⟩, ⟨7, .phase⟩, ⟨8, .phase⟩], none⟩) (v := ?_) rfl (by kernel_rfl) (by kernel_rfl) (by kernel_rfl) (fun _ _ _ h => h) (Or.inl ⟨by rfl, ?hyr1x9q61⟩) (by assumption) ?restr1x9q61
      case hyr1x9q61 => intro wq hSw; (go_simp); (try with_reducible rfl)
      try simp only [Act.put, List.setIfInBounds_toArray, List.set_cons_zero, List.set_cons_succ]
      refine wpAnyH_done (by kernel_rfl) ?_ _
      go_wp2_with fail
      go_meet
      exact ⟨own9, hHeld⟩
    refine AllReadyH.cons (o := ⟨some 12, .buildSlice 22 2 #[(0, .tmp 9), (1, .tmp 11)], 22, "ref.go:117", #[⟨4, .data⟩, ⟨6, .data⟩], none⟩) rfl (fun K hK => ?_) AllReadyH.nil
    · go_simp
      obtain ⟨g8, u8, hg8, hu8, L8, k8, j8⟩ := lit2 hHeld lf rt
      (try replace own7 := own7.nx k8)
      (first | rw [← hg8, ← hu8] | (rw [show w1.drew.heap.size = w1.heap.size from rfl] at hg8; rw [← hg8, show ∀ o, (w1.alloc o).drew = w1.drew.alloc o from fun _ => rfl, ← hu8]))
      clear hg8 hu8 k8 hHeld
      have hHeld := j8
      clear j8
      refine hK.out _ _ (hHeld) (fun hHeld => ?_)
      clear hK K
      try simp only [Act.put, List.setIfInBounds_toArray, List.set_cons_zero, List.set_cons_succ]
      refine wpAnyH_ready (rs := [2]) (by kernel_rfl) (by simp) ?_
      refine AllReadyH.cons (o := ⟨some 7, .call { callee := .builtin .append, args := #[.const (.slice none 0 0), .tmp 6], argTypes := #[22, 22] }, 22, "ref.go:117", #[⟨1, .data⟩], none⟩) rfl (fun K hK => ?_) AllReadyH.nil
      rw [if_pos (by rfl)]
      have s0 := S1.out.nx hHeld
      have z0 := Ex.size hHeld
      refine wp_append_rd (enc := encI) _ (.const (.slice none 0 0)) (.tmp 6) 22 rfl w1.heap.size 3 (.int .i64 0) 1 8 Tryd.underlying22 Tryd.infoI6 rfl (by omega) (by omega) _ [] (OwnL.nil _ _ _ _ _) rfl _ _ n1 c1 kn s0 z1 (fun _ => rfl) (by simp [encI, Value.oneCell']) rfl (by simp) (by omega) z0 ?_
      intro v7 w7 own7 ch0 ch1
      have k7 : Ex _ w7 := ch0.mono (fun k hk => ⟨hk, by simp [Value.ownBlock]⟩)
      (try replace L8 := L8.nx k7)
      have j7 : Ex w1 w7 := Chg.trans hHeld ch1
      rw [List.nil_append] at own7
      clear ch0 ch1 s0 z0 k7 hHeld
      have hHeld := j7
      clear j7
      refine hK.out _ _ (hHeld) (fun hHeld => ?_)
      clear hK K
      try simp only [Act.put, List.setIfInBounds_toArray, List.set_cons_zero, List.set_cons_succ]
      refine wpAnyH_ready (rs := [8]) (by kernel_rfl) (by simp) ?_
      refine AllReadyH.cons (o := ⟨some 13, .call { callee := .builtin .append, args := #[.tmp 7, .tmp 12], argTypes := #[22, 22] }, 22, "ref.go:117", #[⟨2, .data⟩, ⟨7, .data⟩, ⟨2, .chain⟩], none⟩) rfl (fun K hK => ?_) AllReadyH.nil
      rw [if_pos (by rfl)]
      have z0 := Ex.size hHeld
      refine wp_append_rd (enc := encI) _ (.tmp 7) (.tmp 12) 22 rfl w1.heap.size 3 (.int .i64 0) 1 8 Tryd.underlying22 Tryd.infoI6 rfl (by omega) (by omega) _ kn own7 rfl _ _ 2 2 [lf, rt] L8 (fun h => by cases h) (fun _ => rfl) (by simp [encI, Value.oneCell']) rfl (by omega) (by omega) z0 ?_
      intro v9 w9 own9 ch0 ch1
      have j9 : Ex w1 w9 := Chg.trans hHeld ch1
      clear ch0 ch1 z0 own7 L8 hHeld
      have hHeld := j9
      clear j9
      refine hK.out _ _ (hHeld) (fun hHeld => ?_)
      clear hK K
      try simp only [Act.put, List.setIfInBounds_toArray, List.set_cons_zero, List.set_cons_succ]
      refine wpAnyH_take (i := 9) (oi := ⟨some 3, .assign (.tmp 13), 22, "ref.go:117", #[⟨8, .data⟩, ⟨8, .chain⟩, ⟨0, .phase⟩, ⟨1, .phase⟩, ⟨2, .phase⟩, ⟨3, .phase⟩, ⟨4, .phase⟩, ⟨5, .phase⟩, ⟨6, .phase⟩, ⟨7, .phase⟩, ⟨8, .phase⟩], none⟩) (v := ?_) rfl (by kernel_rfl) (by kernel_rfl) (by kernel_rfl) (fun _ _ _ h => h) (Or.inl ⟨by rfl, ?hyr1x9q107⟩) (by assumption) ?restr1x9q107
      case hyr1x9q107 => intro wq hSw; (go_simp); (try with_reducible rfl)
      try simp only [Act.put, List.setIfInBounds_toArray, List.set_cons_zero, List.set_cons_succ]
      refine wpAnyH_done (by kernel_rfl) ?_ _
      go_wp2_with fail
      go_meet
      exact ⟨own9, hHeld⟩
  case rest =>
    obtain ⟨own, kk⟩ := hcut
    have hl0 : (kn ++ [lf, rt]).length ≤ 2000002 := by simp; omega
    generalize kn ++ [lf, rt] = l0 at own HN hl0
    have OWN := Lib.hid own
    have KC := Lib.hid kk
    clear own kk
    go_wp2_with fail
    go_loopw [3, 4] (fun o i wr => NmRel l0 nr w1 o i wr) (fun _ i _ => nr.length - (intOf i).toNat)
    case atStart => exact ⟨0, by omega, rfl, by simpa using OWN.out, KC.out⟩
    case round =>
      obtain ⟨j, hj, rfl, own, ki⟩ := hrel
      obtain ⟨wi, rfl⟩ : ∃ wi : World, wi = wr := ⟨_, rfl⟩
      have b4 := (BH.out.nx ki).cell 4 _ rfl
      by_cases hjm : j < n2
      · obtain ⟨x3, o3, y, rfl, hx3, hy, hc3⟩ := S2.out.at hjm
        have e0 : w1.cell? ⟨x3, o3 + j * 4, none⟩ = some (.int .i64 y.1) := hc3 0 _ rfl
        have e1 : w1.cell? ⟨x3, o3 + j * 4 + 1, none⟩ = some (.int .i64 y.2.1) := hc3 1 _ rfl
        have e2 : w1.cell? ⟨x3, o3 + j * 4 + 2, none⟩ = some (.int .i64 y.2.2.1) := hc3 2 _ rfl
        have e3 : w1.cell? ⟨x3, o3 + j * 4 + 3, none⟩ = some (.int .i64 y.2.2.2) := hc3 3 _ rfl
        have SN := Lib.hid (nm_snoc (l0 := l0) hy)
        have hrl : (l0 ++ (nr.take j).flatMap nums4).length ≤ 50000000 := by
          rw [List.length_append, nums_len, List.length_take]
          omega
        generalize l0 ++ (nr.take j).flatMap nums4 = row at own SN hrl
        have E := Lib.hid (show ∀ wq, Ex w1 wq → wq.cell? ⟨x3, o3 + j * 4, none⟩ = some (.int .i64 y.1) ∧ wq.cell? ⟨x3, o3 + j * 4 + 1, none⟩ = some (.int .i64 y.2.1) ∧ wq.cell? ⟨x3, o3 + j * 4 + 2, none⟩ = some (.int .i64 y.2.2.1) ∧ wq.cell? ⟨x3, o3 + j * 4 + 3, none⟩ = some (.int .i64 y.2.2.2) from fun wq k => ⟨Chg.cellv k e0 hx3, Chg.cellv k e1 hx3, Chg.cellv k e2 hx3, Chg.cellv k e3 hx3⟩)
        have zb := ki.size
        have KI := Lib.hid ki
        have OWN := Lib.hid (own.nx (Ex.drew (Ex.refl wi)))
        clear hy hc3 e0 e1 e2 e3 own ki
        go_upto_region 5 with fail
        clear b4
        refine wp_region_held_drew (S := Ex w1) (by kernel_rfl) (KI.out.drew) (fun hHeld => ?_)
        refine wpAnyH_take (i := 0) (oi := ⟨some 21, .move (.tmp 3), 22, "ref.go:119", #[], none⟩) (v := ?_) rfl (by kernel_rfl) (by kernel_rfl) (by kernel_rfl) (fun _ _ _ h => h) (Or.inl ⟨by rfl, ?hyr2x0q1⟩) (by assumption) ?restr2x0q1
        case hyr2x0q1 => intro wq hSw; (go_simp); (try with_reducible rfl)
        try simp only [Act.put, List.setIfInBounds_toArray, List.set_cons_zero, List.set_cons_succ]
        refine wpAnyH_take (i := 1) (oi := ⟨some 22, .fieldAddr 41 (.tmp 1) 4, 0, "ref.go:119", #[], none⟩) (v := ?_) rfl (by kernel_rfl) (by kernel_rfl) (by kernel_rfl) (fun _ _ _ h => h) (Or.inl ⟨by rfl, ?hyr2x1q4⟩) (by assumption) ?restr2x1q4
        case hyr2x1q4 => intro wq hSw; (go_simp); (try with_reducible rfl)
        try simp only [Act.put, List.setIfInBounds_toArray, List.set_cons_zero, List.set_cons_succ]
        refine wpAnyH_take (i := 2) (oi := ⟨some 23, .load 39 (.tmp 22), 39, "ref.go:119", #[⟨1, .data⟩], none⟩) (v := ?_) rfl (by kernel_rfl) (by kernel_rfl) (by kernel_rfl) (fun _ _ _ h => h) (Or.inl ⟨by rfl, ?hyr2x2q7⟩) (by assumption) ?restr2x2q7
        case hyr2x2q7 => intro wq hSw; (have cq := (BH.out.nx hSw).cell 4 _ rfl; go_simp); (try with_reducible rfl)
        try simp only [Act.put, List.setIfInBounds_toArray, List.set_cons_zero, List.set_cons_succ]
        refine wpAnyH_take (i := 3) (oi := ⟨some 24, .move (.tmp 4), 3, "ref.go:119", #[], none⟩) (v := ?_) rfl (by kernel_rfl) (by kernel_rfl) (by kernel_rfl) (fun _ _ _ h => h) (Or.inl ⟨by rfl, ?hyr2x3q10⟩) (by assumption) ?restr2x3q10
        case hyr2x3q10 => intro wq hSw; (go_simp); (try with_reducible rfl)
        try simp only [Act.put, List.setIfInBounds_toArray, List.set_cons_zero, List.set_cons_succ]
        refine wpAnyH_take (i := 4) (oi := ⟨some 25, .indexAddr 39 (.tmp 23) (.tmp 24), 0, "ref.go:119", #[⟨2, .data⟩, ⟨3, .data⟩], none⟩) (v := ?_) rfl (by kernel_rfl) (by kernel_rfl) (by kernel_rfl) (fun _ _ _ h => h) (Or.inl ⟨by rfl, ?hyr2x4q13⟩) (by assumption) ?restr2x4q13
        case hyr2x4q13 => intro wq hSw; (go_simp); (try with_reducible rfl)
        try simp only [Act.put, List.setIfInBounds_toArray, List.set_cons_zero, List.set_cons_succ]
        refine wpAnyH_take (i := 5) (oi := ⟨some 26, .fieldAddr 77 (.tmp 25) 0, 0, "ref.go:119", #[⟨4, .data⟩], none⟩) (v := ?_) rfl (by kernel_rfl) (by kernel_rfl) (by kernel_rfl) (fun _ _ _ h => h) (Or.inl ⟨by rfl, ?hyr2x5q16⟩) (by assumption) ?restr2x5q16
        case hyr2x5q16 => intro wq hSw; (go_simp); (try with_reducible rfl)
        try simp only [Act.put, List.setIfInBounds_toArray, List.set_cons_zero, List.set_cons_succ]
        refine wpAnyH_take (i := 6) (oi := ⟨some 27, .load 3 (.tmp 26), 3, "ref.go:119", #[⟨5, .data⟩], none⟩) (v := ?_) rfl (by kernel_rfl) (by kernel_rfl) (by kernel_rfl) (fun _ _ _ h => h) (Or.inl ⟨by rfl, ?hyr2x6q19⟩) (by assumption) ?restr2x6q19
        case hyr2x6q19 => intro wq hSw; ((obtain ⟨q0, q1, q2, q3⟩ := E.out _ hSw); go_simp); (try with_reducible rfl)
        try simp only [Act.put, List.setIfInBounds_toArray, List.set_cons_zero, List.set_cons_succ]
        refine wpAnyH_take (i := 7) (oi := ⟨some 28, .fieldAddr 41 (.tmp 1) 4, 0, "ref.go:119", #[], none⟩) (v := ?_) rfl (by kernel_rfl) (by kernel_rfl) (by kernel_rfl) (fun _ _ _ h => h) (Or.inl ⟨by rfl, ?hyr2x7q22⟩) (by assumption) ?restr2x7q22
        case hyr2x7q22 => intro wq hSw; (go_simp); (try with_reducible rfl)
        try simp only [Act.put, List.setIfInBounds_toArray, List.set_cons_zero, List.set_cons_succ]
        refine wpAnyH_take (i := 8) (oi := ⟨some 29, .load 39 (.tmp 28), 39, "ref.go:119", #[⟨7, .data⟩], none⟩) (v := ?_) rfl (by kernel_rfl) (by kernel_rfl) (by kernel_rfl) (fun _ _ _ h => h) (Or.inl ⟨by rfl, ?hyr2x8q25⟩) (by assumption) ?restr2x8q25
        case hyr2x8q25 => intro wq hSw; (have cq := (BH.out.nx hSw).cell 4 _ rfl; go_simp); (try with_reducible rfl)
        try simp only [Act.put, List.setIfInBounds_toArray, List.set_cons_zero, List.set_cons_succ]
        refine wpAnyH_take (i := 9) (oi := ⟨some 30, .move (.tmp 4), 3, "ref.go:119", #[], none⟩) (v := ?_) rfl (by kernel_rfl) (by kernel_rfl) (by kernel_rfl) (fun _ _ _ h => h) (Or.inl ⟨by rfl, ?hyr2x9q28⟩) (by assumption) ?restr2x9q28
        case hyr2x9q28 => intro wq hSw; (go_simp); (try with_reducible rfl)
        try simp only [Act.put, List.setIfInBounds_toArray, List.set_cons_zero, List.set_cons_succ]
        refine wpAnyH_take (i := 10) (oi := ⟨some 31, .indexAddr 39 (.tmp 29) (.tmp 30), 0, "ref.go:119", #[⟨8, .data⟩, ⟨9, .data⟩], none⟩) (v := ?_) rfl (by kernel_rfl) (by kernel_rfl) (by kernel_rfl) (fun _ _ _ h => h) (Or.inl ⟨by rfl, ?hyr2x10q31⟩) (by assumption) ?restr2x10q31
        case hyr2x10q31 => intro wq hSw; (go_simp); (try with_reducible rfl)
        try simp only [Act.put, List.setIfInBounds_toArray, List.set_cons_zero, List.set_cons_succ]
        refine wpAnyH_take (i := 11) (oi := ⟨some 32, .fieldAddr 77 (.tmp 31) 1, 0, "ref.go:119", #[⟨10, .data⟩], none⟩) (v := ?_) rfl (by kernel_rfl) (by kernel_rfl) (by kernel_rfl) (fun _ _ _ h => h) (Or.inl ⟨by rfl, ?hyr2x11q34⟩) (by assumption) ?restr2x11q34
        case hyr2x11q34 => intro wq hSw; (go_simp); (try with_reducible rfl)
        try simp only [Act.put, List.setIfInBounds_toArray, List.set_cons_zero, List.set_cons_succ]
        refine wpAnyH_take (i := 12) (oi := ⟨some 33, .load 3 (.tmp 32), 3, "ref.go:119", #[⟨11, .data⟩], none⟩) (v := ?_) rfl (by kernel_rfl) (by kernel_rfl) (by kernel_rfl) (fun _ _ _ h => h) (Or.inl ⟨by rfl, ?hyr2x12q37⟩) (by assumption) ?restr2x12q37
        case hyr2x12q37 => intro wq hSw; ((obtain ⟨q0, q1, q2, q3⟩ := E.out _ hSw); go_simp); (try with_reducible rfl)
        try simp only [Act.put, List.setIfInBounds_toArray, List.set_cons_zero, List.set_cons_succ]
        refine wpAnyH_take (i := 13) (oi := ⟨some 34, .fieldAddr 41 (.tmp 1) 4, 0, "ref.go:119", #[], none⟩) (v := ?_) rfl (by kernel_rfl) (by kernel_rfl) (by kernel_rfl) (fun _ _ _ h => h) (Or.inl ⟨by rfl, ?hyr2x13q40⟩) (by assumption) ?restr2x13q40
        case hyr2x13q40 => intro wq hSw; (go_simp); (try with_reducible rfl)
        try simp only [Act.put, List.setIfInBounds_toArray, List.set_cons_zero, List.set_cons_succ]
        refine wpAnyH_take (i := 14) (oi := ⟨some 35, .load 39 (.tmp 34), 39, "ref.go:119", #[⟨13, .data⟩], none⟩) (v := ?_) rfl (by kernel_rfl) (by kernel_rfl) (by kernel_rfl) (fun _ _ _ h => h) (Or.inl ⟨by rfl, ?hyr2x14q43⟩) (by assumption) ?restr2x14q43
        case hyr2x14q43 => intro wq hSw; (have cq := (BH.out.nx hSw).cell 4 _ rfl; go_simp); (try with_reducible rfl)
        try simp only [Act.put, List.setIfInBounds_toArray, List.set_cons_zero, List.set_cons_succ]
        refine wpAnyH_take (i := 15) (oi := ⟨some 36, .move (.tmp 4), 3, "ref.go:119", #[], none⟩) (v := ?_) rfl (by kernel_rfl) (by kernel_rfl) (by kernel_rfl) (fun _ _ _ h => h) (Or.inl ⟨by rfl, ?hyr2x15q46⟩) (by assumption) ?restr2x15q46
        case hyr2x15q46 => intro wq hSw; (go_simp); (try with_reducible rfl)
        try simp only [Act.put, List.setIfInBounds_toArray, List.set_cons_zero, List.set_cons_succ]
        refine wpAnyH_take (i := 16) (oi := ⟨some 37, .indexAddr 39 (.tmp 35) (.tmp 36), 0, "ref.go:119", #[⟨14, .data⟩, ⟨15, .data⟩], none⟩) (v := ?_) rfl (by kernel_rfl) (by kernel_rfl) (by kernel_rfl) (fun _ _ _ h => h) (Or.inl ⟨by rfl, ?hyr2x16q49⟩) (by assumption) ?restr2x16q49
        case hyr2x16q49 => intro wq hSw; (go_simp); (try with_reducible rfl)
        try simp only [Act.put, List.setIfInBounds_toArray, List.set_cons_zero, List.set_cons_succ]
        refine wpAnyH_take (i := 17) (oi := ⟨some 38, .fieldAddr 77 (.tmp 37) 2, 0, "ref.go:119", #[⟨16, .data⟩], none⟩) (v := ?_) rfl (by kernel_rfl) (by kernel_rfl) (by kernel_rfl) (fun _ _ _ h => h) (Or.inl ⟨by rfl, ?hyr2x17q52⟩) (by assumption) ?restr2x17q52
        case hyr2x17q52 => intro wq hSw; (go_simp); (try with_reducible rfl)
        try simp only [Act.put, List.setIfInBounds_toArray, List.set_cons_zero, List.set_cons_succ]
        refine wpAnyH_take (i := 18) (oi := ⟨some 39, .load 3 (.tmp 38), 3, "ref.go:119", #[⟨17, .data⟩], none⟩) (v := ?_) rfl (by kernel_rfl) (by kernel_rfl) (by kernel_rfl) (fun _ _ _ h => h) (Or.inl ⟨by rfl, ?hyr2x18q55⟩) (by assumption) ?restr2x18q55
        case hyr2x18q55 => intro wq hSw; ((obtain ⟨q0, q1, q2, q3⟩ := E.out _ hSw); go_simp); (try with_reducible rfl)
        try simp only [Act.put, List.setIfInBounds_toArray, List.set_cons_zero, List.set_cons_succ]
        refine wpAnyH_take (i := 19) (oi := ⟨some 40, .fieldAddr 41 (.tmp 1) 4, 0, "ref.go:119", #[], none⟩) (v := ?_) rfl (by kernel_rfl) (by kernel_rfl) (by kernel_rfl) (fun _ _ _ h => h) (Or.inl ⟨by rfl, ?hyr2x19q58⟩) (by assumption) ?restr2x19q58
        case hyr2x19q58 => intro wq hSw; (go_simp); (try with_reducible rfl)
        try simp only [Act.put, List.setIfInBounds_toArray, List.set_cons_zero, List.set_cons_succ]
        refine wpAnyH_take (i := 20) (oi := ⟨some 41, .load 39 (.tmp 40), 39, "ref.go:119", #[⟨19, .data⟩], none⟩) (v := ?_) rfl (by kernel_rfl) (by kernel_rfl) (by kernel_rfl) (fun _ _ _ h => h) (Or.inl ⟨by rfl, ?hyr2x20q61⟩) (by assumption) ?restr2x20q61
        case hyr2x20q61 => intro wq hSw; (have cq := (BH.out.nx hSw).cell 4 _ rfl; go_simp); (try with_reducible rfl)
        try simp only [Act.put, List.setIfInBounds_toArray, List.set_cons_zero, List.set_cons_succ]
        refine wpAnyH_take (i := 21) (oi := ⟨some 42, .move (.tmp 4), 3, "ref.go:119", #[], none⟩) (v := ?_) rfl (by kernel_rfl) (by kernel_rfl) (by kernel_rfl) (fun _ _ _ h => h) (Or.inl ⟨by rfl, ?hyr2x21q64⟩) (by assumption) ?restr2x21q64
        case hyr2x21q64 => intro wq hSw; (go_simp); (try with_reducible rfl)
        try simp only [Act.put, List.setIfInBounds_toArray, List.set_cons_zero, List.set_cons_succ]
        refine wpAnyH_take (i := 22) (oi := ⟨some 43, .indexAddr 39 (.tmp 41) (.tmp 42), 0, "ref.go:119", #[⟨20, .data⟩, ⟨21, .data⟩], none⟩) (v := ?_) rfl (by kernel_rfl) (by kernel_rfl) (by kernel_rfl) (fun _ _ _ h => h) (Or.inl ⟨by rfl, ?hyr2x22q67⟩) (by assumption) ?restr2x22q67
        case hyr2x22q67 => intro wq hSw; (go_simp); (try with_reducible rfl)
        try simp only [Act.put, List.setIfInBounds_toArray, List.set_cons_zero, List.set_cons_succ]
        refine wpAnyH_take (i := 23) (oi := ⟨some 44, .fieldAddr 77 (.tmp 43) 3, 0, "ref.go:119", #[⟨22, .data⟩], none⟩) (v := ?_) rfl (by kernel_rfl) (by kernel_rfl) (by kernel_rfl) (fun _ _ _ h => h) (Or.inl ⟨by rfl, ?hyr2x23q70⟩) (by assumption) ?restr2x23q70
        case hyr2x23q70 => intro wq hSw; (go_simp); (try with_reducible rfl)
        try simp only [Act.put, List.setIfInBounds_toArray, List.set_cons_zero, List.set_cons_succ]
        refine wpAnyH_take (i := 24) (oi := ⟨some 45, .load 3 (.tmp 44), 3, "ref.go:119", #[⟨23, .data⟩], none⟩) (v := ?_) rfl (by kernel_rfl) (by kernel_rfl) (by kernel_rfl) (fun _ _ _ h => h) (Or.inl ⟨by rfl, ?hyr2x24q73⟩) (by assumption) ?restr2x24q73
        case hyr2x24q73 => intro wq hSw; ((obtain ⟨q0, q1, q2, q3⟩ := E.out _ hSw); go_simp); (try with_reducible rfl)
        try simp only [Act.put, List.setIfInBounds_toArray, List.set_cons_zero, List.set_cons_succ]
        refine wpAnyH_ready (rs := [25]) (by kernel_rfl) (by simp) ?_
        refine AllReadyH.cons (o := ⟨some 46, .buildSlice 22 4 #[(0, .tmp 27), (1, .tmp 33), (2, .tmp 39), (3, .tmp 45)], 22, "ref.go:119", #[⟨6, .data⟩, ⟨12, .data⟩, ⟨18, .data⟩, ⟨24, .data⟩], none⟩) rfl (fun K hK => ?_) AllReadyH.nil
        go_simp
        obtain ⟨g8, u8, hg8, hu8, L8, k8, j8⟩ := lit4 hHeld y
        replace OWN := Lib.hid (OWN.out.nx k8)
        (first | rw [← hg8, ← hu8] | (rw [show wi.drew.heap.size = wi.heap.size from rfl] at hg8; rw [← hg8, show ∀ o, (wi.alloc o).drew = wi.drew.alloc o from fun _ => rfl, ← hu8]))
        clear hg8 hu8 k8 hHeld
        have hHeld := j8
        clear j8
        refine hK.out _ _ (hHeld) (fun hHeld => ?_)
        clear hK K
        try simp only [Act.put, List.setIfInBounds_toArray, List.set_cons_zero, List.set_cons_succ]
        refine wpAnyH_ready (rs := [26]) (by kernel_rfl) (by simp) ?_
        refine AllReadyH.cons (o := ⟨some 47, .call { callee := .builtin .append, args := #[.tmp 21, .tmp 46], argTypes := #[22, 22] }, 22, "ref.go:119", #[⟨0, .data⟩, ⟨25, .data⟩], none⟩) rfl (fun K hK => ?_) AllReadyH.nil
        rw [if_pos (by rfl)]
        have z0 := Ex.size hHeld
        refine wp_append_rd (enc := encI) _ (.tmp 21) (.tmp 46) 22 rfl w1.heap.size 3 (.int .i64 0) 1 8 Tryd.underlying22 Tryd.infoI6 rfl (by omega) (by omega) _ row OWN.out rfl _ _ 4 4 (nums4 y) L8 (fun h => by cases h) (fun _ => rfl) (by simp [encI, Value.oneCell']) rfl (by omega) (by omega) z0 ?_
        intro v9 w9 own9 ch0 ch1
        have j9 : Ex w1 w9 := Chg.trans hHeld ch1
        clear ch0 ch1 z0 L8 hHeld
        have hHeld := j9
        clear j9
        refine hK.out _ _ (hHeld) (fun hHeld => ?_)
        clear hK K
        try simp only [Act.put, List.setIfInBounds_toArray, List.set_cons_zero, List.set_cons_succ]
        refine wpAnyH_take (i := 27) (oi := ⟨some 3, .assign (.tmp 47), 22, "ref.go:119", #[⟨26, .data⟩, ⟨26, .chain⟩, ⟨0, .phase⟩, ⟨1, .phase⟩, ⟨2, .phase⟩, ⟨3, .phase⟩, ⟨4, .phase⟩, ⟨5, .phase⟩, ⟨6, .phase⟩, ⟨7, .phase⟩, ⟨8, .phase⟩, ⟨9, .phase⟩, ⟨10, .phase⟩, ⟨11, .phase⟩, ⟨12, .phase⟩, ⟨13, .phase⟩, ⟨14, .phase⟩, ⟨15, .phase⟩, ⟨16, .phase⟩, ⟨17, .phase⟩, ⟨18, .phase⟩, ⟨19, .phase⟩, ⟨20, .phase⟩, ⟨21, .phase⟩, ⟨22, .phase⟩, ⟨23, .phase⟩, ⟨24, .phase⟩, ⟨25, .phase⟩, ⟨26, .phase⟩], none⟩) (v := ?_) rfl (by kernel_rfl) (by kernel_rfl) (by kernel_rfl) (fun _ _ _ h => h) (Or.inl ⟨by rfl, ?hyr2x27q101⟩) (by assumption) ?restr2x27q101
        case hyr2x27q101 => intro wq hSw; (go_simp); (try with_reducible rfl)
        try simp only [Act.put, List.setIfInBounds_toArray, List.set_cons_zero, List.set_cons_succ]
        refine wpAnyH_done (by kernel_rfl) ?_ _
        skip
        go_wp2_with fail
        exact ⟨⟨j + 1, by omega, by go_num, by rw [SN.out]; exact own9, hHeld⟩, by simp [intOf]; omega⟩
      · obtain rfl : j = n2 := by omega
        rw [List.take_of_length_le (by omega)] at own
        have own := Lib.hid (own.base hz1)
        have KE := Lib.hid (K1.out.nx ki)
        clear hj hjm ki
        go_wp2_with fail
        go_ret
        exact ⟨_, rfl, by rw [HN.out]; exact own.out, KE.out⟩
end Go.Proofs.YtbnbjiddffihoaaDoor

/- append of a long slice that reads as a list. -/
namespace Go.Proofs.YtbnbjiddffihoaaDoor
open Go.RowKit

/-- append of a whole slice that reads as a list -/
theorem wp_append_rdW {P : Program} {α : Type} {enc : α → List Value} {o : Oper} {a : Act} {K : Act → World → Prop} {Q : Exit → Act → World → Prop} (w0 : World) (s x : Operand) (t : TypeId)
    (ho : o.op = .call { callee := .builtin .append, args := #[s, x], argTypes := #[t, t] })
    (base : Nat) (e : TypeId) (z : Value) (sz bytes : Nat) (ht : P.underlying t = some (.slice e)) (hi : (P.info? e).map (fun i => (i.zero, i.size, i.bytes)) = some (some z, sz, bytes))
    (hzs : z.cells.size = sz) (hsz : 0 < sz) (hby : bytes ≤ 65536)
    (v : Value) (l : List α) (hown : OwnL sz enc e base w0 v l) (hs : a.eval s = v) (S : Nat → Prop) (A : Option Addr) (n c : Nat) (news : List α) (hrd : Rd sz enc S w0 A n news) (hA : A = none → c = 0) (hlen : ∀ y, (enc y).length = sz) (h1 : ∀ y, ∀ u ∈ enc y, u.oneCell' = true)
    (hx : a.eval x = .slice A n c) (hb1 : 0 < bytes) (hmul : (l.length + n) * bytes ≤ 140737488355328) (hbase : base ≤ w0.heap.size)
    (h : ∀ v' w', OwnL sz enc e base w' v' (l ++ news) → Chg (fun k => k < w0.heap.size ∧ ¬ v.ownBlock = some k) w0 w' → Chg (· < base) w0 w' → K (a.put o.dst v') w') :
    o.wp P a w0 K Q := by
  obtain ⟨i, hi, hz0, hz1, hz2⟩ := info_parts hi
  have hlen2 : l.length + n ≤ (l.length + n) * bytes := Nat.le_mul_of_pos_right _ hb1
  have hnl := hrd.1
  cases A with
  | none =>
    have hc := hA rfl
    have hn0 : n = 0 := by
      rcases hrd.2 with h0 | ⟨x, o, e1, _⟩
      · exact h0
      · cases e1
    subst hn0 hc
    have hnews : news = [] := List.eq_nil_of_length_eq_zero hnl
    subst hnews
    refine wp_append_none s x t ho base e i sz ht hi v l.length (l.flatMap enc) hs hown hx ?_
    exact h v w0 (by simpa using hown) (Chg.refl _ _) (Chg.refl _ _)
  | some ad =>
    refine wp_append_own _ s x t ho base e i z sz bytes ht hi hz0 hz1 hz2 hzs hsz v l.length (l.flatMap enc) hs hown ad n c (news.flatMap enc) hx ?_ ?_ ?_ (by unfold maxLen; omega) (by omega) hbase ?_
    · have : ∀ l : List α, (l.flatMap enc).length = l.length * sz := by
        intro l
        induction l with
        | nil => simp
        | cons y r ih => rw [List.flatMap_cons, List.length_append, hlen, ih, List.length_cons, Nat.succ_mul]; omega
      rw [this, hnl]
    · intro j u hu
      have hj := (List.getElem?_eq_some_iff.1 hu).1
      rcases hrd.2 with h0 | ⟨x, o, e1, _, e3⟩
      · subst h0
        have : news = [] := List.eq_nil_of_length_eq_zero hnl
        subst this
        simp at hj
      · cases e1
        rw [Addr.add_lit]
        have hdiv : ∃ y, news[j / sz]? = some y ∧ (enc y)[j % sz]? = some u := by
          clear e3 hmul hlen2 hown h hx hrd
          induction news generalizing j n with
          | nil => simp at hu
          | cons y r ih =>
            rw [List.flatMap_cons] at hu
            by_cases hlt : j < sz
            · rw [List.getElem?_append_left (by rw [hlen]; exact hlt)] at hu
              exact ⟨y, by rw [Nat.div_eq_of_lt hlt]; rfl, by rw [Nat.mod_eq_of_lt hlt]; exact hu⟩
            · rw [List.getElem?_append_right (by rw [hlen]; omega), hlen] at hu
              obtain ⟨y', h1', h2'⟩ := ih (n := n - 1) (j := j - sz) (by simp at hnl; omega) hu (List.getElem?_eq_some_iff.1 hu).1
              have e1 : j / sz = (j - sz) / sz + 1 := by
                rw [Nat.div_eq_sub_div hsz (by omega)]
              have e2 : j % sz = (j - sz) % sz := by
                rw [Nat.mod_eq_sub_mod (by omega)]
              exact ⟨y', by rw [e1]; simpa using h1', by rw [e2]; exact h2'⟩
        obtain ⟨y, hy1, hy2⟩ := hdiv
        have := e3 _ y hy1 _ u hy2
        rw [Nat.add_assoc, Nat.mul_comm, Nat.div_add_mod] at this
        exact this
    · intro u hu
      obtain ⟨y, _, hy⟩ := List.mem_flatMap.1 hu
      exact h1 y u hy
    · intro v' w' hown' hgrow hnil
      have hch : Chg (fun k => k < w0.heap.size ∧ ¬ v.ownBlock = some k) w0 w' := ⟨hgrow.os, hgrow.tape, hgrow.output, hgrow.size, fun k hk => hgrow.block k hk.1 (fun h => hk.2 h.symm)⟩
      refine h v' w' ?_ hch (hch.mono fun k hk => ⟨by omega, fun hv => ?_⟩)
      · unfold OwnL
        simpa [List.flatMap_append, hnl] using hown'
      · have := hown.lt k hv
        omega
end Go.Proofs.YtbnbjiddffihoaaDoor

/- Copies of rows and of peers. -/
namespace Go.Proofs.YtbnbjiddffihoaaDoor
open Go.RowKit

theorem Tryd.infoNr : (Tryd.prog.info? 77).map (fun i => (i.zero, i.size, i.bytes)) = some (some (.agg #[.int .i64 0, .int .i64 0, .int .i64 0, .int .i64 0]), 4, 32) := by kernel_rfl
theorem Tryd.infoPr : (Tryd.prog.info? 41).map (fun i => (i.zero, i.size, i.bytes)) = some (some (.agg #[.int .i64 0, .slice none 0 0, .int .i64 0, .int .i64 0, .slice none 0 0]), 5, 72) := by kernel_rfl
/-- append of a whole slice that reads as a list; the empty one may have any capacity -/
theorem wp_append_rq {P : Program} {α : Type} {enc : α → List Value} {o : Oper} {a : Act} {K : Act → World → Prop} {Q : Exit → Act → World → Prop} (w0 : World) (s x : Operand) (t : TypeId)
    (ho : o.op = .call { callee := .builtin .append, args := #[s, x], argTypes := #[t, t] })
    (base : Nat) (e : TypeId) (z : Value) (sz bytes : Nat) (ht : P.underlying t = some (.slice e)) (hi : (P.info? e).map (fun i => (i.zero, i.size, i.bytes)) = some (some z, sz, bytes))
    (hzs : z.cells.size = sz) (hsz : 0 < sz) (hby : bytes ≤ 65536)
    (v : Value) (l : List α) (hown : OwnL sz enc e base w0 v l) (hs : a.eval s = v) (A : Option Addr) (n c : Nat) (news : List α) (hrd : Sl sz enc w0 A n news) (hlen : ∀ y, (enc y).length = sz) (h1 : ∀ y, ∀ u ∈ enc y, u.oneCell' = true)
    (hx : a.eval x = .slice A n c) (hl : l.length ≤ 100000000) (hn : n ≤ 100000000) (hbase : base ≤ w0.heap.size)
    (h : ∀ v' w', OwnL sz enc e base w' v' (l ++ news) → Chg (fun k => k < w0.heap.size ∧ ¬ v.ownBlock = some k) w0 w' → Chg (· < base) w0 w' → K (a.put o.dst v') w') :
    o.wp P a w0 K Q := by
  by_cases hA : A = none → c = 0
  · exact wp_append_rd w0 s x t ho base e z sz bytes ht hi hzs hsz hby v l hown hs (· < w0.heap.size) A n c news hrd hA hlen h1 hx hl hn hbase h
  · have hAn : A = none := by
      cases A with
      | none => rfl
      | some _ => exact absurd (fun h => by cases h) hA
    subst hAn
    obtain ⟨i, hi, hz0, hz1, hz2⟩ := info_parts hi
    have hn0 : n = 0 := by
      rcases hrd.2 with h0 | ⟨x, o, e1, _⟩
      · exact h0
      · cases e1
    subst hn0
    have hnews : news = [] := List.eq_nil_of_length_eq_zero hrd.1
    subst hnews
    have hrun : (Builtin.append_ #[t, t] o.type #[v, .slice none 0 c]).run P w0 = .ok v w0 := by
      rcases hown.2 with ⟨rfl, _⟩ | ⟨g, cap, cur, rfl, _, _, hnc, _⟩
      · simp [Builtin.append_, run_underlying ht, sizeOf, typeInfo, hi, Builtin.lenOf, Builtin.firstCells, loadCells, loadCellsFrom]
      · simp [Builtin.append_, run_underlying ht, sizeOf, typeInfo, hi, Builtin.lenOf, Builtin.firstCells, hnc, storeCells, loadCells, loadCellsFrom]
    unfold Oper.wp execOp
    simp only [ho, resolve, invoke, builtin, Sem.run_bind, Sem.run_pure, Result.andThen_ok, List.map_toArray, List.map_cons, List.map_nil, hs, hx, hrun]
    exact h v w0 (by simpa using hown) (Chg.refl _ _) (Chg.refl _ _)
theorem wpList_append_rq {P : Program} {α : Type} {enc : α → List Value} {ops : Array Oper} {rest : List Oper} {o : Oper} {a : Act} {Q : Exit → Act → World → Prop} (w0 : World) (hgd : o.guard = none) (s x : Operand) (t : TypeId)
    (ho : o.op = .call { callee := .builtin .append, args := #[s, x], argTypes := #[t, t] })
    (base : Nat) (e : TypeId) (z : Value) (sz bytes : Nat) (ht : P.underlying t = some (.slice e)) (hi : (P.info? e).map (fun i => (i.zero, i.size, i.bytes)) = some (some z, sz, bytes))
    (hzs : z.cells.size = sz) (hsz : 0 < sz) (hby : bytes ≤ 65536)
    (v : Value) (l : List α) (hown : OwnL sz enc e base w0 v l) (hs : a.eval s = v) (A : Option Addr) (n c : Nat) (news : List α) (hrd : Sl sz enc w0 A n news) (hlen : ∀ y, (enc y).length = sz) (h1 : ∀ y, ∀ u ∈ enc y, u.oneCell' = true)
    (hx : a.eval x = .slice A n c) (hl : l.length ≤ 100000000) (hn : n ≤ 100000000) (hbase : base ≤ w0.heap.size)
    (h : ∀ v' w', OwnL sz enc e base w' v' (l ++ news) → Chg (fun k => k < w0.heap.size ∧ ¬ v.ownBlock = some k) w0 w' → Chg (· < base) w0 w' → wpList P ops Q rest (a.put o.dst v') w') :
    wpList P ops Q (o :: rest) a w0 :=
  wpList_plain hgd fun _ hK => wp_append_rq w0 s x t ho base e z sz bytes ht hi hzs hsz hby v l hown hs A n c news hrd hlen h1 hx hl hn hbase fun v' w' h2 h3 h4 => hK _ _ (h v' w' h2 h3 h4)

/-- append of a whole slice that reads as a list; the empty one may have any capacity -/
theorem wp_append_rqW {P : Program} {α : Type} {enc : α → List Value} {o : Oper} {a : Act} {K : Act → World → Prop} {Q : Exit → Act → World → Prop} (w0 : World) (s x : Operand) (t : TypeId)
    (ho : o.op = .call { callee := .builtin .append, args := #[s, x], argTypes := #[t, t] })
    (base : Nat) (e : TypeId) (z : Value) (sz bytes : Nat) (ht : P.underlying t = some (.slice e)) (hi : (P.info? e).map (fun i => (i.zero, i.size, i.bytes)) = some (some z, sz, bytes))
    (hzs : z.cells.size = sz) (hsz : 0 < sz) (hby : bytes ≤ 65536)
    (v : Value) (l : List α) (hown : OwnL sz enc e base w0 v l) (hs : a.eval s = v) (A : Option Addr) (n c : Nat) (news : List α) (hrd : Sl sz enc w0 A n news) (hlen : ∀ y, (enc y).length = sz) (h1 : ∀ y, ∀ u ∈ enc y, u.oneCell' = true)
    (hx : a.eval x = .slice A n c) (hb1 : 0 < bytes) (hmul : (l.length + n) * bytes ≤ 140737488355328) (hbase : base ≤ w0.heap.size)
    (h : ∀ v' w', OwnL sz enc e base w' v' (l ++ news) → Chg (fun k => k < w0.heap.size ∧ ¬ v.ownBlock = some k) w0 w' → Chg (· < base) w0 w' → K (a.put o.dst v') w') :
    o.wp P a w0 K Q := by
  by_cases hA : A = none → c = 0
  · exact wp_append_rdW w0 s x t ho base e z sz bytes ht hi hzs hsz hby v l hown hs (· < w0.heap.size) A n c news hrd hA hlen h1 hx hb1 hmul hbase h
  · have hAn : A = none := by
      cases A with
      | none => rfl
      | some _ => exact absurd (fun h => by cases h) hA
    subst hAn
    obtain ⟨i, hi, hz0, hz1, hz2⟩ := info_parts hi
    have hn0 : n = 0 := by
      rcases hrd.2 with h0 | ⟨x, o, e1, _⟩
      · exact h0
      · cases e1
    subst hn0
    have hnews : news = [] := List.eq_nil_of_length_eq_zero hrd.1
    subst hnews
    have hrun : (Builtin.append_ #[t, t] o.type #[v, .slice none 0 c]).run P w0 = .ok v w0 := by
      rcases hown.2 with ⟨rfl, _⟩ | ⟨g, cap, cur, rfl, _, _, hnc, _⟩
      · simp [Builtin.append_, run_underlying ht, sizeOf, typeInfo, hi, Builtin.lenOf, Builtin.firstCells, loadCells, loadCellsFrom]
      · simp [Builtin.append_, run_underlying ht, sizeOf, typeInfo, hi, Builtin.lenOf, Builtin.firstCells, hnc, storeCells, loadCells, loadCellsFrom]
    unfold Oper.wp execOp
    simp only [ho, resolve, invoke, builtin, Sem.run_bind, Sem.run_pure, Result.andThen_ok, List.map_toArray, List.map_cons, List.map_nil, hs, hx, hrun]
    exact h v w0 (by simpa using hown) (Chg.refl _ _) (Chg.refl _ _)
theorem wpList_append_rqW {P : Program} {α : Type} {enc : α → List Value} {ops : Array Oper} {rest : List Oper} {o : Oper} {a : Act} {Q : Exit → Act → World → Prop} (w0 : World) (hgd : o.guard = none) (s x : Operand) (t : TypeId)
    (ho : o.op = .call { callee := .builtin .append, args := #[s, x], argTypes := #[t, t] })
    (base : Nat) (e : TypeId) (z : Value) (sz bytes : Nat) (ht : P.underlying t = some (.slice e)) (hi : (P.info? e).map (fun i => (i.zero, i.size, i.bytes)) = some (some z, sz, bytes))
    (hzs : z.cells.size = sz) (hsz : 0 < sz) (hby : bytes ≤ 65536)
    (v : Value) (l : List α) (hown : OwnL sz enc e base w0 v l) (hs : a.eval s = v) (A : Option Addr) (n c : Nat) (news : List α) (hrd : Sl sz enc w0 A n news) (hlen : ∀ y, (enc y).length = sz) (h1 : ∀ y, ∀ u ∈ enc y, u.oneCell' = true)
    (hx : a.eval x = .slice A n c) (hb1 : 0 < bytes) (hmul : (l.length + n) * bytes ≤ 140737488355328) (hbase : base ≤ w0.heap.size)
    (h : ∀ v' w', OwnL sz enc e base w' v' (l ++ news) → Chg (fun k => k < w0.heap.size ∧ ¬ v.ownBlock = some k) w0 w' → Chg (· < base) w0 w' → wpList P ops Q rest (a.put o.dst v') w') :
    wpList P ops Q (o :: rest) a w0 :=
  wpList_plain hgd fun _ hK => wp_append_rqW w0 s x t ho base e z sz bytes ht hi hzs hsz hby v l hown hs A n c news hrd hlen h1 hx hb1 hmul hbase fun v' w' h2 h3 h4 => hK _ _ (h v' w' h2 h3 h4)

set_option maxRecDepth 100000 in
set_option maxHeartbeats 2000000 in
theorem clone_i (a : Option Addr) (n c : Nat) (l : List Int) (w : World) (h : Sl 1 encI w a n l) (hn : n ≤ 17592186044416) :
    Calls Tryd.prog 77 #[.slice a n c] w fun e w' => ∃ v, e = .returned v ∧ OwnL 1 encI 3 w.heap.size w' v l ∧ Ex w w' := by
  have HL := Lib.hid h.len
  cases a with
  | none =>
    have hn0 : n = 0 := by
      rcases h.2 with h0 | ⟨x, o, e, _⟩
      · exact h0
      · cases e
    have hl : l = [] := List.eq_nil_of_length_eq_zero (HL.out.trans hn0)
    subst hn0 hl
    clear h HL
    have hq : ∀ w : World, (binOp .eql 22 (.slice none 0 c) (.slice none 0 0)).run Tryd.prog w = .ok (.bool true) w := fun w => Lib.run_eql_slice_nil w 22 3 none 0 c 0 0 Tryd.underlying22
    go_enter Tryd.func77, Tryd.ntmps77
    go_wp2
    go_ret
    exact ⟨_, rfl, OwnL.nil _ _ _ _ _, Ex.refl _⟩
  | some A =>
    have q0 := Ex.new w (.cells #[] 3)
    have h0 := h.nx q0
    have own0 : OwnL 1 encI 3 w.heap.size (w.alloc (.cells #[] 3)) (.slice (some ⟨w.heap.size, 0, none⟩) 0 0) [] := OwnL.empty (Nat.le_refl _) rfl
    clear h
    have hq : ∀ w : World, (binOp .eql 22 (.slice (some A) n c) (.slice none 0 0)).run Tryd.prog w = .ok (.bool false) w := fun w => Lib.run_eql_slice_nil w 22 3 (some A) n c 0 0 Tryd.underlying22
    go_enter Tryd.func77, Tryd.ntmps77
    go_wp2_with (at_builtin; (refine wpList_append_rqW (enc := encI) _ rfl _ _ 22 rfl w.heap.size 3 (.int .i64 0) 1 8 Tryd.underlying22 Tryd.infoI6 rfl (by omega) (by omega) _ [] own0 rfl (some A) n c l h0 (fun _ => rfl) (by simp [encI, Value.oneCell']) rfl (by omega) (by simp; omega) (by simp) ?_); intro v1 w1 own1 hch0 hch1)
    go_ret
    exact ⟨_, rfl, by simpa using own1, Chg.trans q0 hch1⟩
set_option maxRecDepth 100000 in
set_option maxHeartbeats 2000000 in
theorem clone_nr (a : Option Addr) (n c : Nat) (l : List Nr) (w : World) (h : Sl 4 encNr w a n l) (hn : n ≤ 4398046511104) :
    Calls Tryd.prog 95 #[.slice a n c] w fun e w' => ∃ v, e = .returned v ∧ OwnL 4 encNr 77 w.heap.size w' v l ∧ Ex w w' := by
  have HL := Lib.hid h.len
  cases a with
  | none =>
    have hn0 : n = 0 := by
      rcases h.2 with h0 | ⟨x, o, e, _⟩
      · exact h0
      · cases e
    have hl : l = [] := List.eq_nil_of_length_eq_zero (HL.out.trans hn0)
    subst hn0 hl
    clear h HL
    have hq : ∀ w : World, (binOp .eql 39 (.slice none 0 c) (.slice none 0 0)).run Tryd.prog w = .ok (.bool true) w := fun w => Lib.run_eql_slice_nil w 39 77 none 0 c 0 0 Tryd.underlying39
    go_enter Tryd.func95, Tryd.ntmps95
    go_wp2
    go_ret
    exact ⟨_, rfl, OwnL.nil _ _ _ _ _, Ex.refl _⟩
  | some A =>
    have q0 := Ex.new w (.cells #[] 77)
    have h0 := h.nx q0
    have own0 : OwnL 4 encNr 77 w.heap.size (w.alloc (.cells #[] 77)) (.slice (some ⟨w.heap.size, 0, none⟩) 0 0) [] := OwnL.empty (Nat.le_refl _) rfl
    clear h
    have hq : ∀ w : World, (binOp .eql 39 (.slice (some A) n c) (.slice none 0 0)).run Tryd.prog w = .ok (.bool false) w := fun w => Lib.run_eql_slice_nil w 39 77 (some A) n c 0 0 Tryd.underlying39
    go_enter Tryd.func95, Tryd.ntmps95
    go_wp2_with (at_builtin; (refine wpList_append_rqW (enc := encNr) _ rfl _ _ 39 rfl w.heap.size 77 (.agg #[.int .i64 0, .int .i64 0, .int .i64 0, .int .i64 0]) 4 32 Tryd.underlying39 Tryd.infoNr rfl (by omega) (by omega) _ [] own0 rfl (some A) n c l h0 (fun _ => rfl) (by simp [encNr, Value.oneCell']) rfl (by omega) (by simp; omega) (by simp) ?_); intro v1 w1 own1 hch0 hch1)
    go_ret
    exact ⟨_, rfl, by simpa using own1, Chg.trans q0 hch1⟩

/-- a peer whose lists lie in memory made since base -/
def CpPost (p : Pr) (base : Nat) (w : World) (e : Ending) (w' : World) : Prop :=
  ∃ hk hn : Hdr, e = .returned (.agg #[.int .i64 p.id, hk.val, .int .i64 p.left, .int .i64 p.right, hn.val]) ∧ OwnL 1 encI 3 base w' hk.val p.known ∧ OwnL 4 encNr 77 base w' hn.val p.near ∧ Ex w w'
set_option maxRecDepth 100000 in
set_option maxHeartbeats 2000000 in
theorem copypeer_r (p : Pr) (a1 : Option Addr) (n1 c1 : Nat) (a2 : Option Addr) (n2 c2 : Nat) (w : World) (h1 : Sl 1 encI w a1 n1 p.known) (h2 : Sl 4 encNr w a2 n2 p.near) (hn1 : n1 ≤ 17592186044416) (hn2 : n2 ≤ 4398046511104) :
    Calls Tryd.prog 72 #[.agg #[.int .i64 p.id, .slice a1 n1 c1, .int .i64 p.left, .int .i64 p.right, .slice a2 n2 c2]] w (CpPost p w.heap.size w) := by
  have EX := Ex.refl w
  have S1 := Lib.hid h1
  have S2 := Lib.hid h2
  clear h1 h2
  obtain ⟨g1, hg1⟩ : ∃ g1, g1 = w.heap.size := ⟨_, rfl⟩
  obtain ⟨g2, hg2⟩ : ∃ g2, g2 = (w.heap.size + 1) := ⟨_, rfl⟩
  obtain ⟨w1, hw1⟩ : ∃ w1, w1 = ((w.alloc (.cells #[.int .i64 p.id, .slice a1 n1 c1, .int .i64 p.left, .int .i64 p.right, .slice a2 n2 c2] 41)).alloc (.cells #[.int .i64 0, .slice none 0 0, .int .i64 0, .int .i64 0, .slice none 0 0] 41)) := ⟨_, rfl⟩
  have kk : Ex w w1 := by rw [hw1]; exact (((Ex.refl w).alloc (.cells #[.int .i64 p.id, .slice a1 n1 c1, .int .i64 p.left, .int .i64 p.right, .slice a2 n2 c2] 41)).alloc (.cells #[.int .i64 0, .slice none 0 0, .int .i64 0, .int .i64 0, .slice none 0 0] 41))
  have B1 : Blk w1 g1 [.int .i64 p.id, .slice a1 n1 c1, .int .i64 p.left, .int .i64 p.right, .slice a2 n2 c2] 41 := by rw [hw1]; simp only [hg1, hg2]; have hbk := ((Blk.new w [.int .i64 p.id, .slice a1 n1 c1, .int .i64 p.left, .int .i64 p.right, .slice a2 n2 c2] 41).nx (Ex.new _ (.cells #[.int .i64 0, .slice none 0 0, .int .i64 0, .int .i64 0, .slice none 0 0] 41))); simpa using hbk
  have B2 : Blk w1 g2 [.int .i64 0, .slice none 0 0, .int .i64 0, .int .i64 0, .slice none 0 0] 41 := by rw [hw1]; simp only [hg1, hg2]; have hbk := (Blk.new (w.alloc (.cells #[.int .i64 p.id, .slice a1 n1 c1, .int .i64 p.left, .int .i64 p.right, .slice a2 n2 c2] 41)) [.int .i64 0, .slice none 0 0, .int .i64 0, .int .i64 0, .slice none 0 0] 41); simpa using hbk
  have Hw1 := Lib.hid hw1
  have Hg1 := Lib.hid hg1
  have Hg2 := Lib.hid hg2
  replace EX := EX.nx kk
  have hg1' : w.heap.size ≤ g1 := by omega
  have hg2' : w.heap.size ≤ g2 := by omega
  have h12 : ¬ g1 = g2 := by omega
  have h21 : ¬ g2 = g1 := by omega
  clear kk hw1 hg1 hg2
  go_enter Tryd.func72, Tryd.ntmps72
  go_upto_region 1 with fail
  rw [← Hw1.out, ← Hg2.out, ← Hg1.out]
  clear Hw1 Hg2 Hg1
  have hz1 := EX.size
  have q1 := B1.cell 1 _ rfl
  have h1 := S1.out.nx EX
  have own0 : OwnL 1 encI 3 w1.heap.size w1 (.slice none 0 0) [] := OwnL.nil _ _ _ _ _
  go_upto_region 2 with (at_builtin; (refine wpList_append_rqW (enc := encI) w1 rfl (.const (.slice none 0 0)) (.tmp 4) 22 rfl w1.heap.size 3 (.int .i64 0) 1 8 Tryd.underlying22 Tryd.infoI6 rfl (by omega) (by omega) _ [] own0 rfl a1 n1 c1 p.known h1 (fun _ => rfl) (by simp [encI, Value.oneCell']) rfl (by omega) (by simp; omega) (Nat.le_refl _) ?_); intro v1 w2 own1 ch0 ch1; rw [List.nil_append] at own1; obtain ⟨A1, C1, rfl, _, _, _, _⟩ := own1.slf (fun _ => rfl); have f1 := (B1.nx ch1).free 1; have r1 := (B1.nx ch1).cell 1 _ rfl; clear q1)
  have k2 : Ex w1 w2 := ch1
  have L1 := B1.lt
  have L2 := B2.lt
  have k3 : Ex w w2 := EX.nx k2
  obtain ⟨w3, hw3⟩ : ∃ w3, w3 = w2.setCell ⟨g1, 1, none⟩ (.slice A1 p.known.length C1) := ⟨_, rfl⟩
  have k4 : Ex w w3 := by rw [hw3]; exact k3.setNew (p := ⟨g1, 1, none⟩) _ hg1'
  have k5 : Exb g1 w2 w3 := by rw [hw3]; exact (Exb.refl g1 w2).setB (p := ⟨g1, 1, none⟩) _ rfl
  replace B1 : Blk w3 g1 [.int .i64 p.id, .slice A1 p.known.length C1, .int .i64 p.left, .int .i64 p.right, .slice a2 n2 c2] 41 := by rw [hw3]; exact (B1.nx k2).set 1 _
  replace B2 := (B2.nx k2).nxb h21 k5
  replace own1 := own1.nxb L1 k5
  have z3 : w1.heap.size ≤ w3.heap.size := Nat.le_trans k2.size k5.size
  rw [← hw3]
  clear hw3 f1 r1 own0 h1 ch0 ch1 k2 k3 k5
  have q4 := B1.cell 4 _ rfl
  have h2 := S2.out.nx k4
  have own0 : OwnL 4 encNr 77 w3.heap.size w3 (.slice none 0 0) [] := OwnL.nil _ _ _ _ _
  go_upto_region 3 with (at_builtin; (refine wpList_append_rqW (enc := encNr) w3 rfl (.const (.slice none 0 0)) (.tmp 8) 39 rfl w3.heap.size 77 (.agg #[.int .i64 0, .int .i64 0, .int .i64 0, .int .i64 0]) 4 32 Tryd.underlying39 Tryd.infoNr rfl (by omega) (by omega) _ [] own0 rfl a2 n2 c2 p.near h2 (fun _ => rfl) (by simp [encNr, Value.oneCell']) rfl (by omega) (by simp; omega) (Nat.le_refl _) ?_); intro v4 w4 own4 ch0 ch1; rw [List.nil_append] at own4; obtain ⟨A4, C4, rfl, _, _, _, _⟩ := own4.slf (fun _ => rfl); have f1 := (B1.nx ch1).free 4; have r1 := (B1.nx ch1).cell 4 _ rfl; clear q4)
  have k2 : Ex w3 w4 := ch1
  have L3 := B1.lt
  have k6 : Ex w w4 := k4.nx k2
  replace own1 := own1.nx k2
  obtain ⟨w5, hw5⟩ : ∃ w5, w5 = w4.setCell ⟨g1, 4, none⟩ (.slice A4 p.near.length C4) := ⟨_, rfl⟩
  have k7 : Ex w w5 := by rw [hw5]; exact k6.setNew (p := ⟨g1, 4, none⟩) _ hg1'
  have k8 : Exb g1 w4 w5 := by rw [hw5]; exact (Exb.refl g1 w4).setB (p := ⟨g1, 4, none⟩) _ rfl
  replace B1 : Blk w5 g1 [.int .i64 p.id, .slice A1 p.known.length C1, .int .i64 p.left, .int .i64 p.right, .slice A4 p.near.length C4] 41 := by rw [hw5]; exact (B1.nx k2).set 4 _
  replace B2 := (B2.nx k2).nxb h21 k8
  replace own1 := own1.nxb L1 k8
  replace own4 := own4.nxb L3 k8
  rw [← hw5]
  clear hw5 f1 r1 own0 h2 ch0 ch1 k2 k6 k8
  have p0 := B1.cell 0 _ rfl
  have p1 := B1.cell 1 _ rfl
  have p2 := B1.cell 2 _ rfl
  have p3 := B1.cell 3 _ rfl
  have p4 := B1.cell 4 _ rfl
  have q0 := B2.cell 0 _ rfl
  have q1 := B2.cell 1 _ rfl
  have q2 := B2.cell 2 _ rfl
  have q3 := B2.cell 3 _ rfl
  have q4 := B2.cell 4 _ rfl
  have f0 := B2.free 0
  have f1 := B2.free 1
  have f2 := B2.free 2
  have f3 := B2.free 3
  have f4 := B2.free 4
  have KE := Lib.hid (((((k7.setNew (p := ⟨g2, 0, none⟩) (.int .i64 p.id) hg2').setNew (p := ⟨g2, 1, none⟩) (.slice A1 p.known.length C1) hg2').setNew (p := ⟨g2, 2, none⟩) (.int .i64 p.left) hg2').setNew (p := ⟨g2, 3, none⟩) (.int .i64 p.right) hg2').setNew (p := ⟨g2, 4, none⟩) (.slice A4 p.near.length C4) hg2')
  have KB : Exb g2 w5 (((((w5.setCell ⟨g2, 0, none⟩ (.int .i64 p.id)).setCell ⟨g2, 1, none⟩ (.slice A1 p.known.length C1)).setCell ⟨g2, 2, none⟩ (.int .i64 p.left)).setCell ⟨g2, 3, none⟩ (.int .i64 p.right)).setCell ⟨g2, 4, none⟩ (.slice A4 p.near.length C4)) :=
    (((((Exb.refl g2 w5).setB (p := ⟨g2, 0, none⟩) _ rfl).setB (p := ⟨g2, 1, none⟩) _ rfl).setB (p := ⟨g2, 2, none⟩) _ rfl).setB (p := ⟨g2, 3, none⟩) _ rfl).setB (p := ⟨g2, 4, none⟩) _ rfl
  have O1 := Lib.hid ((own1.nxb L2 KB).base hz1)
  have O4 := Lib.hid ((own4.nxb (show g2 < w3.heap.size by omega) KB).base (show w.heap.size ≤ w3.heap.size by omega))
  clear B1 B2 own1 own4 KB k4 k7 EX
  go_wp2_with fail
  refine bodyPost_ret (v := .agg #[.int .i64 p.id, .slice A1 p.known.length C1, .int .i64 p.left, .int .i64 p.right, .slice A4 p.near.length C4]) (by simp [results, Tryd.results72, go_sem, *]) rfl ⟨(A1, p.known.length, C1), (A4, p.near.length, C4), rfl, O1.out, O4.out, KE.out⟩
end Go.Proofs.YtbnbjiddffihoaaDoor

/- A region that draws its order: the held condition need not be shown behind operations that wait for all that is taken first. -/
namespace Go.Proofs.YtbnbjiddffihoaaDoor
open Go.RowKit

section
variable {P : Program} {ops : Array Oper} {Q : Exit → Act → World → Prop} {md : Region.Mode} {S : World → Prop} {late : List Nat}

def wpAnyL (P : Program) (md : Region.Mode) (ops : Array Oper) (Q : Exit → Act → World → Prop) (S : World → Prop) (late : List Nat) : Nat → Array Bool → Act → World → Prop
  | 0, listed, a, w => Region.ready md ops listed = [] ∧ Q .normal a w
  | fuel + 1, listed, a, w =>
    (Region.ready md ops listed = [] → Q .normal a w) ∧
    ∀ i ∈ Region.ready md ops listed, wpOp P ops Q i (fun a' w' => (late.contains i = false → S w → S w') ∧ wpAnyL P md ops Q S late fuel (listed.setIfInBounds i true) a' w') a w
theorem wpAny_of_late : ∀ (fuel : Nat) (listed : Array Bool) (a : Act) (w : World), wpAnyL P md ops Q S late fuel listed a w → wpAny P md ops Q fuel listed a w
  | 0, _, _, _, h => h
  | fuel + 1, _, _, _, h => ⟨h.1, fun i hi => wpOp_mono (fun a' w' h' => wpAny_of_late fuel _ a' w' h'.2) (h.2 i hi)⟩
/-- number j waits for number i, perhaps through others -/
def reachO (md : Region.Mode) (ops : Array Oper) (i : Nat) : Nat → Nat → Bool
  | 0, _ => false
  | f + 1, j => match ops[j]? with
    | some o => o.after.any fun e => Region.binds md e && (e.on == i || reachO md ops i f e.on)
    | none => false
/-- every late operation waits for number i -/
def lateOk (md : Region.Mode) (ops : Array Oper) (late : List Nat) (i : Nat) : Bool := late.all fun j => reachO md ops i ops.size j
def Clo (md : Region.Mode) (ops : Array Oper) (listed : Array Bool) : Prop :=
  ∀ j o, ops[j]? = some o → listed.getD j false = true → ∀ e ∈ o.after, Region.binds md e = true → listed.getD e.on false = true
def closedO (md : Region.Mode) (ops : Array Oper) (listed : Array Bool) : Bool :=
  (List.range ops.size).all fun j => match ops[j]? with
    | some o => !(listed.getD j false) || o.after.all fun e => !(Region.binds md e) || listed.getD e.on false
    | none => true
theorem closedO_spec {listed : Array Bool} (h : closedO md ops listed = true) : Clo md ops listed := by
  intro j o hj hl e he hb
  have hjs : j < ops.size := (Array.getElem?_eq_some_iff.1 hj).1
  have h1 := List.all_eq_true.1 h j (List.mem_range.2 hjs)
  simp only [hj, hl, Bool.not_true, Bool.false_or] at h1
  rw [Array.all_eq_true'] at h1
  have h2 := h1 e he
  simpa [hb] using h2
theorem reach_listed {i : Nat} {listed : Array Bool} (hc : Clo md ops listed) : ∀ (f j : Nat), (∀ o, ops[j]? = some o → ∀ e ∈ o.after, Region.binds md e = true → listed.getD e.on false = true) → reachO md ops i f j = true → listed.getD i false = true
  | 0, _, _, h => by cases h
  | f + 1, j, hp, h => by
    unfold reachO at h
    cases ho : ops[j]? with
    | none => simp [ho] at h
    | some o =>
      simp only [ho] at h
      rw [Array.any_eq_true'] at h
      obtain ⟨e, he, h2⟩ := h
      rw [Bool.and_eq_true, Bool.or_eq_true, beq_iff_eq] at h2
      have hl := hp o ho e he h2.1
      rcases h2.2 with h3 | h3
      · rw [← h3]; exact hl
      · exact reach_listed hc f e.on (fun o' ho' e' he' hb' => hc e.on o' ho' hl e' he' hb') h3
theorem getD_mono {listed : Array Bool} {j k : Nat} (h : listed.getD k false = true) : (listed.setIfInBounds j true).getD k false = true := by
  rw [Array.getD_eq_getD_getElem?] at h ⊢
  rw [Array.getElem?_setIfInBounds]
  split
  · split
    · rfl
    · rename_i hk hs
      subst hk
      rw [Array.getElem?_eq_none (by omega)] at h
      exact h
  · exact h
theorem getD_self {listed : Array Bool} {j k : Nat} (h : (listed.setIfInBounds j true).getD k false = true) : k = j ∨ listed.getD k false = true := by
  by_cases hk : k = j
  · exact .inl hk
  · right
    rw [Array.getD_eq_getD_getElem?] at h ⊢
    rwa [Array.getElem?_setIfInBounds, if_neg (fun e => hk e.symm)] at h
theorem Clo.step {j : Nat} {oj : Oper} {listed : Array Bool} (hc : Clo md ops listed) (hoj : ops[j]? = some oj) (hall : ∀ e ∈ oj.after, Region.binds md e = true → listed.getD e.on false = true) : Clo md ops (listed.setIfInBounds j true) := by
  intro p o hp hl e he hb
  rcases getD_self hl with rfl | h1
  · obtain rfl : oj = o := Option.some.inj (hoj.symm.trans hp)
    exact getD_mono (hall e he hb)
  · exact getD_mono (hc p o hp h1 e he hb)
theorem wpAnyL_first {i : Nat} {oi : Oper} {v : Value} (hi : ops[i]? = some oi) (hsel : ∀ (j : Nat) (o : Oper) cs b, ops[j]? = some o → o.op ≠ .select cs b)
    (hQ : ∀ c a w, Q (.panic c) (a.put oi.dst v) w → Q (.panic c) a w) (hl : lateOk md ops late i = true) :
    ∀ (fuel : Nat) (listed : Array Bool) (a : Act) (w : World), Clo md ops listed →
      (∀ j oj, ops[j]? = some oj → j ≠ i → listed.getD j true = false → (∀ e ∈ oj.after, Region.binds md e = true → e.on ≠ i) → oi.apart ops oj = true) →
      i ∈ Region.ready md ops listed → YieldsIf P ops S oi v a → S w →
      wpAnyL P md ops Q S late fuel (listed.setIfInBounds i true) (a.put oi.dst v) w → wpAnyL P md ops Q S late (fuel + 1) listed a w := by
  have hun : ∀ listed : Array Bool, i ∈ Region.ready md ops listed → listed.getD i false = true → False := fun listed hr h => by
    have h0 := (mem_ready.1 hr).1
    rw [Array.getD_eq_getD_getElem?] at h h0
    cases h1 : listed[i]? with
    | none => rw [h1] at h; cases h
    | some b => rw [h1] at h h0; simp only [Option.getD_some] at h h0; rw [h] at h0; cases h0
  have hearly : ∀ (listed : Array Bool) j, Clo md ops listed → i ∈ Region.ready md ops listed → j ∈ Region.ready md ops listed → late.contains j = false := fun listed j hc hr hj => by
    rw [Bool.eq_false_iff]
    intro hcj
    have h1 := List.all_eq_true.1 hl j (List.contains_iff_mem.1 hcj)
    obtain ⟨_, oj, hoj, hall⟩ := mem_ready.1 hj
    exact hun listed hr (reach_listed hc _ j (fun o ho e he hb => by
      obtain rfl : oj = o := Option.some.inj (hoj.symm.trans ho)
      exact hall e he hb) h1)
  intro fuel
  induction fuel with
  | zero =>
    intro listed a w hcl _ hr hy hS H
    refine ⟨fun h => (by rw [h] at hr; cases hr), fun j hj => ?_⟩
    by_cases hji : j = i
    · subst hji; exact hy.wpOp hi hS ⟨fun _ _ => hS, H⟩
    · have := ready_mono hj hji
      rw [H.1] at this
      cases this
  | succ fuel ih =>
    intro listed a w hcl hfree hr hy hS H
    refine ⟨fun h => (by rw [h] at hr; cases hr), fun j hj => ?_⟩
    by_cases hji : j = i
    · subst hji; exact hy.wpOp hi hS ⟨fun _ _ => hS, H⟩
    · have h1 := H.2 j (ready_mono hj hji)
      have hej := hearly listed j hcl hr hj
      obtain ⟨hjun, oj, hoj, hall⟩ := mem_ready.1 hj
      have hnot : ∀ e ∈ oj.after, Region.binds md e = true → e.on ≠ i := fun e he hb heq => hun listed hr (by rw [← heq]; exact hall e he hb)
      have h2 := wpOp_putIf hoj (hfree j oj hoj hji hjun hnot) (fun cs b => hsel i oi cs b hi) (fun cs b => hsel j oj cs b hoj) hQ hy h1
      have hfree' : ∀ k ok, ops[k]? = some ok → k ≠ i → (listed.setIfInBounds j true).getD k true = false →
          (∀ e ∈ ok.after, Region.binds md e = true → e.on ≠ i) → oi.apart ops ok = true := fun k ok hk hki hun hno => by
        refine hfree k ok hk hki ?_ hno
        by_cases hjk : j = k
        · subst hjk; exact hjun
        · rw [getD_set_ne true hjk] at hun; exact hun
      refine wpOp_mono (fun a' w' h3 => ⟨h3.2.1, ih (listed.setIfInBounds j true) a' w' (hcl.step hoj hall) hfree' (ready_mono hr (Ne.symm hji)) h3.1 (h3.2.1 hej hS) ?_⟩) h2
      rw [Array.setIfInBounds_comm _ _ hji]
      exact h3.2.2
/-- what yields in whatever world may be taken first, whoever waits for it -/
theorem wpAnyL_firstP {i : Nat} {oi : Oper} {v : Value} (hi : ops[i]? = some oi) (hsel : ∀ (j : Nat) (o : Oper) cs b, ops[j]? = some o → o.op ≠ .select cs b)
    (hQ : ∀ c a w, Q (.panic c) (a.put oi.dst v) w → Q (.panic c) a w) :
    ∀ (fuel : Nat) (listed : Array Bool) (a : Act) (w : World),
      (∀ j oj, ops[j]? = some oj → j ≠ i → listed.getD j true = false → (∀ e ∈ oj.after, Region.binds md e = true → e.on ≠ i) → oi.apart ops oj = true) →
      i ∈ Region.ready md ops listed → YieldsIf P ops (fun _ => True) oi v a →
      wpAnyL P md ops Q S late fuel (listed.setIfInBounds i true) (a.put oi.dst v) w → wpAnyL P md ops Q S late (fuel + 1) listed a w := by
  have hun : ∀ listed : Array Bool, i ∈ Region.ready md ops listed → listed.getD i false = true → False := fun listed hr h => by
    have h0 := (mem_ready.1 hr).1
    rw [Array.getD_eq_getD_getElem?] at h h0
    cases h1 : listed[i]? with
    | none => rw [h1] at h; cases h
    | some b => rw [h1] at h h0; simp only [Option.getD_some] at h h0; rw [h] at h0; cases h0
  intro fuel
  induction fuel with
  | zero =>
    intro listed a w _ hr hy H
    refine ⟨fun h => (by rw [h] at hr; cases hr), fun j hj => ?_⟩
    by_cases hji : j = i
    · subst hji; exact hy.wpOp hi trivial ⟨fun _ h => h, H⟩
    · have := ready_mono hj hji
      rw [H.1] at this
      cases this
  | succ fuel ih =>
    intro listed a w hfree hr hy H
    refine ⟨fun h => (by rw [h] at hr; cases hr), fun j hj => ?_⟩
    by_cases hji : j = i
    · subst hji; exact hy.wpOp hi trivial ⟨fun _ h => h, H⟩
    · have h1 := H.2 j (ready_mono hj hji)
      obtain ⟨hjun, oj, hoj, hall⟩ := mem_ready.1 hj
      have hnot : ∀ e ∈ oj.after, Region.binds md e = true → e.on ≠ i := fun e he hb heq => hun listed hr (by rw [← heq]; exact hall e he hb)
      have h2 := wpOp_putIf hoj (hfree j oj hoj hji hjun hnot) (fun cs b => hsel i oi cs b hi) (fun cs b => hsel j oj cs b hoj) hQ hy h1
      have hfree' : ∀ k ok, ops[k]? = some ok → k ≠ i → (listed.setIfInBounds j true).getD k true = false →
          (∀ e ∈ ok.after, Region.binds md e = true → e.on ≠ i) → oi.apart ops ok = true := fun k ok hk hki hun hno => by
        refine hfree k ok hk hki ?_ hno
        by_cases hjk : j = k
        · subst hjk; exact hjun
        · rw [getD_set_ne true hjk] at hun; exact hun
      refine wpOp_mono (fun a' w' h3 => ⟨h3.2.1, ih (listed.setIfInBounds j true) a' w' hfree' (ready_mono hr (Ne.symm hji)) h3.1 ?_⟩) h2
      rw [Array.setIfInBounds_comm _ _ hji]
      exact h3.2.2
theorem wpAnyL_takeP {i : Nat} {oi : Oper} {v : Value} {fuel : Nat} {listed : Array Bool} {a : Act} {w : World} (hi : ops[i]? = some oi)
    (hs : Region.noSelect ops = true) (hf : Region.free md ops listed i = true) (hr : (Region.ready md ops listed).contains i = true)
    (hQ : ∀ c a w, Q (.panic c) (a.put oi.dst v) w → Q (.panic c) a w) (hy : YieldsIf P ops (fun _ => True) oi v a)
    (h : wpAnyL P md ops Q S late fuel (listed.setIfInBounds i true) (a.put oi.dst v) w) : wpAnyL P md ops Q S late (fuel + 1) listed a w :=
  wpAnyL_firstP hi (Region.noSelect_spec hs) hQ fuel listed a w (Region.free_spec hi hf) (by simpa using hr) hy h
theorem wpAnyL_take {i : Nat} {oi : Oper} {v : Value} {fuel : Nat} {listed : Array Bool} {a : Act} {w : World} (hi : ops[i]? = some oi)
    (hs : Region.noSelect ops = true) (hf : Region.free md ops listed i = true) (hr : (Region.ready md ops listed).contains i = true)
    (hQ : ∀ c a w, Q (.panic c) (a.put oi.dst v) w → Q (.panic c) a w) (hy : YieldsIf P ops S oi v a) (hl : lateOk md ops late i = true) (hc : closedO md ops listed = true) (hS : S w)
    (h : wpAnyL P md ops Q S late fuel (listed.setIfInBounds i true) (a.put oi.dst v) w) : wpAnyL P md ops Q S late (fuel + 1) listed a w :=
  wpAnyL_first hi (Region.noSelect_spec hs) hQ hl fuel listed a w (closedO_spec hc) (Region.free_spec hi hf) (by simpa using hr) hy hS h
def AllReadyL (P : Program) (md : Region.Mode) (ops : Array Oper) (Q : Exit → Act → World → Prop) (S : World → Prop) (late : List Nat) (fuel : Nat) (listed : Array Bool) (a : Act) (w : World) (rs : List Nat) : Prop :=
  ∀ i ∈ rs, wpOp P ops Q i (fun a' w' => (late.contains i = false → S w → S w') ∧ wpAnyL P md ops Q S late fuel (listed.setIfInBounds i true) a' w') a w
theorem AllReadyL.nil {fuel : Nat} {listed : Array Bool} {a : Act} {w : World} : AllReadyL P md ops Q S late fuel listed a w [] := fun _ h => by cases h
theorem AllReadyL.cons {fuel : Nat} {listed : Array Bool} {a : Act} {w : World} {i : Nat} {o : Oper} {rs : List Nat} (ho : ops[i]? = some o)
    (h : ∀ K' : Act → World → Prop, Shut (∀ a w, S w → (S w → wpAnyL P md ops Q S late fuel (listed.setIfInBounds i true) a w) → K' a w) → if Region.wanted o (yielded ops a.tmps) = true then Oper.wp P o a w K' Q else K' (a.put o.dst undef) w)
    (hs : AllReadyL P md ops Q S late fuel listed a w rs) : AllReadyL P md ops Q S late fuel listed a w (i :: rs) := fun j hj => by
  rcases List.mem_cons.1 hj with rfl | hj
  · exact wpOp_step ho (fun K' hK => h K' (fun a w hS hW => hK a w ⟨fun _ _ => hS, hW hS⟩))
  · exact hs j hj
/-- a late one: nothing is to be shown of the world behind it -/
theorem AllReadyL.consL {fuel : Nat} {listed : Array Bool} {a : Act} {w : World} {i : Nat} {o : Oper} {rs : List Nat} (ho : ops[i]? = some o) (hl : late.contains i = true)
    (h : ∀ K' : Act → World → Prop, Shut (∀ a w, wpAnyL P md ops Q S late fuel (listed.setIfInBounds i true) a w → K' a w) → if Region.wanted o (yielded ops a.tmps) = true then Oper.wp P o a w K' Q else K' (a.put o.dst undef) w)
    (hs : AllReadyL P md ops Q S late fuel listed a w rs) : AllReadyL P md ops Q S late fuel listed a w (i :: rs) := fun j hj => by
  rcases List.mem_cons.1 hj with rfl | hj
  · exact wpOp_step ho (fun K' hK => h K' (fun a w hW => hK a w ⟨fun h0 => (Bool.noConfusion (hl.symm.trans h0)), hW⟩))
  · exact hs j hj
theorem wpAnyL_ready {rs : List Nat} {fuel : Nat} {listed : Array Bool} {a : Act} {w : World} (hr : Region.ready md ops listed = rs) (hne : rs ≠ [])
    (h : AllReadyL P md ops Q S late fuel listed a w rs) : wpAnyL P md ops Q S late (fuel + 1) listed a w := by
  refine ⟨fun h0 => absurd (hr.symm.trans h0) hne, ?_⟩
  rw [hr]
  exact h
theorem wpAnyL_done {listed : Array Bool} {a : Act} {w : World} (hr : Region.ready md ops listed = []) (h : Q .normal a w) : ∀ fuel, wpAnyL P md ops Q S late fuel listed a w
  | 0 => ⟨hr, h⟩
  | _ + 1 => ⟨fun _ => h, by rw [hr]; simp⟩
theorem wp_region_late_drew (late : List Nat) {id : Nat} {a : Act} {w : World} (hm : P.follows .mixedOrders = true) (hS : S w.drew)
    (h : S w.drew → wpAnyL P .any ops Q S late ops.size (Array.replicate ops.size false) a w.drew) : (Code.region id ops true).wp P Q a w :=
  wp_region_any hm (wpAny_of_late _ _ _ _ (h hS))
end
end Go.Proofs.YtbnbjiddffihoaaDoor

/- Crash, of the package redundant and of its reference. -/
namespace Go.Proofs.YtbnbjiddffihoaaDoor
open Go.RowKit

abbrev OwnPr (base : Nat) (w : World) (v : Value) (qs : List PQ) (P : List Pr) : Prop := OwnP 41 3 77 base w v qs P
/-- a list of peers in memory of its own -/
def PlPost (P : List Pr) (w : World) (e : Ending) (w' : World) : Prop := ∃ v qs, e = .returned v ∧ OwnPr w.heap.size w' v qs P ∧ Ex w w'
theorem OwnP.app {eP eI eN : TypeId} (hI : eP ≠ eI) (hN : eP ≠ eN) {base : Nat} {w0 w1 w2 : World} {v v' : Value} {qs : List PQ} {P : List Pr} {p : Pr} {hk hn : Hdr} (h : OwnP eP eI eN base w0 v qs P) (hb : base ≤ w0.heap.size) (kk : Ex w0 w1)
    (ik : OwnL 1 encI eI w0.heap.size w1 hk.val p.known) (inr : OwnL 4 encNr eN w0.heap.size w1 hn.val p.near)
    (ho : OwnW 5 encQ eP base w2 v' (qs ++ [(p.nums, hk, hn)])) (k : Chg (fun k => k < w1.heap.size ∧ ¬ v.ownBlock = some k) w1 w2) : OwnP eP eI eN base w2 v' (qs ++ [(p.nums, hk, hn)]) (P ++ [p]) := by
  refine (h.nx kk).push hI hN ho k (ik.base hb) (inr.base hb) (fun j r g hr hg hv => ?_) (fun j r g hr hg hv => ?_)
  · obtain ⟨q, _, _, r2, _⟩ := h.getp hr
    have h1 := (r2.lt g hg).2
    have h2 := (ik.lt g hv).1
    omega
  · obtain ⟨q, _, _, _, r3⟩ := h.getp hr
    have h1 := (r3.lt g hg).2
    have h2 := (inr.lt g hv).1
    omega
theorem PL.rd {w : World} {a : Option Addr} {n : Nat} {P : List Pr} (h : PL w a n P) {j : Nat} (hj : j < n) :
    ∃ (x o : Nat) (a1 : Option Addr) (n1 c1 : Nat) (a2 : Option Addr) (n2 c2 : Nat) (p : Pr), a = some ⟨x, o, none⟩ ∧ x < w.heap.size ∧ P[j]? = some p ∧ w.cell? ⟨x, o + j * 5, none⟩ = some (.int .i64 p.id) ∧ w.cell? ⟨x, o + j * 5 + 1, none⟩ = some (.slice a1 n1 c1) ∧
      w.cell? ⟨x, o + j * 5 + 1 + 1, none⟩ = some (.int .i64 p.left) ∧ w.cell? ⟨x, o + j * 5 + 1 + 1 + 1, none⟩ = some (.int .i64 p.right) ∧ w.cell? ⟨x, o + j * 5 + 1 + 1 + 1 + 1, none⟩ = some (.slice a2 n2 c2) ∧ Sl 1 encI w a1 n1 p.known ∧ Sl 4 encNr w a2 n2 p.near := by
  obtain ⟨x, o, a1, n1, c1, a2, n2, c2, p, e1, e2, e3, e4, e5, e6⟩ := h.at hj
  exact ⟨x, o, a1, n1, c1, a2, n2, c2, p, e1, e2, e3, e4 0 _ rfl, e4 1 _ rfl, e4 2 _ rfl, e4 3 _ rfl, e4 4 _ rfl, e5, e6⟩
/-- all lists of the peers are short enough to be copied -/
def SmallP (P : List Pr) : Prop := ∀ p ∈ P, p.known.length ≤ 17592186044416 ∧ p.near.length ≤ 4398046511104
theorem crash_snoc {P : List Pr} {down : List Int} {j : Nat} {y : Pr} (hy : P[j]? = some y) : crashN (P.take (j + 1)) down = crashN (P.take j) down ++ (if down.contains y.id = true then [] else [y]) := by
  unfold crashN
  rw [List.take_add_one, hy, List.filter_append]
  congr 1
  by_cases hp : down.contains y.id = true
  · rw [if_pos hp]; simp only [Option.toList_some, List.filter_cons, hp, List.filter_nil]; rfl
  · rw [if_neg hp]
    have : down.contains y.id = false := by simpa using hp
    simp only [Option.toList_some, List.filter_cons, this, List.filter_nil]; rfl
def CrRel (P : List Pr) (down : List Int) (n : Nat) (w : World) (o i : Value) (wr : World) : Prop :=
  ∃ (j : Nat) (qs : List PQ), j ≤ n ∧ i = .int .i64 j ∧ OwnPr w.heap.size wr o qs (crashN (P.take j) down) ∧ Ex w wr
theorem OwnP.row {eP eI eN : TypeId} {base : Nat} {w : World} {v : Value} {qs : List PQ} {P : List Pr} (h : OwnP eP eI eN base w v qs P) : OwnW 5 encQ eP base w v qs := h.1
theorem encQ_one (q : PQ) : ∀ u ∈ encQ q, u.oneCell' = true := by
  intro u hu
  simp only [encQ, List.mem_cons, List.not_mem_nil, or_false] at hu
  rcases hu with rfl | rfl | rfl | rfl | rfl <;> rfl
set_option maxRecDepth 100000 in
set_option maxHeartbeats 8000000 in
theorem crash_p (a : Option Addr) (n c : Nat) (P : List Pr) (a2 : Option Addr) (n2 c2 : Nat) (down : List Int) (w : World) (h : PL w a n P) (hn : n ≤ 1000) (hP : SmallP P) (h2 : Sl 1 encI w a2 n2 down) (hn2 : n2 ≤ 4000000000000000000) :
    Calls Tryd.prog 55 #[.slice a n c, .slice a2 n2 c2] w (PlPost (crashN P down) w) := by
  have HL := Lib.hid h.len
  have HS := Lib.hid h
  have H2 := Lib.hid h2
  have HP := Lib.hid hP
  clear h h2 hP
  go_enter Tryd.func55, Tryd.ntmps55
  go_wp2_with fail
  go_loopw [5, 10] (fun o i wr => CrRel P down n w o i wr) (fun _ i _ => n - (intOf i).toNat)
  case atStart => exact ⟨0, [], by omega, rfl, OwnP.nil _ _ _ _ _, Ex.refl _⟩
  case round =>
    obtain ⟨j, qs, hj, rfl, own, ki⟩ := hrel
    obtain ⟨wi, rfl⟩ : ∃ wi : World, wi = wr := ⟨_, rfl⟩
    by_cases hjm : j < n
    · obtain ⟨x3, o3, b1, m1, d1, b4, m4, d4, y, rfl, hx3, hy, e0, e1, e2, e3, e4, s1, s4⟩ := (HS.out.nx ki).rd hjm
      have SN := Lib.hid (crash_snoc (down := down) hy)
      have hyP := HP.out y (List.mem_of_getElem? hy)
      have hl1 : m1 ≤ 17592186044416 := by have := s1.len; omega
      have hl4 : m4 ≤ 4398046511104 := by have := s4.len; omega
      have S1 := Lib.hid s1
      have S4 := Lib.hid s4
      have KI := Lib.hid ki
      have OWN := Lib.hid own
      have hqs : qs.length ≤ 1000 := by
        have h1 := own.2.1
        have h2 : (crashN (P.take j) down).length ≤ (P.take j).length := List.length_filter_le _ _
        rw [List.length_take] at h2
        omega
      have hwi := ki.size
      clear hy s1 s4 ki own hyP
      have B7 := Blk.new wi [.int .i64 y.id, .slice b1 m1 d1, .int .i64 y.left, .int .i64 y.right, .slice b4 m4 d4] 41
      have kk := Ex.new wi (.cells #[.int .i64 y.id, .slice b1 m1 d1, .int .i64 y.left, .int .i64 y.right, .slice b4 m4 d4] 41)
      obtain ⟨w8, hw8⟩ : ∃ w8, w8 = wi.alloc (.cells #[.int .i64 y.id, .slice b1 m1 d1, .int .i64 y.left, .int .i64 y.right, .slice b4 m4 d4] 41) := ⟨_, rfl⟩
      obtain ⟨g7, hg7⟩ : ∃ g7, g7 = wi.heap.size := ⟨_, rfl⟩
      replace B7 : Blk w8 g7 [.int .i64 y.id, .slice b1 m1 d1, .int .i64 y.left, .int .i64 y.right, .slice b4 m4 d4] 41 := by rw [hw8, hg7]; exact B7
      rw [← hw8] at kk
      have Hw8 := Lib.hid hw8
      have Hg7 := Lib.hid hg7
      have hg7i : wi.heap.size ≤ g7 := by omega
      have K8 := Lib.hid kk
      clear kk hw8 hg7
      go_upto_region 5 with fail
      rw [← Hg7.out, ← Hw8.out]
      clear Hg7 Hw8
      have q0 := B7.cell 0 _ rfl
      clear e0 e1 e2 e3 e4
      go_wp2_with fail
      (with_reducible refine (contains_i _ _ _ _ y.id _ (H2.out.nx (KI.out.nx K8.out)) hn2).mono ?_)
      rintro e w5 ⟨rfl, kk⟩
      replace B7 := B7.nx kk
      replace K8 := Lib.hid (K8.out.nx kk)
      have hz8 := K8.out.size
      clear kk q0
      generalize down.contains y.id = inl at SN ⊢
      cases inl with
      | true =>
        clear B7
        go_wp2_with fail
        exact ⟨⟨j + 1, qs, by omega, by go_num, by rw [SN.out]; simpa using OWN.out.nx K8.out, KI.out.nx K8.out⟩, by simp [intOf]; omega⟩
      | false =>
        have hg7l := B7.lt
        replace B7 := Lib.hid B7
        go_upto_region 6 with fail
        refine wp_region_late_drew (S := Ex w5) [7, 8, 9] (by kernel_rfl) ((Ex.refl w5).drew) (fun hHeld => ?_)
        refine wpAnyL_take (i := 0) (oi := ⟨some 19, .fieldAddr 41 (.tmp 7) 1, 0, "redundant.go:100", #[], none⟩) (v := ?_) rfl (by kernel_rfl) (by kernel_rfl) (by kernel_rfl) (fun _ _ _ h => h) (Or.inl ⟨by rfl, ?hyr1x0q1⟩) (by kernel_rfl) (by kernel_rfl) (by assumption) ?restr1x0q1
        case hyr1x0q1 => intro wq hSw; (go_simp); (try with_reducible rfl)
        try simp only [Act.put, List.setIfInBounds_toArray, List.set_cons_zero, List.set_cons_succ]
        refine wpAnyL_take (i := 1) (oi := ⟨some 20, .load 22 (.tmp 19), 22, "redundant.go:100", #[⟨0, .data⟩], none⟩) (v := ?_) rfl (by kernel_rfl) (by kernel_rfl) (by kernel_rfl) (fun _ _ _ h => h) (Or.inl ⟨by rfl, ?hyr1x1q4⟩) (by kernel_rfl) (by kernel_rfl) (by assumption) ?restr1x1q4
        case hyr1x1q4 => intro wq hSw; (have cq := (B7.out.nx hSw).cell 1 _ rfl; go_simp); (try with_reducible rfl)
        try simp only [Act.put, List.setIfInBounds_toArray, List.set_cons_zero, List.set_cons_succ]
        refine wpAnyL_take (i := 3) (oi := ⟨some 22, .fieldAddr 41 (.tmp 7) 4, 0, "redundant.go:100", #[], none⟩) (v := ?_) rfl (by kernel_rfl) (by kernel_rfl) (by kernel_rfl) (fun _ _ _ h => h) (Or.inl ⟨by rfl, ?hyr1x3q7⟩) (by kernel_rfl) (by kernel_rfl) (by assumption) ?restr1x3q7
        case hyr1x3q7 => intro wq hSw; (go_simp); (try with_reducible rfl)
        try simp only [Act.put, List.setIfInBounds_toArray, List.set_cons_zero, List.set_cons_succ]
        refine wpAnyL_take (i := 4) (oi := ⟨some 23, .load 39 (.tmp 22), 39, "redundant.go:100", #[⟨3, .data⟩], none⟩) (v := ?_) rfl (by kernel_rfl) (by kernel_rfl) (by kernel_rfl) (fun _ _ _ h => h) (Or.inl ⟨by rfl, ?hyr1x4q10⟩) (by kernel_rfl) (by kernel_rfl) (by assumption) ?restr1x4q10
        case hyr1x4q10 => intro wq hSw; (have cq := (B7.out.nx hSw).cell 4 _ rfl; go_simp); (try with_reducible rfl)
        try simp only [Act.put, List.setIfInBounds_toArray, List.set_cons_zero, List.set_cons_succ]
        refine wpAnyL_ready (rs := [2]) (by kernel_rfl) (by simp) ?_
        refine AllReadyL.cons (o := ⟨some 21, .call { callee := .value (.func 77), args := #[.tmp 20], argTypes := #[22] }, 22, "redundant.go:100", #[⟨1, .data⟩], none⟩) rfl (fun K hK => ?_) AllReadyL.nil
        go_simp
        (with_reducible refine (clone_i _ _ _ _ _ ((S1.out.nx K8.out).nx hHeld) hl1).mono ?_)
        rintro e wc ⟨vc, rfl, own2, kk⟩
        (try replace own5 := own5.nx kk)
        obtain ⟨A2, C2, rfl, _, _, _, _⟩ := own2.slf (fun _ => rfl)
        replace own2 := own2.base hHeld.size
        replace hHeld := hHeld.nx kk
        clear kk
        have BQ := B7.out.nx hHeld
        have KZ := hHeld.b g7
        refine hK.out _ _ (hHeld) (fun hHeld => ?_)
        clear hK K
        try simp only [Act.put, List.setIfInBounds_toArray, List.set_cons_zero, List.set_cons_succ]
        refine wpAnyL_take (i := 6) (oi := ⟨some 25, .fieldAddr 41 (.tmp 7) 1, 0, "redundant.go:100", #[⟨0, .phase⟩, ⟨1, .phase⟩, ⟨2, .phase⟩, ⟨3, .phase⟩, ⟨4, .phase⟩, { on := 5, ground := Ground.textOnly Departure.lateStoresUnsure }], none⟩) (v := ?_) rfl (by kernel_rfl) (by kernel_rfl) (by kernel_rfl) (fun _ _ _ h => h) (Or.inl ⟨by rfl, ?hyr1x6q28⟩) (by kernel_rfl) (by kernel_rfl) (by assumption) ?restr1x6q28
        case hyr1x6q28 => intro wq hSw; (go_simp); (try with_reducible rfl)
        try simp only [Act.put, List.setIfInBounds_toArray, List.set_cons_zero, List.set_cons_succ]
        refine wpAnyL_ready (rs := [5]) (by kernel_rfl) (by simp) ?_
        refine AllReadyL.cons (o := ⟨some 24, .call { callee := .value (.func 95), args := #[.tmp 23], argTypes := #[39] }, 39, "redundant.go:100", #[⟨4, .data⟩, ⟨2, .chain⟩], none⟩) rfl (fun K hK => ?_) AllReadyL.nil
        go_simp
        (with_reducible refine (clone_nr _ _ _ _ _ ((S4.out.nx K8.out).nx hHeld) hl4).mono ?_)
        rintro e wc ⟨vc, rfl, own5, kk⟩
        (try replace own2 := own2.nx kk)
        obtain ⟨A5, C5, rfl, _, _, _, _⟩ := own5.slf (fun _ => rfl)
        replace own5 := own5.base hHeld.size
        replace hHeld := hHeld.nx kk
        clear kk
        have BQ := B7.out.nx hHeld
        have KZ := hHeld.b g7
        refine hK.out _ _ (hHeld) (fun hHeld => ?_)
        clear hK K
        try simp only [Act.put, List.setIfInBounds_toArray, List.set_cons_zero, List.set_cons_succ]
        refine wpAnyL_ready (rs := [7]) (by kernel_rfl) (by simp) ?_
        refine AllReadyL.consL (o := ⟨none, .store 22 (.tmp 25) (.tmp 21), 0, "redundant.go:100", #[⟨6, .data⟩, ⟨2, .data⟩, ⟨5, .chain⟩, ⟨0, .phase⟩, ⟨1, .phase⟩, ⟨2, .phase⟩, ⟨3, .phase⟩, ⟨4, .phase⟩, { on := 5, ground := Ground.textOnly Departure.lateStoresUnsure }], none⟩) rfl (by rfl) (fun K hK => ?_) AllReadyL.nil
        have cq := BQ.cell 1 _ rfl
        have fq := BQ.free 1
        go_simp
        clear cq fq
        replace BQ := BQ.set 1 (.slice A2 y.known.length C2)
        replace own2 := own2.nxb hg7l ((Exb.refl g7 _).setB (p := ⟨g7, 1, none⟩) (.slice A2 y.known.length C2) rfl)
        replace own5 := own5.nxb hg7l ((Exb.refl g7 _).setB (p := ⟨g7, 1, none⟩) (.slice A2 y.known.length C2) rfl)
        replace KZ := KZ.setB (p := ⟨g7, 1, none⟩) (.slice A2 y.known.length C2) rfl
        refine hK.out _ _ ?_
        clear hK K
        try simp only [Act.put, List.setIfInBounds_toArray, List.set_cons_zero, List.set_cons_succ]
        refine wpAnyL_ready (rs := [8]) (by kernel_rfl) (by simp) ?_
        refine AllReadyL.consL (o := ⟨some 26, .fieldAddr 41 (.tmp 7) 4, 0, "redundant.go:100", #[⟨0, .phase⟩, ⟨1, .phase⟩, ⟨2, .phase⟩, ⟨3, .phase⟩, ⟨4, .phase⟩, ⟨5, .phase⟩, ⟨6, .phase⟩, ⟨7, .phase⟩], none⟩) rfl (by rfl) (fun K hK => ?_) AllReadyL.nil
        go_simp
        refine hK.out _ _ ?_
        clear hK K
        try simp only [Act.put, List.setIfInBounds_toArray, List.set_cons_zero, List.set_cons_succ]
        refine wpAnyL_ready (rs := [9]) (by kernel_rfl) (by simp) ?_
        refine AllReadyL.consL (o := ⟨none, .store 39 (.tmp 26) (.tmp 24), 0, "redundant.go:100", #[⟨8, .data⟩, ⟨5, .data⟩, ⟨7, .chain⟩, ⟨0, .phase⟩, ⟨1, .phase⟩, ⟨2, .phase⟩, ⟨3, .phase⟩, ⟨4, .phase⟩, ⟨5, .phase⟩, ⟨6, .phase⟩, ⟨7, .phase⟩], none⟩) rfl (by rfl) (fun K hK => ?_) AllReadyL.nil
        have cq := BQ.cell 4 _ rfl
        have fq := BQ.free 4
        go_simp
        clear cq fq
        replace BQ := BQ.set 4 (.slice A5 y.near.length C5)
        replace own2 := own2.nxb hg7l ((Exb.refl g7 _).setB (p := ⟨g7, 4, none⟩) (.slice A5 y.near.length C5) rfl)
        replace own5 := own5.nxb hg7l ((Exb.refl g7 _).setB (p := ⟨g7, 4, none⟩) (.slice A5 y.near.length C5) rfl)
        replace KZ := KZ.setB (p := ⟨g7, 4, none⟩) (.slice A5 y.near.length C5) rfl
        refine hK.out _ _ ?_
        clear hK K
        try simp only [Act.put, List.setIfInBounds_toArray, List.set_cons_zero, List.set_cons_succ]
        refine wpAnyL_done (by kernel_rfl) ?_ _
        obtain ⟨wz, hwz⟩ : ∃ wz, wz = (wc.setCell ⟨g7, 1, none⟩ (.slice A2 y.known.length C2)).setCell ⟨g7, 4, none⟩ (.slice A5 y.near.length C5) := ⟨_, rfl⟩
        rw [← hwz] at BQ own2 own5 KZ ⊢
        clear hwz
        have BF : Blk wz g7 [.int .i64 y.id, .slice A2 y.known.length C2, .int .i64 y.left, .int .i64 y.right, .slice A5 y.near.length C5] 41 := BQ
        have p0 := BF.cell 0 _ rfl
        have p1 := BF.cell 1 _ rfl
        have p2 := BF.cell 2 _ rfl
        have p3 := BF.cell 3 _ rfl
        have p4 := BF.cell 4 _ rfl
        have KW := Lib.hid (Exl.nxb (b := g7) (w := wi) ⟨K8.out, hg7i⟩ KZ).1
        have OP := Lib.hid (OWN.out.nx KW.out)
        have zw := KW.out.size
        replace own2 := Lib.hid (own2.base hz8)
        replace own5 := Lib.hid (own5.base hz8)
        have hw3 : w.heap.size ≤ wi.heap.size := hwi
        have KN := KW.out.nx (Ex.new _ (.cells #[.int .i64 y.id, .slice A2 y.known.length C2, .int .i64 y.left, .int .i64 y.right, .slice A5 y.near.length C5] 41))
        have zn := Nat.le_trans hw3 KN.size
        clear BQ BF KZ hHeld
        go_wp2_with (at_builtin; (refine wpList_append_W (enc := encQ) _ rfl _ _ 36 rfl w.heap.size 41 (.agg #[.int .i64 0, .slice none 0 0, .int .i64 0, .int .i64 0, .slice none 0 0]) 5 72 Tryd.underlying36 Tryd.infoPr rfl (by omega) (by omega) _ qs (OP.out.nx (Ex.new _ _)).row rfl _ 1 1 [(y.nums, (A2, y.known.length, C2), (A5, y.near.length, C5))] (Sl.lit _ rfl rfl encQ_len rfl) encQ_len encQ_one rfl (by omega) (by omega) zn ?_); intro v9 w9 own9 ch0 ch1 _)
        have RR := OWN.out.app (by decide) (by decide) hw3 KN (own2.out.nx (Ex.new _ _)) (own5.out.nx (Ex.new _ _)) own9 ch0
        exact ⟨⟨j + 1, _, by omega, by go_num, by rw [SN.out]; exact RR, Chg.trans (KI.out.nx KN) ch1⟩, by simp [intOf]; omega⟩
    · obtain rfl : j = n := by omega
      rw [List.take_of_length_le (by rw [HL.out]; exact Nat.le_refl _)] at own
      have OWN := Lib.hid own
      have KI := Lib.hid ki
      clear own ki hj hjm
      go_wp2_with fail
      go_ret
      exact ⟨_, qs, rfl, OWN.out, KI.out⟩
end Go.Proofs.YtbnbjiddffihoaaDoor

/- Crash, Peer, Refs, Contacts of the reference. -/
namespace Go.Proofs.YtbnbjiddffihoaaDoor
open Go.RowKit

def PeRel (P : List Pr) (id : Int) (n : Nat) (w : World) (i : Value) (wr : World) : Prop :=
  ∃ k : Nat, k ≤ n ∧ i = .int .i64 k ∧ Ex w wr ∧ ∀ j z, j < k → P[j]? = some z → z.id ≠ id
theorem peerN_at {P : List Pr} {id : Int} {k : Nat} {y : Pr} (hy : P[k]? = some y) (he : y.id = id) (hno : ∀ j z, j < k → P[j]? = some z → z.id ≠ id) : peerN P id = y := by
  unfold peerN
  have hk := (List.getElem?_eq_some_iff.1 hy)
  have hkl := hk.1
  have : P.find? (fun p => p.id == id) = some y := by
    rw [List.find?_eq_some_iff_getElem]
    refine ⟨by simpa using he, k, hk.1, hk.2, fun j hj => ?_⟩
    have := hno j _ hj (List.getElem?_eq_getElem (by omega))
    simpa using this
  rw [this]
  rfl
theorem peerN_none {P : List Pr} {id : Int} (hno : ∀ j z, j < P.length → P[j]? = some z → z.id ≠ id) : peerN P id = ⟨id, 0, 0, [], []⟩ := by
  unfold peerN
  have : P.find? (fun p => p.id == id) = none := by
    rw [List.find?_eq_none]
    intro x hx
    obtain ⟨j, hj⟩ := List.mem_iff_getElem?.1 hx
    simpa using hno j x (List.getElem?_eq_some_iff.1 hj).1 hj
  rw [this]
  rfl
set_option maxRecDepth 100000 in
set_option maxHeartbeats 8000000 in
theorem peer_r (a : Option Addr) (n c : Nat) (P : List Pr) (id : Int) (w : World) (h : PL w a n P) (hn : n ≤ 1000000) (hP : SmallP P) :
    Calls Tryd.prog 34 #[.slice a n c, .int .i64 id] w (CpPost (peerN P id) w.heap.size w) := by
  have HL := Lib.hid h.len
  have EX := Ex.refl w
  have B4 := Blk.new w [.int .i64 0, .slice none 0 0, .int .i64 0, .int .i64 0, .slice none 0 0] 41
  have kk := Ex.new w (.cells #[.int .i64 0, .slice none 0 0, .int .i64 0, .int .i64 0, .slice none 0 0] 41)
  obtain ⟨w1, hw1⟩ : ∃ w1, w1 = w.alloc (.cells #[.int .i64 0, .slice none 0 0, .int .i64 0, .int .i64 0, .slice none 0 0] 41) := ⟨_, rfl⟩
  obtain ⟨g4, hg4⟩ : ∃ g4, g4 = w.heap.size := ⟨_, rfl⟩
  replace B4 : Blk w1 g4 [.int .i64 0, .slice none 0 0, .int .i64 0, .int .i64 0, .slice none 0 0] 41 := by rw [hw1, hg4]; exact B4
  rw [← hw1] at kk
  have Hw1 := Lib.hid hw1
  have Hg4 := Lib.hid hg4
  replace h := h.nx kk
  replace EX := EX.nx kk
  have hg4' : w.heap.size ≤ g4 := by omega
  clear kk hw1 hg4
  have HS := Lib.hid h
  have HP := Lib.hid hP
  have HB := Lib.hid B4
  have EX := Lib.hid EX
  clear h hP
  go_enter Tryd.func34, Tryd.ntmps34
  go_upto_region 1 with fail
  rw [← Hg4.out, ← Hw1.out]
  clear Hg4 Hw1
  have hg4l := B4.lt
  clear B4
  go_wp2_with fail
  go_loopw [5] (fun i wr => PeRel P id n w1 i wr) (fun i _ => n - (intOf i).toNat)
  case atStart => exact ⟨0, by omega, rfl, Ex.refl _, by intro j z h; omega⟩
  case round =>
    obtain ⟨k, hk, rfl, kw, hno⟩ := hrel
    have HNO := Lib.hid hno
    clear hno
    obtain ⟨wo, rfl⟩ : ∃ wo : World, wo = wr := ⟨_, rfl⟩
    by_cases hlt : k < n
    · obtain ⟨x3, o3, b1, m1, d1, b4, m4, d4, y, rfl, hx3, hy, e0, e1, e2, e3, e4, s1, s4⟩ := (HS.out.nx kw).rd hlt
      have hyP := HP.out y (List.mem_of_getElem? hy)
      have hl1 : m1 ≤ 17592186044416 := by have := s1.len; omega
      have hl4 : m4 ≤ 4398046511104 := by have := s4.len; omega
      have HY := Lib.hid hy
      have KW := Lib.hid kw
      clear hy kw hyP
      by_cases hv : y.id = id
      · have hb : (y.id == id) = true := by simp [hv]
        have HP : Hid (peerN P id = y) := Lib.hid (peerN_at HY.out hv HNO.out)
        have hz := KW.out.size
        clear hv
        go_wp2_with fail
        (with_reducible refine (copypeer_r y _ _ _ _ _ _ _ s1 s4 hl1 hl4).mono ?_)
        rintro e w9 ⟨⟨A2, M2, C2⟩, ⟨A5, M5, C5⟩, rfl, own2, own5, kk⟩
        simp only [Hdr.val] at own2 own5 ⊢
        have B4 := HB.out.nx (KW.out.nx kk)
        have q0 := B4.cell 0 _ rfl
        have q1 := B4.cell 1 _ rfl
        have q2 := B4.cell 2 _ rfl
        have q3 := B4.cell 3 _ rfl
        have q4 := B4.cell 4 _ rfl
        have f0 := B4.free 0
        have f1 := B4.free 1
        have f2 := B4.free 2
        have f3 := B4.free 3
        have f4 := B4.free 4
        have hgo : g4 < wo.heap.size := Nat.lt_of_lt_of_le hg4l hz
        have k7 : Ex w w9 := EX.out.nx (KW.out.nx kk)
        have KE := Lib.hid (((((k7.setNew (p := ⟨g4, 0, none⟩) (.int .i64 y.id) hg4').setNew (p := ⟨g4, 1, none⟩) (.slice A2 M2 C2) hg4').setNew (p := ⟨g4, 2, none⟩) (.int .i64 y.left) hg4').setNew (p := ⟨g4, 3, none⟩) (.int .i64 y.right) hg4').setNew (p := ⟨g4, 4, none⟩) (.slice A5 M5 C5) hg4')
        have KB : Exb g4 w9 (((((w9.setCell ⟨g4, 0, none⟩ (.int .i64 y.id)).setCell ⟨g4, 1, none⟩ (.slice A2 M2 C2)).setCell ⟨g4, 2, none⟩ (.int .i64 y.left)).setCell ⟨g4, 3, none⟩ (.int .i64 y.right)).setCell ⟨g4, 4, none⟩ (.slice A5 M5 C5)) :=
          (((((Exb.refl g4 w9).setB (p := ⟨g4, 0, none⟩) _ rfl).setB (p := ⟨g4, 1, none⟩) _ rfl).setB (p := ⟨g4, 2, none⟩) _ rfl).setB (p := ⟨g4, 3, none⟩) _ rfl).setB (p := ⟨g4, 4, none⟩) _ rfl
        have hzw : w.heap.size ≤ wo.heap.size := (EX.out.nx KW.out).size
        have O1 := Lib.hid ((own2.nxb hgo KB).base hzw)
        have O4 := Lib.hid ((own5.nxb hgo KB).base hzw)
        clear B4 own2 own5 KB k7 e0 e1 e2 e3 e4 s1 s4 kk
        go_wp2_with fail
        refine bodyPost_ret (v := .agg #[.int .i64 y.id, .slice A2 M2 C2, .int .i64 y.left, .int .i64 y.right, .slice A5 M5 C5]) (by simp [results, Tryd.results34, go_sem, *]) rfl ?_
        rw [HP.out]
        exact ⟨(A2, M2, C2), (A5, M5, C5), rfl, O1.out, O4.out, KE.out⟩
      · have HV := Lib.hid hv
        have hb : (y.id == id) = false := by simpa using hv
        clear hv e1 e2 e3 e4 s1 s4
        go_wp2_with fail
        refine ⟨⟨k + 1, by omega, by go_num, KW.out, fun j z hj hz => ?_⟩, by simp [intOf]; omega⟩
        rcases Nat.lt_or_ge j k with h | h
        · exact HNO.out j z h hz
        · obtain rfl : j = k := by omega
          rw [Option.some.inj (hz.symm.trans HY.out)]
          exact HV.out
    · obtain rfl : k = n := by omega
      have HP : Hid (peerN P id = ⟨id, 0, 0, [], []⟩) := Lib.hid (peerN_none (fun j z hj hz => HNO.out j z (by rw [← HL.out]; exact hj) hz))
      have B4 := HB.out.nx kw
      have q0 := B4.cell 0 _ rfl
      have q1 := B4.cell 1 _ rfl
      have q2 := B4.cell 2 _ rfl
      have q3 := B4.cell 3 _ rfl
      have q4 := B4.cell 4 _ rfl
      have f0 := B4.free 0
      have f1 := B4.free 1
      have f2 := B4.free 2
      have f3 := B4.free 3
      have f4 := B4.free 4
      have k7 : Ex w wo := EX.out.nx kw
      have KE := Lib.hid (((((k7.setNew (p := ⟨g4, 0, none⟩) (.int .i64 id) hg4').setNew (p := ⟨g4, 1, none⟩) (.slice none 0 0) hg4').setNew (p := ⟨g4, 2, none⟩) (.int .i64 0) hg4').setNew (p := ⟨g4, 3, none⟩) (.int .i64 0) hg4').setNew (p := ⟨g4, 4, none⟩) (.slice none 0 0) hg4')
      clear B4 k7 kw hk hlt
      go_wp2_with fail
      refine bodyPost_ret (v := .agg #[.int .i64 id, .slice none 0 0, .int .i64 0, .int .i64 0, .slice none 0 0]) (by simp [results, Tryd.results34, go_sem, *]) rfl ?_
      rw [HP.out]
      exact ⟨(none, 0, 0), (none, 0, 0), rfl, OwnL.nil _ _ _ _ _, OwnL.nil _ _ _ _ _, KE.out⟩
end Go.Proofs.YtbnbjiddffihoaaDoor
