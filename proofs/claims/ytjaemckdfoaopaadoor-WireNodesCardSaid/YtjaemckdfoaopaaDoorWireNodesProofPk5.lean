/- Texts for the statement WireNodesProof, part 5 of 12: Thr, Bd, TId, Odd, EncN. -/
import Derived.Test.YtjaemckdfoaopaaDoorWireNodesProofPk1
import Derived.Test.YtjaemckdfoaopaaDoorWireNodesProofPk2
import Derived.Test.YtjaemckdfoaopaaDoorWireNodesProofPk3
import Derived.Test.YtjaemckdfoaopaaDoorWireNodesProofPk4

/- Through and Neighbours of the reference. -/
namespace Go.Proofs.YtjaemckdfoaopaaDoor
open Go.RowKit

def idxI (g : List Nd) (id : Int) : Nat := g.findIdx fun x => x.id == id
theorem idxI_of {g : List Nd} {id : Int} {k : Nat} {y : Nd} (hy : g[k]? = some y) (he : y.id = id) (hno : ∀ j z, j < k → g[j]? = some z → z.id ≠ id) : idxI g id = k := by
  have hk := (List.getElem?_eq_some_iff.1 hy).1
  have hv := (List.getElem?_eq_some_iff.1 hy).2
  rw [idxI, List.findIdx_eq hk]
  refine ⟨by rw [hv]; simpa using he, fun j hj => ?_⟩
  have := hno j _ hj (List.getElem?_eq_getElem (by omega))
  simpa using this
theorem idxI_none {g : List Nd} {id : Int} (hno : ∀ j z, j < g.length → g[j]? = some z → z.id ≠ id) : idxI g id = g.length := by
  rw [idxI, List.findIdx_eq_length]
  intro x hx
  obtain ⟨j, hj, he⟩ := List.mem_iff_getElem.1 hx
  have := hno j x hj (by rw [← he]; simp)
  simpa using this
/-- the list of a level through a node, the node's place in it -/
def thrG (l : List Nd) (id : Int) (h : Int) : List Nd := groupN (sortN l) h (findN l id).1.word
def throughN (l : List Nd) (id : Int) (h : Int) : List Nd × Nat × Bool :=
  if (findN l id).2 = true ∧ (checkN l == 0) = true ∧ lvlN h = true ∧ idxI (thrG l id h) id < (thrG l id h).length then (thrG l id h, idxI (thrG l id h) id, true) else ([], 0, false)
def ThPost (r : List Nd × Nat × Bool) (w : World) (e : Ending) (w' : World) : Prop :=
  ∃ (a : Option Addr) (cp : Nat), e = .returned (.tuple #[.slice a r.1.length cp, .int .i64 r.2.1, .bool r.2.2]) ∧ Sl 3 encN w' a r.1.length r.1 ∧ Ex w w'
theorem thPost_none {l : List Nd} {id h : Int} {w w' : World} (hne : throughN l id h = ([], 0, false)) (k : Ex w w') : ThPost (throughN l id h) w (.returned (.tuple #[.slice none 0 0, .int .i64 0, .bool false])) w' := by
  rw [hne]
  exact ⟨none, 0, rfl, Sl.nil _ _ _ _, k⟩
def TgRel (g : List Nd) (id : Int) (w : World) (i : Value) (wr : World) : Prop :=
  ∃ k : Nat, k ≤ g.length ∧ i = .int .i64 k ∧ Ex w wr ∧ ∀ j z, j < k → g[j]? = some z → z.id ≠ id
theorem findN_word {l : List Nd} (hw : ∀ x ∈ l, x.word < 4294967296) (id : Int) : (findN l id).1.word < 4294967296 := by
  unfold findN
  split
  · rename_i x hx
    exact hw x (List.mem_of_find?_eq_some hx)
  · show 0 < _; omega

set_option maxRecDepth 100000 in
set_option maxHeartbeats 2000000 in
theorem through_r (a : Option Addr) (n cp : Nat) (l : List Nd) (id h : Int) (w : World) (hs : Sl 3 encN w a n l) (hn : n ≤ 1000) (hw : ∀ x ∈ l, x.word < 4294967296) :
    Calls Tryd.prog 62 #[.slice a n cp, .int .i64 id, .int .i64 h] w (ThPost (throughN l id h) w) := by
  have HW := Lib.hid (sort_word hw)
  have HX := findN_word hw id
  have HL := Lib.hid hs.len
  clear hw
  go_enter Tryd.func62, Tryd.ntmps62
  go_wp2_with fail
  (with_reducible refine (find_r _ _ _ _ _ _ hs (by omega)).mono ?_)
  rintro e w1 ⟨rfl, k1⟩
  have S1 := hs.nx k1
  obtain ⟨F, hF⟩ : ∃ F, F = findN l id := ⟨_, rfl⟩
  have HF := Lib.hid hF
  rw [← hF] at HX ⊢
  obtain ⟨⟨xi, xk, xw⟩, ok⟩ := F
  have k2 := Ex.new w1 (.cells #[.int .i64 xi, .string xk, .int .u32 xw] 68)
  have B2 := Blk.new w1 [.int .i64 xi, .string xk, .int .u32 xw] 68
  obtain ⟨w2, hw2⟩ : ∃ w2, w2 = w1.alloc (.cells #[.int .i64 xi, .string xk, .int .u32 xw] 68) := ⟨_, rfl⟩
  obtain ⟨g2, hg2⟩ : ∃ g2, g2 = w1.heap.size := ⟨_, rfl⟩
  have B2 : Blk w2 g2 [.int .i64 xi, .string xk, .int .u32 xw] 68 := by rw [hw2, hg2]; exact B2
  rw [← hw2] at k2
  have HW2 := Lib.hid hw2
  have HG2 := Lib.hid hg2
  replace S1 := S1.nx k2
  replace k1 := k1.nx k2
  clear hF hw2 hg2 k2 hs
  simp only [Nd.val]
  go_upto_region 2 with fail
  rw [← HG2.out, ← HW2.out]
  cases ok with
  | false =>
    have HT : Hid (throughN l id h = ([], 0, false)) := Lib.hid (by unfold throughN; rw [if_neg]; rintro ⟨h1, _⟩; rw [← HF.out] at h1; cases h1)
    clear S1 B2
    go_wp2_with fail
    refine bodyPost_ret (v := .tuple #[.slice none 0 0, .int .i64 0, .bool false]) (by simp [results, Tryd.results62, go_sem, *]) rfl (thPost_none HT.out k1)
  | true =>
    go_wp2_with fail
    (with_reducible refine (is_r _ _ _ _ _ S1 (by omega)).mono ?_)
    rintro e w3 ⟨rfl, k3⟩
    replace S1 := S1.nx k3
    replace k1 := k1.nx k3
    replace B2 := B2.nx k3
    clear k3
    cases hc : (checkN l == 0) with
    | false =>
      have HT : Hid (throughN l id h = ([], 0, false)) := Lib.hid (by unfold throughN; rw [if_neg]; rintro ⟨_, h1, _⟩; rw [hc] at h1; cases h1)
      clear S1 B2 hc
      go_wp2_with fail
      refine bodyPost_ret (v := .tuple #[.slice none 0 0, .int .i64 0, .bool false]) (by simp [results, Tryd.results62, go_sem, *]) rfl (thPost_none HT.out k1)
    | true =>
      have HC := Lib.hid hc
      clear hc
      go_wp2_with fail
      refine (level_r h _).mono ?_
      rintro e w4 ⟨rfl, rfl⟩
      cases hl : lvlN h with
      | false =>
        have HT : Hid (throughN l id h = ([], 0, false)) := Lib.hid (by unfold throughN; rw [if_neg]; rintro ⟨_, _, h1, _⟩; rw [hl] at h1; cases h1)
        clear S1 B2 hl
        go_wp2_with fail
        refine bodyPost_ret (v := .tuple #[.slice none 0 0, .int .i64 0, .bool false]) (by simp [results, Tryd.results62, go_sem, *]) rfl (thPost_none HT.out k1)
      | true =>
        have HLV := Lib.hid hl
        clear hl
        go_wp2_with fail
        replace B2 := B2.nx (Ex.refl w3).drew
        refine wp_region_held_drew (S := Ex w3.drew) (by kernel_rfl) (Ex.refl _) (fun hHeld => ?_)
        refine wpAnyH_take (i := 0) (oi := { dst := some 31, op := Op.move (Operand.tmp 0), type := 43, pos := "ref.go:36", after := #[], guard := none }) (v := ?_) rfl (by kernel_rfl) (by kernel_rfl) (by kernel_rfl) (fun _ _ _ h => h) (Or.inl ⟨by rfl, ?hyr1x0⟩) (by assumption) ?restr1x0
        case hyr1x0 => intro wq hSw; (go_simp); (try with_reducible rfl)
        try simp only [Act.put, List.setIfInBounds_toArray, List.set_cons_zero, List.set_cons_succ]
        refine wpAnyH_take (i := 2) (oi := { dst := some 33, op := Op.move (Operand.tmp 2), type := 3, pos := "ref.go:36", after := #[], guard := none }) (v := ?_) rfl (by kernel_rfl) (by kernel_rfl) (by kernel_rfl) (fun _ _ _ h => h) (Or.inl ⟨by rfl, ?hyr1x2⟩) (by assumption) ?restr1x2
        case hyr1x2 => intro wq hSw; (go_simp); (try with_reducible rfl)
        try simp only [Act.put, List.setIfInBounds_toArray, List.set_cons_zero, List.set_cons_succ]
        refine wpAnyH_take (i := 3) (oi := { dst := some 34, op := Op.fieldAddr 68 (Operand.tmp 9) 2, type := 0, pos := "ref.go:36", after := #[], guard := none }) (v := ?_) rfl (by kernel_rfl) (by kernel_rfl) (by kernel_rfl) (fun _ _ _ h => h) (Or.inl ⟨by rfl, ?hyr1x3⟩) (by assumption) ?restr1x3
        case hyr1x3 => intro wq hSw; (go_simp); (try with_reducible rfl)
        try simp only [Act.put, List.setIfInBounds_toArray, List.set_cons_zero, List.set_cons_succ]
        refine wpAnyH_take (i := 4) (oi := { dst := some 35, op := Op.load 65 (Operand.tmp 34), type := 65, pos := "ref.go:36", after := #[{ on := 3, ground := Ground.data }], guard := none }) (v := ?_) rfl (by kernel_rfl) (by kernel_rfl) (by kernel_rfl) (fun _ _ _ h => h) (Or.inl ⟨by rfl, ?hyr1x4⟩) (by assumption) ?restr1x4
        case hyr1x4 => intro wq hSw; (have cq := (B2.nx hSw).cell 2 _ rfl; go_simp); (try with_reducible rfl)
        try simp only [Act.put, List.setIfInBounds_toArray, List.set_cons_zero, List.set_cons_succ]
        refine wpAnyH_ready (rs := [1]) (by kernel_rfl) (by simp) ?_
        refine AllReadyH.cons (o := { dst := some 32, op := Op.call { callee := Callee.value (Operand.func 51), args := #[Operand.tmp 31], argTypes := #[43] }, type := 43, pos := "ref.go:36", after := #[{ on := 0, ground := Ground.data }], guard := none }) rfl (fun K hK => ?_) AllReadyH.nil
        go_simp
        (with_reducible refine (sort_r _ _ _ _ _ (S1.nx (Ex.refl w3).drew) hn).mono ?_)
        rintro e w5 ⟨a5, n5, c5, rfl, r5, k5⟩
        have r5 : Slf 3 encN w3.drew w5 a5 n5 _ := r5
        replace k5 : Ex w3.drew w5 := k5
        replace B2 := B2.nx k5
        have hn5 : n5 ≤ 1000 := by have := r5.len; have := sortN_length l; have := HL.out; omega
        refine hK.out _ _ k5 (fun _ => ?_)
        clear hK K
        try simp only [Act.put, List.setIfInBounds_toArray, List.set_cons_zero, List.set_cons_succ]
        refine wpAnyH_switch (S' := Ex w5) (fun _ hSw => Ex.nx k5 hSw) ?_
        clear hHeld
        have hHeld := Ex.refl w5
        refine wpAnyH_ready (rs := [5]) (by kernel_rfl) (by simp) ?_
        refine AllReadyH.cons (o := { dst := some 36, op := Op.call { callee := Callee.value (Operand.func 67), args := #[Operand.tmp 32, Operand.tmp 33, Operand.tmp 35], argTypes := #[43, 3, 65] }, type := 43, pos := "ref.go:36", after := #[{ on := 1, ground := Ground.data }, { on := 2, ground := Ground.data }, { on := 4, ground := Ground.data }, { on := 1, ground := Ground.chain }], guard := none }) rfl (fun K hK => ?_) AllReadyH.nil
        go_simp
        refine (group_r _ _ _ _ h xw _ r5.sl (fun _ hk => hk) hn5 HW.out HX).mono ?_
        rintro e w6 ⟨a6, n6, c6, rfl, r6, k6⟩
        have r6 : Slf 3 encN w5 w6 a6 n6 _ := r6
        replace k6 : Ex w5 w6 := k6
        refine hK.out _ _ k6 (fun _ => ?_)
        clear hK K
        try simp only [Act.put, List.setIfInBounds_toArray, List.set_cons_zero, List.set_cons_succ]
        refine wpAnyH_switch (S' := Ex w6) (fun _ hSw => Ex.nx k6 hSw) ?_
        clear hHeld
        have hHeld := Ex.refl w6
        refine wpAnyH_take (i := 6) (oi := { dst := some 11, op := Op.assign (Operand.tmp 36), type := 43, pos := "ref.go:36", after := #[{ on := 5, ground := Ground.data }, { on := 5, ground := Ground.chain }, { on := 0, ground := Ground.phase }, { on := 1, ground := Ground.phase }, { on := 2, ground := Ground.phase }, { on := 3, ground := Ground.phase }, { on := 4, ground := Ground.phase }, { on := 5, ground := Ground.phase }], guard := none }) (v := ?_) rfl (by kernel_rfl) (by kernel_rfl) (by kernel_rfl) (fun _ _ _ h => h) (Or.inl ⟨by rfl, ?hyr1x6⟩) (by assumption) ?restr1x6
        case hyr1x6 => intro wq hSw; (go_simp); (try with_reducible rfl)
        try simp only [Act.put, List.setIfInBounds_toArray, List.set_cons_zero, List.set_cons_succ]
        refine wpAnyH_done (by kernel_rfl) ?_ _
        have k7 := k1.nx (((Ex.refl w3).drew.nx k5).nx k6)
        have HG : Hid (thrG l id h = groupN (sortN l) h xw) := Lib.hid (by unfold thrG; rw [← HF.out])
        have RG := r6.sl
        clear r5 r6 k5 k6 hn5 S1 B2 k1
        have RG := RG
        have hng := RG.len
        subst hng
        have hgl := groupN_length (sortN l) h xw
        rw [sortN_length] at hgl
        have hgl : (groupN (sortN l) h xw).length ≤ 1000 := by have := HL.out; omega
        generalize groupN (sortN l) h xw = G at RG HG hgl ⊢
        have RG := Lib.hid RG
        go_wp2_with fail
        go_loopw [12] (fun i wr => TgRel G id w6 i wr) (fun i _ => G.length - (intOf i).toNat)
        case atStart => exact ⟨0, by omega, rfl, Ex.refl _, by intro _ _ h; omega⟩
        case round =>
          obtain ⟨k, hk, rfl, kw, hno⟩ := hrel
          have HNO := Lib.hid hno
          obtain ⟨wo, rfl⟩ : ∃ wo : World, wo = wr := ⟨_, rfl⟩
          clear hno
          by_cases hlt : k < G.length
          · obtain ⟨x1, o1, y, rfl, hx1, hy, hc1⟩ := (RG.out.nx kw).at hlt
            have e0 : wo.cell? ⟨x1, o1 + k * 3, none⟩ = some (.int .i64 y.id) := hc1 0 _ rfl
            have HY := Lib.hid hy
            have hlt' := Lib.hid hlt
            clear hy hc1
            by_cases hid : y.id = id
            · have HI : idxI G id = k := idxI_of HY.out hid HNO.out
              have HT : Hid (throughN l id h = (G, k, true)) := Lib.hid (by unfold throughN; rw [HG.out, HI, if_pos]; exact ⟨by rw [← HF.out], HC.out, HLV.out, hlt⟩)
              have d1 : (y.id == id) = true := by simpa using hid
              clear hid HI
              go_wp2_with fail
              refine bodyPost_ret (v := .tuple #[.slice (some ⟨x1, o1, none⟩) G.length c6, .int .i64 k, .bool true]) (by simp [results, Tryd.results62, go_sem, *]) rfl ?_
              rw [HT.out]
              exact ⟨_, _, rfl, RG.out.nx kw, k7.nx kw⟩
            · have d1 : (y.id == id) = false := by simpa using hid
              have HID := Lib.hid hid
              clear hid
              go_wp2_with fail
              refine ⟨⟨k + 1, by omega, by go_num, kw, fun j z hj hz => ?_⟩, by simp [intOf]; omega⟩
              rcases Nat.lt_or_ge j k with h | h
              · exact HNO.out j z h hz
              · obtain rfl : j = k := by omega
                rw [Option.some.inj (hz.symm.trans HY.out)]
                exact HID.out
          · obtain rfl : k = G.length := by omega
            have HT : Hid (throughN l id h = ([], 0, false)) := Lib.hid (by unfold throughN; rw [HG.out, if_neg]; rintro ⟨_, _, _, h1⟩; rw [idxI_none HNO.out] at h1; omega)
            clear hk hlt
            go_wp2_with fail
            refine bodyPost_ret (v := .tuple #[.slice none 0 0, .int .i64 0, .bool false]) (by simp [results, Tryd.results62, go_sem, *]) rfl (thPost_none HT.out (k7.nx kw))

def leftN (g : List Nd) (i : Nat) : Int := if i = 0 then 0 else (g[i - 1]?.getD Nd.zero).id
def rightN (g : List Nd) (i : Nat) : Int := (g[i + 1]?.getD Nd.zero).id
def neighN (l : List Nd) (id : Int) (h : Int) : (Int × Int) × Bool :=
  if (throughN l id h).2.2 then ((leftN (throughN l id h).1 (throughN l id h).2.1, rightN (throughN l id h).1 (throughN l id h).2.1), true) else ((0, 0), false)
theorem throughN_lt {l : List Nd} {id h : Int} (hr : (throughN l id h).2.2 = true) : (throughN l id h).2.1 < (throughN l id h).1.length := by
  unfold throughN at *
  split at hr
  · rename_i hc
    rw [if_pos hc]
    exact hc.2.2.2
  · cases hr
theorem throughN_len (l : List Nd) (id h : Int) : (throughN l id h).1.length ≤ l.length := by
  unfold throughN
  split
  · unfold thrG
    have := groupN_length (sortN l) h (findN l id).1.word
    rw [sortN_length] at this
    exact this
  · simp
theorem idAt {w : World} {a : Option Addr} {n : Nat} {G : List Nd} (h : Sl 3 encN w a n G) {j : Nat} (hj : j < n) : ∃ x o, a = some ⟨x, o, none⟩ ∧ x < w.heap.size ∧ w.cell? ⟨x, o + j * 3, none⟩ = some (.int .i64 (G[j]?.getD Nd.zero).id) := by
  obtain ⟨x, o, y, e, hx, hy, hc⟩ := h.at hj
  exact ⟨x, o, e, hx, by rw [hy]; exact hc 0 _ rfl⟩
def NgPost (r : (Int × Int) × Bool) (w : World) (e : Ending) (w' : World) : Prop :=
  e = .returned (.tuple #[.agg #[.int .i64 r.1.1, .int .i64 r.1.2], .bool r.2]) ∧ Ex w w'

set_option maxRecDepth 100000 in
set_option maxHeartbeats 2000000 in
theorem neigh_r (a : Option Addr) (n cp : Nat) (l : List Nd) (id h : Int) (w : World) (hs : Sl 3 encN w a n l) (hn : n ≤ 1000) (hw : ∀ x ∈ l, x.word < 4294967296) :
    Calls Tryd.prog 52 #[.slice a n cp, .int .i64 id, .int .i64 h] w (NgPost (neighN l id h) w) := by
  have HW := Lib.hid hw
  have HL := Lib.hid hs.len
  have k1 := Ex.new w (.cells #[.int .i64 0, .int .i64 0] 73)
  have B1 := Blk.new w [.int .i64 0, .int .i64 0] 73
  obtain ⟨w1, hw1⟩ : ∃ w1, w1 = w.alloc (.cells #[.int .i64 0, .int .i64 0] 73) := ⟨_, rfl⟩
  obtain ⟨g, hg⟩ : ∃ g, g = w.heap.size := ⟨_, rfl⟩
  have B1 : Blk w1 g [.int .i64 0, .int .i64 0] 73 := by rw [hw1, hg]; exact B1
  rw [← hw1] at k1
  have hgn : w.heap.size ≤ g := by omega
  have HW1 := Lib.hid hw1
  have HG := Lib.hid hg
  have S1 := hs.nx k1
  clear hs hw1 hg hw
  go_enter Tryd.func52, Tryd.ntmps52
  go_upto_region 1 with fail
  rw [← HG.out, ← HW1.out]
  go_wp2_with fail
  (with_reducible refine (through_r _ _ _ _ _ _ _ S1 hn HW.out).mono ?_)
  rintro e w2 ⟨a2, c2, rfl, R2, k2⟩
  have HLT := fun hr => throughN_lt (l := l) (id := id) (h := h) hr
  have HLE := throughN_len l id h
  have HNE : Hid (neighN l id h = if (throughN l id h).2.2 then ((leftN (throughN l id h).1 (throughN l id h).2.1, rightN (throughN l id h).1 (throughN l id h).2.1), true) else ((0, 0), false)) := Lib.hid rfl
  have hle := HL.out
  generalize throughN l id h = r at R2 HLT HLE HNE ⊢
  obtain ⟨G, i, ok⟩ := r
  have kk := k1.nx k2
  have B := B1.nx k2
  have hgl : G.length ≤ 1000 := by have := HLE; simp at this; omega
  clear S1 B1 k1 k2 HLE hle
  simp only
  cases ok with
  | false =>
    have HE : Hid (neighN l id h = ((0, 0), false)) := HNE
    have q0 := B.cell 0 _ rfl
    have q1 := B.cell 1 _ rfl
    have z0 := B.free 0
    have z1 := B.free 1
    clear R2 HLT HNE
    go_wp2_with fail
    refine bodyPost_ret (v := .tuple #[.agg #[.int .i64 0, .int .i64 0], .bool false]) (by simp [results, Tryd.results52, go_sem, *]) rfl ⟨by rw [HE.out], ?_⟩
    exact (kk.setNew (p := ⟨g, 0, none⟩) _ hgn).setNew (p := ⟨g, 1, none⟩) _ hgn
  | true =>
    have hi : i < G.length := HLT rfl
    have HE : Hid (neighN l id h = ((leftN G i, rightN G i), true)) := HNE
    have k3 := Ex.new w2 (.cells #[.int .i64 0, .int .i64 0] 73)
    have B3 := Blk.new w2 [.int .i64 0, .int .i64 0] 73
    obtain ⟨w3, hw3⟩ : ∃ w3, w3 = w2.alloc (.cells #[.int .i64 0, .int .i64 0] 73) := ⟨_, rfl⟩
    obtain ⟨g3, hg3⟩ : ∃ g3, g3 = w2.heap.size := ⟨_, rfl⟩
    have B3 : Blk w3 g3 [.int .i64 0, .int .i64 0] 73 := by rw [hw3, hg3]; exact B3
    rw [← hw3] at k3
    have hgg : g ≠ g3 := by have := B.lt; omega
    have hgn3 : w.heap.size ≤ g3 := by have := kk.size; omega
    have HW3 := Lib.hid hw3
    have HG3 := Lib.hid hg3
    replace B := B.nx k3
    replace kk := kk.nx k3
    have R3 := R2.nx k3
    clear hw3 hg3 k3 R2 HLT HNE
    go_upto_region 5 with fail
    rw [← HG3.out, ← HW3.out]
    -- the left neighbour
    obtain ⟨L, hL⟩ : ∃ L, L = leftN G i := ⟨_, rfl⟩
    obtain ⟨Rr, hR⟩ : ∃ Rr, Rr = rightN G i := ⟨_, rfl⟩
    rw [← hL, ← hR] at HE
    have q0 := B3.cell 0 _ rfl
    have q1 := B3.cell 1 _ rfl
    have z0 := B3.free 0
    have z1 := B3.free 1
    have p0 := B.cell 0 _ rfl
    have p1 := B.cell 1 _ rfl
    have y0 := B.free 0
    have y1 := B.free 1
    have hgg2 : ¬ g = g3 := hgg
    have hgg3 : ¬ g3 = g := fun h => hgg h.symm
    by_cases hi0 : i = 0
    · have hL0 : L = 0 := by rw [hL]; unfold leftN; rw [if_pos hi0]
      subst hL0
      have d0 : ¬ (0 : Int) < (i : Int) := by omega
      by_cases hr : i + 1 < G.length
      · have hR1 : Rr = (G[i + 1]?.getD Nd.zero).id := hR
        obtain ⟨x5, o5, ex, hx5, f5⟩ := idAt R3 (j := i + 1) hr
        subst ex
        rw [← hR1] at f5
        replace f5 : w3.cell? ⟨x5, o5 + 3, none⟩ = some (.int .i64 Rr) := by rw [hi0] at f5; exact f5
        have dr : (i : Int) + 1 < (G.length : Int) := by omega
        clear hL hR R3 hR1
        go_wp2_with fail
        refine bodyPost_ret (v := .tuple #[.agg #[.int .i64 0, .int .i64 Rr], .bool true]) (by simp [results, Tryd.results52, go_sem, *]) rfl ⟨by rw [HE.out], ?_⟩
        repeat (first | exact kk | refine Ex.setNew ?_ _ (by first | exact hgn | exact hgn3))
      · have hR1 : Rr = 0 := by rw [hR]; unfold rightN; rw [List.getElem?_eq_none (by omega)]; rfl
        subst hR1
        have dr : ¬ (i : Int) + 1 < (G.length : Int) := by omega
        clear hL hR R3
        go_wp2_with fail
        refine bodyPost_ret (v := .tuple #[.agg #[.int .i64 0, .int .i64 0], .bool true]) (by simp [results, Tryd.results52, go_sem, *]) rfl ⟨by rw [HE.out], ?_⟩
        repeat (first | exact kk | refine Ex.setNew ?_ _ (by first | exact hgn | exact hgn3))
    · have hL0 : L = (G[i - 1]?.getD Nd.zero).id := by rw [hL]; unfold leftN; rw [if_neg hi0]
      have d0 : (0 : Int) < (i : Int) := by omega
      have hi1 : (i : Int) - 1 = ((i - 1 : Nat) : Int) := by omega
      obtain ⟨x4, o4, rfl, hx4, f4⟩ := idAt R3 (j := i - 1) (by simp only at hi ⊢; omega)
      rw [← hL0] at f4
      clear hL0
      by_cases hr : i + 1 < G.length
      · have hR1 : Rr = (G[i + 1]?.getD Nd.zero).id := hR
        obtain ⟨x5, o5, ex, hx5, f5⟩ := idAt R3 (j := i + 1) hr
        cases ex
        rw [← hR1] at f5
        have dr : (i : Int) + 1 < (G.length : Int) := by omega
        clear hL hR R3 hR1
        go_wp2_with fail
        refine bodyPost_ret (v := .tuple #[.agg #[.int .i64 L, .int .i64 Rr], .bool true]) (by simp [results, Tryd.results52, go_sem, *]) rfl ⟨by rw [HE.out], ?_⟩
        repeat (first | exact kk | refine Ex.setNew ?_ _ (by first | exact hgn | exact hgn3))
      · have hR1 : Rr = 0 := by rw [hR]; unfold rightN; rw [List.getElem?_eq_none (by omega)]; rfl
        subst hR1
        have dr : ¬ (i : Int) + 1 < (G.length : Int) := by omega
        clear hL hR R3
        go_wp2_with fail
        refine bodyPost_ret (v := .tuple #[.agg #[.int .i64 L, .int .i64 0], .bool true]) (by simp [results, Tryd.results52, go_sem, *]) rfl ⟨by rw [HE.out], ?_⟩
        repeat (first | exact kk | refine Ex.setNew ?_ _ (by first | exact hgn | exact hgn3))
end Go.Proofs.YtjaemckdfoaopaaDoor

/- Build of the reference. -/
namespace Go.Proofs.YtjaemckdfoaopaaDoor
open Go.RowKit

theorem Tryd.infoLk : (Tryd.prog.info? 73).map (fun i => (i.zero, i.size, i.bytes)) = some (some (.agg #[.int .i64 0, .int .i64 0]), 2, 16) := by kernel_rfl
theorem Tryd.infoLd : (Tryd.prog.info? 76).map (fun i => (i.zero, i.size, i.bytes)) = some (some (.agg #[.int .i64 0, .slice none 0 0]), 2, 32) := by kernel_rfl

abbrev Lkd := Int × List (Int × Int)
/-- the links of a node of a sorted roster at the levels below m -/
def rowN (S : List Nd) (m : Nat) (x : Nd) : Lkd := (x.id, (List.range m).map fun (h : Nat) => (neighN S x.id h).1)
def buildN (l : List Nd) (height : Int) : List Lkd × Int :=
  if (checkN l == 0) = false then ([], 1) else if lvlN height = false then ([], 2) else ((sortN l).map (rowN (sortN l) (height.toNat + 1)), 0)
abbrev OwnLk (base : Nat) (w : World) (v : Value) (qs : List (Int × Hdr)) (L : List Lkd) : Prop := OwnN encI 2 2 encS 76 73 base w v qs L
abbrev LkL (w : World) (a : Option Addr) (n : Nat) (L : List Lkd) : Prop := NL encI 2 2 encS w a n L
/-- a list of links that was just made -/
def LkPost (L : List Lkd) (e : Int) (w : World) (en : Ending) (w' : World) : Prop :=
  ∃ (v : Value) (qs : List (Int × Hdr)), en = .returned (.tuple #[v, .int .i64 e]) ∧ OwnLk w.heap.size w' v qs L ∧ Ex w w'
theorem OwnN.base {A β : Type} {encA : A → List Value} {s1 s2 : Nat} {encB : β → List Value} {e1 e2 : TypeId} {base base' : Nat} {w : World} {v : Value} {qs : List (A × Hdr)} {L : List (A × List β)}
    (h : OwnN encA s1 s2 encB e1 e2 base w v qs L) (hb : base' ≤ base) : OwnN encA s1 s2 encB e1 e2 base' w v qs L :=
  ⟨h.1.lower hb, h.2.1, fun j q c hq hc => ⟨(h.2.2.1 j q c hq hc).1, (h.2.2.1 j q c hq hc).2.base hb⟩, h.2.2.2⟩
def BdRel (S : List Nd) (m n : Nat) (w1 : World) (o i : Value) (wr : World) : Prop :=
  ∃ (k : Nat) (qs : List (Int × Hdr)), k ≤ n ∧ i = .int .i64 k ∧ OwnLk w1.heap.size wr o qs ((S.take k).map (rowN S m)) ∧ Ex w1 wr
def LvRel (S : List Nd) (m : Nat) (x : Nd) (g : Nat) (w : World) (i : Value) (wr : World) : Prop :=
  ∃ (j : Nat) (v : Value), j ≤ m ∧ i = .int .i64 j ∧ Blk wr g [.int .i64 x.id, v] 76 ∧ OwnL 2 encS 73 w.heap.size wr v (rowN S j x).2 ∧ Exb g w wr
theorem rowN_succ (S : List Nd) (j : Nat) (x : Nd) : (rowN S (j + 1) x).2 = (rowN S j x).2 ++ [(neighN S x.id (j : Nat)).1] := by
  unfold rowN
  simp [List.range_succ]
theorem rowN_len (S : List Nd) (j : Nat) (x : Nd) : (rowN S j x).2.length = j := by unfold rowN; simp

set_option maxRecDepth 100000 in
set_option maxHeartbeats 4000000 in
theorem build_r (a : Option Addr) (n cp : Nat) (l : List Nd) (h : Int) (w : World) (hs : Sl 3 encN w a n l) (hn : n ≤ 1000) (hw : ∀ x ∈ l, x.word < 4294967296) :
    Calls Tryd.prog 37 #[.slice a n cp, .int .i64 h] w (LkPost (buildN l h).1 (buildN l h).2 w) := by
  have HW := Lib.hid (sort_word hw)
  have HL := Lib.hid hs.len
  clear hw
  go_enter Tryd.func37, Tryd.ntmps37
  go_wp2_with fail
  (with_reducible refine (is_r _ _ _ _ _ hs (by omega)).mono ?_)
  rintro e w1 ⟨rfl, k1⟩
  have S1 := hs.nx k1
  clear hs
  cases hc : (checkN l == 0) with
  | false =>
    have HB : Hid (buildN l h = ([], 1)) := Lib.hid (by unfold buildN; rw [if_pos hc])
    clear S1 hc
    go_wp2_with fail
    go_ret2
    rw [HB.out]
    exact ⟨_, [], rfl, OwnN.nil _ _ _ _ _ _ _ _, k1⟩
  | true =>
    go_wp2_with fail
    refine (level_r h _).mono ?_
    rintro e w2 ⟨rfl, rfl⟩
    cases hl : lvlN h with
    | false =>
      have HB : Hid (buildN l h = ([], 2)) := Lib.hid (by unfold buildN; rw [if_neg (by rw [hc]; simp), if_pos hl])
      clear S1 hc hl
      go_wp2_with fail
      go_ret2
      rw [HB.out]
      exact ⟨_, [], rfl, OwnN.nil _ _ _ _ _ _ _ _, k1⟩
    | true =>
      have HB : Hid (buildN l h = ((sortN l).map (rowN (sortN l) (h.toNat + 1)), 0)) := Lib.hid (by unfold buildN; rw [if_neg (by rw [hc]; simp), if_neg (by rw [hl]; simp)])
      have hh : 0 ≤ h ∧ h ≤ 16 := by unfold lvlN at hl; simpa using hl
      obtain ⟨m, rfl⟩ := Int.eq_ofNat_of_zero_le hh.1
      have hm : m ≤ 16 := by have := hh.2; omega
      clear hc hl hh
      go_wp2_with fail
      (with_reducible refine (sort_r _ _ _ _ _ S1 hn).mono ?_)
      rintro e w3 ⟨a3, n3, c3, rfl, r3, k3⟩
      have r3 : Slf 3 encN w1 w3 a3 n3 _ := r3
      have R3 := r3.sl
      have hn3 : n3 ≤ 1000 := by have := r3.len; have := sortN_length l; have := HL.out; omega
      have k3 : Ex w w3 := k1.nx k3
      clear S1 k1 r3
      obtain ⟨S, hS⟩ : ∃ S, S = sortN l := ⟨_, rfl⟩
      rw [← hS] at R3 HW HB
      have HSL := Lib.hid R3.len
      have R3 := Lib.hid R3
      have K3 := Lib.hid k3
      have hz3 := k3.size
      clear hS k3
      go_wp2_with fail
      go_loopw [7, 8] (fun o i wr => BdRel S (m + 1) n3 w3 o i wr) (fun _ i _ => n3 - (intOf i).toNat)
      case atStart => exact ⟨0, [], by omega, rfl, OwnN.nil _ _ _ _ _ _ _ _, Ex.refl _⟩
      case round =>
        obtain ⟨k, qs, hk, rfl, OQ, kw⟩ := hrel
        obtain ⟨wo, rfl⟩ : ∃ wo : World, wo = wr := ⟨_, rfl⟩
        by_cases hlt : k < n3
        · obtain ⟨x1, o1, x, rfl, hx1, hx, hc1⟩ := (R3.out.nx kw).at hlt
          have e0 : wo.cell? ⟨x1, o1 + k * 3, none⟩ = some (.int .i64 x.id) := hc1 0 _ rfl
          have HX := Lib.hid hx
          have OQ := Lib.hid OQ
          have B9 := Blk.new wo [.int .i64 x.id, .slice none 0 0] 76
          have k9 := Ex.new wo (.cells #[.int .i64 x.id, .slice none 0 0] 76)
          obtain ⟨w9, hw9⟩ : ∃ w9, w9 = wo.alloc (.cells #[.int .i64 x.id, .slice none 0 0] 76) := ⟨_, rfl⟩
          obtain ⟨g9, hg9⟩ : ∃ g9, g9 = wo.heap.size := ⟨_, rfl⟩
          have B9 : Blk w9 g9 [.int .i64 x.id, .slice none 0 0] 76 := by rw [hw9, hg9]; exact B9
          rw [← hw9] at k9
          have hgo : wo.heap.size ≤ g9 := by omega
          have hg9' : g9 < w9.heap.size := B9.lt
          have HW9 := Lib.hid hw9
          have HG9 := Lib.hid hg9
          have hzo := kw.size
          have K9 := Lib.hid k9
          have KW := Lib.hid kw
          clear hw9 hg9 hc1 hx kw k9
          go_upto_region 11 with fail
          rw [← HG9.out, ← HW9.out]
          go_wp2_with fail
          clear e0
          go_loopw [10] (fun i wr => LvRel S (m + 1) x g9 w9 i wr) (fun i _ => m + 1 - (intOf i).toNat)
          case atStart => exact ⟨0, _, by omega, rfl, B9, OwnL.nil _ _ _ _ _, Exb.refl _ _⟩
          case round =>
            clear B9
            obtain ⟨j, vv, hj, rfl, B9, own, kv⟩ := hrel
            obtain ⟨wi, rfl⟩ : ∃ wi : World, wi = wr := ⟨_, rfl⟩
            have ki : Ex wo wi := Ex.of_exb ((K9.out.b g9).nxb kv) hgo
            by_cases hjm : j ≤ m
            · have e0 : wi.cell? ⟨x1, o1 + k * 3, none⟩ = some (.int .i64 x.id) := by
                obtain ⟨x5, o5, y5, he5, hx5, hy5, hc5⟩ := ((R3.out.nx KW.out).nx ki).at hlt
                cases he5
                obtain rfl : x = y5 := Option.some.inj (HX.out.symm.trans hy5)
                exact hc5 0 _ rfl
              have RI := (R3.out.nx KW.out).nx ki
              have RS := Lib.hid (rowN_succ S j x)
              have hrl := rowN_len S j x
              go_wp2_with fail
              (with_reducible refine (neigh_r _ _ _ _ _ _ _ RI hn3 HW.out).mono ?_)
              rintro e w4 ⟨rfl, k4⟩
              obtain ⟨⟨⟨nl, nr⟩, nok⟩, hN⟩ : ∃ N, N = neighN S x.id (j : Nat) := ⟨_, rfl⟩
              have HN := Lib.hid hN
              rw [← hN]
              generalize (rowN S j x).2 = row at own RS hrl
              have own4 := own.nx k4
              replace B9 := B9.nx k4
              replace kv := kv.nxb (k4.b g9)
              clear RI k4 hN e0 own
              have B5 := Blk.new w4 [.int .i64 nl, .int .i64 nr] 73
              have k5 := Ex.new w4 (.cells #[.int .i64 nl, .int .i64 nr] 73)
              obtain ⟨w5, hw5⟩ : ∃ w5, w5 = w4.alloc (.cells #[.int .i64 nl, .int .i64 nr] 73) := ⟨_, rfl⟩
              obtain ⟨g5, hg5⟩ : ∃ g5, g5 = w4.heap.size := ⟨_, rfl⟩
              have B5 : Blk w5 g5 [.int .i64 nl, .int .i64 nr] 73 := by rw [hw5, hg5]; exact B5
              rw [← hw5] at k5
              have HW5 := Lib.hid hw5
              have HG5 := Lib.hid hg5
              replace own4 := own4.nx k5
              replace B9 := B9.nx k5
              replace kv := kv.nxb (k5.b g9)
              clear hw5 hg5 k5
              go_upto_region 15 with fail
              rw [← HG5.out, ← HW5.out]
              have q0 := B5.cell 0 _ rfl
              have q1 := B5.cell 1 _ rfl
              have p0 := B9.cell 0 _ rfl
              have p1 := B9.cell 1 _ rfl
              have zb := kv.size
              go_wp2_with (at_builtin; (refine wpList_append_lit (enc := encS) w5 rfl _ _ 74 rfl w9.heap.size 73 (.agg #[.int .i64 0, .int .i64 0]) 2 16 Tryd.underlying74 Tryd.infoLk rfl (by omega) (by omega) _ _ own4 rfl ((nl, nr) : Int × Int) _ rfl rfl (by simp [encS, Value.oneCell']) _ (by simp) rfl (by omega) zb _ ?_); intro v6 w6 own6 _ ch1 _; obtain ⟨a6, c6, rfl, _, _, _, _⟩ := own6.rd (fun _ => rfl); have B6 : Blk w6 g9 _ _ := (ch1.block g9 hg9').trans B9; have z6 := B6.free 1; have p6 := B6.cell 1 _ rfl)
              rw [← HN.out] at RS
              have own7 : OwnL 2 encS 73 w9.heap.size (w6.setCell ⟨g9, 1, none⟩ (.slice a6 (row ++ [(nl, nr)]).length c6)) (.slice a6 (row ++ [(nl, nr)]).length c6) (row ++ [(nl, nr)]) :=
                own6.chg ((Chg.refl (· ≠ g9) w6).setCell _ (fun x hx => hx)) (fun x _ hv => by have := (own6.lt x hv).1; omega)
              have kv7 : Exb g9 w9 (w6.setCell ⟨g9, 1, none⟩ (.slice a6 (row ++ [(nl, nr)]).length c6)) := (show Exb g9 w9 w6 from Chg.trans kv (ch1.mono (fun x hx => hx.1))).setB _ rfl
              have B7 := B6.set 1 (.slice a6 (row ++ [(nl, nr)]).length c6)
              have hll : (row ++ [(nl, nr)]).length = j + 1 := by simp [hrl]
              rw [hll] at own7 kv7 B7
              exact ⟨⟨j + 1, _, by omega, by go_num, B7, by rw [RS.out]; exact own7, kv7⟩, by simp [intOf]; omega⟩
            · obtain rfl : j = m + 1 := by omega
              have OQ1 := OQ.out.nx ki
              have q0 := B9.cell 0 _ rfl
              have q1 := B9.cell 1 _ rfl
              obtain ⟨a6, c6, rfl, _, _, _, _⟩ := own.rd (fun _ => rfl)
              have hkq : qs.length = k := by rw [OQ1.2.1, List.length_map, List.length_take, HSL.out]; omega
              have hzi : w3.heap.size ≤ wi.heap.size := by have := ki.size; omega
              have hjm1 : ((m : Int) + 1) ≤ (m : Int) + 1 := by omega
              have FR : ∀ (j : Nat) (r : Int × Hdr) (g : Nat), qs[j]? = some r → r.2.val.ownBlock = some g → ¬ (Value.slice a6 (rowN S (m + 1) x).2.length c6).ownBlock = some g := by
                intro j r g hr hg hv
                have h1 := OQ.out.lt hr hg
                have h2 := (own.lt g hv).1
                omega
              clear hjm hj hjm1
              have k8 := Ex.new wi (.cells #[.int .i64 x.id, .slice a6 (rowN S (m + 1) x).2.length c6] 76)
              have SX : Sl 2 (encP encI) (wi.alloc (.cells #[.int .i64 x.id, .slice a6 (rowN S (m + 1) x).2.length c6] 76)) (some ⟨wi.heap.size, 0, none⟩) 1 [((x.id, (a6, (rowN S (m + 1) x).2.length, c6)) : Int × Hdr)] := Sl.lit _ rfl rfl (fun _ => rfl) rfl
              have OQ2 := OQ1.nx k8
              have own2 := own.nx k8
              have ki8 := ki.nx k8
              go_wp2_with (at_builtin; (refine wpList_append_W (enc := encP encI) _ rfl _ _ 44 rfl w3.heap.size 76 (.agg #[.int .i64 0, .slice none 0 0]) 2 32 Tryd.underlying44 Tryd.infoLd rfl (by omega) (by omega) _ _ OQ2.1 rfl _ 1 1 [_] SX (fun _ => rfl) (by simp [encP, encI, Hdr.val, Value.oneCell']) rfl (by omega) (by omega) (by simp; omega) ?_); intro v7 w7 own7 ch0 ch1 _)
              have OQ7 := OQ2.push (by decide) own7 ch0 (own2.base (by omega)) FR
              have kw7 : Ex w3 w7 := Chg.trans (KW.out.nx ki8) ch1
              have ET : (S.take (k + 1)).map (rowN S (m + 1)) = (S.take k).map (rowN S (m + 1)) ++ [(x.id, (rowN S (m + 1) x).2)] := by rw [List.take_add_one, HX.out, List.map_append]; rfl
              exact ⟨⟨k + 1, qs ++ [((x.id, (a6, (rowN S (m + 1) x).2.length, c6)) : Int × Hdr)], by omega, by go_num, by rw [ET]; exact OQ7, kw7⟩, by simp [intOf]; omega⟩
        · obtain rfl : k = n3 := by omega
          rw [List.take_of_length_le (by rw [HSL.out]; exact Nat.le_refl _)] at OQ
          have HB2 := HB
          clear hk hlt
          go_wp2_with fail
          go_ret2
          rw [HB.out]
          exact ⟨_, qs, rfl, OQ.base hz3, K3.out.nx kw⟩
end Go.Proofs.YtjaemckdfoaopaaDoor

/- Numbers, keys, heights of the tape. -/
namespace Go.Proofs.YtjaemckdfoaopaaDoor
open Go.RowKit

def I64 (x : Int) : Prop := -9223372036854775808 ≤ x ∧ x ≤ 9223372036854775807
set_option maxHeartbeats 1000000 in
theorem id_t {b : Nat} (a : Option Addr) (n cp : Nat) (l : List Nd) (w : World) (h : TK w b) (hs : Slb 3 encN b w a n l) (hn : n ≤ 1000) (hi : ∀ x ∈ l, I64 x.id) :
    Calls Tryd.prog 38 #[.pointer (some ⟨b, 0, none⟩), .slice a n cp] w fun e w' => ∃ r : Int, e = .returned (.int .i64 r) ∧ I64 r ∧ TK w' b ∧ Exb b w w' := by
  have HI := Lib.hid hi
  have hlen := Lib.hid hs.len
  clear hi
  go_enter Tryd.func38, Tryd.ntmps38
  by_cases hn0 : n = 0
  · have d0 : ((n : Int) == 0) = true := by simp; omega
    clear hs
    go_wp2_with fail
    refine (pick_t (n := 5) (-1) 4611686018427387904 [0, -1, 999, 4611686018427387904, 1] h rfl rfl rfl (by omega) (by omega) (by intro x hx; simp at hx; omega)).mono ?_
    clear h
    rintro e w2 ⟨r, rfl, r0, r1, T, kk⟩
    go_wp2_with fail
    go_ret
    exact ⟨r, rfl, ⟨by omega, by omega⟩, T, kk⟩
  · have d0 : ((n : Int) == 0) = false := by simp; omega
    have hnp : 0 < n := by omega
    clear hn0
    go_wp2_with fail
    refine (bool_t 8 _ h (by omega) (by omega)).mono ?_
    clear h
    rintro e w1 ⟨r, rfl, T, kk⟩
    cases r with
    | true =>
      clear hs
      go_wp2_with fail
      refine (pick_t (n := 5) (-1) 4611686018427387904 [0, -1, 999, 4611686018427387904, 1] T rfl rfl rfl (by omega) (by omega) (by intro x hx; simp at hx; omega)).mono ?_
      clear T
      rintro e w2 ⟨r, rfl, r0, r1, T, k2⟩
      have kk := kk.nxb k2
      clear k2
      go_wp2_with fail
      go_ret
      exact ⟨r, rfl, ⟨by omega, by omega⟩, T, kk⟩
    | false =>
      have S1 := hs.nxb kk
      clear hs
      go_wp2_with fail
      refine (next_t (n : Int) _ T (by omega) (by omega)).mono ?_
      clear T
      rintro e w2 ⟨j, rfl, j0, j1, T, k2⟩
      obtain ⟨j, rfl⟩ := Int.eq_ofNat_of_zero_le j0
      have S2 := S1.nxb k2
      have kk := kk.nxb k2
      obtain ⟨x, o, y, rfl, hx, hy, hc⟩ := S2.sl.at (j := j) (by omega)
      have e0 : w2.cell? ⟨x, o + j * 3, none⟩ = some (.int .i64 y.id) := hc 0 _ rfl
      have hyi := Lib.hid (HI.out y (List.mem_of_getElem? hy))
      have hjn : (j : Int) < (n : Int) := by omega
      clear k2 S1 S2 hc hy
      go_wp2_with fail
      go_ret
      exact ⟨y.id, rfl, hyi.out, T, kk⟩

set_option maxHeartbeats 1000000 in
theorem oddkey_t {b : Nat} (w : World) (h : TK w b) (hL : LetG w) (hgb : ¬ 0 = b) : Calls Tryd.prog 41 #[.pointer (some ⟨b, 0, none⟩)] w (KeyPost 65 b w) := by
  go_enter Tryd.func41, Tryd.ntmps41
  go_wp2_with fail
  refine (bool_t 10 _ h (by omega) (by omega)).mono ?_
  clear h
  rintro e w1 ⟨r, rfl, T, kk⟩
  have L1 := hL.nxb hgb kk
  clear hL
  cases r with
  | true =>
    go_wp2_with fail
    refine (next_t 6 _ T (by omega) (by omega)).mono ?_
    clear T
    rintro e w2 ⟨j, rfl, j0, j1, T, k2⟩
    obtain ⟨j, rfl⟩ := Int.eq_ofNat_of_zero_le j0
    obtain ⟨s, hs, hc⟩ := (L1.nxb hgb k2) j (by omega)
    have kk := kk.nxb k2
    have HS := Lib.hid hs
    clear hs k2 L1
    go_wp2_with fail
    refine (long_x s 65 _ HS.out (by omega)).mono ?_
    rintro e w3 ⟨⟨r, rfl, hr⟩, rfl⟩
    have HR := Lib.hid hr
    clear hr
    go_wp2_with fail
    go_ret
    exact ⟨r, rfl, Nat.le_of_eq HR.out, T, kk⟩
  | false =>
    go_wp2_with fail
    refine (key_t _ T L1 hgb).mono ?_
    clear T
    rintro e w2 ⟨s, rfl, hs, T, k2⟩
    have kk := kk.nxb k2
    clear k2 L1
    go_wp2_with fail
    go_ret
    exact ⟨s, rfl, by omega, T, kk⟩

theorem heightN_le (l : List Nd) : heightN l ≤ 16 := by
  unfold heightN
  split
  · omega
  · cases hf : (List.range 16).find? (fun h => !decide ((classesN (sortN l) (h : Nat)).length < l.length)) with
    | none => simp
    | some x =>
      have := List.mem_of_find?_eq_some hf
      simp at this ⊢
      omega
set_option maxHeartbeats 1000000 in
theorem height_t {b : Nat} (a : Option Addr) (n cp : Nat) (l : List Nd) (w : World) (h : TK w b) (hs : Slb 3 encN b w a n l) (hn : n ≤ 1000) (hw : ∀ x ∈ l, x.word < 4294967296) :
    Calls Tryd.prog 21 #[.pointer (some ⟨b, 0, none⟩), .slice a n cp] w fun e w' => ∃ r : Nat, e = .returned (.int .i64 r) ∧ r ≤ 16 ∧ TK w' b ∧ Exb b w w' := by
  go_enter Tryd.func21, Tryd.ntmps21
  go_wp2_with fail
  (with_reducible refine (height_r _ _ _ _ _ hs.sl hn hw).mono ?_)
  rintro e w1 ⟨rfl, k1⟩
  have T := h.nx k1
  have kk := k1.b b
  have hh := heightN_le l
  generalize heightN l = H at hh ⊢
  clear h hs k1 hw
  go_wp2_with fail
  refine (bool_t 3 _ T (by omega) (by omega)).mono ?_
  clear T
  rintro e w2 ⟨r, rfl, T, k2⟩
  replace kk := kk.nxb k2
  clear k2
  cases r with
  | true =>
    go_wp2_with fail
    refine (next_t 3 _ T (by omega) (by omega)).mono ?_
    clear T
    rintro e w3 ⟨j, rfl, j0, j1, T, k3⟩
    obtain ⟨j, rfl⟩ := Int.eq_ofNat_of_zero_le j0
    replace kk := kk.nxb k3
    clear k3
    by_cases hm : H + j ≤ 16
    · have dm : (H : Int) + (j : Int) ≤ 16 := by omega
      by_cases h5 : 5 < (H + j)
      · have d5 : (5 : Int) < ((H : Int) + (j : Int)) := by omega
        go_wp2_with fail
        refine (bool_t 4 _ T (by omega) (by omega)).mono ?_
        clear T
        rintro e w4 ⟨r, rfl, T, k4⟩
        replace kk := kk.nxb k4
        cases r with
        | true =>
          go_wp2_with fail
          go_ret
          exact ⟨(H + j), rfl, by omega, T, kk⟩
        | false =>
          go_wp2_with fail
          go_ret
          exact ⟨3, rfl, by omega, T, kk⟩
      · have d5 : ¬ (5 : Int) < ((H : Int) + (j : Int)) := by omega
        go_wp2_with fail
        go_ret
        exact ⟨(H + j), rfl, by omega, T, kk⟩
    · have dm : ¬ (H : Int) + (j : Int) ≤ 16 := by omega
      go_wp2_with fail
      refine (bool_t 4 _ T (by omega) (by omega)).mono ?_
      clear T
      rintro e w4 ⟨r, rfl, T, k4⟩
      replace kk := kk.nxb k4
      cases r with
      | true =>
        go_wp2_with fail
        go_ret
        exact ⟨16, rfl, by omega, T, kk⟩
      | false =>
        go_wp2_with fail
        go_ret
        exact ⟨3, rfl, by omega, T, kk⟩
  | false =>
    by_cases h5 : 5 < H
    · have d5 : (5 : Int) < (H : Int) := by omega
      go_wp2_with fail
      refine (bool_t 4 _ T (by omega) (by omega)).mono ?_
      clear T
      rintro e w4 ⟨r, rfl, T, k4⟩
      replace kk := kk.nxb k4
      cases r with
      | true =>
        go_wp2_with fail
        go_ret
        exact ⟨H, rfl, by omega, T, kk⟩
      | false =>
        go_wp2_with fail
        go_ret
        exact ⟨3, rfl, by omega, T, kk⟩
    · have d5 : ¬ (5 : Int) < (H : Int) := by omega
      go_wp2_with fail
      go_ret
      exact ⟨H, rfl, by omega, T, kk⟩
end Go.Proofs.YtjaemckdfoaopaaDoor

/- OddRoster of the tape. -/
namespace Go.Proofs.YtjaemckdfoaopaaDoor
open Go.RowKit

theorem flat_set1 {α : Type} {sz : Nat} {enc : α → List Value} (hsz : ∀ y, (enc y).length = sz) {c : Nat} (hc : c < sz) {y' : α} {v : Value} :
    ∀ (L : List α) (j : Nat) (y : α), L[j]? = some y → enc y' = (enc y).set c v → (L.set j y').flatMap enc = (L.flatMap enc).set (j * sz + c) v
  | [], j, y, h, _ => by simp at h
  | z :: r, 0, y, h, hv => by
    simp at h; subst h
    rw [List.set_cons_zero, List.flatMap_cons, List.flatMap_cons, hv, Nat.zero_mul, Nat.zero_add, List.set_append_left _ _ (by rw [hsz]; exact hc)]
  | z :: r, j + 1, y, h, hv => by
    rw [List.set_cons_succ, List.flatMap_cons, List.flatMap_cons, flat_set1 hsz hc r j y (by simpa using h) hv, List.set_append_right _ _ (by rw [hsz, Nat.succ_mul]; omega), hsz]
    congr 2
    rw [Nat.succ_mul]; omega
theorem own_set1 {α : Type} {sz : Nat} {enc : α → List Value} (hsz : ∀ y, (enc y).length = sz) {e : TypeId} {base : Nat} {w : World} {g n cap j c : Nat} {L : List α} {y : α} (h : OwnL sz enc e base w (.slice (some ⟨g, 0, none⟩) n cap) L)
    (hy : L[j]? = some y) (hc : c < sz) : w.cell? ⟨g, j * sz + c, none⟩ = (enc y)[c]? ∧ w.frozen? ⟨g, j * sz + c, none⟩ = false ∧
      ∀ (y' : α) (v : Value), enc y' = (enc y).set c v → OwnL sz enc e base (w.setCell ⟨g, j * sz + c, none⟩ v) (.slice (some ⟨g, 0, none⟩) n cap) (L.set j y') := by
  rcases h.2 with ⟨h1, _⟩ | ⟨g', cap', cur, e1, e2, e3, e4, e5, e6, e7⟩
  · cases h1
  · obtain ⟨rfl, hLn, rfl⟩ : g = g' ∧ n = L.length ∧ cap = cap' := by simpa using e1
    have hjl := (List.getElem?_eq_some_iff.1 hy).1
    have hlt : j * sz + c < L.length * sz := by
      have : (j + 1) * sz ≤ L.length * sz := Nat.mul_le_mul_right _ hjl
      rw [Nat.succ_mul] at this; omega
    refine ⟨?_, by simp [World.frozen?, e3], fun y' v hv => ⟨?_, .inr ⟨g, cap, _, by simp [hLn], e2, heap_set e3 _ v, by simpa using e4, e5, by simpa using e6, ?_⟩⟩⟩
    · have h2 : (cur.toList.take (L.length * sz))[j * sz + c]? = (enc y)[c]? := by
        rw [e7]
        have hcy : c < (enc y).length := by rw [hsz]; exact hc
        rw [List.getElem?_eq_getElem hcy]
        exact flat_at hsz L j y hy c _ (List.getElem?_eq_getElem hcy)
      rw [List.getElem?_take, if_pos hlt] at h2
      simpa [World.cell?, e3] using h2
    · rw [flatN_len hsz]
    · rw [flat_set1 hsz hc L j y hy hv, ← e7, List.length_set]
      simp only [Array.toList_setIfInBounds, List.take_set]

/-- what the encodings ask of a node -/
def NOk (x : Nd) : Prop := I64 x.id ∧ x.word < 4294967296 ∧ x.key.size ≤ 65
theorem roster_ok {l : List Nd} (h : checkN l = 0) : ∀ x ∈ l, NOk x ∧ 1 ≤ x.id ∧ x.id ≤ 2147483647 ∧ x.key.size ≤ 64 ∧ x.word < 65536 := by
  intro x hx
  have hb : badN x = false := by
    cases hb : badN x with
    | false => rfl
    | true =>
      exfalso
      unfold checkN at h
      have : l.any badN = true := List.any_eq_true.2 ⟨x, hx, hb⟩
      rw [this] at h
      split at h <;> simp at h
  unfold badN validN at hb
  simp at hb
  obtain ⟨⟨⟨h1, h2⟩, h3⟩, h4⟩ := hb
  exact ⟨⟨⟨by omega, by omega⟩, by omega, by omega⟩, by omega, by omega, by omega, by omega⟩
structure OddOf (n b : Nat) (w w' : World) (v : Value) (L : List Nd) : Prop where
  own : OwnL 3 encN 68 w.heap.size w' v L
  len : L.length ≤ n + 1
  ok : ∀ x ∈ L, NOk x
  tape : TK w' b
  k : Exb b w w'
theorem ok_set {L : List Nd} (h : ∀ x ∈ L, NOk x) (j : Nat) {y : Nd} (hy : NOk y) : ∀ x ∈ L.set j y, NOk x := fun x hx => by
  rcases List.mem_or_eq_of_mem_set hx with h1 | rfl
  · exact h x h1
  · exact hy
theorem ok_snoc {L : List Nd} (h : ∀ x ∈ L, NOk x) {y : Nd} (hy : NOk y) : ∀ x ∈ L ++ [y], NOk x := fun x hx => by
  rcases List.mem_append.1 hx with h1 | h1
  · exact h x h1
  · rw [List.mem_singleton.1 h1]; exact hy

set_option maxRecDepth 100000 in
set_option maxHeartbeats 8000000 in
theorem oddroster_t {b : Nat} (a : Option Addr) (n cp : Nat) (l : List Nd) (w : World) (h : TK w b) (hs : Slb 3 encN b w a n l) (hnil : a = none → cp = 0) (hn : n ≤ 100) (hok : ∀ x ∈ l, NOk x) (hL : LetG w) (hgb : ¬ 0 = b) :
    Calls Tryd.prog 23 #[.pointer (some ⟨b, 0, none⟩), .slice a n cp] w fun e w' => ∃ v L, e = .returned v ∧ OddOf n b w w' v L := by
  have OK := Lib.hid hok
  have NIL := Lib.hid hnil
  have hlen := hs.len
  have hbw := h.lt
  have own0 : OwnL 3 encN 68 w.heap.size w (.slice none 0 0) [] := OwnL.nil _ _ _ _ _
  have s0 := hs.sl
  clear hok hnil
  go_enter Tryd.func23, Tryd.ntmps23
  go_upto_region 2 with (at_builtin; (refine wpList_append_rd (enc := encN) w rfl (.const (.slice none 0 0)) (.tmp 6) 43 rfl w.heap.size 68 (.agg #[.int .i64 0, .string ByteArray.empty, .int .u32 0]) 3 32 Tryd.underlying43 Tryd.infoN rfl (by omega) (by omega) _ [] own0 rfl _ a n cp l s0 NIL.out (fun _ => rfl) (by simp [encN, Value.oneCell']) rfl (by simp) (by omega) (Nat.le_refl _) ?_); intro v1 w1 own1 ch0 ch1)
  rw [List.nil_append] at own1
  have k1 : Ex w w1 := ch1
  replace h := h.nx k1
  replace hL := hL.nx k1
  have kk := k1.b b
  obtain ⟨a1, c1, rfl, _, _, _, some1⟩ := own1.rd (fun _ => rfl)
  subst hlen
  have z1 := k1.size
  have k1 := Lib.hid k1
  clear own0 s0 hs ch0 ch1
  by_cases hn0 : l.length = 0
  · have d0 : ((l.length : Int) == 0) = true := by rw [hn0]; rfl
    have hl0 : l = [] := List.eq_nil_of_length_eq_zero hn0
    subst hl0
    have own1 : OwnL 3 encN 68 w.heap.size w1 (.slice a1 0 c1) [] := own1
    clear some1 hn0
    go_wp2_with fail
    refine (pick_t (n := 3) (-1) 1 [0, 1, -1] h rfl rfl rfl (by omega) (by omega) (by intro x hx; simp at hx; omega)).mono ?_
    clear h
    rintro e w2 ⟨r, rfl, r0, r1, T, k2⟩
    have own2 := own1.nxb hbw k2
    replace kk := kk.nxb k2
    replace hL := hL.nxb hgb k2
    clear own1 k2
    go_wp2_with fail
    refine (oddkey_t _ T hL hgb).mono ?_
    clear T
    rintro e w3 ⟨s, rfl, hsz, T, k2⟩
    have own3 := own2.nxb hbw k2
    replace kk := kk.nxb k2
    clear own2 k2 hL
    go_wp2_with fail
    refine (pick_t (n := 2) (0) 65536 [0, 65536] T rfl rfl rfl (by omega) (by omega) (by intro x hx; simp at hx; omega)).mono ?_
    clear T
    rintro e w4 ⟨m, rfl, m0, m1, T, k2⟩
    obtain ⟨m, rfl⟩ := Int.eq_ofNat_of_zero_le m0
    have hmw : IntKind.u32.wrap (m : Int) = (m : Int) := by rw [wrap_u32n]; omega
    have own4 := own3.nxb hbw k2
    replace kk := kk.nxb k2
    have z4 := kk.size
    clear own3 k2
    go_wp2_with (at_builtin; (refine wpList_append_lit (enc := encN) w4 rfl _ _ 43 rfl w.heap.size 68 (.agg #[.int .i64 0, .string ByteArray.empty, .int .u32 0]) 3 32 Tryd.underlying43 Tryd.infoN rfl (by omega) (by omega) _ _ own4 rfl (⟨r, s, m⟩ : Nd) _ rfl rfl (by simp [encN, Value.oneCell']) _ (by simp) rfl (by omega) (by omega) _ ?_); intro v9 w9 own9 ch0 ch1 _)
    go_ret
    exact ⟨v9, _, rfl, ⟨own9, by simp, ok_snoc OK.out ⟨⟨by show _ ≤ r; omega, by show r ≤ _; omega⟩, by show m < _; omega, hsz⟩, TP.chg T ch1 (fun x hx => by omega), Chg.trans kk (ch1.mono (fun x hx => hx.1))⟩⟩
  · have d0 : ((l.length : Int) == 0) = false := beq_eq_false_iff_ne.2 (by omega)
    obtain ⟨g, rfl, hg⟩ := some1 (fun h0 => hn0 (by rw [h0]; rfl))
    have hlp : 0 < l.length := by omega
    have hgb' : ¬ g = b := by omega
    have HN0 := Lib.hid hn0
    clear some1 hn0
    go_wp2_with fail
    refine (next_t (l.length : Int) _ h (by omega) (by omega)).mono ?_
    clear h
    rintro e w2 ⟨j, rfl, j0, j1, T, k2⟩
    obtain ⟨j, rfl⟩ := Int.eq_ofNat_of_zero_le j0
    have hjl : j < l.length := by omega
    have hjl' : (j : Int) < (l.length : Int) := by omega
    have own2 := own1.nxb hbw k2
    replace kk := kk.nxb k2
    replace hL := hL.nxb hgb k2
    obtain ⟨y, hy⟩ : ∃ y, l[j]? = some y := ⟨l[j], by simp⟩
    have hyok := Lib.hid (OK.out y (List.mem_of_getElem? hy))
    have HY := Lib.hid hy
    clear own1 k2 hy
    go_wp2_with fail
    refine (next_t 6 _ T (by omega) (by omega)).mono ?_
    clear T
    rintro e w3 ⟨r, rfl, r0, r1, T, k2⟩
    have own3 := own2.nxb hbw k2
    replace kk := kk.nxb k2
    replace hL := hL.nxb hgb k2
    clear own2 k2
    have hr : r = 0 ∨ r = 1 ∨ r = 2 ∨ r = 3 ∨ r = 4 ∨ r = 5 := by omega
    clear r0 r1
    rcases hr with rfl | rfl | rfl | rfl | rfl | rfl
    · go_wp2_with fail
      refine (pick_t (n := 5) (-9223372036854775808) 2147483648 [0, -1, 2147483648, 2147483647, -9223372036854775808] T rfl rfl rfl (by omega) (by omega) (by intro x hx; simp at hx; omega)).mono ?_
      clear T hL
      rintro e w4 ⟨m, rfl, m0, m1, T, k2⟩
      have own4 := own3.nxb hbw k2
      replace kk := kk.nxb k2
      obtain ⟨q0, f0, OS⟩ := own_set1 (sz := 3) (enc := encN) (c := 0) (fun _ => rfl) own4 HY.out (by omega)
      have q0 : w4.cell? ⟨g, j * 3, none⟩ = some (.int .i64 y.id) := q0
      have f0 : w4.frozen? ⟨g, j * 3, none⟩ = false := f0
      have OS := Lib.hid (OS ⟨m, y.key, y.word⟩ (.int .i64 m) rfl)
      clear own3 own4 k2
      go_wp2_with fail
      go_ret
      exact ⟨_, _, rfl, ⟨OS.out, by simp, ok_set OK.out j ⟨⟨by show _ ≤ m; omega, by show m ≤ _; omega⟩, hyok.out.2.1, hyok.out.2.2⟩, T.set _ (by show b < g; omega), kk.setNew _ hg⟩⟩
    · go_wp2_with fail
      refine (oddkey_t _ T hL hgb).mono ?_
      clear T hL
      rintro e w4 ⟨s, rfl, hsz, T, k2⟩
      have own4 := own3.nxb hbw k2
      replace kk := kk.nxb k2
      obtain ⟨q0, f0, OS⟩ := own_set1 (sz := 3) (enc := encN) (c := 1) (fun _ => rfl) own4 HY.out (by omega)
      have q0 : w4.cell? ⟨g, j * 3 + 1, none⟩ = some (.string y.key) := q0
      have OS := Lib.hid (OS ⟨y.id, s, y.word⟩ (.string s) rfl)
      clear own3 own4 k2
      go_wp2_with fail
      go_ret
      exact ⟨_, _, rfl, ⟨OS.out, by simp, ok_set OK.out j ⟨hyok.out.1, hyok.out.2.1, hsz⟩, T.set _ (by show b < g; omega), kk.setNew _ hg⟩⟩
    · go_wp2_with fail
      refine (pick_t (n := 3) (0) 4294967295 [65536, 4294967295, 5] T rfl rfl rfl (by omega) (by omega) (by intro x hx; simp at hx; omega)).mono ?_
      clear T hL
      rintro e w4 ⟨m, rfl, m0, m1, T, k2⟩
      obtain ⟨m, rfl⟩ := Int.eq_ofNat_of_zero_le m0
      have hmw : IntKind.u32.wrap (m : Int) = (m : Int) := by rw [wrap_u32n]; omega
      have own4 := own3.nxb hbw k2
      replace kk := kk.nxb k2
      obtain ⟨q0, f0, OS⟩ := own_set1 (sz := 3) (enc := encN) (c := 2) (fun _ => rfl) own4 HY.out (by omega)
      have q0 : w4.cell? ⟨g, j * 3 + 2, none⟩ = some (.int .u32 y.word) := q0
      have OS := Lib.hid (OS ⟨y.id, y.key, m⟩ (.int .u32 m) rfl)
      clear own3 own4 k2
      go_wp2_with fail
      go_ret
      exact ⟨_, _, rfl, ⟨OS.out, by simp, ok_set OK.out j ⟨hyok.out.1, by show m < _; omega, hyok.out.2.2⟩, T.set _ (by show b < g; omega), kk.setNew _ hg⟩⟩
    · have e0 : w3.cell? ⟨g, j * 3, none⟩ = some (.int .i64 y.id) := (own_set1 (sz := 3) (enc := encN) (c := 0) (fun _ => rfl) own3 HY.out (by omega)).1
      have e1 : w3.cell? ⟨g, j * 3 + 1, none⟩ = some (.string y.key) := (own_set1 (sz := 3) (enc := encN) (c := 1) (fun _ => rfl) own3 HY.out (by omega)).1
      have e2 : w3.cell? ⟨g, j * 3 + 1 + 1, none⟩ = some (.int .u32 y.word) := (own_set1 (sz := 3) (enc := encN) (c := 2) (fun _ => rfl) own3 HY.out (by omega)).1
      have z4 := kk.size
      clear hL
      go_wp2_with (at_builtin; (refine wpList_append_lit (enc := encN) w3 rfl _ _ 43 rfl w.heap.size 68 (.agg #[.int .i64 0, .string ByteArray.empty, .int .u32 0]) 3 32 Tryd.underlying43 Tryd.infoN rfl (by omega) (by omega) _ _ own3 rfl y _ rfl rfl (by simp [encN, Value.oneCell']) _ (by simp) rfl (by omega) (by omega) _ ?_); intro v9 w9 own9 ch0 ch1 _)
      go_ret
      exact ⟨v9, _, rfl, ⟨own9, by simp, ok_snoc OK.out hyok.out, TP.chg T ch1 (fun x hx => by omega), Chg.trans kk (ch1.mono (fun x hx => hx.1))⟩⟩
    · clear hL
      go_wp2_with fail
      have own4 : OwnL 3 encN 68 w.heap.size w3.drew (.slice (some ⟨g, 0, none⟩) l.length c1) l := own3.nxb hbw (Exb.refl b w3).drew
      have T : TK w3.drew b := T
      have kk := kk.drew
      clear own3
      refine wp_region_held_drew (S := fun _ => True) (by kernel_rfl) (trivial) (fun hHeld => ?_)
      refine wpAnyH_take (i := 0) (oi := { dst := some 76, op := Op.move (Operand.tmp 1), type := 43, pos := "tape.go:165", after := #[], guard := none }) (v := ?_) rfl (by kernel_rfl) (by kernel_rfl) (by kernel_rfl) (fun _ _ _ h => h) (Or.inl ⟨by rfl, ?hyr1x0q1⟩) (by assumption) ?restr1x0q1
      case hyr1x0q1 => intro wq hSw; (go_simp); (try with_reducible rfl)
      try simp only [Act.put, List.setIfInBounds_toArray, List.set_cons_zero, List.set_cons_succ]
      refine wpAnyH_take (i := 1) (oi := { dst := some 77, op := Op.move (Operand.tmp 0), type := 24, pos := "tape.go:165", after := #[], guard := none }) (v := ?_) rfl (by kernel_rfl) (by kernel_rfl) (by kernel_rfl) (fun _ _ _ h => h) (Or.inl ⟨by rfl, ?hyr1x1q4⟩) (by assumption) ?restr1x1q4
      case hyr1x1q4 => intro wq hSw; (go_simp); (try with_reducible rfl)
      try simp only [Act.put, List.setIfInBounds_toArray, List.set_cons_zero, List.set_cons_succ]
      refine wpAnyH_take (i := 4) (oi := { dst := some 80, op := Op.move (Operand.tmp 5), type := 79, pos := "tape.go:165", after := #[], guard := none }) (v := ?_) rfl (by kernel_rfl) (by kernel_rfl) (by kernel_rfl) (fun _ _ _ h => h) (Or.inl ⟨by rfl, ?hyr1x4q7⟩) (by assumption) ?restr1x4q7
      case hyr1x4q7 => intro wq hSw; (go_simp); (try with_reducible rfl)
      try simp only [Act.put, List.setIfInBounds_toArray, List.set_cons_zero, List.set_cons_succ]
      refine wpAnyH_take (i := 5) (oi := { dst := some 81, op := Op.nilCheck (Operand.tmp 80), type := 0, pos := "tape.go:165", after := #[{ on := 4, ground := Ground.data }], guard := none }) (v := ?_) rfl (by kernel_rfl) (by kernel_rfl) (by kernel_rfl) (fun _ _ _ h => h) (Or.inl ⟨by rfl, ?hyr1x5q10⟩) (by assumption) ?restr1x5q10
      case hyr1x5q10 => intro wq hSw; (go_simp); (try with_reducible rfl)
      try simp only [Act.put, List.setIfInBounds_toArray, List.set_cons_zero, List.set_cons_succ]
      refine wpAnyH_take (i := 6) (oi := { dst := some 82, op := Op.fieldAddr 68 (Operand.tmp 81) 1, type := 0, pos := "tape.go:165", after := #[{ on := 5, ground := Ground.data }], guard := none }) (v := ?_) rfl (by kernel_rfl) (by kernel_rfl) (by kernel_rfl) (fun _ _ _ h => h) (Or.inl ⟨by rfl, ?hyr1x6q13⟩) (by assumption) ?restr1x6q13
      case hyr1x6q13 => intro wq hSw; (go_simp); (try with_reducible rfl)
      try simp only [Act.put, List.setIfInBounds_toArray, List.set_cons_zero, List.set_cons_succ]
      refine wpAnyH_ready (rs := [2, 7]) (by kernel_rfl) (by simp) ?_
      refine AllReadyH.cons (o := { dst := some 78, op := Op.call { callee := Callee.value (Operand.func 10), args := #[Operand.tmp 77, Operand.const (Value.int IntKind.i64 50)], argTypes := #[24, 3] }, type := 3, pos := "tape.go:165", after := #[{ on := 1, ground := Ground.data }], guard := none }) rfl (fun K hK => ?_) ?_
      · go_simp
        (refine (next_t 50 _ T (by omega) (by omega)).mono ?_)
        clear T
        rintro e w5 ⟨m, rfl, m0, m1, T, k2⟩
        have mw : IntKind.i64.wrap (1 + m) = 1 + m := IntWalk.i64_in _ (by omega)
        replace own4 := own4.nxb hbw k2
        replace kk := kk.nxb k2
        clear k2
        refine hK.out _ _ (trivial) (fun hHeld => ?_)
        clear hK K
        try simp only [Act.put, List.setIfInBounds_toArray, List.set_cons_zero, List.set_cons_succ]
        refine wpAnyH_take (i := 3) (oi := { dst := some 79, op := Op.binOp BinOp.add 3 (Operand.const (Value.int IntKind.i64 1)) (Operand.tmp 78) 3, type := 3, pos := "tape.go:165", after := #[{ on := 2, ground := Ground.data }], guard := none }) (v := ?_) rfl (by kernel_rfl) (by kernel_rfl) (by kernel_rfl) (fun _ _ _ h => h) (Or.inl ⟨by rfl, ?hyr1x3q29⟩) (by assumption) ?restr1x3q29
        case hyr1x3q29 => intro wq hSw; (go_simp); (try with_reducible rfl)
        try simp only [Act.put, List.setIfInBounds_toArray, List.set_cons_zero, List.set_cons_succ]
        refine wpAnyH_ready (rs := [7]) (by kernel_rfl) (by simp) ?_
        refine AllReadyH.cons (o := { dst := some 83, op := Op.load 9 (Operand.tmp 82), type := 9, pos := "tape.go:165", after := #[{ on := 6, ground := Ground.data }], guard := none }) rfl (fun K hK => ?_) AllReadyH.nil
        have e1 : World.cell? _ ⟨g, j * 3 + 1, none⟩ = some (.string y.key) := (own_set1 (sz := 3) (enc := encN) (c := 1) (fun _ => rfl) own4 HY.out (by omega)).1
        go_simp
        clear e1
        refine hK.out _ _ (trivial) (fun hHeld => ?_)
        clear hK K
        try simp only [Act.put, List.setIfInBounds_toArray, List.set_cons_zero, List.set_cons_succ]
        refine wpAnyH_take (i := 8) (oi := { dst := some 84, op := Op.build 68 #[(0, Operand.tmp 79), (1, Operand.tmp 83)], type := 68, pos := "tape.go:165", after := #[{ on := 3, ground := Ground.data }, { on := 7, ground := Ground.data }], guard := none }) (v := ?_) rfl (by kernel_rfl) (by kernel_rfl) (by kernel_rfl) (fun _ _ _ h => h) (Or.inl ⟨by rfl, ?hyr1x8q40⟩) (by assumption) ?restr1x8q40
        case hyr1x8q40 => intro wq hSw; (go_simp); (try with_reducible rfl)
        try simp only [Act.put, List.setIfInBounds_toArray, List.set_cons_zero, List.set_cons_succ]
        refine wpAnyH_ready (rs := [9]) (by kernel_rfl) (by simp) ?_
        refine AllReadyH.cons (o := { dst := some 85, op := Op.buildSlice 43 1 #[(0, Operand.tmp 84)], type := 43, pos := "tape.go:165", after := #[{ on := 8, ground := Ground.data }], guard := none }) rfl (fun K hK => ?_) AllReadyH.nil
        have z5 := kk.size
        have SX : Sl 3 encN (w5.alloc (.cells #[.int .i64 (1 + m), .string y.key, .int .u32 0] 68)) (some ⟨w5.heap.size, 0, none⟩) 1 [(⟨1 + m, y.key, 0⟩ : Nd)] := Sl.lit _ rfl rfl (fun _ => rfl) rfl
        go_simp
        have k6 := Ex.new w5 (.cells #[.int .i64 (1 + m), .string y.key, .int .u32 0] 68)
        replace own4 := own4.nx k6
        replace kk := kk.nxb (k6.b b)
        replace T := T.nx k6
        clear k6
        refine hK.out _ _ (trivial) (fun hHeld => ?_)
        clear hK K
        try simp only [Act.put, List.setIfInBounds_toArray, List.set_cons_zero, List.set_cons_succ]
        refine wpAnyH_ready (rs := [10]) (by kernel_rfl) (by simp) ?_
        refine AllReadyH.cons (o := { dst := some 86, op := Op.call { callee := Callee.builtin Builtin.append, args := #[Operand.tmp 76, Operand.tmp 85], argTypes := #[43, 43] }, type := 43, pos := "tape.go:165", after := #[{ on := 0, ground := Ground.data }, { on := 9, ground := Ground.data }, { on := 2, ground := Ground.chain }], guard := none }) rfl (fun K hK => ?_) AllReadyH.nil
        rw [if_pos (by rfl)]
        have z6 := kk.size
        refine wp_append_rd (enc := encN) _ (.tmp 76) (.tmp 85) 43 rfl w.heap.size 68 (.agg #[.int .i64 0, .string ByteArray.empty, .int .u32 0]) 3 32 Tryd.underlying43 Tryd.infoN rfl (by omega) (by omega) _ l own4 rfl _ _ 1 1 [_] SX (fun h => by cases h) (fun _ => rfl) (by simp [encN, Value.oneCell']) rfl (by omega) (by omega) z6 ?_
        intro v9 w9 own9 ch0 ch1
        refine hK.out _ _ (trivial) (fun hHeld => ?_)
        clear hK K
        try simp only [Act.put, List.setIfInBounds_toArray, List.set_cons_zero, List.set_cons_succ]
        refine wpAnyH_take (i := 11) (oi := { dst := some 4, op := Op.assign (Operand.tmp 86), type := 43, pos := "tape.go:165", after := #[{ on := 10, ground := Ground.data }, { on := 10, ground := Ground.chain }, { on := 0, ground := Ground.phase }, { on := 1, ground := Ground.phase }, { on := 2, ground := Ground.phase }, { on := 3, ground := Ground.phase }, { on := 4, ground := Ground.phase }, { on := 5, ground := Ground.phase }, { on := 6, ground := Ground.phase }, { on := 7, ground := Ground.phase }, { on := 8, ground := Ground.phase }, { on := 9, ground := Ground.phase }, { on := 10, ground := Ground.phase }], guard := none }) (v := ?_) rfl (by kernel_rfl) (by kernel_rfl) (by kernel_rfl) (fun _ _ _ h => h) (Or.inl ⟨by rfl, ?hyr1x11q65⟩) (by assumption) ?restr1x11q65
        case hyr1x11q65 => intro wq hSw; (go_simp); (try with_reducible rfl)
        try simp only [Act.put, List.setIfInBounds_toArray, List.set_cons_zero, List.set_cons_succ]
        refine wpAnyH_done (by kernel_rfl) ?_ _
        go_wp2_with fail
        go_ret
        exact ⟨v9, _, rfl, ⟨own9, by simp, ok_snoc OK.out ⟨⟨by show _ ≤ 1 + m; omega, by show 1 + m ≤ _; omega⟩, by show 0 < _; omega, hyok.out.2.2⟩, TP.chg T ch1 (fun x hx => by omega), Chg.trans kk (ch1.mono (fun x hx => hx.1))⟩⟩
      refine AllReadyH.cons (o := { dst := some 83, op := Op.load 9 (Operand.tmp 82), type := 9, pos := "tape.go:165", after := #[{ on := 6, ground := Ground.data }], guard := none }) rfl (fun K hK => ?_) AllReadyH.nil
      · have e1 : World.cell? _ ⟨g, j * 3 + 1, none⟩ = some (.string y.key) := (own_set1 (sz := 3) (enc := encN) (c := 1) (fun _ => rfl) own4 HY.out (by omega)).1
        go_simp
        clear e1
        refine hK.out _ _ (trivial) (fun hHeld => ?_)
        clear hK K
        try simp only [Act.put, List.setIfInBounds_toArray, List.set_cons_zero, List.set_cons_succ]
        refine wpAnyH_ready (rs := [2]) (by kernel_rfl) (by simp) ?_
        refine AllReadyH.cons (o := { dst := some 78, op := Op.call { callee := Callee.value (Operand.func 10), args := #[Operand.tmp 77, Operand.const (Value.int IntKind.i64 50)], argTypes := #[24, 3] }, type := 3, pos := "tape.go:165", after := #[{ on := 1, ground := Ground.data }], guard := none }) rfl (fun K hK => ?_) AllReadyH.nil
        go_simp
        (refine (next_t 50 _ T (by omega) (by omega)).mono ?_)
        clear T
        rintro e w5 ⟨m, rfl, m0, m1, T, k2⟩
        have mw : IntKind.i64.wrap (1 + m) = 1 + m := IntWalk.i64_in _ (by omega)
        replace own4 := own4.nxb hbw k2
        replace kk := kk.nxb k2
        clear k2
        refine hK.out _ _ (trivial) (fun hHeld => ?_)
        clear hK K
        try simp only [Act.put, List.setIfInBounds_toArray, List.set_cons_zero, List.set_cons_succ]
        refine wpAnyH_take (i := 3) (oi := { dst := some 79, op := Op.binOp BinOp.add 3 (Operand.const (Value.int IntKind.i64 1)) (Operand.tmp 78) 3, type := 3, pos := "tape.go:165", after := #[{ on := 2, ground := Ground.data }], guard := none }) (v := ?_) rfl (by kernel_rfl) (by kernel_rfl) (by kernel_rfl) (fun _ _ _ h => h) (Or.inl ⟨by rfl, ?hyr1x3q90⟩) (by assumption) ?restr1x3q90
        case hyr1x3q90 => intro wq hSw; (go_simp); (try with_reducible rfl)
        try simp only [Act.put, List.setIfInBounds_toArray, List.set_cons_zero, List.set_cons_succ]
        refine wpAnyH_take (i := 8) (oi := { dst := some 84, op := Op.build 68 #[(0, Operand.tmp 79), (1, Operand.tmp 83)], type := 68, pos := "tape.go:165", after := #[{ on := 3, ground := Ground.data }, { on := 7, ground := Ground.data }], guard := none }) (v := ?_) rfl (by kernel_rfl) (by kernel_rfl) (by kernel_rfl) (fun _ _ _ h => h) (Or.inl ⟨by rfl, ?hyr1x8q93⟩) (by assumption) ?restr1x8q93
        case hyr1x8q93 => intro wq hSw; (go_simp); (try with_reducible rfl)
        try simp only [Act.put, List.setIfInBounds_toArray, List.set_cons_zero, List.set_cons_succ]
        refine wpAnyH_ready (rs := [9]) (by kernel_rfl) (by simp) ?_
        refine AllReadyH.cons (o := { dst := some 85, op := Op.buildSlice 43 1 #[(0, Operand.tmp 84)], type := 43, pos := "tape.go:165", after := #[{ on := 8, ground := Ground.data }], guard := none }) rfl (fun K hK => ?_) AllReadyH.nil
        have z5 := kk.size
        have SX : Sl 3 encN (w5.alloc (.cells #[.int .i64 (1 + m), .string y.key, .int .u32 0] 68)) (some ⟨w5.heap.size, 0, none⟩) 1 [(⟨1 + m, y.key, 0⟩ : Nd)] := Sl.lit _ rfl rfl (fun _ => rfl) rfl
        go_simp
        have k6 := Ex.new w5 (.cells #[.int .i64 (1 + m), .string y.key, .int .u32 0] 68)
        replace own4 := own4.nx k6
        replace kk := kk.nxb (k6.b b)
        replace T := T.nx k6
        clear k6
        refine hK.out _ _ (trivial) (fun hHeld => ?_)
        clear hK K
        try simp only [Act.put, List.setIfInBounds_toArray, List.set_cons_zero, List.set_cons_succ]
        refine wpAnyH_ready (rs := [10]) (by kernel_rfl) (by simp) ?_
        refine AllReadyH.cons (o := { dst := some 86, op := Op.call { callee := Callee.builtin Builtin.append, args := #[Operand.tmp 76, Operand.tmp 85], argTypes := #[43, 43] }, type := 43, pos := "tape.go:165", after := #[{ on := 0, ground := Ground.data }, { on := 9, ground := Ground.data }, { on := 2, ground := Ground.chain }], guard := none }) rfl (fun K hK => ?_) AllReadyH.nil
        rw [if_pos (by rfl)]
        have z6 := kk.size
        refine wp_append_rd (enc := encN) _ (.tmp 76) (.tmp 85) 43 rfl w.heap.size 68 (.agg #[.int .i64 0, .string ByteArray.empty, .int .u32 0]) 3 32 Tryd.underlying43 Tryd.infoN rfl (by omega) (by omega) _ l own4 rfl _ _ 1 1 [_] SX (fun h => by cases h) (fun _ => rfl) (by simp [encN, Value.oneCell']) rfl (by omega) (by omega) z6 ?_
        intro v9 w9 own9 ch0 ch1
        refine hK.out _ _ (trivial) (fun hHeld => ?_)
        clear hK K
        try simp only [Act.put, List.setIfInBounds_toArray, List.set_cons_zero, List.set_cons_succ]
        refine wpAnyH_take (i := 11) (oi := { dst := some 4, op := Op.assign (Operand.tmp 86), type := 43, pos := "tape.go:165", after := #[{ on := 10, ground := Ground.data }, { on := 10, ground := Ground.chain }, { on := 0, ground := Ground.phase }, { on := 1, ground := Ground.phase }, { on := 2, ground := Ground.phase }, { on := 3, ground := Ground.phase }, { on := 4, ground := Ground.phase }, { on := 5, ground := Ground.phase }, { on := 6, ground := Ground.phase }, { on := 7, ground := Ground.phase }, { on := 8, ground := Ground.phase }, { on := 9, ground := Ground.phase }, { on := 10, ground := Ground.phase }], guard := none }) (v := ?_) rfl (by kernel_rfl) (by kernel_rfl) (by kernel_rfl) (fun _ _ _ h => h) (Or.inl ⟨by rfl, ?hyr1x11q118⟩) (by assumption) ?restr1x11q118
        case hyr1x11q118 => intro wq hSw; (go_simp); (try with_reducible rfl)
        try simp only [Act.put, List.setIfInBounds_toArray, List.set_cons_zero, List.set_cons_succ]
        refine wpAnyH_done (by kernel_rfl) ?_ _
        go_wp2_with fail
        go_ret
        exact ⟨v9, _, rfl, ⟨own9, by simp, ok_snoc OK.out ⟨⟨by show _ ≤ 1 + m; omega, by show 1 + m ≤ _; omega⟩, by show 0 < _; omega, hyok.out.2.2⟩, TP.chg T ch1 (fun x hx => by omega), Chg.trans kk (ch1.mono (fun x hx => hx.1))⟩⟩
    · go_wp2_with fail
      have own4 : OwnL 3 encN 68 w.heap.size w3.drew (.slice (some ⟨g, 0, none⟩) l.length c1) l := own3.nxb hbw (Exb.refl b w3).drew
      have T : TK w3.drew b := T
      have kk := kk.drew
      have hL := hL.nxb hgb (Exb.refl b w3).drew
      clear own3
      refine wp_region_held_drew (S := fun _ => True) (by kernel_rfl) (trivial) (fun hHeld => ?_)
      refine wpAnyH_take (i := 0) (oi := { dst := some 32, op := Op.move (Operand.tmp 1), type := 43, pos := "tape.go:167", after := #[], guard := none }) (v := ?_) rfl (by kernel_rfl) (by kernel_rfl) (by kernel_rfl) (fun _ _ _ h => h) (Or.inl ⟨by rfl, ?hyr2x0q1⟩) (by assumption) ?restr2x0q1
      case hyr2x0q1 => intro wq hSw; (go_simp); (try with_reducible rfl)
      try simp only [Act.put, List.setIfInBounds_toArray, List.set_cons_zero, List.set_cons_succ]
      refine wpAnyH_take (i := 1) (oi := { dst := some 33, op := Op.move (Operand.tmp 5), type := 79, pos := "tape.go:167", after := #[], guard := none }) (v := ?_) rfl (by kernel_rfl) (by kernel_rfl) (by kernel_rfl) (fun _ _ _ h => h) (Or.inl ⟨by rfl, ?hyr2x1q4⟩) (by assumption) ?restr2x1q4
      case hyr2x1q4 => intro wq hSw; (go_simp); (try with_reducible rfl)
      try simp only [Act.put, List.setIfInBounds_toArray, List.set_cons_zero, List.set_cons_succ]
      refine wpAnyH_take (i := 2) (oi := { dst := some 34, op := Op.nilCheck (Operand.tmp 33), type := 0, pos := "tape.go:167", after := #[{ on := 1, ground := Ground.data }], guard := none }) (v := ?_) rfl (by kernel_rfl) (by kernel_rfl) (by kernel_rfl) (fun _ _ _ h => h) (Or.inl ⟨by rfl, ?hyr2x2q7⟩) (by assumption) ?restr2x2q7
      case hyr2x2q7 => intro wq hSw; (go_simp); (try with_reducible rfl)
      try simp only [Act.put, List.setIfInBounds_toArray, List.set_cons_zero, List.set_cons_succ]
      refine wpAnyH_take (i := 3) (oi := { dst := some 35, op := Op.fieldAddr 68 (Operand.tmp 34) 0, type := 0, pos := "tape.go:167", after := #[{ on := 2, ground := Ground.data }], guard := none }) (v := ?_) rfl (by kernel_rfl) (by kernel_rfl) (by kernel_rfl) (fun _ _ _ h => h) (Or.inl ⟨by rfl, ?hyr2x3q10⟩) (by assumption) ?restr2x3q10
      case hyr2x3q10 => intro wq hSw; (go_simp); (try with_reducible rfl)
      try simp only [Act.put, List.setIfInBounds_toArray, List.set_cons_zero, List.set_cons_succ]
      refine wpAnyH_take (i := 5) (oi := { dst := some 37, op := Op.move (Operand.tmp 0), type := 24, pos := "tape.go:167", after := #[], guard := none }) (v := ?_) rfl (by kernel_rfl) (by kernel_rfl) (by kernel_rfl) (fun _ _ _ h => h) (Or.inl ⟨by rfl, ?hyr2x5q13⟩) (by assumption) ?restr2x5q13
      case hyr2x5q13 => intro wq hSw; (go_simp); (try with_reducible rfl)
      try simp only [Act.put, List.setIfInBounds_toArray, List.set_cons_zero, List.set_cons_succ]
      refine wpAnyH_ready (rs := [4, 6]) (by kernel_rfl) (by simp) ?_
      refine AllReadyH.cons (o := { dst := some 36, op := Op.load 3 (Operand.tmp 35), type := 3, pos := "tape.go:167", after := #[{ on := 3, ground := Ground.data }], guard := none }) rfl (fun K hK => ?_) ?_
      · have e1 : World.cell? _ ⟨g, j * 3, none⟩ = some (.int .i64 y.id) := (own_set1 (sz := 3) (enc := encN) (c := 0) (fun _ => rfl) own4 HY.out (by omega)).1
        go_simp
        clear e1
        refine hK.out _ _ (trivial) (fun hHeld => ?_)
        clear hK K
        try simp only [Act.put, List.setIfInBounds_toArray, List.set_cons_zero, List.set_cons_succ]
        refine wpAnyH_ready (rs := [6]) (by kernel_rfl) (by simp) ?_
        refine AllReadyH.cons (o := { dst := some 38, op := Op.call { callee := Callee.value (Operand.func 9), args := #[Operand.tmp 37], argTypes := #[24] }, type := 9, pos := "tape.go:167", after := #[{ on := 5, ground := Ground.data }], guard := none }) rfl (fun K hK => ?_) AllReadyH.nil
        go_simp
        (refine (key_t _ T hL hgb).mono ?_)
        clear T hL
        rintro e w5 ⟨s, rfl, hsz, T, k2⟩
        replace own4 := own4.nxb hbw k2
        replace kk := kk.nxb k2
        clear k2
        refine hK.out _ _ (trivial) (fun hHeld => ?_)
        clear hK K
        try simp only [Act.put, List.setIfInBounds_toArray, List.set_cons_zero, List.set_cons_succ]
        refine wpAnyH_take (i := 7) (oi := { dst := some 39, op := Op.build 68 #[(0, Operand.tmp 36), (1, Operand.tmp 38)], type := 68, pos := "tape.go:167", after := #[{ on := 4, ground := Ground.data }, { on := 6, ground := Ground.data }], guard := none }) (v := ?_) rfl (by kernel_rfl) (by kernel_rfl) (by kernel_rfl) (fun _ _ _ h => h) (Or.inl ⟨by rfl, ?hyr2x7q36⟩) (by assumption) ?restr2x7q36
        case hyr2x7q36 => intro wq hSw; (go_simp); (try with_reducible rfl)
        try simp only [Act.put, List.setIfInBounds_toArray, List.set_cons_zero, List.set_cons_succ]
        refine wpAnyH_ready (rs := [8]) (by kernel_rfl) (by simp) ?_
        refine AllReadyH.cons (o := { dst := some 40, op := Op.buildSlice 43 1 #[(0, Operand.tmp 39)], type := 43, pos := "tape.go:167", after := #[{ on := 7, ground := Ground.data }], guard := none }) rfl (fun K hK => ?_) AllReadyH.nil
        have z5 := kk.size
        have SX : Sl 3 encN (w5.alloc (.cells #[.int .i64 y.id, .string s, .int .u32 0] 68)) (some ⟨w5.heap.size, 0, none⟩) 1 [(⟨y.id, s, 0⟩ : Nd)] := Sl.lit _ rfl rfl (fun _ => rfl) rfl
        go_simp
        have k6 := Ex.new w5 (.cells #[.int .i64 y.id, .string s, .int .u32 0] 68)
        replace own4 := own4.nx k6
        replace kk := kk.nxb (k6.b b)
        replace T := T.nx k6
        clear k6
        refine hK.out _ _ (trivial) (fun hHeld => ?_)
        clear hK K
        try simp only [Act.put, List.setIfInBounds_toArray, List.set_cons_zero, List.set_cons_succ]
        refine wpAnyH_ready (rs := [9]) (by kernel_rfl) (by simp) ?_
        refine AllReadyH.cons (o := { dst := some 41, op := Op.call { callee := Callee.builtin Builtin.append, args := #[Operand.tmp 32, Operand.tmp 40], argTypes := #[43, 43] }, type := 43, pos := "tape.go:167", after := #[{ on := 0, ground := Ground.data }, { on := 8, ground := Ground.data }, { on := 6, ground := Ground.chain }], guard := none }) rfl (fun K hK => ?_) AllReadyH.nil
        rw [if_pos (by rfl)]
        have z6 := kk.size
        refine wp_append_rd (enc := encN) _ (.tmp 32) (.tmp 40) 43 rfl w.heap.size 68 (.agg #[.int .i64 0, .string ByteArray.empty, .int .u32 0]) 3 32 Tryd.underlying43 Tryd.infoN rfl (by omega) (by omega) _ l own4 rfl _ _ 1 1 [_] SX (fun h => by cases h) (fun _ => rfl) (by simp [encN, Value.oneCell']) rfl (by omega) (by omega) z6 ?_
        intro v9 w9 own9 ch0 ch1
        refine hK.out _ _ (trivial) (fun hHeld => ?_)
        clear hK K
        try simp only [Act.put, List.setIfInBounds_toArray, List.set_cons_zero, List.set_cons_succ]
        refine wpAnyH_take (i := 10) (oi := { dst := some 4, op := Op.assign (Operand.tmp 41), type := 43, pos := "tape.go:167", after := #[{ on := 9, ground := Ground.data }, { on := 9, ground := Ground.chain }, { on := 0, ground := Ground.phase }, { on := 1, ground := Ground.phase }, { on := 2, ground := Ground.phase }, { on := 3, ground := Ground.phase }, { on := 4, ground := Ground.phase }, { on := 5, ground := Ground.phase }, { on := 6, ground := Ground.phase }, { on := 7, ground := Ground.phase }, { on := 8, ground := Ground.phase }, { on := 9, ground := Ground.phase }], guard := none }) (v := ?_) rfl (by kernel_rfl) (by kernel_rfl) (by kernel_rfl) (fun _ _ _ h => h) (Or.inl ⟨by rfl, ?hyr2x10q61⟩) (by assumption) ?restr2x10q61
        case hyr2x10q61 => intro wq hSw; (go_simp); (try with_reducible rfl)
        try simp only [Act.put, List.setIfInBounds_toArray, List.set_cons_zero, List.set_cons_succ]
        refine wpAnyH_done (by kernel_rfl) ?_ _
        go_wp2_with fail
        go_ret
        exact ⟨v9, _, rfl, ⟨own9, by simp, ok_snoc OK.out ⟨hyok.out.1, by show 0 < _; omega, by show s.size ≤ _; omega⟩, TP.chg T ch1 (fun x hx => by omega), Chg.trans kk (ch1.mono (fun x hx => hx.1))⟩⟩
      refine AllReadyH.cons (o := { dst := some 38, op := Op.call { callee := Callee.value (Operand.func 9), args := #[Operand.tmp 37], argTypes := #[24] }, type := 9, pos := "tape.go:167", after := #[{ on := 5, ground := Ground.data }], guard := none }) rfl (fun K hK => ?_) AllReadyH.nil
      · go_simp
        (refine (key_t _ T hL hgb).mono ?_)
        clear T hL
        rintro e w5 ⟨s, rfl, hsz, T, k2⟩
        replace own4 := own4.nxb hbw k2
        replace kk := kk.nxb k2
        clear k2
        refine hK.out _ _ (trivial) (fun hHeld => ?_)
        clear hK K
        try simp only [Act.put, List.setIfInBounds_toArray, List.set_cons_zero, List.set_cons_succ]
        refine wpAnyH_ready (rs := [4]) (by kernel_rfl) (by simp) ?_
        refine AllReadyH.cons (o := { dst := some 36, op := Op.load 3 (Operand.tmp 35), type := 3, pos := "tape.go:167", after := #[{ on := 3, ground := Ground.data }], guard := none }) rfl (fun K hK => ?_) AllReadyH.nil
        have e1 : World.cell? _ ⟨g, j * 3, none⟩ = some (.int .i64 y.id) := (own_set1 (sz := 3) (enc := encN) (c := 0) (fun _ => rfl) own4 HY.out (by omega)).1
        go_simp
        clear e1
        refine hK.out _ _ (trivial) (fun hHeld => ?_)
        clear hK K
        try simp only [Act.put, List.setIfInBounds_toArray, List.set_cons_zero, List.set_cons_succ]
        refine wpAnyH_take (i := 7) (oi := { dst := some 39, op := Op.build 68 #[(0, Operand.tmp 36), (1, Operand.tmp 38)], type := 68, pos := "tape.go:167", after := #[{ on := 4, ground := Ground.data }, { on := 6, ground := Ground.data }], guard := none }) (v := ?_) rfl (by kernel_rfl) (by kernel_rfl) (by kernel_rfl) (fun _ _ _ h => h) (Or.inl ⟨by rfl, ?hyr2x7q85⟩) (by assumption) ?restr2x7q85
        case hyr2x7q85 => intro wq hSw; (go_simp); (try with_reducible rfl)
        try simp only [Act.put, List.setIfInBounds_toArray, List.set_cons_zero, List.set_cons_succ]
        refine wpAnyH_ready (rs := [8]) (by kernel_rfl) (by simp) ?_
        refine AllReadyH.cons (o := { dst := some 40, op := Op.buildSlice 43 1 #[(0, Operand.tmp 39)], type := 43, pos := "tape.go:167", after := #[{ on := 7, ground := Ground.data }], guard := none }) rfl (fun K hK => ?_) AllReadyH.nil
        have z5 := kk.size
        have SX : Sl 3 encN (w5.alloc (.cells #[.int .i64 y.id, .string s, .int .u32 0] 68)) (some ⟨w5.heap.size, 0, none⟩) 1 [(⟨y.id, s, 0⟩ : Nd)] := Sl.lit _ rfl rfl (fun _ => rfl) rfl
        go_simp
        have k6 := Ex.new w5 (.cells #[.int .i64 y.id, .string s, .int .u32 0] 68)
        replace own4 := own4.nx k6
        replace kk := kk.nxb (k6.b b)
        replace T := T.nx k6
        clear k6
        refine hK.out _ _ (trivial) (fun hHeld => ?_)
        clear hK K
        try simp only [Act.put, List.setIfInBounds_toArray, List.set_cons_zero, List.set_cons_succ]
        refine wpAnyH_ready (rs := [9]) (by kernel_rfl) (by simp) ?_
        refine AllReadyH.cons (o := { dst := some 41, op := Op.call { callee := Callee.builtin Builtin.append, args := #[Operand.tmp 32, Operand.tmp 40], argTypes := #[43, 43] }, type := 43, pos := "tape.go:167", after := #[{ on := 0, ground := Ground.data }, { on := 8, ground := Ground.data }, { on := 6, ground := Ground.chain }], guard := none }) rfl (fun K hK => ?_) AllReadyH.nil
        rw [if_pos (by rfl)]
        have z6 := kk.size
        refine wp_append_rd (enc := encN) _ (.tmp 32) (.tmp 40) 43 rfl w.heap.size 68 (.agg #[.int .i64 0, .string ByteArray.empty, .int .u32 0]) 3 32 Tryd.underlying43 Tryd.infoN rfl (by omega) (by omega) _ l own4 rfl _ _ 1 1 [_] SX (fun h => by cases h) (fun _ => rfl) (by simp [encN, Value.oneCell']) rfl (by omega) (by omega) z6 ?_
        intro v9 w9 own9 ch0 ch1
        refine hK.out _ _ (trivial) (fun hHeld => ?_)
        clear hK K
        try simp only [Act.put, List.setIfInBounds_toArray, List.set_cons_zero, List.set_cons_succ]
        refine wpAnyH_take (i := 10) (oi := { dst := some 4, op := Op.assign (Operand.tmp 41), type := 43, pos := "tape.go:167", after := #[{ on := 9, ground := Ground.data }, { on := 9, ground := Ground.chain }, { on := 0, ground := Ground.phase }, { on := 1, ground := Ground.phase }, { on := 2, ground := Ground.phase }, { on := 3, ground := Ground.phase }, { on := 4, ground := Ground.phase }, { on := 5, ground := Ground.phase }, { on := 6, ground := Ground.phase }, { on := 7, ground := Ground.phase }, { on := 8, ground := Ground.phase }, { on := 9, ground := Ground.phase }], guard := none }) (v := ?_) rfl (by kernel_rfl) (by kernel_rfl) (by kernel_rfl) (fun _ _ _ h => h) (Or.inl ⟨by rfl, ?hyr2x10q110⟩) (by assumption) ?restr2x10q110
        case hyr2x10q110 => intro wq hSw; (go_simp); (try with_reducible rfl)
        try simp only [Act.put, List.setIfInBounds_toArray, List.set_cons_zero, List.set_cons_succ]
        refine wpAnyH_done (by kernel_rfl) ?_ _
        go_wp2_with fail
        go_ret
        exact ⟨v9, _, rfl, ⟨own9, by simp, ok_snoc OK.out ⟨hyok.out.1, by show 0 < _; omega, by show s.size ≤ _; omega⟩, TP.chg T ch1 (fun x hx => by omega), Chg.trans kk (ch1.mono (fun x hx => hx.1))⟩⟩
end Go.Proofs.YtjaemckdfoaopaaDoor

/- EncodeNodes of the package wire and of its reference. -/
namespace Go.Proofs.YtjaemckdfoaopaaDoor
open Go.RowKit

/-- what the encoding asks of a node -/
def NOkE (x : Nd) : Prop := -9223372036854775808 ≤ x.id ∧ x.id ≤ 9223372036854775807 ∧ x.word < 4294967296 ∧ x.key.size ≤ 9223372036854775807
def encNd (x : Nd) : List UInt8 := encU (zig x.id) ++ encStr x.key ++ encU x.word
def encNds (l : List Nd) : List UInt8 × Int := if 64 < l.length then ([], 3) else if l.any (fun x => decide (64 < x.key.size)) then ([], 3) else (encU l.length ++ l.flatMap encNd, 0)
def EncP (r : List UInt8 × Int) (w : World) (e : Ending) (w' : World) : Prop := ∃ v, e = .returned (.tuple #[v, .int .i64 r.2]) ∧ OwnL 1 encB 5 w.heap.size w' v r.1 ∧ Ex w w'
def EncRel (l : List Nd) (n : Nat) (w : World) (o i : Value) (wr : World) : Prop :=
  ∃ k : Nat, k ≤ n ∧ i = .int .i64 k ∧ OwnL 1 encB 5 w.heap.size wr o (encU n ++ (l.take k).flatMap encNd) ∧ Ex w wr ∧ ∀ j z, j < k → l[j]? = some z → z.key.size ≤ 64
theorem encNd_len {x : Nd} (h : x.key.size ≤ 64) : (encNd x).length ≤ 100 := by
  unfold encNd
  have h1 := encU_length (zig x.id)
  have h2 := encU_length x.word
  have h3 := encU_length x.key.size
  have h4 := encStr_length x.key
  rw [List.length_append, List.length_append]; omega
theorem enc_take_le (l : List Nd) (k : Nat) (h : ∀ j z, j < k → l[j]? = some z → z.key.size ≤ 64) : ((l.take k).flatMap encNd).length ≤ 100 * k := by
  induction k with
  | zero => simp
  | succ k ih =>
    have ih := ih (fun j z hj hz => h j z (by omega) hz)
    cases hy : l[k]? with
    | none =>
      have hl := List.getElem?_eq_none_iff.1 hy
      rw [List.take_of_length_le (by omega)]
      rw [List.take_of_length_le (by omega)] at ih
      omega
    | some y =>
      rw [List.take_add_one, hy]
      have := encNd_len (h k y (by omega) hy)
      simp at *
      omega
theorem flat_snoc {α : Type} (f : α → List UInt8) (l : List α) (k : Nat) (y : α) (h : l[k]? = some y) : (l.take (k + 1)).flatMap f = (l.take k).flatMap f ++ f y := by
  rw [List.take_add_one, h]; simp

set_option maxRecDepth 100000 in
set_option maxHeartbeats 2000000 in
theorem encn_p (a : Option Addr) (n cp : Nat) (l : List Nd) (w : World) (hs : Sl 3 encN w a n l) (hn : n ≤ 1000) (hok : ∀ x ∈ l, NOkE x) :
    Calls Tryd.prog 24 #[.slice a n cp] w (EncP (encNds l) w) := by
  have OK := Lib.hid hok
  have HL := Lib.hid hs.len
  clear hok
  go_enter Tryd.func24, Tryd.ntmps24
  by_cases h64 : 64 < n
  · have HE : Hid (encNds l = ([], 3)) := Lib.hid (by unfold encNds; rw [if_pos (by rw [HL.out]; exact h64)])
    clear hs
    go_wp2_with fail
    go_ret2
    rw [HE.out]
    exact ⟨_, rfl, OwnL.nil _ _ _ _ _, Ex.refl _⟩
  have hs := Lib.hid hs
  have hwn : IntKind.u64.wrap (n : Int) = (n : Int) := by rw [wrap_u64n]; omega
  go_wp2_with fail
  (with_reducible refine (appuint_p _ _ _ [] n _ (Sl.nil _ _ _ _) (by omega) (fun _ => rfl) (by omega)).mono ?_)
  rintro e w1 ⟨v1, rfl, own, kk⟩
  rw [List.nil_append] at own
  have own : OwnL 1 encB 5 w.heap.size w1 v1 (encU n ++ (l.take 0).flatMap encNd) := by simpa using own
  go_wp2_with fail
  go_loopw [4, 16] (fun o i wr => EncRel l n w o i wr) (fun _ i _ => n - (intOf i).toNat)
  case atStart => exact ⟨0, by omega, rfl, own, kk, by intro _ _ h; omega⟩
  case round =>
    clear own kk
    obtain ⟨k, hk, rfl, own, kw, hsh⟩ := hrel
    have HSH := Lib.hid hsh
    obtain ⟨wo, rfl⟩ : ∃ wo : World, wo = wr := ⟨_, rfl⟩
    clear hsh
    by_cases hlt : k < n
    · obtain ⟨x1, o1, y, rfl, hx1, hy, hc1⟩ := (hs.out.nx kw).at hlt
      have e0 : wo.cell? ⟨x1, o1 + k * 3, none⟩ = some (.int .i64 y.id) := hc1 0 _ rfl
      have e1 : wo.cell? ⟨x1, o1 + k * 3 + 1, none⟩ = some (.string y.key) := hc1 1 _ rfl
      have e2 : wo.cell? ⟨x1, o1 + k * 3 + 1 + 1, none⟩ = some (.int .u32 y.word) := by simpa [Nat.add_assoc] using hc1 2 _ rfl
      have e2' : wo.cell? ⟨x1, o1 + k * 3 + 2, none⟩ = some (.int .u32 y.word) := hc1 2 _ rfl
      obtain ⟨i1, i2, i3, i4⟩ := OK.out y (List.mem_of_getElem? hy)
      have HY := Lib.hid hy
      have FSn := Lib.hid (flat_snoc encNd l k y hy)
      have hbl := enc_take_le l k HSH.out
      clear hc1 hy
      have B7 := Blk.new wo [.int .i64 y.id, .string y.key, .int .u32 y.word] 68
      have k2 := Ex.new wo (.cells #[.int .i64 y.id, .string y.key, .int .u32 y.word] 68)
      obtain ⟨w2, hw2⟩ : ∃ w2, w2 = wo.alloc (.cells #[.int .i64 y.id, .string y.key, .int .u32 y.word] 68) := ⟨_, rfl⟩
      obtain ⟨g7, hg7⟩ : ∃ g7, g7 = wo.heap.size := ⟨_, rfl⟩
      have B7 : Blk w2 g7 [.int .i64 y.id, .string y.key, .int .u32 y.word] 68 := by rw [hw2, hg7]; exact B7
      rw [← hw2] at k2
      have HW2 := Lib.hid hw2
      have HG7 := Lib.hid hg7
      replace own := own.nx k2
      replace kw := kw.nx k2
      clear hw2 hg7 k2
      go_upto_region 7 with fail
      rw [← HG7.out, ← HW2.out]
      clear e0 e1 e2 e2'
      have e0 := B7.cell 0 _ rfl
      have e1 := B7.cell 1 _ rfl
      have e2 := B7.cell 2 _ rfl
      have hx1 := B7.lt
      by_cases hkey : 64 < y.key.size
      · have HE : Hid (encNds l = ([], 3)) := Lib.hid (by
          unfold encNds
          rw [if_neg (by rw [HL.out]; exact h64), if_pos (List.any_eq_true.2 ⟨y, List.mem_of_getElem? HY.out, by simpa using hkey⟩)])
        have dk : (64 : Int) < (y.key.size : Int) := by omega
        clear own FSn hbl
        go_wp2_with fail
        go_ret2
        rw [HE.out]
        exact ⟨_, rfl, OwnL.nil _ _ _ _ _, kw⟩
      · have dk : ¬ (64 : Int) < (y.key.size : Int) := by omega
        have hkey' : y.key.size ≤ 64 := by omega
        obtain ⟨a3, c3, rfl, s3, o3, m3, nil3⟩ := own.slf (fun _ => rfl)
        have hnb := encU_length n
        have hlen3 : (encU n ++ (l.take k).flatMap encNd).length ≤ 10 + 100 * k := by rw [List.length_append]; omega
        have hk64 : k ≤ 64 := by omega
        obtain ⟨bs, hbs⟩ : ∃ bs, bs = encU n ++ (l.take k).flatMap encNd := ⟨_, rfl⟩
        rw [← hbs] at own s3 o3 hlen3 ⊢
        have HBS := Lib.hid hbs
        clear hbs
        have s3 := Lib.hid s3.sl
        have NIL3 := Lib.hid nil3
        have hww : IntKind.u64.wrap (y.word : Int) = (y.word : Int) := by rw [wrap_u64n]; omega
        have l1 := encU_length (zig y.id)
        have l2 := encStr_length y.key
        have l3 := encU_length y.key.size
        clear nil3 hkey own hbl hnb
        go_wp2_with fail
        have KW := Lib.hid kw
        refine wp_region_held_drew (S := Ex w2.drew) (by kernel_rfl) (Ex.refl _) (fun hHeld => ?_)
        refine wpAnyH_take (i := 0) (oi := { dst := some 24, op := Op.move (Operand.tmp 4), type := 23, pos := "wire.go:95", after := #[], guard := none }) (v := ?_) rfl (by kernel_rfl) (by kernel_rfl) (by kernel_rfl) (fun _ _ _ h => h) (Or.inl ⟨by rfl, ?hyr1x0⟩) (by assumption) ?restr1x0
        case hyr1x0 => intro wq hSw; (go_simp); (try with_reducible rfl)
        try simp only [Act.put, List.setIfInBounds_toArray, List.set_cons_zero, List.set_cons_succ]
        refine wpAnyH_take (i := 1) (oi := { dst := some 25, op := Op.fieldAddr 68 (Operand.tmp 6) 0, type := 0, pos := "wire.go:95", after := #[], guard := none }) (v := ?_) rfl (by kernel_rfl) (by kernel_rfl) (by kernel_rfl) (fun _ _ _ h => h) (Or.inl ⟨by rfl, ?hyr1x1⟩) (by assumption) ?restr1x1
        case hyr1x1 => intro wq hSw; (go_simp); (try with_reducible rfl)
        try simp only [Act.put, List.setIfInBounds_toArray, List.set_cons_zero, List.set_cons_succ]
        refine wpAnyH_take (i := 2) (oi := { dst := some 26, op := Op.load 3 (Operand.tmp 25), type := 3, pos := "wire.go:95", after := #[{ on := 1, ground := Ground.data }], guard := none }) (v := ?_) rfl (by kernel_rfl) (by kernel_rfl) (by kernel_rfl) (fun _ _ _ h => h) (Or.inl ⟨by rfl, ?hyr1x2⟩) (by assumption) ?restr1x2
        case hyr1x2 => intro wq hSw; (have cq := Chg.cellv hSw e0 hx1; go_simp); (try with_reducible rfl)
        try simp only [Act.put, List.setIfInBounds_toArray, List.set_cons_zero, List.set_cons_succ]
        refine wpAnyH_take (i := 4) (oi := { dst := some 28, op := Op.fieldAddr 68 (Operand.tmp 6) 1, type := 0, pos := "wire.go:95", after := #[], guard := none }) (v := ?_) rfl (by kernel_rfl) (by kernel_rfl) (by kernel_rfl) (fun _ _ _ h => h) (Or.inl ⟨by rfl, ?hyr1x4⟩) (by assumption) ?restr1x4
        case hyr1x4 => intro wq hSw; (go_simp); (try with_reducible rfl)
        try simp only [Act.put, List.setIfInBounds_toArray, List.set_cons_zero, List.set_cons_succ]
        refine wpAnyH_take (i := 5) (oi := { dst := some 29, op := Op.load 9 (Operand.tmp 28), type := 9, pos := "wire.go:95", after := #[{ on := 4, ground := Ground.data }], guard := none }) (v := ?_) rfl (by kernel_rfl) (by kernel_rfl) (by kernel_rfl) (fun _ _ _ h => h) (Or.inl ⟨by rfl, ?hyr1x5⟩) (by assumption) ?restr1x5
        case hyr1x5 => intro wq hSw; (have cq := Chg.cellv hSw e1 hx1; go_simp); (try with_reducible rfl)
        try simp only [Act.put, List.setIfInBounds_toArray, List.set_cons_zero, List.set_cons_succ]
        refine wpAnyH_take (i := 7) (oi := { dst := some 31, op := Op.fieldAddr 68 (Operand.tmp 6) 2, type := 0, pos := "wire.go:95", after := #[], guard := none }) (v := ?_) rfl (by kernel_rfl) (by kernel_rfl) (by kernel_rfl) (fun _ _ _ h => h) (Or.inl ⟨by rfl, ?hyr1x7⟩) (by assumption) ?restr1x7
        case hyr1x7 => intro wq hSw; (go_simp); (try with_reducible rfl)
        try simp only [Act.put, List.setIfInBounds_toArray, List.set_cons_zero, List.set_cons_succ]
        refine wpAnyH_take (i := 8) (oi := { dst := some 32, op := Op.load 65 (Operand.tmp 31), type := 65, pos := "wire.go:95", after := #[{ on := 7, ground := Ground.data }], guard := none }) (v := ?_) rfl (by kernel_rfl) (by kernel_rfl) (by kernel_rfl) (fun _ _ _ h => h) (Or.inl ⟨by rfl, ?hyr1x8⟩) (by assumption) ?restr1x8
        case hyr1x8 => intro wq hSw; (have cq := Chg.cellv hSw e2 hx1; go_simp); (try with_reducible rfl)
        try simp only [Act.put, List.setIfInBounds_toArray, List.set_cons_zero, List.set_cons_succ]
        refine wpAnyH_take (i := 9) (oi := { dst := some 33, op := Op.convert 65 31 (Operand.tmp 32), type := 31, pos := "wire.go:95", after := #[{ on := 8, ground := Ground.data }], guard := none }) (v := ?_) rfl (by kernel_rfl) (by kernel_rfl) (by kernel_rfl) (fun _ _ _ h => h) (Or.inl ⟨by rfl, ?hyr1x9⟩) (by assumption) ?restr1x9
        case hyr1x9 => intro wq hSw; (go_simp); (try with_reducible rfl)
        try simp only [Act.put, List.setIfInBounds_toArray, List.set_cons_zero, List.set_cons_succ]
        refine wpAnyH_ready (rs := [3]) (by kernel_rfl) (by simp) ?_
        refine AllReadyH.cons (o := { dst := some 27, op := Op.call { callee := Callee.value (Operand.func 18), args := #[Operand.tmp 24, Operand.tmp 26], argTypes := #[23, 2] }, type := 23, pos := "wire.go:95", after := #[{ on := 0, ground := Ground.data }, { on := 2, ground := Ground.data }], guard := none }) rfl (fun K hK => ?_) AllReadyH.nil
        go_simp
        (with_reducible refine (appint_p _ _ _ bs _ _ (s3.out.nx (Ex.refl w2).drew) (by omega) NIL3.out i1 i2).mono ?_)
        rintro e w4 ⟨v4, rfl, own4, k4⟩
        obtain ⟨b4, hb4⟩ : ∃ b4, b4 = bs ++ encU (zig y.id) := ⟨_, rfl⟩
        rw [← hb4] at own4
        have n4 : b4.length ≤ 200000 := by rw [hb4, List.length_append]; omega
        have HB4 := Lib.hid hb4
        have n4' : b4.length ≤ 7000 := by rw [hb4, List.length_append]; omega
        clear hb4
        obtain ⟨a4, c4, rfl, s4, _, _, nil4⟩ := own4.slf (fun _ => rfl)
        have e1 := Chg.cellv k4 e1 hx1
        have e2 := Chg.cellv k4 e2 hx1
        have hx4 : g7 < w4.heap.size := Nat.lt_of_lt_of_le hx1 k4.size
        have s4 := Lib.hid s4.sl
        have NIL4 := Lib.hid nil4
        clear own4 nil4
        refine hK.out _ _ k4 (fun _ => ?_)
        clear hK K
        try simp only [Act.put, List.setIfInBounds_toArray, List.set_cons_zero, List.set_cons_succ]
        refine wpAnyH_switch (S' := Ex w4) (fun _ hSw => Ex.nx k4 hSw) ?_
        clear hHeld
        have hHeld := Ex.refl w4
        refine wpAnyH_ready (rs := [6]) (by kernel_rfl) (by simp) ?_
        refine AllReadyH.cons (o := { dst := some 30, op := Op.call { callee := Callee.value (Operand.func 15), args := #[Operand.tmp 27, Operand.tmp 29], argTypes := #[23, 9] }, type := 23, pos := "wire.go:95", after := #[{ on := 3, ground := Ground.data }, { on := 5, ground := Ground.data }, { on := 3, ground := Ground.chain }], guard := none }) rfl (fun K hK => ?_) AllReadyH.nil
        go_simp
        (with_reducible refine (appstr_p _ _ _ _ y.key _ s4.out n4 NIL4.out (by omega)).mono ?_)
        rintro e w5 ⟨v5, rfl, own5, k5⟩
        obtain ⟨b5, hb5⟩ : ∃ b5, b5 = b4 ++ encStr y.key := ⟨_, rfl⟩
        rw [← hb5] at own5
        have n5 : b5.length ≤ 200000 := by rw [hb5, List.length_append]; omega
        have HB5 := Lib.hid hb5
        clear hb5
        obtain ⟨a5, c5, rfl, s5, _, _, nil5⟩ := own5.slf (fun _ => rfl)
        have e2 := Chg.cellv k5 e2 hx4
        have hx5 : g7 < w5.heap.size := Nat.lt_of_lt_of_le hx4 k5.size
        have s5 := Lib.hid s5.sl
        have NIL5 := Lib.hid nil5
        clear own5 nil5
        refine hK.out _ _ k5 (fun _ => ?_)
        clear hK K
        try simp only [Act.put, List.setIfInBounds_toArray, List.set_cons_zero, List.set_cons_succ]
        refine wpAnyH_switch (S' := Ex w5) (fun _ hSw => Ex.nx k5 hSw) ?_
        clear hHeld
        have hHeld := Ex.refl w5
        refine wpAnyH_ready (rs := [10]) (by kernel_rfl) (by simp) ?_
        refine AllReadyH.cons (o := { dst := some 34, op := Op.call { callee := Callee.value (Operand.func 17), args := #[Operand.tmp 30, Operand.tmp 33], argTypes := #[23, 31] }, type := 23, pos := "wire.go:95", after := #[{ on := 6, ground := Ground.data }, { on := 9, ground := Ground.data }, { on := 6, ground := Ground.chain }], guard := none }) rfl (fun K hK => ?_) AllReadyH.nil
        go_simp
        (with_reducible refine (appuint_p _ _ _ _ y.word _ s5.out n5 NIL5.out (by omega)).mono ?_)
        rintro e w6 ⟨v6, rfl, own6, k6⟩
        refine hK.out _ _ k6 (fun _ => ?_)
        clear hK K
        try simp only [Act.put, List.setIfInBounds_toArray, List.set_cons_zero, List.set_cons_succ]
        refine wpAnyH_switch (S' := Ex w6) (fun _ hSw => Ex.nx k6 hSw) ?_
        clear hHeld
        have hHeld := Ex.refl w6
        refine wpAnyH_take (i := 11) (oi := { dst := some 4, op := Op.assign (Operand.tmp 34), type := 23, pos := "wire.go:95", after := #[{ on := 10, ground := Ground.data }, { on := 10, ground := Ground.chain }, { on := 0, ground := Ground.phase }, { on := 1, ground := Ground.phase }, { on := 2, ground := Ground.phase }, { on := 3, ground := Ground.phase }, { on := 4, ground := Ground.phase }, { on := 5, ground := Ground.phase }, { on := 6, ground := Ground.phase }, { on := 7, ground := Ground.phase }, { on := 8, ground := Ground.phase }, { on := 9, ground := Ground.phase }, { on := 10, ground := Ground.phase }], guard := none }) (v := ?_) rfl (by kernel_rfl) (by kernel_rfl) (by kernel_rfl) (fun _ _ _ h => h) (Or.inl ⟨by rfl, ?hyr1x11⟩) (by assumption) ?restr1x11
        case hyr1x11 => intro wq hSw; (go_simp); (try with_reducible rfl)
        try simp only [Act.put, List.setIfInBounds_toArray, List.set_cons_zero, List.set_cons_succ]
        refine wpAnyH_done (by kernel_rfl) ?_ _
        have kw6 := (((KW.out.nx (Ex.refl w2).drew).nx k4).nx k5).nx k6
        have z5 : w.heap.size ≤ w5.heap.size := (((KW.out.nx (Ex.refl w2).drew).nx k4).nx k5).size
        clear k4 k5 k6 s3 s4 s5 NIL3 NIL4 NIL5 n4 n5 e0 e1 e2
        go_wp2_with fail
        refine ⟨⟨k + 1, by omega, by go_num, ?_, kw6, fun j z hj hz => ?_⟩, by simp [intOf]; omega⟩
        · rw [FSn.out, ← List.append_assoc, ← HBS.out]
          unfold encNd
          rw [← List.append_assoc, ← List.append_assoc, ← HB4.out, ← HB5.out]
          exact own6.base z5
        · rcases Nat.lt_or_ge j k with h | h
          · exact HSH.out j z h hz
          · obtain rfl : j = k := by omega
            rw [Option.some.inj (hz.symm.trans HY.out)]
            exact hkey'
    · obtain rfl : k = n := by omega
      rw [List.take_of_length_le (by rw [HL.out]; exact Nat.le_refl _)] at own
      have HE : Hid (encNds l = (encU k ++ l.flatMap encNd, 0)) := Lib.hid (by
        unfold encNds
        rw [if_neg (by rw [HL.out]; exact h64), if_neg, HL.out]
        rw [List.any_eq_true]
        rintro ⟨z, hz, hk⟩
        obtain ⟨j, hj, he⟩ := List.mem_iff_getElem.1 hz
        have := HSH.out j z (by rw [← HL.out]; exact hj) (by rw [← he]; simp)
        simp at hk
        omega)
      obtain ⟨a3, c3, rfl, _⟩ := own.slf (fun _ => rfl)
      clear hk hlt
      go_wp2_with fail
      go_ret2
      rw [HE.out]
      exact ⟨_, rfl, own, kw⟩

set_option maxRecDepth 100000 in
set_option maxHeartbeats 2000000 in
theorem encn_r (a : Option Addr) (n cp : Nat) (l : List Nd) (w : World) (hs : Sl 3 encN w a n l) (hn : n ≤ 1000) (hok : ∀ x ∈ l, NOkE x) :
    Calls Tryd.prog 25 #[.slice a n cp] w (EncP (encNds l) w) := by
  have OK := Lib.hid hok
  have HL := Lib.hid hs.len
  clear hok
  go_enter Tryd.func25, Tryd.ntmps25
  by_cases h64 : 64 < n
  · have HE : Hid (encNds l = ([], 3)) := Lib.hid (by unfold encNds; rw [if_pos (by rw [HL.out]; exact h64)])
    clear hs
    go_wp2_with fail
    go_ret2
    rw [HE.out]
    exact ⟨_, rfl, OwnL.nil _ _ _ _ _, Ex.refl _⟩
  have hs := Lib.hid hs
  have hwn : IntKind.u64.wrap (n : Int) = (n : Int) := by rw [wrap_u64n]; omega
  go_wp2_with fail
  (with_reducible refine (appuint_r _ _ _ [] n _ (Sl.nil _ _ _ _) (by omega) (fun _ => rfl) (by omega)).mono ?_)
  rintro e w1 ⟨v1, rfl, own, kk⟩
  rw [List.nil_append] at own
  have own : OwnL 1 encB 5 w.heap.size w1 v1 (encU n ++ (l.take 0).flatMap encNd) := by simpa using own
  go_wp2_with fail
  go_loopw [4, 5] (fun o i wr => EncRel l n w o i wr) (fun _ i _ => n - (intOf i).toNat)
  case atStart => exact ⟨0, by omega, rfl, own, kk, by intro _ _ h; omega⟩
  case round =>
    clear own kk
    obtain ⟨k, hk, rfl, own, kw, hsh⟩ := hrel
    have HSH := Lib.hid hsh
    obtain ⟨wo, rfl⟩ : ∃ wo : World, wo = wr := ⟨_, rfl⟩
    clear hsh
    by_cases hlt : k < n
    · obtain ⟨x1, o1, y, rfl, hx1, hy, hc1⟩ := (hs.out.nx kw).at hlt
      have e0 : wo.cell? ⟨x1, o1 + k * 3, none⟩ = some (.int .i64 y.id) := hc1 0 _ rfl
      have e1 : wo.cell? ⟨x1, o1 + k * 3 + 1, none⟩ = some (.string y.key) := hc1 1 _ rfl
      have e2 : wo.cell? ⟨x1, o1 + k * 3 + 1 + 1, none⟩ = some (.int .u32 y.word) := by simpa [Nat.add_assoc] using hc1 2 _ rfl
      have e2' : wo.cell? ⟨x1, o1 + k * 3 + 2, none⟩ = some (.int .u32 y.word) := hc1 2 _ rfl
      obtain ⟨i1, i2, i3, i4⟩ := OK.out y (List.mem_of_getElem? hy)
      have HY := Lib.hid hy
      have FSn := Lib.hid (flat_snoc encNd l k y hy)
      have hbl := enc_take_le l k HSH.out
      clear hc1 hy
      obtain ⟨w2, rfl⟩ : ∃ w2 : World, w2 = wo := ⟨_, rfl⟩
      by_cases hkey : 64 < y.key.size
      · have HE : Hid (encNds l = ([], 3)) := Lib.hid (by
          unfold encNds
          rw [if_neg (by rw [HL.out]; exact h64), if_pos (List.any_eq_true.2 ⟨y, List.mem_of_getElem? HY.out, by simpa using hkey⟩)])
        have dk : (64 : Int) < (y.key.size : Int) := by omega
        clear own FSn hbl
        go_wp2_with fail
        go_ret2
        rw [HE.out]
        exact ⟨_, rfl, OwnL.nil _ _ _ _ _, kw⟩
      · have dk : ¬ (64 : Int) < (y.key.size : Int) := by omega
        have hkey' : y.key.size ≤ 64 := by omega
        obtain ⟨a3, c3, rfl, s3, o3, m3, nil3⟩ := own.slf (fun _ => rfl)
        have hnb := encU_length n
        have hlen3 : (encU n ++ (l.take k).flatMap encNd).length ≤ 10 + 100 * k := by rw [List.length_append]; omega
        have hk64 : k ≤ 64 := by omega
        obtain ⟨bs, hbs⟩ : ∃ bs, bs = encU n ++ (l.take k).flatMap encNd := ⟨_, rfl⟩
        rw [← hbs] at own s3 o3 hlen3 ⊢
        have HBS := Lib.hid hbs
        clear hbs
        have s3 := Lib.hid s3.sl
        have NIL3 := Lib.hid nil3
        have hww : IntKind.u64.wrap (y.word : Int) = (y.word : Int) := by rw [wrap_u64n]; omega
        have l1 := encU_length (zig y.id)
        have l2 := encStr_length y.key
        have l3 := encU_length y.key.size
        clear nil3 hkey own hbl hnb
        go_wp2_with fail
        have KW := Lib.hid kw
        refine wp_region_held_drew (S := Ex w2.drew) (by kernel_rfl) (Ex.refl _) (fun hHeld => ?_)
        refine wpAnyH_take (i := 0) (oi := { dst := some 26, op := Op.move (Operand.tmp 4), type := 23, pos := "ref.go:82", after := #[], guard := none }) (v := ?_) rfl (by kernel_rfl) (by kernel_rfl) (by kernel_rfl) (fun _ _ _ h => h) (Or.inl ⟨by rfl, ?hyr2x0⟩) (by assumption) ?restr2x0
        case hyr2x0 => intro wq hSw; (go_simp); (try with_reducible rfl)
        try simp only [Act.put, List.setIfInBounds_toArray, List.set_cons_zero, List.set_cons_succ]
        refine wpAnyH_take (i := 1) (oi := { dst := some 27, op := Op.move (Operand.tmp 0), type := 43, pos := "ref.go:82", after := #[], guard := none }) (v := ?_) rfl (by kernel_rfl) (by kernel_rfl) (by kernel_rfl) (fun _ _ _ h => h) (Or.inl ⟨by rfl, ?hyr2x1⟩) (by assumption) ?restr2x1
        case hyr2x1 => intro wq hSw; (go_simp); (try with_reducible rfl)
        try simp only [Act.put, List.setIfInBounds_toArray, List.set_cons_zero, List.set_cons_succ]
        refine wpAnyH_take (i := 2) (oi := { dst := some 28, op := Op.move (Operand.tmp 5), type := 3, pos := "ref.go:82", after := #[], guard := none }) (v := ?_) rfl (by kernel_rfl) (by kernel_rfl) (by kernel_rfl) (fun _ _ _ h => h) (Or.inl ⟨by rfl, ?hyr2x2⟩) (by assumption) ?restr2x2
        case hyr2x2 => intro wq hSw; (go_simp); (try with_reducible rfl)
        try simp only [Act.put, List.setIfInBounds_toArray, List.set_cons_zero, List.set_cons_succ]
        refine wpAnyH_take (i := 3) (oi := { dst := some 29, op := Op.indexAddr 43 (Operand.tmp 27) (Operand.tmp 28), type := 0, pos := "ref.go:82", after := #[{ on := 1, ground := Ground.data }, { on := 2, ground := Ground.data }], guard := none }) (v := ?_) rfl (by kernel_rfl) (by kernel_rfl) (by kernel_rfl) (fun _ _ _ h => h) (Or.inl ⟨by rfl, ?hyr2x3⟩) (by assumption) ?restr2x3
        case hyr2x3 => intro wq hSw; (go_simp); (try with_reducible rfl)
        try simp only [Act.put, List.setIfInBounds_toArray, List.set_cons_zero, List.set_cons_succ]
        refine wpAnyH_take (i := 4) (oi := { dst := some 30, op := Op.fieldAddr 68 (Operand.tmp 29) 0, type := 0, pos := "ref.go:82", after := #[{ on := 3, ground := Ground.data }], guard := none }) (v := ?_) rfl (by kernel_rfl) (by kernel_rfl) (by kernel_rfl) (fun _ _ _ h => h) (Or.inl ⟨by rfl, ?hyr2x4⟩) (by assumption) ?restr2x4
        case hyr2x4 => intro wq hSw; (go_simp); (try with_reducible rfl)
        try simp only [Act.put, List.setIfInBounds_toArray, List.set_cons_zero, List.set_cons_succ]
        refine wpAnyH_take (i := 5) (oi := { dst := some 31, op := Op.load 3 (Operand.tmp 30), type := 3, pos := "ref.go:82", after := #[{ on := 4, ground := Ground.data }], guard := none }) (v := ?_) rfl (by kernel_rfl) (by kernel_rfl) (by kernel_rfl) (fun _ _ _ h => h) (Or.inl ⟨by rfl, ?hyr2x5⟩) (by assumption) ?restr2x5
        case hyr2x5 => intro wq hSw; (have cq := Chg.cellv hSw e0 hx1; go_simp); (try with_reducible rfl)
        try simp only [Act.put, List.setIfInBounds_toArray, List.set_cons_zero, List.set_cons_succ]
        refine wpAnyH_take (i := 7) (oi := { dst := some 33, op := Op.move (Operand.tmp 0), type := 43, pos := "ref.go:82", after := #[], guard := none }) (v := ?_) rfl (by kernel_rfl) (by kernel_rfl) (by kernel_rfl) (fun _ _ _ h => h) (Or.inl ⟨by rfl, ?hyr2x7⟩) (by assumption) ?restr2x7
        case hyr2x7 => intro wq hSw; (go_simp); (try with_reducible rfl)
        try simp only [Act.put, List.setIfInBounds_toArray, List.set_cons_zero, List.set_cons_succ]
        refine wpAnyH_take (i := 8) (oi := { dst := some 34, op := Op.move (Operand.tmp 5), type := 3, pos := "ref.go:82", after := #[], guard := none }) (v := ?_) rfl (by kernel_rfl) (by kernel_rfl) (by kernel_rfl) (fun _ _ _ h => h) (Or.inl ⟨by rfl, ?hyr2x8⟩) (by assumption) ?restr2x8
        case hyr2x8 => intro wq hSw; (go_simp); (try with_reducible rfl)
        try simp only [Act.put, List.setIfInBounds_toArray, List.set_cons_zero, List.set_cons_succ]
        refine wpAnyH_take (i := 9) (oi := { dst := some 35, op := Op.indexAddr 43 (Operand.tmp 33) (Operand.tmp 34), type := 0, pos := "ref.go:82", after := #[{ on := 7, ground := Ground.data }, { on := 8, ground := Ground.data }], guard := none }) (v := ?_) rfl (by kernel_rfl) (by kernel_rfl) (by kernel_rfl) (fun _ _ _ h => h) (Or.inl ⟨by rfl, ?hyr2x9⟩) (by assumption) ?restr2x9
        case hyr2x9 => intro wq hSw; (go_simp); (try with_reducible rfl)
        try simp only [Act.put, List.setIfInBounds_toArray, List.set_cons_zero, List.set_cons_succ]
        refine wpAnyH_take (i := 10) (oi := { dst := some 36, op := Op.fieldAddr 68 (Operand.tmp 35) 1, type := 0, pos := "ref.go:82", after := #[{ on := 9, ground := Ground.data }], guard := none }) (v := ?_) rfl (by kernel_rfl) (by kernel_rfl) (by kernel_rfl) (fun _ _ _ h => h) (Or.inl ⟨by rfl, ?hyr2x10⟩) (by assumption) ?restr2x10
        case hyr2x10 => intro wq hSw; (go_simp); (try with_reducible rfl)
        try simp only [Act.put, List.setIfInBounds_toArray, List.set_cons_zero, List.set_cons_succ]
        refine wpAnyH_take (i := 11) (oi := { dst := some 37, op := Op.load 9 (Operand.tmp 36), type := 9, pos := "ref.go:82", after := #[{ on := 10, ground := Ground.data }], guard := none }) (v := ?_) rfl (by kernel_rfl) (by kernel_rfl) (by kernel_rfl) (fun _ _ _ h => h) (Or.inl ⟨by rfl, ?hyr2x11⟩) (by assumption) ?restr2x11
        case hyr2x11 => intro wq hSw; (have cq := Chg.cellv hSw e1 hx1; go_simp); (try with_reducible rfl)
        try simp only [Act.put, List.setIfInBounds_toArray, List.set_cons_zero, List.set_cons_succ]
        refine wpAnyH_take (i := 13) (oi := { dst := some 39, op := Op.move (Operand.tmp 0), type := 43, pos := "ref.go:82", after := #[], guard := none }) (v := ?_) rfl (by kernel_rfl) (by kernel_rfl) (by kernel_rfl) (fun _ _ _ h => h) (Or.inl ⟨by rfl, ?hyr2x13⟩) (by assumption) ?restr2x13
        case hyr2x13 => intro wq hSw; (go_simp); (try with_reducible rfl)
        try simp only [Act.put, List.setIfInBounds_toArray, List.set_cons_zero, List.set_cons_succ]
        refine wpAnyH_take (i := 14) (oi := { dst := some 40, op := Op.move (Operand.tmp 5), type := 3, pos := "ref.go:82", after := #[], guard := none }) (v := ?_) rfl (by kernel_rfl) (by kernel_rfl) (by kernel_rfl) (fun _ _ _ h => h) (Or.inl ⟨by rfl, ?hyr2x14⟩) (by assumption) ?restr2x14
        case hyr2x14 => intro wq hSw; (go_simp); (try with_reducible rfl)
        try simp only [Act.put, List.setIfInBounds_toArray, List.set_cons_zero, List.set_cons_succ]
        refine wpAnyH_take (i := 15) (oi := { dst := some 41, op := Op.indexAddr 43 (Operand.tmp 39) (Operand.tmp 40), type := 0, pos := "ref.go:82", after := #[{ on := 13, ground := Ground.data }, { on := 14, ground := Ground.data }], guard := none }) (v := ?_) rfl (by kernel_rfl) (by kernel_rfl) (by kernel_rfl) (fun _ _ _ h => h) (Or.inl ⟨by rfl, ?hyr2x15⟩) (by assumption) ?restr2x15
        case hyr2x15 => intro wq hSw; (go_simp); (try with_reducible rfl)
        try simp only [Act.put, List.setIfInBounds_toArray, List.set_cons_zero, List.set_cons_succ]
        refine wpAnyH_take (i := 16) (oi := { dst := some 42, op := Op.fieldAddr 68 (Operand.tmp 41) 2, type := 0, pos := "ref.go:82", after := #[{ on := 15, ground := Ground.data }], guard := none }) (v := ?_) rfl (by kernel_rfl) (by kernel_rfl) (by kernel_rfl) (fun _ _ _ h => h) (Or.inl ⟨by rfl, ?hyr2x16⟩) (by assumption) ?restr2x16
        case hyr2x16 => intro wq hSw; (go_simp); (try with_reducible rfl)
        try simp only [Act.put, List.setIfInBounds_toArray, List.set_cons_zero, List.set_cons_succ]
        refine wpAnyH_take (i := 17) (oi := { dst := some 43, op := Op.load 65 (Operand.tmp 42), type := 65, pos := "ref.go:82", after := #[{ on := 16, ground := Ground.data }], guard := none }) (v := ?_) rfl (by kernel_rfl) (by kernel_rfl) (by kernel_rfl) (fun _ _ _ h => h) (Or.inl ⟨by rfl, ?hyr2x17⟩) (by assumption) ?restr2x17
        case hyr2x17 => intro wq hSw; (have cq := Chg.cellv hSw e2' hx1; go_simp); (try with_reducible rfl)
        try simp only [Act.put, List.setIfInBounds_toArray, List.set_cons_zero, List.set_cons_succ]
        refine wpAnyH_take (i := 18) (oi := { dst := some 44, op := Op.convert 65 31 (Operand.tmp 43), type := 31, pos := "ref.go:82", after := #[{ on := 17, ground := Ground.data }], guard := none }) (v := ?_) rfl (by kernel_rfl) (by kernel_rfl) (by kernel_rfl) (fun _ _ _ h => h) (Or.inl ⟨by rfl, ?hyr2x18⟩) (by assumption) ?restr2x18
        case hyr2x18 => intro wq hSw; (go_simp); (try with_reducible rfl)
        try simp only [Act.put, List.setIfInBounds_toArray, List.set_cons_zero, List.set_cons_succ]
        refine wpAnyH_ready (rs := [6]) (by kernel_rfl) (by simp) ?_
        refine AllReadyH.cons (o := { dst := some 32, op := Op.call { callee := Callee.value (Operand.func 42), args := #[Operand.tmp 26, Operand.tmp 31], argTypes := #[23, 2] }, type := 23, pos := "ref.go:82", after := #[{ on := 0, ground := Ground.data }, { on := 5, ground := Ground.data }], guard := none }) rfl (fun K hK => ?_) AllReadyH.nil
        go_simp
        (with_reducible refine (appint_r _ _ _ bs _ _ (s3.out.nx (Ex.refl w2).drew) (by omega) NIL3.out i1 i2).mono ?_)
        rintro e w4 ⟨v4, rfl, own4, k4⟩
        obtain ⟨b4, hb4⟩ : ∃ b4, b4 = bs ++ encU (zig y.id) := ⟨_, rfl⟩
        rw [← hb4] at own4
        have n4 : b4.length ≤ 200000 := by rw [hb4, List.length_append]; omega
        have HB4 := Lib.hid hb4
        have n4' : b4.length ≤ 7000 := by rw [hb4, List.length_append]; omega
        clear hb4
        obtain ⟨a4, c4, rfl, s4, _, _, nil4⟩ := own4.slf (fun _ => rfl)
        have e1 := Chg.cellv k4 e1 hx1
        have e2 := Chg.cellv k4 e2' hx1
        have hx4 : x1 < w4.heap.size := Nat.lt_of_lt_of_le hx1 k4.size
        have s4 := Lib.hid s4.sl
        have NIL4 := Lib.hid nil4
        clear own4 nil4
        refine hK.out _ _ k4 (fun _ => ?_)
        clear hK K
        try simp only [Act.put, List.setIfInBounds_toArray, List.set_cons_zero, List.set_cons_succ]
        refine wpAnyH_switch (S' := Ex w4) (fun _ hSw => Ex.nx k4 hSw) ?_
        clear hHeld
        have hHeld := Ex.refl w4
        refine wpAnyH_ready (rs := [12]) (by kernel_rfl) (by simp) ?_
        refine AllReadyH.cons (o := { dst := some 38, op := Op.call { callee := Callee.value (Operand.func 8), args := #[Operand.tmp 32, Operand.tmp 37], argTypes := #[23, 9] }, type := 23, pos := "ref.go:82", after := #[{ on := 6, ground := Ground.data }, { on := 11, ground := Ground.data }, { on := 6, ground := Ground.chain }], guard := none }) rfl (fun K hK => ?_) AllReadyH.nil
        go_simp
        (with_reducible refine (appstr_r _ _ _ _ y.key _ s4.out n4 NIL4.out (by omega)).mono ?_)
        rintro e w5 ⟨v5, rfl, own5, k5⟩
        obtain ⟨b5, hb5⟩ : ∃ b5, b5 = b4 ++ encStr y.key := ⟨_, rfl⟩
        rw [← hb5] at own5
        have n5 : b5.length ≤ 200000 := by rw [hb5, List.length_append]; omega
        have HB5 := Lib.hid hb5
        clear hb5
        obtain ⟨a5, c5, rfl, s5, _, _, nil5⟩ := own5.slf (fun _ => rfl)
        have e2 := Chg.cellv k5 e2 hx4
        have hx5 : x1 < w5.heap.size := Nat.lt_of_lt_of_le hx4 k5.size
        have s5 := Lib.hid s5.sl
        have NIL5 := Lib.hid nil5
        clear own5 nil5
        refine hK.out _ _ k5 (fun _ => ?_)
        clear hK K
        try simp only [Act.put, List.setIfInBounds_toArray, List.set_cons_zero, List.set_cons_succ]
        refine wpAnyH_switch (S' := Ex w5) (fun _ hSw => Ex.nx k5 hSw) ?_
        clear hHeld
        have hHeld := Ex.refl w5
        refine wpAnyH_ready (rs := [19]) (by kernel_rfl) (by simp) ?_
        refine AllReadyH.cons (o := { dst := some 45, op := Op.call { callee := Callee.value (Operand.func 11), args := #[Operand.tmp 38, Operand.tmp 44], argTypes := #[23, 31] }, type := 23, pos := "ref.go:82", after := #[{ on := 12, ground := Ground.data }, { on := 18, ground := Ground.data }, { on := 12, ground := Ground.chain }], guard := none }) rfl (fun K hK => ?_) AllReadyH.nil
        go_simp
        (with_reducible refine (appuint_r _ _ _ _ y.word _ s5.out n5 NIL5.out (by omega)).mono ?_)
        rintro e w6 ⟨v6, rfl, own6, k6⟩
        refine hK.out _ _ k6 (fun _ => ?_)
        clear hK K
        try simp only [Act.put, List.setIfInBounds_toArray, List.set_cons_zero, List.set_cons_succ]
        refine wpAnyH_switch (S' := Ex w6) (fun _ hSw => Ex.nx k6 hSw) ?_
        clear hHeld
        have hHeld := Ex.refl w6
        refine wpAnyH_take (i := 20) (oi := { dst := some 4, op := Op.assign (Operand.tmp 45), type := 23, pos := "ref.go:82", after := #[{ on := 19, ground := Ground.data }, { on := 19, ground := Ground.chain }, { on := 0, ground := Ground.phase }, { on := 1, ground := Ground.phase }, { on := 2, ground := Ground.phase }, { on := 3, ground := Ground.phase }, { on := 4, ground := Ground.phase }, { on := 5, ground := Ground.phase }, { on := 6, ground := Ground.phase }, { on := 7, ground := Ground.phase }, { on := 8, ground := Ground.phase }, { on := 9, ground := Ground.phase }, { on := 10, ground := Ground.phase }, { on := 11, ground := Ground.phase }, { on := 12, ground := Ground.phase }, { on := 13, ground := Ground.phase }, { on := 14, ground := Ground.phase }, { on := 15, ground := Ground.phase }, { on := 16, ground := Ground.phase }, { on := 17, ground := Ground.phase }, { on := 18, ground := Ground.phase }, { on := 19, ground := Ground.phase }], guard := none }) (v := ?_) rfl (by kernel_rfl) (by kernel_rfl) (by kernel_rfl) (fun _ _ _ h => h) (Or.inl ⟨by rfl, ?hyr2x20⟩) (by assumption) ?restr2x20
        case hyr2x20 => intro wq hSw; (go_simp); (try with_reducible rfl)
        try simp only [Act.put, List.setIfInBounds_toArray, List.set_cons_zero, List.set_cons_succ]
        refine wpAnyH_done (by kernel_rfl) ?_ _
        have kw6 := (((KW.out.nx (Ex.refl w2).drew).nx k4).nx k5).nx k6
        have z5 : w.heap.size ≤ w5.heap.size := (((KW.out.nx (Ex.refl w2).drew).nx k4).nx k5).size
        clear k4 k5 k6 s3 s4 s5 NIL3 NIL4 NIL5 n4 n5 e0 e1 e2
        go_wp2_with fail
        refine ⟨⟨k + 1, by omega, by go_num, ?_, kw6, fun j z hj hz => ?_⟩, by simp [intOf]; omega⟩
        · rw [FSn.out, ← List.append_assoc, ← HBS.out]
          unfold encNd
          rw [← List.append_assoc, ← List.append_assoc, ← HB4.out, ← HB5.out]
          exact own6.base z5
        · rcases Nat.lt_or_ge j k with h | h
          · exact HSH.out j z h hz
          · obtain rfl : j = k := by omega
            rw [Option.some.inj (hz.symm.trans HY.out)]
            exact hkey'
    · obtain rfl : k = n := by omega
      rw [List.take_of_length_le (by rw [HL.out]; exact Nat.le_refl _)] at own
      have HE : Hid (encNds l = (encU k ++ l.flatMap encNd, 0)) := Lib.hid (by
        unfold encNds
        rw [if_neg (by rw [HL.out]; exact h64), if_neg, HL.out]
        rw [List.any_eq_true]
        rintro ⟨z, hz, hk⟩
        obtain ⟨j, hj, he⟩ := List.mem_iff_getElem.1 hz
        have := HSH.out j z (by rw [← HL.out]; exact hj) (by rw [← he]; simp)
        simp at hk
        omega)
      obtain ⟨a3, c3, rfl, _⟩ := own.slf (fun _ => rfl)
      clear hk hlt
      go_wp2_with fail
      go_ret2
      rw [HE.out]
      exact ⟨_, rfl, own, kw⟩
end Go.Proofs.YtjaemckdfoaopaaDoor
