/- Classes of the package word. -/
import Derived.Test.YtenobfplmifomaaDoorOwnC
import Derived.Deep.DeepCutAuto
namespace Go.Proofs.YtenobfplmifomaaDoor
open Go.RowKit

def ClPost (C : List (List Nd)) (w : World) (e : Ending) (w' : World) : Prop := ∃ (a : Option Addr) (cp : Nat), e = .returned (.slice a C.length cp) ∧ LL w' a C.length C ∧ Ex w w'
theorem OwnQ.cast {base : Nat} {w w' : World} {v : Value} {qs : List Hdr} {C : List (List Nd)} (h : OwnQ base w v qs C) (e : w' = w) : OwnQ base w' v qs C := e ▸ h
theorem OwnQ.ne_blk {base g : Nat} {w : World} {v : Value} {qs : List Hdr} {C : List (List Nd)} {cs : List Value} (h : OwnQ base w v qs C) (b : Blk w g cs 48) : ¬ v.ownBlock = some g := by
  intro hv
  obtain ⟨_, cur, e⟩ := h.1.blk hv
  unfold Blk at b
  rw [b] at e
  simp at e
theorem Blk.chg {w w' : World} {g : Nat} {cs : List Value} {ty : TypeId} {S : Nat → Prop} (h : Blk w g cs ty) (k : Chg S w w') (hs : S g) : Blk w' g cs ty := (k.block g hs).trans h
def ClRel (l : List Nd) (h : Int) (n : Nat) (w1 : World) (o i : Value) (wr : World) : Prop :=
  ∃ (k : Nat) (qs : List Hdr), k ≤ n ∧ i = .int .i64 k ∧ OwnQ w1.heap.size wr o qs (foldC h (l.take k)) ∧ Ex w1 wr
theorem classesN_big {l : List Nd} {h : Int} (hh : 16 < h) : classesN l h = [] := by unfold classesN; rw [if_pos hh]
theorem classesN_fold {l : List Nd} {h : Int} (hh : ¬ 16 < h) : classesN l h = foldC h l := by unfold classesN; rw [if_neg hh]; rfl

set_option maxRecDepth 100000 in
set_option maxHeartbeats 4000000 in
theorem classes_p (a : Option Addr) (n cp : Nat) (l : List Nd) (h : Int) (w : World) (hs : Sl 3 encN w a n l) (hn : n ≤ 1000) (hw : ∀ x ∈ l, x.word < 4294967296) (hT : TabG w) :
    Calls Tryd.prog 28 #[.slice a n cp, .int .i64 h] w (ClPost (classesN l h) w) := by
  have HL := Lib.hid hs.len
  have hs := Lib.hid hs
  have HW := Lib.hid hw
  have HT := Lib.hid hT
  have k1 := Ex.new w (.cells #[.int .i64 h] 3)
  have BH := Blk.new w [.int .i64 h] 3
  obtain ⟨w1, hw1⟩ : ∃ w1, w1 = w.alloc (.cells #[.int .i64 h] 3) := ⟨_, rfl⟩
  obtain ⟨gh, hgh⟩ : ∃ gh, gh = w.heap.size := ⟨_, rfl⟩
  have BH : Blk w1 gh [.int .i64 h] 3 := by rw [hw1, hgh]; exact BH
  rw [← hw1] at k1
  have HW1 := Lib.hid hw1
  have HGH := Lib.hid hgh
  have HK1 := Lib.hid k1
  have c0 := BH.cell 0 _ rfl
  clear hw hT hw1 hgh k1
  go_enter Tryd.func28, Tryd.ntmps28
  go_upto_region 1 with fail
  rw [← HGH.out, ← HW1.out]
  by_cases h16 : 16 < h
  · have HC : Hid (classesN l h = []) := Lib.hid (classesN_big h16)
    clear BH
    go_wp2_with fail
    go_ret
    exact ⟨none, 0, by rw [HC.out]; rfl, by rw [HC.out]; exact LL.nil _ _, HK1.out⟩
  have HF := Lib.hid (classesN_fold (l := l) h16)
  have BH := Lib.hid BH
  go_wp2_with fail
  go_loopw [5, 13] (fun o i wr => ClRel l h n w1 o i wr) (fun _ i _ => n - (intOf i).toNat)
  case atStart => exact ⟨0, [], by omega, rfl, OwnQ.nil _ _, Ex.refl _⟩
  case round =>
    obtain ⟨k, qs, hk, rfl, OQ, kx⟩ := hrel
    obtain ⟨wo, rfl⟩ : ∃ wo : World, wo = wr := ⟨_, rfl⟩
    by_cases hlt : k < n
    · obtain ⟨x1, o1, y, rfl, hx1, hy, hc1⟩ := (hs.out.nx (HK1.out.nx kx)).at hlt
      have e0 : wo.cell? ⟨x1, o1 + k * 3, none⟩ = some (.int .i64 y.id) := hc1 0 _ rfl
      have e1 : wo.cell? ⟨x1, o1 + k * 3 + 1, none⟩ = some (.string y.key) := hc1 1 _ rfl
      have e2 : wo.cell? ⟨x1, o1 + k * 3 + 1 + 1, none⟩ = some (.int .u32 y.word) := by simpa [Nat.add_assoc] using hc1 2 _ rfl
      have e2' : wo.cell? ⟨x1, o1 + k * 3 + 2, none⟩ = some (.int .u32 y.word) := hc1 2 _ rfl
      have hyw := HW.out y (List.mem_of_getElem? hy)
      have FSn := Lib.hid (foldC_snoc h l k y hy)
      have hFL : (foldC h (l.take k)).length ≤ k := Nat.le_trans (foldC_length h (l.take k)) (by rw [List.length_take]; omega)
      have FF : Hid (Fine 100000 (fun y => y.word < 4294967296) (foldC h (l.take k))) := Lib.hid (fun c hc => by
        have := foldC_fine (h := h) (l.take k) (P := fun y => y.word < 4294967296) (fun y hy => HW.out y (List.mem_of_mem_take hy)) c hc
        exact ⟨this.1, Nat.le_trans this.2.1 (by rw [List.length_take]; omega), this.2.2⟩)
      generalize foldC h (l.take k) = C at OQ FSn hFL FF
      clear hc1 hy
      have B7 := Blk.new wo [.int .i64 y.id, .string y.key, .int .u32 y.word] 48
      have k2 := Ex.new wo (.cells #[.int .i64 y.id, .string y.key, .int .u32 y.word] 48)
      obtain ⟨w2, hw2⟩ : ∃ w2, w2 = wo.alloc (.cells #[.int .i64 y.id, .string y.key, .int .u32 y.word] 48) := ⟨_, rfl⟩
      obtain ⟨g7, hg7⟩ : ∃ g7, g7 = wo.heap.size := ⟨_, rfl⟩
      have B7 : Blk w2 g7 [.int .i64 y.id, .string y.key, .int .u32 y.word] 48 := by rw [hw2, hg7]; exact B7
      rw [← hw2] at k2
      have HW2 := Lib.hid hw2
      have HG7 := Lib.hid hg7
      replace OQ := OQ.nx k2
      replace kx := kx.nx k2
      obtain ⟨a3, cap3, rfl, ll3, hc3, _, _⟩ := OQ.ll
      clear hw2 hg7 k2 c0
      go_upto_region 7 with fail
      rw [← HG7.out, ← HW2.out]
      clear e0 e1 e2 e2'
      go_wp2_with fail
      have hGood : GoodC C := fun c hc => ⟨(FF.out c hc).1, Nat.le_trans (FF.out c hc).2.1 (by omega), (FF.out c hc).2.2⟩
      (with_reducible refine (idx_p _ _ _ _ _ _ _ _ _ _ _ ll3 (by omega) hGood hyw B7 (BH.out.nx kx) (HT.out.nx (HK1.out.nx kx))).mono ?_)
      rintro e w3 ⟨rfl, kk⟩
      replace OQ := OQ.nx kk
      replace kx := kx.nx kk
      replace B7 := Lib.hid (B7.nx kk)
      obtain ⟨KX, hKX⟩ : ∃ KX, KX = idxC C y.word h := ⟨_, rfl⟩
      have KI := Lib.hid hKX.symm
      have hKle : KX ≤ C.length := by rw [hKX]; exact idxC_le _ _ _
      clear kk ll3 hGood
      by_cases hKn : KX = C.length
      · have IV : idxV C y.word h = -1 := by unfold idxV; rw [← hKX, if_neg (by omega)]
        rw [IV]
        have lq : qs.length ≤ 1000000 := by rw [OQ.2.1]; omega
        have zq := kx.size
        clear hKX IV
        go_upto_region 11 with (at_builtin; (refine wpList_append_lit (enc := encH) w3 rfl _ _ 44 rfl w1.heap.size 39 (.slice none 0 0) 1 24 Tryd.underlying44 Tryd.infoH rfl (by omega) (by omega) _ _ OQ.1 rfl ((none, 0, 0) : Hdr) _ rfl rfl (by simp [encH, Hdr.val, Value.oneCell']) _ (by simp) rfl lq (by omega) _ ?_); intro vp wp ownp ch0 ch1 _)
        have B7 := Lib.hid (B7.out.chg ch0 ⟨B7.out.lt, OQ.ne_blk B7.out⟩)
        have OQ := OQ.pad ownp ch0
        replace kx : Ex w1 wp := Chg.trans kx ch1
        obtain ⟨C', hC'⟩ : ∃ C' : List (List Nd), C' = C ++ [[]] := ⟨_, rfl⟩
        rw [← hC'] at OQ
        have CL : C'.length = C.length + 1 := by rw [hC']; simp
        have EC : Hid (C' = padC C KX) := Lib.hid (by unfold padC; rw [if_pos (by omega), hC'])
        have CLEN : Hid (∀ c ∈ C', c.length ≤ 1000000) := Lib.hid (fun c hc => by
          rw [hC'] at hc
          rcases List.mem_append.1 hc with h1 | h1
          · exact Nat.le_trans (FF.out c h1).2.1 (by omega)
          · rw [List.mem_singleton.1 h1]; simp)
        generalize (qs ++ [((none, 0, 0) : Hdr)]) = qs at OQ
        obtain ⟨wa, rfl⟩ : ∃ wa : World, wa = wp := ⟨_, rfl⟩
        have hKC : KX < C'.length := by omega
        have NL : Hid (C'.length ≤ 1000001) := Lib.hid (by omega)
        clear hC' CL ownp ch0 ch1
        rw [← hKn]
        clear hKn
        obtain ⟨a4, cap4, he4, ll4, _, _, some4⟩ := OQ.ll
        cases he4
        obtain ⟨g4, rfl, hg4⟩ := some4 (by intro h0; rw [h0] at hKC; simp at hKC)
        obtain ⟨c, hc⟩ : ∃ c, C'[KX]? = some c := ⟨C'[KX]'hKC, by simp⟩
        obtain ⟨⟨qa, qn, qc⟩, hq⟩ : ∃ q : Hdr, qs[KX]? = some q := ⟨qs[KX]'(by rw [OQ.2.1]; exact hKC), by simp⟩
        have hcl : c.length ≤ 1000000 := CLEN.out c (List.mem_of_getElem? hc)
        obtain ⟨cy, hcy⟩ : ∃ cy : List Nd, cy = c ++ [y] := ⟨_, rfl⟩
        have FIN : Hid (stepC h C y = C'.set KX cy) := Lib.hid (by unfold stepC; rw [KI.out, ← EC.out, hc, hcy]; rfl)
        have HCY := Lib.hid hcy
        clear hcy
        have HQ := Lib.hid hq
        have HCC := Lib.hid hc
        have hn4 : (KX : Int) < (C'.length : Int) := by omega
        have hn5 : C'.length ≤ 1000001 := NL.out
        clear hc hq ll4 some4
        go_wp2_with fail
        have OQ := Lib.hid (OQ.nx (Ex.refl wa).drew)
        have kx := kx.nx (Ex.refl wa).drew
        have SXF : ∀ cur : World, Sl 3 encN (cur.alloc (.cells #[.int .i64 y.id, .string y.key, .int .u32 y.word] 48)) (some ⟨cur.heap.size, 0, none⟩) 1 [y] := fun cur => Sl.lit _ rfl rfl (fun _ => rfl) rfl
        refine wp_region_held_drew (S := fun _ => True) (by kernel_rfl) (trivial) (fun hHeld => ?_)
        refine wpAnyH_take (i := 0) (oi := { dst := some 27, op := Op.move (Operand.tmp 5), type := 44, pos := "word.go:62", after := #[], guard := none }) (v := ?_) rfl (by kernel_rfl) (by kernel_rfl) (by kernel_rfl) (fun _ _ _ h => h) (Or.inl ⟨by rfl, ?hyr1x0q1⟩) (by assumption) ?restr1x0q1
        case hyr1x0q1 => intro wq hSw; (go_simp); (try with_reducible rfl)
        try simp only [Act.put, List.setIfInBounds_toArray, List.set_cons_zero, List.set_cons_succ]
        refine wpAnyH_take (i := 1) (oi := { dst := some 28, op := Op.move (Operand.tmp 8), type := 3, pos := "word.go:62", after := #[], guard := none }) (v := ?_) rfl (by kernel_rfl) (by kernel_rfl) (by kernel_rfl) (fun _ _ _ h => h) (Or.inl ⟨by rfl, ?hyr1x1q4⟩) (by assumption) ?restr1x1q4
        case hyr1x1q4 => intro wq hSw; (go_simp); (try with_reducible rfl)
        try simp only [Act.put, List.setIfInBounds_toArray, List.set_cons_zero, List.set_cons_succ]
        refine wpAnyH_take (i := 2) (oi := { dst := some 29, op := Op.move (Operand.tmp 5), type := 44, pos := "word.go:62", after := #[], guard := none }) (v := ?_) rfl (by kernel_rfl) (by kernel_rfl) (by kernel_rfl) (fun _ _ _ h => h) (Or.inl ⟨by rfl, ?hyr1x2q7⟩) (by assumption) ?restr1x2q7
        case hyr1x2q7 => intro wq hSw; (go_simp); (try with_reducible rfl)
        try simp only [Act.put, List.setIfInBounds_toArray, List.set_cons_zero, List.set_cons_succ]
        refine wpAnyH_take (i := 3) (oi := { dst := some 30, op := Op.move (Operand.tmp 8), type := 3, pos := "word.go:62", after := #[], guard := none }) (v := ?_) rfl (by kernel_rfl) (by kernel_rfl) (by kernel_rfl) (fun _ _ _ h => h) (Or.inl ⟨by rfl, ?hyr1x3q10⟩) (by assumption) ?restr1x3q10
        case hyr1x3q10 => intro wq hSw; (go_simp); (try with_reducible rfl)
        try simp only [Act.put, List.setIfInBounds_toArray, List.set_cons_zero, List.set_cons_succ]
        refine wpAnyH_take (i := 4) (oi := { dst := some 31, op := Op.indexAddr 44 (Operand.tmp 29) (Operand.tmp 30), type := 0, pos := "word.go:62", after := #[{ on := 2, ground := Ground.data }, { on := 3, ground := Ground.data }], guard := none }) (v := ?_) rfl (by kernel_rfl) (by kernel_rfl) (by kernel_rfl) (fun _ _ _ h => h) (Or.inl ⟨by rfl, ?hyr1x4q13⟩) (by assumption) ?restr1x4q13
        case hyr1x4q13 => intro wq hSw; (go_simp); (try with_reducible rfl)
        try simp only [Act.put, List.setIfInBounds_toArray, List.set_cons_zero, List.set_cons_succ]
        refine wpAnyH_ready (rs := [5, 6]) (by kernel_rfl) (by simp) ?_
        refine AllReadyH.cons (o := { dst := some 32, op := Op.load 39 (Operand.tmp 31), type := 39, pos := "word.go:62", after := #[{ on := 4, ground := Ground.data }], guard := none }) rfl (fun K hK => ?_) ?_
        · have cc := (own_cellH OQ.out.1 HQ.out).1
          simp only [Hdr.val] at cc
          (try have cc2 : (wa.alloc (.cells #[.int .i64 y.id, .string y.key, .int .u32 y.word] 48)).cell? ⟨g4, KX, none⟩ = some (.slice qa qn qc) := cc)
          go_simp
          clear cc
          (try clear cc2)
          refine hK.out _ _ (trivial) (fun hHeld => ?_)
          clear hK K
          try simp only [Act.put, List.setIfInBounds_toArray, List.set_cons_zero, List.set_cons_succ]
          refine wpAnyH_ready (rs := [6]) (by kernel_rfl) (by simp) ?_
          refine AllReadyH.cons (o := { dst := some 33, op := Op.load 48 (Operand.tmp 7), type := 48, pos := "word.go:62", after := #[], guard := none }) rfl (fun K hK => ?_) AllReadyH.nil
          have b0 := B7.out.cell 0 _ rfl
          have b1 := B7.out.cell 1 _ rfl
          have b2 := B7.out.cell 2 _ rfl
          go_simp
          clear b0 b1 b2
          refine hK.out _ _ (trivial) (fun hHeld => ?_)
          clear hK K
          try simp only [Act.put, List.setIfInBounds_toArray, List.set_cons_zero, List.set_cons_succ]
          refine wpAnyH_ready (rs := [7]) (by kernel_rfl) (by simp) ?_
          refine AllReadyH.cons (o := { dst := some 34, op := Op.buildSlice 39 1 #[(0, Operand.tmp 33)], type := 39, pos := "word.go:62", after := #[{ on := 6, ground := Ground.data }], guard := none }) rfl (fun K hK => ?_) AllReadyH.nil
          go_simp
          have SX := SXF wa.drew
          have e7 := Ex.new wa.drew (.cells #[.int .i64 y.id, .string y.key, .int .u32 y.word] 48)
          replace OQ := Lib.hid (OQ.out.nx e7)
          replace kx := kx.nx e7
          clear e7
          refine hK.out _ _ (trivial) (fun hHeld => ?_)
          clear hK K
          try simp only [Act.put, List.setIfInBounds_toArray, List.set_cons_zero, List.set_cons_succ]
          refine wpAnyH_ready (rs := [8]) (by kernel_rfl) (by simp) ?_
          refine AllReadyH.cons (o := { dst := some 35, op := Op.call { callee := Callee.builtin Builtin.append, args := #[Operand.tmp 32, Operand.tmp 34], argTypes := #[39, 39] }, type := 39, pos := "word.go:62", after := #[{ on := 5, ground := Ground.data }, { on := 7, ground := Ground.data }], guard := none }) rfl (fun K hK => ?_) AllReadyH.nil
          rw [if_pos (by rfl)]
          have z0 := Ex.size kx
          have oi := OQ.out.2.2.1 KX _ _ HQ.out HCC.out
          refine wp_append_rda (enc := encN) _ (.tmp 32) (.tmp 34) 39 rfl w1.heap.size 48 (.agg #[.int .i64 0, .string ByteArray.empty, .int .u32 0]) 3 32 Tryd.underlying39 Tryd.infoN rfl (by omega) (by omega) _ c oi rfl _ _ 1 1 [y] SX (fun h => by cases h) (fun _ => rfl) (by simp [encN, Value.oneCell']) rfl hcl (by omega) z0 ?_
          intro v8 w8 own8 ch0 ch1 hat
          rw [← HCY.out] at own8
          obtain ⟨a8, cap8, rfl, _, _, _, _⟩ := own8.rd (fun _ => rfl)
          obtain ⟨pc, pf, OQ2⟩ := OwnQ.put (q' := (a8, cy.length, cap8)) OQ.out HQ.out own8 ch0 hat
          replace kx : Ex w1 w8 := Chg.trans kx ch1
          replace OQ := Lib.hid OQ2
          clear OQ2 own8 ch0 ch1 hat oi z0 SX
          refine hK.out _ _ (trivial) (fun hHeld => ?_)
          clear hK K
          try simp only [Act.put, List.setIfInBounds_toArray, List.set_cons_zero, List.set_cons_succ]
          refine wpAnyH_take (i := 9) (oi := { dst := some 36, op := Op.indexAddr 44 (Operand.tmp 27) (Operand.tmp 28), type := 0, pos := "word.go:62", after := #[{ on := 0, ground := Ground.data }, { on := 1, ground := Ground.data }, { on := 0, ground := Ground.phase }, { on := 1, ground := Ground.phase }, { on := 2, ground := Ground.phase }, { on := 3, ground := Ground.phase }, { on := 4, ground := Ground.phase }, { on := 5, ground := Ground.phase }, { on := 6, ground := Ground.phase }, { on := 7, ground := Ground.phase }, { on := 8, ground := Ground.phase }], guard := none }) (v := ?_) rfl (by kernel_rfl) (by kernel_rfl) (by kernel_rfl) (fun _ _ _ h => h) (Or.inl ⟨by rfl, ?hyr1x9q64⟩) (by assumption) ?restr1x9q64
          case hyr1x9q64 => intro wq hSw; (go_simp); (try with_reducible rfl)
          try simp only [Act.put, List.setIfInBounds_toArray, List.set_cons_zero, List.set_cons_succ]
          refine wpAnyH_ready (rs := [10]) (by kernel_rfl) (by simp) ?_
          refine AllReadyH.cons (o := { dst := none, op := Op.store 39 (Operand.tmp 36) (Operand.tmp 35), type := 0, pos := "word.go:62", after := #[{ on := 9, ground := Ground.data }, { on := 8, ground := Ground.data }, { on := 8, ground := Ground.chain }, { on := 0, ground := Ground.phase }, { on := 1, ground := Ground.phase }, { on := 2, ground := Ground.phase }, { on := 3, ground := Ground.phase }, { on := 4, ground := Ground.phase }, { on := 5, ground := Ground.phase }, { on := 6, ground := Ground.phase }, { on := 7, ground := Ground.phase }, { on := 8, ground := Ground.phase }], guard := none }) rfl (fun K hK => ?_) AllReadyH.nil
          go_simp
          clear pc pf
          refine hK.out _ _ (trivial) (fun hHeld => ?_)
          clear hK K
          try simp only [Act.put, List.setIfInBounds_toArray, List.set_cons_zero, List.set_cons_succ]
          refine wpAnyH_done (by kernel_rfl) ?_ _
          replace kx := kx.setNew (p := ⟨g4, KX, none⟩) (Hdr.val (a8, cy.length, cap8)) hg4
          obtain ⟨wz, hwz⟩ : ∃ wz, wz = w8.setCell ⟨g4, KX, none⟩ (.slice a8 cy.length cap8) := ⟨_, rfl⟩
          have OQ := Lib.hid (OwnQ.cast OQ.out (w' := wz) hwz)
          have kx : Ex w1 wz := by rw [hwz]; exact kx
          rw [← hwz]
          clear hwz SXF hHeld hn5 hcl
          go_wp2_with fail
          exact ⟨⟨k + 1, _, by omega, by go_num, by rw [FSn.out, FIN.out]; exact OQ.out, kx⟩, by simp [intOf]; omega⟩
        refine AllReadyH.cons (o := { dst := some 33, op := Op.load 48 (Operand.tmp 7), type := 48, pos := "word.go:62", after := #[], guard := none }) rfl (fun K hK => ?_) AllReadyH.nil
        · have b0 := B7.out.cell 0 _ rfl
          have b1 := B7.out.cell 1 _ rfl
          have b2 := B7.out.cell 2 _ rfl
          go_simp
          clear b0 b1 b2
          refine hK.out _ _ (trivial) (fun hHeld => ?_)
          clear hK K
          try simp only [Act.put, List.setIfInBounds_toArray, List.set_cons_zero, List.set_cons_succ]
          refine wpAnyH_ready (rs := [5, 7]) (by kernel_rfl) (by simp) ?_
          refine AllReadyH.cons (o := { dst := some 32, op := Op.load 39 (Operand.tmp 31), type := 39, pos := "word.go:62", after := #[{ on := 4, ground := Ground.data }], guard := none }) rfl (fun K hK => ?_) ?_
          · have cc := (own_cellH OQ.out.1 HQ.out).1
            simp only [Hdr.val] at cc
            (try have cc2 : (wa.alloc (.cells #[.int .i64 y.id, .string y.key, .int .u32 y.word] 48)).cell? ⟨g4, KX, none⟩ = some (.slice qa qn qc) := cc)
            go_simp
            clear cc
            (try clear cc2)
            refine hK.out _ _ (trivial) (fun hHeld => ?_)
            clear hK K
            try simp only [Act.put, List.setIfInBounds_toArray, List.set_cons_zero, List.set_cons_succ]
            refine wpAnyH_ready (rs := [7]) (by kernel_rfl) (by simp) ?_
            refine AllReadyH.cons (o := { dst := some 34, op := Op.buildSlice 39 1 #[(0, Operand.tmp 33)], type := 39, pos := "word.go:62", after := #[{ on := 6, ground := Ground.data }], guard := none }) rfl (fun K hK => ?_) AllReadyH.nil
            go_simp
            have SX := SXF wa.drew
            have e7 := Ex.new wa.drew (.cells #[.int .i64 y.id, .string y.key, .int .u32 y.word] 48)
            replace OQ := Lib.hid (OQ.out.nx e7)
            replace kx := kx.nx e7
            clear e7
            refine hK.out _ _ (trivial) (fun hHeld => ?_)
            clear hK K
            try simp only [Act.put, List.setIfInBounds_toArray, List.set_cons_zero, List.set_cons_succ]
            refine wpAnyH_ready (rs := [8]) (by kernel_rfl) (by simp) ?_
            refine AllReadyH.cons (o := { dst := some 35, op := Op.call { callee := Callee.builtin Builtin.append, args := #[Operand.tmp 32, Operand.tmp 34], argTypes := #[39, 39] }, type := 39, pos := "word.go:62", after := #[{ on := 5, ground := Ground.data }, { on := 7, ground := Ground.data }], guard := none }) rfl (fun K hK => ?_) AllReadyH.nil
            rw [if_pos (by rfl)]
            have z0 := Ex.size kx
            have oi := OQ.out.2.2.1 KX _ _ HQ.out HCC.out
            refine wp_append_rda (enc := encN) _ (.tmp 32) (.tmp 34) 39 rfl w1.heap.size 48 (.agg #[.int .i64 0, .string ByteArray.empty, .int .u32 0]) 3 32 Tryd.underlying39 Tryd.infoN rfl (by omega) (by omega) _ c oi rfl _ _ 1 1 [y] SX (fun h => by cases h) (fun _ => rfl) (by simp [encN, Value.oneCell']) rfl hcl (by omega) z0 ?_
            intro v8 w8 own8 ch0 ch1 hat
            rw [← HCY.out] at own8
            obtain ⟨a8, cap8, rfl, _, _, _, _⟩ := own8.rd (fun _ => rfl)
            obtain ⟨pc, pf, OQ2⟩ := OwnQ.put (q' := (a8, cy.length, cap8)) OQ.out HQ.out own8 ch0 hat
            replace kx : Ex w1 w8 := Chg.trans kx ch1
            replace OQ := Lib.hid OQ2
            clear OQ2 own8 ch0 ch1 hat oi z0 SX
            refine hK.out _ _ (trivial) (fun hHeld => ?_)
            clear hK K
            try simp only [Act.put, List.setIfInBounds_toArray, List.set_cons_zero, List.set_cons_succ]
            refine wpAnyH_take (i := 9) (oi := { dst := some 36, op := Op.indexAddr 44 (Operand.tmp 27) (Operand.tmp 28), type := 0, pos := "word.go:62", after := #[{ on := 0, ground := Ground.data }, { on := 1, ground := Ground.data }, { on := 0, ground := Ground.phase }, { on := 1, ground := Ground.phase }, { on := 2, ground := Ground.phase }, { on := 3, ground := Ground.phase }, { on := 4, ground := Ground.phase }, { on := 5, ground := Ground.phase }, { on := 6, ground := Ground.phase }, { on := 7, ground := Ground.phase }, { on := 8, ground := Ground.phase }], guard := none }) (v := ?_) rfl (by kernel_rfl) (by kernel_rfl) (by kernel_rfl) (fun _ _ _ h => h) (Or.inl ⟨by rfl, ?hyr1x9q123⟩) (by assumption) ?restr1x9q123
            case hyr1x9q123 => intro wq hSw; (go_simp); (try with_reducible rfl)
            try simp only [Act.put, List.setIfInBounds_toArray, List.set_cons_zero, List.set_cons_succ]
            refine wpAnyH_ready (rs := [10]) (by kernel_rfl) (by simp) ?_
            refine AllReadyH.cons (o := { dst := none, op := Op.store 39 (Operand.tmp 36) (Operand.tmp 35), type := 0, pos := "word.go:62", after := #[{ on := 9, ground := Ground.data }, { on := 8, ground := Ground.data }, { on := 8, ground := Ground.chain }, { on := 0, ground := Ground.phase }, { on := 1, ground := Ground.phase }, { on := 2, ground := Ground.phase }, { on := 3, ground := Ground.phase }, { on := 4, ground := Ground.phase }, { on := 5, ground := Ground.phase }, { on := 6, ground := Ground.phase }, { on := 7, ground := Ground.phase }, { on := 8, ground := Ground.phase }], guard := none }) rfl (fun K hK => ?_) AllReadyH.nil
            go_simp
            clear pc pf
            refine hK.out _ _ (trivial) (fun hHeld => ?_)
            clear hK K
            try simp only [Act.put, List.setIfInBounds_toArray, List.set_cons_zero, List.set_cons_succ]
            refine wpAnyH_done (by kernel_rfl) ?_ _
            replace kx := kx.setNew (p := ⟨g4, KX, none⟩) (Hdr.val (a8, cy.length, cap8)) hg4
            obtain ⟨wz, hwz⟩ : ∃ wz, wz = w8.setCell ⟨g4, KX, none⟩ (.slice a8 cy.length cap8) := ⟨_, rfl⟩
            have OQ := Lib.hid (OwnQ.cast OQ.out (w' := wz) hwz)
            have kx : Ex w1 wz := by rw [hwz]; exact kx
            rw [← hwz]
            clear hwz SXF hHeld hn5 hcl
            go_wp2_with fail
            exact ⟨⟨k + 1, _, by omega, by go_num, by rw [FSn.out, FIN.out]; exact OQ.out, kx⟩, by simp [intOf]; omega⟩
          refine AllReadyH.cons (o := { dst := some 34, op := Op.buildSlice 39 1 #[(0, Operand.tmp 33)], type := 39, pos := "word.go:62", after := #[{ on := 6, ground := Ground.data }], guard := none }) rfl (fun K hK => ?_) AllReadyH.nil
          · go_simp
            have SX := SXF wa.drew
            have e7 := Ex.new wa.drew (.cells #[.int .i64 y.id, .string y.key, .int .u32 y.word] 48)
            replace OQ := Lib.hid (OQ.out.nx e7)
            replace kx := kx.nx e7
            clear e7
            refine hK.out _ _ (trivial) (fun hHeld => ?_)
            clear hK K
            try simp only [Act.put, List.setIfInBounds_toArray, List.set_cons_zero, List.set_cons_succ]
            refine wpAnyH_ready (rs := [5]) (by kernel_rfl) (by simp) ?_
            refine AllReadyH.cons (o := { dst := some 32, op := Op.load 39 (Operand.tmp 31), type := 39, pos := "word.go:62", after := #[{ on := 4, ground := Ground.data }], guard := none }) rfl (fun K hK => ?_) AllReadyH.nil
            have cc := (own_cellH OQ.out.1 HQ.out).1
            simp only [Hdr.val] at cc
            (try have cc2 : (wa.alloc (.cells #[.int .i64 y.id, .string y.key, .int .u32 y.word] 48)).cell? ⟨g4, KX, none⟩ = some (.slice qa qn qc) := cc)
            go_simp
            clear cc
            (try clear cc2)
            refine hK.out _ _ (trivial) (fun hHeld => ?_)
            clear hK K
            try simp only [Act.put, List.setIfInBounds_toArray, List.set_cons_zero, List.set_cons_succ]
            refine wpAnyH_ready (rs := [8]) (by kernel_rfl) (by simp) ?_
            refine AllReadyH.cons (o := { dst := some 35, op := Op.call { callee := Callee.builtin Builtin.append, args := #[Operand.tmp 32, Operand.tmp 34], argTypes := #[39, 39] }, type := 39, pos := "word.go:62", after := #[{ on := 5, ground := Ground.data }, { on := 7, ground := Ground.data }], guard := none }) rfl (fun K hK => ?_) AllReadyH.nil
            rw [if_pos (by rfl)]
            have z0 := Ex.size kx
            have oi := OQ.out.2.2.1 KX _ _ HQ.out HCC.out
            refine wp_append_rda (enc := encN) _ (.tmp 32) (.tmp 34) 39 rfl w1.heap.size 48 (.agg #[.int .i64 0, .string ByteArray.empty, .int .u32 0]) 3 32 Tryd.underlying39 Tryd.infoN rfl (by omega) (by omega) _ c oi rfl _ _ 1 1 [y] SX (fun h => by cases h) (fun _ => rfl) (by simp [encN, Value.oneCell']) rfl hcl (by omega) z0 ?_
            intro v8 w8 own8 ch0 ch1 hat
            rw [← HCY.out] at own8
            obtain ⟨a8, cap8, rfl, _, _, _, _⟩ := own8.rd (fun _ => rfl)
            obtain ⟨pc, pf, OQ2⟩ := OwnQ.put (q' := (a8, cy.length, cap8)) OQ.out HQ.out own8 ch0 hat
            replace kx : Ex w1 w8 := Chg.trans kx ch1
            replace OQ := Lib.hid OQ2
            clear OQ2 own8 ch0 ch1 hat oi z0 SX
            refine hK.out _ _ (trivial) (fun hHeld => ?_)
            clear hK K
            try simp only [Act.put, List.setIfInBounds_toArray, List.set_cons_zero, List.set_cons_succ]
            refine wpAnyH_take (i := 9) (oi := { dst := some 36, op := Op.indexAddr 44 (Operand.tmp 27) (Operand.tmp 28), type := 0, pos := "word.go:62", after := #[{ on := 0, ground := Ground.data }, { on := 1, ground := Ground.data }, { on := 0, ground := Ground.phase }, { on := 1, ground := Ground.phase }, { on := 2, ground := Ground.phase }, { on := 3, ground := Ground.phase }, { on := 4, ground := Ground.phase }, { on := 5, ground := Ground.phase }, { on := 6, ground := Ground.phase }, { on := 7, ground := Ground.phase }, { on := 8, ground := Ground.phase }], guard := none }) (v := ?_) rfl (by kernel_rfl) (by kernel_rfl) (by kernel_rfl) (fun _ _ _ h => h) (Or.inl ⟨by rfl, ?hyr1x9q172⟩) (by assumption) ?restr1x9q172
            case hyr1x9q172 => intro wq hSw; (go_simp); (try with_reducible rfl)
            try simp only [Act.put, List.setIfInBounds_toArray, List.set_cons_zero, List.set_cons_succ]
            refine wpAnyH_ready (rs := [10]) (by kernel_rfl) (by simp) ?_
            refine AllReadyH.cons (o := { dst := none, op := Op.store 39 (Operand.tmp 36) (Operand.tmp 35), type := 0, pos := "word.go:62", after := #[{ on := 9, ground := Ground.data }, { on := 8, ground := Ground.data }, { on := 8, ground := Ground.chain }, { on := 0, ground := Ground.phase }, { on := 1, ground := Ground.phase }, { on := 2, ground := Ground.phase }, { on := 3, ground := Ground.phase }, { on := 4, ground := Ground.phase }, { on := 5, ground := Ground.phase }, { on := 6, ground := Ground.phase }, { on := 7, ground := Ground.phase }, { on := 8, ground := Ground.phase }], guard := none }) rfl (fun K hK => ?_) AllReadyH.nil
            go_simp
            clear pc pf
            refine hK.out _ _ (trivial) (fun hHeld => ?_)
            clear hK K
            try simp only [Act.put, List.setIfInBounds_toArray, List.set_cons_zero, List.set_cons_succ]
            refine wpAnyH_done (by kernel_rfl) ?_ _
            replace kx := kx.setNew (p := ⟨g4, KX, none⟩) (Hdr.val (a8, cy.length, cap8)) hg4
            obtain ⟨wz, hwz⟩ : ∃ wz, wz = w8.setCell ⟨g4, KX, none⟩ (.slice a8 cy.length cap8) := ⟨_, rfl⟩
            have OQ := Lib.hid (OwnQ.cast OQ.out (w' := wz) hwz)
            have kx : Ex w1 wz := by rw [hwz]; exact kx
            rw [← hwz]
            clear hwz SXF hHeld hn5 hcl
            go_wp2_with fail
            exact ⟨⟨k + 1, _, by omega, by go_num, by rw [FSn.out, FIN.out]; exact OQ.out, kx⟩, by simp [intOf]; omega⟩
      · have IV : idxV C y.word h = (KX : Int) := by unfold idxV; rw [← hKX, if_pos (by omega)]
        rw [IV]
        obtain ⟨wa, rfl⟩ : ∃ wa : World, wa = w3 := ⟨_, rfl⟩
        have k0 : (0 : Int) ≤ (KX : Int) := by omega
        clear hKX IV
        have EC : Hid (C = padC C KX) := Lib.hid (by unfold padC; rw [if_neg (by omega)])
        have CLEN : Hid (∀ c ∈ C, c.length ≤ 1000000) := Lib.hid (fun c hc => Nat.le_trans (FF.out c hc).2.1 (by omega))
        have hKC : KX < C.length := by omega
        have NL : Hid (C.length ≤ 1000001) := Lib.hid (by omega)
        obtain ⟨a4, cap4, he4, ll4, _, _, some4⟩ := OQ.ll
        cases he4
        obtain ⟨g4, rfl, hg4⟩ := some4 (by intro h0; rw [h0] at hKC; simp at hKC)
        obtain ⟨c, hc⟩ : ∃ c, C[KX]? = some c := ⟨C[KX]'hKC, by simp⟩
        obtain ⟨⟨qa, qn, qc⟩, hq⟩ : ∃ q : Hdr, qs[KX]? = some q := ⟨qs[KX]'(by rw [OQ.2.1]; exact hKC), by simp⟩
        have hcl : c.length ≤ 1000000 := CLEN.out c (List.mem_of_getElem? hc)
        obtain ⟨cy, hcy⟩ : ∃ cy : List Nd, cy = c ++ [y] := ⟨_, rfl⟩
        have FIN : Hid (stepC h C y = C.set KX cy) := Lib.hid (by unfold stepC; rw [KI.out, ← EC.out, hc, hcy]; rfl)
        have HCY := Lib.hid hcy
        clear hcy
        have HQ := Lib.hid hq
        have HCC := Lib.hid hc
        have hn4 : (KX : Int) < (C.length : Int) := by omega
        have hn5 : C.length ≤ 1000001 := NL.out
        clear hc hq ll4 some4
        go_wp2_with fail
        have OQ := Lib.hid (OQ.nx (Ex.refl wa).drew)
        have kx := kx.nx (Ex.refl wa).drew
        have SXF : ∀ cur : World, Sl 3 encN (cur.alloc (.cells #[.int .i64 y.id, .string y.key, .int .u32 y.word] 48)) (some ⟨cur.heap.size, 0, none⟩) 1 [y] := fun cur => Sl.lit _ rfl rfl (fun _ => rfl) rfl
        refine wp_region_held_drew (S := fun _ => True) (by kernel_rfl) (trivial) (fun hHeld => ?_)
        refine wpAnyH_take (i := 0) (oi := { dst := some 27, op := Op.move (Operand.tmp 5), type := 44, pos := "word.go:62", after := #[], guard := none }) (v := ?_) rfl (by kernel_rfl) (by kernel_rfl) (by kernel_rfl) (fun _ _ _ h => h) (Or.inl ⟨by rfl, ?hyr2x0q1⟩) (by assumption) ?restr2x0q1
        case hyr2x0q1 => intro wq hSw; (go_simp); (try with_reducible rfl)
        try simp only [Act.put, List.setIfInBounds_toArray, List.set_cons_zero, List.set_cons_succ]
        refine wpAnyH_take (i := 1) (oi := { dst := some 28, op := Op.move (Operand.tmp 8), type := 3, pos := "word.go:62", after := #[], guard := none }) (v := ?_) rfl (by kernel_rfl) (by kernel_rfl) (by kernel_rfl) (fun _ _ _ h => h) (Or.inl ⟨by rfl, ?hyr2x1q4⟩) (by assumption) ?restr2x1q4
        case hyr2x1q4 => intro wq hSw; (go_simp); (try with_reducible rfl)
        try simp only [Act.put, List.setIfInBounds_toArray, List.set_cons_zero, List.set_cons_succ]
        refine wpAnyH_take (i := 2) (oi := { dst := some 29, op := Op.move (Operand.tmp 5), type := 44, pos := "word.go:62", after := #[], guard := none }) (v := ?_) rfl (by kernel_rfl) (by kernel_rfl) (by kernel_rfl) (fun _ _ _ h => h) (Or.inl ⟨by rfl, ?hyr2x2q7⟩) (by assumption) ?restr2x2q7
        case hyr2x2q7 => intro wq hSw; (go_simp); (try with_reducible rfl)
        try simp only [Act.put, List.setIfInBounds_toArray, List.set_cons_zero, List.set_cons_succ]
        refine wpAnyH_take (i := 3) (oi := { dst := some 30, op := Op.move (Operand.tmp 8), type := 3, pos := "word.go:62", after := #[], guard := none }) (v := ?_) rfl (by kernel_rfl) (by kernel_rfl) (by kernel_rfl) (fun _ _ _ h => h) (Or.inl ⟨by rfl, ?hyr2x3q10⟩) (by assumption) ?restr2x3q10
        case hyr2x3q10 => intro wq hSw; (go_simp); (try with_reducible rfl)
        try simp only [Act.put, List.setIfInBounds_toArray, List.set_cons_zero, List.set_cons_succ]
        refine wpAnyH_take (i := 4) (oi := { dst := some 31, op := Op.indexAddr 44 (Operand.tmp 29) (Operand.tmp 30), type := 0, pos := "word.go:62", after := #[{ on := 2, ground := Ground.data }, { on := 3, ground := Ground.data }], guard := none }) (v := ?_) rfl (by kernel_rfl) (by kernel_rfl) (by kernel_rfl) (fun _ _ _ h => h) (Or.inl ⟨by rfl, ?hyr2x4q13⟩) (by assumption) ?restr2x4q13
        case hyr2x4q13 => intro wq hSw; (go_simp); (try with_reducible rfl)
        try simp only [Act.put, List.setIfInBounds_toArray, List.set_cons_zero, List.set_cons_succ]
        refine wpAnyH_ready (rs := [5, 6]) (by kernel_rfl) (by simp) ?_
        refine AllReadyH.cons (o := { dst := some 32, op := Op.load 39 (Operand.tmp 31), type := 39, pos := "word.go:62", after := #[{ on := 4, ground := Ground.data }], guard := none }) rfl (fun K hK => ?_) ?_
        · have cc := (own_cellH OQ.out.1 HQ.out).1
          simp only [Hdr.val] at cc
          (try have cc2 : (wa.alloc (.cells #[.int .i64 y.id, .string y.key, .int .u32 y.word] 48)).cell? ⟨g4, KX, none⟩ = some (.slice qa qn qc) := cc)
          go_simp
          clear cc
          (try clear cc2)
          refine hK.out _ _ (trivial) (fun hHeld => ?_)
          clear hK K
          try simp only [Act.put, List.setIfInBounds_toArray, List.set_cons_zero, List.set_cons_succ]
          refine wpAnyH_ready (rs := [6]) (by kernel_rfl) (by simp) ?_
          refine AllReadyH.cons (o := { dst := some 33, op := Op.load 48 (Operand.tmp 7), type := 48, pos := "word.go:62", after := #[], guard := none }) rfl (fun K hK => ?_) AllReadyH.nil
          have b0 := B7.out.cell 0 _ rfl
          have b1 := B7.out.cell 1 _ rfl
          have b2 := B7.out.cell 2 _ rfl
          go_simp
          clear b0 b1 b2
          refine hK.out _ _ (trivial) (fun hHeld => ?_)
          clear hK K
          try simp only [Act.put, List.setIfInBounds_toArray, List.set_cons_zero, List.set_cons_succ]
          refine wpAnyH_ready (rs := [7]) (by kernel_rfl) (by simp) ?_
          refine AllReadyH.cons (o := { dst := some 34, op := Op.buildSlice 39 1 #[(0, Operand.tmp 33)], type := 39, pos := "word.go:62", after := #[{ on := 6, ground := Ground.data }], guard := none }) rfl (fun K hK => ?_) AllReadyH.nil
          go_simp
          have SX := SXF wa.drew
          have e7 := Ex.new wa.drew (.cells #[.int .i64 y.id, .string y.key, .int .u32 y.word] 48)
          replace OQ := Lib.hid (OQ.out.nx e7)
          replace kx := kx.nx e7
          clear e7
          refine hK.out _ _ (trivial) (fun hHeld => ?_)
          clear hK K
          try simp only [Act.put, List.setIfInBounds_toArray, List.set_cons_zero, List.set_cons_succ]
          refine wpAnyH_ready (rs := [8]) (by kernel_rfl) (by simp) ?_
          refine AllReadyH.cons (o := { dst := some 35, op := Op.call { callee := Callee.builtin Builtin.append, args := #[Operand.tmp 32, Operand.tmp 34], argTypes := #[39, 39] }, type := 39, pos := "word.go:62", after := #[{ on := 5, ground := Ground.data }, { on := 7, ground := Ground.data }], guard := none }) rfl (fun K hK => ?_) AllReadyH.nil
          rw [if_pos (by rfl)]
          have z0 := Ex.size kx
          have oi := OQ.out.2.2.1 KX _ _ HQ.out HCC.out
          refine wp_append_rda (enc := encN) _ (.tmp 32) (.tmp 34) 39 rfl w1.heap.size 48 (.agg #[.int .i64 0, .string ByteArray.empty, .int .u32 0]) 3 32 Tryd.underlying39 Tryd.infoN rfl (by omega) (by omega) _ c oi rfl _ _ 1 1 [y] SX (fun h => by cases h) (fun _ => rfl) (by simp [encN, Value.oneCell']) rfl hcl (by omega) z0 ?_
          intro v8 w8 own8 ch0 ch1 hat
          rw [← HCY.out] at own8
          obtain ⟨a8, cap8, rfl, _, _, _, _⟩ := own8.rd (fun _ => rfl)
          obtain ⟨pc, pf, OQ2⟩ := OwnQ.put (q' := (a8, cy.length, cap8)) OQ.out HQ.out own8 ch0 hat
          replace kx : Ex w1 w8 := Chg.trans kx ch1
          replace OQ := Lib.hid OQ2
          clear OQ2 own8 ch0 ch1 hat oi z0 SX
          refine hK.out _ _ (trivial) (fun hHeld => ?_)
          clear hK K
          try simp only [Act.put, List.setIfInBounds_toArray, List.set_cons_zero, List.set_cons_succ]
          refine wpAnyH_take (i := 9) (oi := { dst := some 36, op := Op.indexAddr 44 (Operand.tmp 27) (Operand.tmp 28), type := 0, pos := "word.go:62", after := #[{ on := 0, ground := Ground.data }, { on := 1, ground := Ground.data }, { on := 0, ground := Ground.phase }, { on := 1, ground := Ground.phase }, { on := 2, ground := Ground.phase }, { on := 3, ground := Ground.phase }, { on := 4, ground := Ground.phase }, { on := 5, ground := Ground.phase }, { on := 6, ground := Ground.phase }, { on := 7, ground := Ground.phase }, { on := 8, ground := Ground.phase }], guard := none }) (v := ?_) rfl (by kernel_rfl) (by kernel_rfl) (by kernel_rfl) (fun _ _ _ h => h) (Or.inl ⟨by rfl, ?hyr2x9q64⟩) (by assumption) ?restr2x9q64
          case hyr2x9q64 => intro wq hSw; (go_simp); (try with_reducible rfl)
          try simp only [Act.put, List.setIfInBounds_toArray, List.set_cons_zero, List.set_cons_succ]
          refine wpAnyH_ready (rs := [10]) (by kernel_rfl) (by simp) ?_
          refine AllReadyH.cons (o := { dst := none, op := Op.store 39 (Operand.tmp 36) (Operand.tmp 35), type := 0, pos := "word.go:62", after := #[{ on := 9, ground := Ground.data }, { on := 8, ground := Ground.data }, { on := 8, ground := Ground.chain }, { on := 0, ground := Ground.phase }, { on := 1, ground := Ground.phase }, { on := 2, ground := Ground.phase }, { on := 3, ground := Ground.phase }, { on := 4, ground := Ground.phase }, { on := 5, ground := Ground.phase }, { on := 6, ground := Ground.phase }, { on := 7, ground := Ground.phase }, { on := 8, ground := Ground.phase }], guard := none }) rfl (fun K hK => ?_) AllReadyH.nil
          go_simp
          clear pc pf
          refine hK.out _ _ (trivial) (fun hHeld => ?_)
          clear hK K
          try simp only [Act.put, List.setIfInBounds_toArray, List.set_cons_zero, List.set_cons_succ]
          refine wpAnyH_done (by kernel_rfl) ?_ _
          replace kx := kx.setNew (p := ⟨g4, KX, none⟩) (Hdr.val (a8, cy.length, cap8)) hg4
          obtain ⟨wz, hwz⟩ : ∃ wz, wz = w8.setCell ⟨g4, KX, none⟩ (.slice a8 cy.length cap8) := ⟨_, rfl⟩
          have OQ := Lib.hid (OwnQ.cast OQ.out (w' := wz) hwz)
          have kx : Ex w1 wz := by rw [hwz]; exact kx
          rw [← hwz]
          clear hwz SXF hHeld hn5 hcl
          go_wp2_with fail
          exact ⟨⟨k + 1, _, by omega, by go_num, by rw [FSn.out, FIN.out]; exact OQ.out, kx⟩, by simp [intOf]; omega⟩
        refine AllReadyH.cons (o := { dst := some 33, op := Op.load 48 (Operand.tmp 7), type := 48, pos := "word.go:62", after := #[], guard := none }) rfl (fun K hK => ?_) AllReadyH.nil
        · have b0 := B7.out.cell 0 _ rfl
          have b1 := B7.out.cell 1 _ rfl
          have b2 := B7.out.cell 2 _ rfl
          go_simp
          clear b0 b1 b2
          refine hK.out _ _ (trivial) (fun hHeld => ?_)
          clear hK K
          try simp only [Act.put, List.setIfInBounds_toArray, List.set_cons_zero, List.set_cons_succ]
          refine wpAnyH_ready (rs := [5, 7]) (by kernel_rfl) (by simp) ?_
          refine AllReadyH.cons (o := { dst := some 32, op := Op.load 39 (Operand.tmp 31), type := 39, pos := "word.go:62", after := #[{ on := 4, ground := Ground.data }], guard := none }) rfl (fun K hK => ?_) ?_
          · have cc := (own_cellH OQ.out.1 HQ.out).1
            simp only [Hdr.val] at cc
            (try have cc2 : (wa.alloc (.cells #[.int .i64 y.id, .string y.key, .int .u32 y.word] 48)).cell? ⟨g4, KX, none⟩ = some (.slice qa qn qc) := cc)
            go_simp
            clear cc
            (try clear cc2)
            refine hK.out _ _ (trivial) (fun hHeld => ?_)
            clear hK K
            try simp only [Act.put, List.setIfInBounds_toArray, List.set_cons_zero, List.set_cons_succ]
            refine wpAnyH_ready (rs := [7]) (by kernel_rfl) (by simp) ?_
            refine AllReadyH.cons (o := { dst := some 34, op := Op.buildSlice 39 1 #[(0, Operand.tmp 33)], type := 39, pos := "word.go:62", after := #[{ on := 6, ground := Ground.data }], guard := none }) rfl (fun K hK => ?_) AllReadyH.nil
            go_simp
            have SX := SXF wa.drew
            have e7 := Ex.new wa.drew (.cells #[.int .i64 y.id, .string y.key, .int .u32 y.word] 48)
            replace OQ := Lib.hid (OQ.out.nx e7)
            replace kx := kx.nx e7
            clear e7
            refine hK.out _ _ (trivial) (fun hHeld => ?_)
            clear hK K
            try simp only [Act.put, List.setIfInBounds_toArray, List.set_cons_zero, List.set_cons_succ]
            refine wpAnyH_ready (rs := [8]) (by kernel_rfl) (by simp) ?_
            refine AllReadyH.cons (o := { dst := some 35, op := Op.call { callee := Callee.builtin Builtin.append, args := #[Operand.tmp 32, Operand.tmp 34], argTypes := #[39, 39] }, type := 39, pos := "word.go:62", after := #[{ on := 5, ground := Ground.data }, { on := 7, ground := Ground.data }], guard := none }) rfl (fun K hK => ?_) AllReadyH.nil
            rw [if_pos (by rfl)]
            have z0 := Ex.size kx
            have oi := OQ.out.2.2.1 KX _ _ HQ.out HCC.out
            refine wp_append_rda (enc := encN) _ (.tmp 32) (.tmp 34) 39 rfl w1.heap.size 48 (.agg #[.int .i64 0, .string ByteArray.empty, .int .u32 0]) 3 32 Tryd.underlying39 Tryd.infoN rfl (by omega) (by omega) _ c oi rfl _ _ 1 1 [y] SX (fun h => by cases h) (fun _ => rfl) (by simp [encN, Value.oneCell']) rfl hcl (by omega) z0 ?_
            intro v8 w8 own8 ch0 ch1 hat
            rw [← HCY.out] at own8
            obtain ⟨a8, cap8, rfl, _, _, _, _⟩ := own8.rd (fun _ => rfl)
            obtain ⟨pc, pf, OQ2⟩ := OwnQ.put (q' := (a8, cy.length, cap8)) OQ.out HQ.out own8 ch0 hat
            replace kx : Ex w1 w8 := Chg.trans kx ch1
            replace OQ := Lib.hid OQ2
            clear OQ2 own8 ch0 ch1 hat oi z0 SX
            refine hK.out _ _ (trivial) (fun hHeld => ?_)
            clear hK K
            try simp only [Act.put, List.setIfInBounds_toArray, List.set_cons_zero, List.set_cons_succ]
            refine wpAnyH_take (i := 9) (oi := { dst := some 36, op := Op.indexAddr 44 (Operand.tmp 27) (Operand.tmp 28), type := 0, pos := "word.go:62", after := #[{ on := 0, ground := Ground.data }, { on := 1, ground := Ground.data }, { on := 0, ground := Ground.phase }, { on := 1, ground := Ground.phase }, { on := 2, ground := Ground.phase }, { on := 3, ground := Ground.phase }, { on := 4, ground := Ground.phase }, { on := 5, ground := Ground.phase }, { on := 6, ground := Ground.phase }, { on := 7, ground := Ground.phase }, { on := 8, ground := Ground.phase }], guard := none }) (v := ?_) rfl (by kernel_rfl) (by kernel_rfl) (by kernel_rfl) (fun _ _ _ h => h) (Or.inl ⟨by rfl, ?hyr2x9q123⟩) (by assumption) ?restr2x9q123
            case hyr2x9q123 => intro wq hSw; (go_simp); (try with_reducible rfl)
            try simp only [Act.put, List.setIfInBounds_toArray, List.set_cons_zero, List.set_cons_succ]
            refine wpAnyH_ready (rs := [10]) (by kernel_rfl) (by simp) ?_
            refine AllReadyH.cons (o := { dst := none, op := Op.store 39 (Operand.tmp 36) (Operand.tmp 35), type := 0, pos := "word.go:62", after := #[{ on := 9, ground := Ground.data }, { on := 8, ground := Ground.data }, { on := 8, ground := Ground.chain }, { on := 0, ground := Ground.phase }, { on := 1, ground := Ground.phase }, { on := 2, ground := Ground.phase }, { on := 3, ground := Ground.phase }, { on := 4, ground := Ground.phase }, { on := 5, ground := Ground.phase }, { on := 6, ground := Ground.phase }, { on := 7, ground := Ground.phase }, { on := 8, ground := Ground.phase }], guard := none }) rfl (fun K hK => ?_) AllReadyH.nil
            go_simp
            clear pc pf
            refine hK.out _ _ (trivial) (fun hHeld => ?_)
            clear hK K
            try simp only [Act.put, List.setIfInBounds_toArray, List.set_cons_zero, List.set_cons_succ]
            refine wpAnyH_done (by kernel_rfl) ?_ _
            replace kx := kx.setNew (p := ⟨g4, KX, none⟩) (Hdr.val (a8, cy.length, cap8)) hg4
            obtain ⟨wz, hwz⟩ : ∃ wz, wz = w8.setCell ⟨g4, KX, none⟩ (.slice a8 cy.length cap8) := ⟨_, rfl⟩
            have OQ := Lib.hid (OwnQ.cast OQ.out (w' := wz) hwz)
            have kx : Ex w1 wz := by rw [hwz]; exact kx
            rw [← hwz]
            clear hwz SXF hHeld hn5 hcl
            go_wp2_with fail
            exact ⟨⟨k + 1, _, by omega, by go_num, by rw [FSn.out, FIN.out]; exact OQ.out, kx⟩, by simp [intOf]; omega⟩
          refine AllReadyH.cons (o := { dst := some 34, op := Op.buildSlice 39 1 #[(0, Operand.tmp 33)], type := 39, pos := "word.go:62", after := #[{ on := 6, ground := Ground.data }], guard := none }) rfl (fun K hK => ?_) AllReadyH.nil
          · go_simp
            have SX := SXF wa.drew
            have e7 := Ex.new wa.drew (.cells #[.int .i64 y.id, .string y.key, .int .u32 y.word] 48)
            replace OQ := Lib.hid (OQ.out.nx e7)
            replace kx := kx.nx e7
            clear e7
            refine hK.out _ _ (trivial) (fun hHeld => ?_)
            clear hK K
            try simp only [Act.put, List.setIfInBounds_toArray, List.set_cons_zero, List.set_cons_succ]
            refine wpAnyH_ready (rs := [5]) (by kernel_rfl) (by simp) ?_
            refine AllReadyH.cons (o := { dst := some 32, op := Op.load 39 (Operand.tmp 31), type := 39, pos := "word.go:62", after := #[{ on := 4, ground := Ground.data }], guard := none }) rfl (fun K hK => ?_) AllReadyH.nil
            have cc := (own_cellH OQ.out.1 HQ.out).1
            simp only [Hdr.val] at cc
            (try have cc2 : (wa.alloc (.cells #[.int .i64 y.id, .string y.key, .int .u32 y.word] 48)).cell? ⟨g4, KX, none⟩ = some (.slice qa qn qc) := cc)
            go_simp
            clear cc
            (try clear cc2)
            refine hK.out _ _ (trivial) (fun hHeld => ?_)
            clear hK K
            try simp only [Act.put, List.setIfInBounds_toArray, List.set_cons_zero, List.set_cons_succ]
            refine wpAnyH_ready (rs := [8]) (by kernel_rfl) (by simp) ?_
            refine AllReadyH.cons (o := { dst := some 35, op := Op.call { callee := Callee.builtin Builtin.append, args := #[Operand.tmp 32, Operand.tmp 34], argTypes := #[39, 39] }, type := 39, pos := "word.go:62", after := #[{ on := 5, ground := Ground.data }, { on := 7, ground := Ground.data }], guard := none }) rfl (fun K hK => ?_) AllReadyH.nil
            rw [if_pos (by rfl)]
            have z0 := Ex.size kx
            have oi := OQ.out.2.2.1 KX _ _ HQ.out HCC.out
            refine wp_append_rda (enc := encN) _ (.tmp 32) (.tmp 34) 39 rfl w1.heap.size 48 (.agg #[.int .i64 0, .string ByteArray.empty, .int .u32 0]) 3 32 Tryd.underlying39 Tryd.infoN rfl (by omega) (by omega) _ c oi rfl _ _ 1 1 [y] SX (fun h => by cases h) (fun _ => rfl) (by simp [encN, Value.oneCell']) rfl hcl (by omega) z0 ?_
            intro v8 w8 own8 ch0 ch1 hat
            rw [← HCY.out] at own8
            obtain ⟨a8, cap8, rfl, _, _, _, _⟩ := own8.rd (fun _ => rfl)
            obtain ⟨pc, pf, OQ2⟩ := OwnQ.put (q' := (a8, cy.length, cap8)) OQ.out HQ.out own8 ch0 hat
            replace kx : Ex w1 w8 := Chg.trans kx ch1
            replace OQ := Lib.hid OQ2
            clear OQ2 own8 ch0 ch1 hat oi z0 SX
            refine hK.out _ _ (trivial) (fun hHeld => ?_)
            clear hK K
            try simp only [Act.put, List.setIfInBounds_toArray, List.set_cons_zero, List.set_cons_succ]
            refine wpAnyH_take (i := 9) (oi := { dst := some 36, op := Op.indexAddr 44 (Operand.tmp 27) (Operand.tmp 28), type := 0, pos := "word.go:62", after := #[{ on := 0, ground := Ground.data }, { on := 1, ground := Ground.data }, { on := 0, ground := Ground.phase }, { on := 1, ground := Ground.phase }, { on := 2, ground := Ground.phase }, { on := 3, ground := Ground.phase }, { on := 4, ground := Ground.phase }, { on := 5, ground := Ground.phase }, { on := 6, ground := Ground.phase }, { on := 7, ground := Ground.phase }, { on := 8, ground := Ground.phase }], guard := none }) (v := ?_) rfl (by kernel_rfl) (by kernel_rfl) (by kernel_rfl) (fun _ _ _ h => h) (Or.inl ⟨by rfl, ?hyr2x9q172⟩) (by assumption) ?restr2x9q172
            case hyr2x9q172 => intro wq hSw; (go_simp); (try with_reducible rfl)
            try simp only [Act.put, List.setIfInBounds_toArray, List.set_cons_zero, List.set_cons_succ]
            refine wpAnyH_ready (rs := [10]) (by kernel_rfl) (by simp) ?_
            refine AllReadyH.cons (o := { dst := none, op := Op.store 39 (Operand.tmp 36) (Operand.tmp 35), type := 0, pos := "word.go:62", after := #[{ on := 9, ground := Ground.data }, { on := 8, ground := Ground.data }, { on := 8, ground := Ground.chain }, { on := 0, ground := Ground.phase }, { on := 1, ground := Ground.phase }, { on := 2, ground := Ground.phase }, { on := 3, ground := Ground.phase }, { on := 4, ground := Ground.phase }, { on := 5, ground := Ground.phase }, { on := 6, ground := Ground.phase }, { on := 7, ground := Ground.phase }, { on := 8, ground := Ground.phase }], guard := none }) rfl (fun K hK => ?_) AllReadyH.nil
            go_simp
            clear pc pf
            refine hK.out _ _ (trivial) (fun hHeld => ?_)
            clear hK K
            try simp only [Act.put, List.setIfInBounds_toArray, List.set_cons_zero, List.set_cons_succ]
            refine wpAnyH_done (by kernel_rfl) ?_ _
            replace kx := kx.setNew (p := ⟨g4, KX, none⟩) (Hdr.val (a8, cy.length, cap8)) hg4
            obtain ⟨wz, hwz⟩ : ∃ wz, wz = w8.setCell ⟨g4, KX, none⟩ (.slice a8 cy.length cap8) := ⟨_, rfl⟩
            have OQ := Lib.hid (OwnQ.cast OQ.out (w' := wz) hwz)
            have kx : Ex w1 wz := by rw [hwz]; exact kx
            rw [← hwz]
            clear hwz SXF hHeld hn5 hcl
            go_wp2_with fail
            exact ⟨⟨k + 1, _, by omega, by go_num, by rw [FSn.out, FIN.out]; exact OQ.out, kx⟩, by simp [intOf]; omega⟩
    · obtain rfl : k = n := by omega
      rw [List.take_of_length_le (by rw [HL.out]; exact Nat.le_refl _)] at OQ
      obtain ⟨a3, cap3, rfl, ll3, hc3, _, _⟩ := OQ.ll
      have LL3 := Lib.hid ll3
      clear OQ ll3 hk hlt
      go_wp2_with fail
      go_ret
      exact ⟨a3, cap3, by rw [HF.out]; rfl, by rw [HF.out]; exact LL3.out, HK1.out.nx kx⟩
end Go.Proofs.YtenobfplmifomaaDoor
