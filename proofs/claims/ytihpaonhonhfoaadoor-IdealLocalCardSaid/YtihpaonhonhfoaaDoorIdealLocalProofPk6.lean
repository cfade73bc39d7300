/- Texts for the statement IdealLocalProof, part 6 of 7: BldW, BldQ, SameL, IlsR, Sane6, IdlL, TSome, Wo. -/
import Derived.Lib.SliceRun
import Derived.Test.YtihpaonhonhfoaaDoorIdealLocalProofPk2
import Derived.Test.YtihpaonhonhfoaaDoorIdealLocalProofPk3
import Derived.Test.YtihpaonhonhfoaaDoorIdealLocalProofPk4
import Derived.Test.YtihpaonhonhfoaaDoorIdealLocalProofPk5

/- Build of the package ideal. -/
namespace Go.Proofs.YtihpaonhonhfoaaDoor
open Go.RowKit

def posK (S : List Nd) : Nat → Int → Int
  | 0 => fun _ => 0
  | k + 1 => fun y => if y = (S[k]?.getD Nd.zero).id then (k : Int) else posK S k y
theorem posK_at {S : List Nd} (hd : S.Pairwise fun x y => x.id ≠ y.id) : ∀ (k p : Nat) (y : Nd), p < k → k ≤ S.length → S[p]? = some y → posK S k y.id = p
  | 0, _, _, h, _, _ => by omega
  | k + 1, p, y, hp, hk, hy => by
    unfold posK
    by_cases he : p = k
    · subst he; rw [hy]; exact if_pos rfl
    · obtain ⟨z, hz⟩ : ∃ z, S[k]? = some z := ⟨S[k], List.getElem?_eq_getElem (by omega)⟩
      have hne : y.id ≠ z.id := by
        obtain ⟨h1, e1⟩ := List.getElem?_eq_some_iff.1 hy
        obtain ⟨h2, e2⟩ := List.getElem?_eq_some_iff.1 hz
        have := List.pairwise_iff_getElem.1 hd p k h1 h2 (by omega)
        rwa [e1, e2] at this
      rw [hz, if_neg (by exact hne)]
      exact posK_at hd k p y (by omega) (by omega) hy
theorem rows0_snoc (S : List Nd) (m k : Nat) (x : Nd) (hx : S[k]? = some x) : rowsF (S.take (k + 1)) m (procB S 0) = rowsF (S.take k) m (procB S 0) ++ [(x.id, List.replicate m (0, 0))] := by
  unfold rowsF
  rw [take_snocN S k x hx, List.map_append]
  congr 1
  show [(x.id, (List.range m).map fun _ => ((0, 0) : Int × Int))] = _
  rw [List.map_const', List.length_range]
theorem lists_in {S : List Nd} {h : Int} : ∀ c ∈ listsN S h, ∀ x ∈ c, ∃ y ∈ S, y.id = x := by
  intro c hc x hx
  unfold listsN at hc
  split at hc
  · obtain ⟨d, hd, rfl⟩ := List.mem_map.1 hc
    obtain ⟨y, hy, rfl⟩ := List.mem_map.1 hx
    refine ⟨y, ?_, rfl⟩
    by_cases hh : 16 < h
    · rw [classesN_big hh] at hd; cases hd
    · rw [classesN_fold hh] at hd
      exact (sortN_mem S y).1 ((foldC_fine (h := h) (P := fun y => y ∈ sortN S) (sortN S) (fun _ hy => hy) d hd).2.2 y hy)
  · cases hc
theorem lists_sm {S : List Nd} {h : Int} (hl : S.length ≤ 1000) : (listsN S h).length ≤ 1000 ∧ ∀ c ∈ listsN S h, c.length ≤ 1000 := by
  unfold listsN
  split
  · have := classesN_sm (sortN S) h (by rw [sortN_length]; exact hl)
    refine ⟨by rw [List.length_map]; exact this.1, fun c hc => ?_⟩
    obtain ⟨d, hd, rfl⟩ := List.mem_map.1 hc
    unfold idsN
    rw [List.length_map]
    exact this.2 d hd
  · exact ⟨by simp, by simp⟩
def B1Rel (S : List Nd) (m b : Nat) (w : World) (o i : Value) (wr : World) : Prop :=
  ∃ (k : Nat) (qs : List (Int × Hdr)), k ≤ S.length ∧ i = .int .i64 k ∧ OwnLk w.heap.size wr o qs (rowsF (S.take k) m (procB S 0)) ∧ MapI wr b k (posK S k) ∧ Exb b w wr
def B2Rel (S : List Nd) (m base : Nat) (v : Value) (qs : List (Int × Hdr)) (w : World) (i : Value) (wr : World) : Prop :=
  ∃ j : Nat, j ≤ m ∧ i = .int .i64 j ∧ OwnLk base wr v qs (rowsF S m (procB S j)) ∧ Exq qs w wr
def B3Rel (S : List Nd) (m base j : Nat) (M : List (List Int)) (v : Value) (qs : List (Int × Hdr)) (w : World) (i : Value) (wr : World) : Prop :=
  ∃ q : Nat, q ≤ M.length ∧ i = .int .i64 q ∧ OwnLk base wr v qs (rowsF S m (procL j (M.take q) (procB S j))) ∧ Exq qs w wr
def B4Rel (S : List Nd) (m base j : Nat) (c : List Int) (F : FnL) (v : Value) (qs : List (Int × Hdr)) (w : World) (i : Value) (wr : World) : Prop :=
  ∃ r : Nat, (r < c.length ∨ r = 0) ∧ i = .int .i64 ((r : Int) + 1) ∧ OwnLk base wr v qs (rowsF S m (procI c j F r)) ∧ Exq qs w wr
theorem blk_ne {α : Type} {sz base g : Nat} {enc : α → List Value} {e ty : TypeId} {w : World} {v : Value} {l : List α} {cs : List Value} (h : OwnW sz enc e base w v l) (B : Blk w g cs ty) (hne : ty ≠ e) : ¬ v.ownBlock = some g := by
  intro hv
  obtain ⟨_, cur, e1⟩ := h.blk hv
  unfold Blk at B
  rw [B] at e1
  simp at e1
  exact hne e1.2
theorem own_out {base : Nat} {w : World} {v : Value} {qs : List (Int × Hdr)} {S : List Nd} {m : Nat} {F : FnL} (h : OwnLk base w v qs (rowsF S m F)) : ∃ a c, v = .slice a S.length c := by
  obtain ⟨a, c, e, _⟩ := h.1.rd (fun _ => rfl)
  refine ⟨a, c, ?_⟩
  rw [e, h.2.1]
  unfold rowsF
  rw [List.length_map]
theorem atI_of {c : List Int} {r : Nat} {x : Int} (h : c[r]? = some x) : atI c r = x := by unfold atI; rw [h]; rfl
theorem Chg.undrew {S : Nat → Prop} {w w' : World} (h : Chg S w w') : Chg S w.drew w' := ⟨h.1, h.2, h.3, h.4, h.5⟩
theorem mem_at {S : List Nd} {x : Int} (h : ∃ y : Nd, y ∈ S ∧ y.id = x) : ∃ (p : Nat) (y : Nd), S[p]? = some y ∧ y.id = x := by
  obtain ⟨y, hy, e⟩ := h
  obtain ⟨p, hp⟩ := List.mem_iff_getElem?.1 hy
  exact ⟨p, y, hp, e⟩

set_option maxRecDepth 100000 in
set_option maxHeartbeats 8000000 in
/-- what Build lays, in its own words -/
theorem build_q (a : Option Addr) (n c : Nat) (l : List Nd) (h : Int) (w : World) (hs : Sl 3 encN w a n l) (hn : n ≤ 1000) (hc : n ≤ c) (hm : c ≤ maxLen) (hw : ∀ x ∈ l, x.word < 4294967296) (hT : TabG w)
    (L : List Lkd) (e0 : Int) (hL1 : checkN l ≠ 0 → L = [] ∧ e0 = 1) (hL2 : checkN l = 0 → lvlN h = false → L = [] ∧ e0 = 2) (hL3 : checkN l = 0 → ∀ m : Nat, h = m → m ≤ 16 → L = rowsF (sortN l) (m + 1) (procB (sortN l) (m + 1)) ∧ e0 = 0) :
    Calls Tryd.prog 15 #[.slice a n c, .int .i64 h] w (LkPost L e0 w) := by
  have HW := Lib.hid hw
  have HL := Lib.hid hs.len
  have HT := Lib.hid hT
  have H1 := Lib.hid hL1
  have H2 := Lib.hid hL2
  have H3 := Lib.hid hL3
  have hmm := @run_makeMap Tryd.prog
  clear hw hT hL1 hL2 hL3
  go_enter Tryd.func15, Tryd.ntmps15
  go_wp2_with fail
  (with_reducible refine (ordered_p _ _ _ _ _ hs hn hc hm).mono ?_)
  rintro e w0 ⟨v, S, rfl, OS, ⟨hp, hsrt⟩, k0⟩
  have SL := Lib.hid hp.length_eq
  have SW : Hid (∀ x ∈ S, x.word < 4294967296) := Lib.hid (fun x hx => HW.out x (hp.mem_iff.1 hx))
  have HSR := Lib.hid hsrt
  replace HT := Lib.hid (HT.out.nx k0)
  have SOK : Hid (checkN l = 0 → ∀ x ∈ S, 1 ≤ x.id ∧ x.id ≤ 2147483647) := Lib.hid (fun h0 x hx => by
    have := roster_ok h0 x (hp.mem_iff.1 hx)
    exact ⟨this.2.1, this.2.2.1⟩)
  clear hp hsrt hs
  by_cases hck : checkN l = 0
  case neg =>
    obtain ⟨rfl, rfl⟩ := H1.out hck
    have d1 : (checkN l == 0) = false := by simpa using hck
    rw [d1]
    clear hck d1 OS
    go_wp2_with fail
    go_ret2
    exact ⟨_, [], rfl, OwnN.nil _ _ _ _ _ _ _ _, k0⟩
  have HCK := Lib.hid hck
  have d1 : (checkN l == 0) = true := by simpa using hck
  rw [d1]
  clear hck d1
  by_cases hlo : h < 0
  · obtain ⟨rfl, rfl⟩ := H2.out HCK.out (by unfold lvlN; simp; omega)
    clear OS
    go_wp2_with fail
    go_ret2
    exact ⟨_, [], rfl, OwnN.nil _ _ _ _ _ _ _ _, k0⟩
  by_cases hhi : 16 < h
  · obtain ⟨rfl, rfl⟩ := H2.out HCK.out (by unfold lvlN; simp; omega)
    clear OS
    go_wp2_with fail
    go_ret2
    exact ⟨_, [], rfl, OwnN.nil _ _ _ _ _ _ _ _, k0⟩
  obtain ⟨m, rfl⟩ := Int.eq_ofNat_of_zero_le (show 0 ≤ h by omega)
  have hm16 : m ≤ 16 := by omega
  obtain ⟨hLL, rfl⟩ := H3.out HCK.out m rfl hm16
  rw [← HSR.out HCK.out] at hLL
  have HLL := Lib.hid hLL
  have ID : Hid (S.Pairwise fun x y => x.id ≠ y.id) := Lib.hid (by
    rw [HSR.out HCK.out]
    exact (sortN_str HCK.out).imp (fun h => h.2))
  have SOK := Lib.hid (SOK.out HCK.out)
  obtain ⟨M1, hM1⟩ : ∃ M1, M1 = m + 1 := ⟨_, rfl⟩
  rw [← hM1] at HLL
  have HM1 := Lib.hid hM1
  have hM17 : M1 ≤ 17 := by omega
  clear hM1
  obtain ⟨aS, cS, rfl, sS, hcS, hmS⟩ := OS.sl3 (fun _ => rfl)
  have hnS : S.length ≤ 1000 := by have := HL.out; have := SL.out; omega
  clear OS hLL H1 H2 H3 hlo hhi
  obtain ⟨w1, hw1⟩ : ∃ w1, w1 = w0.alloc (.map #[] 0) := ⟨_, rfl⟩
  obtain ⟨b, hb⟩ : ∃ b, b = w0.heap.size := ⟨_, rfl⟩
  have MI : MapI w1 b 0 (posK S 0) := by rw [hw1, hb]; exact MapI.made w0
  have k1 : Ex w0 w1 := by rw [hw1]; exact Ex.new _ _
  have sSb := (sS.slb (Nat.le_of_eq hb.symm)).nxb (k1.b b)
  have hb0 : w.heap.size ≤ b := by have := k0.size; omega
  have HT1 := Lib.hid (HT.out.nx k1)
  have hTb : 1 < b := by have := HT.out.lt; omega
  have hTb := Lib.hid hTb
  have hbw1 : b < w1.heap.size := MI.lt
  have HW1 := Lib.hid hw1
  have HB := Lib.hid hb
  have K1 := Lib.hid (k0.nx k1)
  have SSB := Lib.hid sSb
  clear hw1 hb k0 k1 sS sSb
  go_upto_region 7 with fail
  rw [← HB.out, ← HW1.out]
  go_wp2_with fail
  go_loopw [9, 32] (fun o i wr => B1Rel S M1 b w1 o i wr) (fun _ i _ => S.length - (intOf i).toNat)
  case atStart => exact ⟨0, [], by omega, rfl, OwnN.nil _ _ _ _ _ _ _ _, MI, Exb.refl _ _⟩
  case round =>
    clear MI
    obtain ⟨k, qs, hk, rfl, OQ, MI, kw⟩ := hrel
    obtain ⟨wo, rfl⟩ : ∃ wo : World, wo = wr := ⟨_, rfl⟩
    by_cases hlt : k < S.length
    · obtain ⟨x1, o1, y, rfl, hx1, hy, hc1⟩ := ((SSB.out.nxb kw).sl).at hlt
      obtain ⟨yi, yk, yw⟩ := y
      have e0 : wo.cell? ⟨x1, o1 + k * 3, none⟩ = some (.int .i64 yi) := hc1 0 _ rfl
      have e1 : wo.cell? ⟨x1, o1 + k * 3 + 1, none⟩ = some (.string yk) := hc1 1 _ rfl
      have e2 : wo.cell? ⟨x1, o1 + k * 3 + 2, none⟩ = some (.int .u32 yw) := hc1 2 _ rfl
      have e2' : wo.cell? ⟨x1, o1 + k * 3 + 1 + 1, none⟩ = some (.int .u32 yw) := e2
      have RS := Lib.hid (rows0_snoc S M1 k _ hy)
      have hid := SOK.out _ (List.mem_of_getElem? hy)
      have hid1 : 1 ≤ yi := hid.1
      have hid2 : yi ≤ 2147483647 := hid.2
      have PK : Hid ((fun y => if y = yi then (k : Int) else posK S k y) = posK S (k + 1)) := Lib.hid (by
        show _ = fun y => if y = (S[k]?.getD Nd.zero).id then (k : Int) else posK S k y
        rw [hy]; rfl)
      clear hy hc1 hid
      have k7 := Ex.new wo (.cells #[.int .i64 yi, .string yk, .int .u32 yw] 48)
      have B4 := Blk.new wo [.int .i64 yi, .string yk, .int .u32 yw] 48
      obtain ⟨w7, hw7⟩ : ∃ w7, w7 = wo.alloc (.cells #[.int .i64 yi, .string yk, .int .u32 yw] 48) := ⟨_, rfl⟩
      obtain ⟨g4, hg4⟩ : ∃ g4, g4 = wo.heap.size := ⟨_, rfl⟩
      have B4 : Blk w7 g4 [.int .i64 yi, .string yk, .int .u32 yw] 48 := by rw [hw7, hg4]; exact B4
      rw [← hw7] at k7
      have hg4b : g4 ≠ b := by have := MI.lt; omega
      have HW7 := Lib.hid hw7
      have HG4 := Lib.hid hg4
      replace OQ := OwnN.nx OQ k7
      replace MI := MI.nx k7
      replace kw := kw.nxb (k7.b b)
      clear hw7 hg4 k7
      go_upto_region 11 with fail
      rw [← HG4.out, ← HW7.out]
      clear e0 e1 e2 e2'
      obtain ⟨wm, hrun, MI2, km⟩ := MI.put (x := yi) (v := k) (by omega) (by omega) (show k < maxLen by unfold maxLen; omega)
      have y0 := B4.cell 0 _ rfl
      have B4m := Lib.hid (B4.nxb hg4b km)
      have OQm := Lib.hid (OwnN.nxb OQ hbw1 km)
      replace kw := Lib.hid (kw.nxb km)
      rw [PK.out] at MI2
      have MI2 := Lib.hid MI2
      clear OQ MI B4 km
      go_upto_region 12 with fail
      clear hrun y0
      have B4d := Lib.hid (B4m.out.nx (Ex.refl wm).drew)
      obtain ⟨Z, hZ⟩ : ∃ Z, Z = ((List.replicate M1 ((0, 0) : Int × Int)).flatMap encS).toArray := ⟨_, rfl⟩
      have cm : (Instr.makeSlice 53 (.int .i64 ((m : Int) + 1)) (.int .i64 ((m : Int) + 1))).run Tryd.prog wm.drew = .ok (.slice (some ⟨wm.drew.heap.size, 0, none⟩) M1 M1) (wm.drew.alloc (.cells Z 36)) := by
        rw [hZ]; exact mkLk m M1 hm16 HM1.out _
      have CM := Lib.hid cm
      have HZ := Lib.hid hZ
      have hbs : w1.heap.size ≤ wm.heap.size := kw.out.size
      have IN : Hid (OwnL 2 encS 36 w1.heap.size (wm.alloc (.cells Z 36)) (.slice (some ⟨wm.heap.size, 0, none⟩) M1 M1) (List.replicate M1 ((0, 0) : Int × Int))) := Lib.hid (by
        have := OwnL.lit (sz := 2) (enc := encS) (e := 36) (base := w1.heap.size) (w := wm) (List.replicate M1 ((0, 0) : Int × Int)) (fun _ => rfl) hbs (by rw [List.length_replicate]; unfold maxLen; omega) (cs := Z) hZ
        rwa [List.length_replicate] at this)
      have hkq : qs.length = k := by rw [OQm.out.2.1]; unfold rowsF; rw [List.length_map, List.length_take]; omega
      have hkq := Lib.hid hkq
      have FR : Hid (∀ (j : Nat) (r : Int × Hdr) (g : Nat), qs[j]? = some r → r.2.val.ownBlock = some g → ¬ (Value.slice (some ⟨wm.heap.size, 0, none⟩) M1 M1).ownBlock = some g) := Lib.hid (by
        intro j r g hr hg hv
        have h1 : g < wm.heap.size := OwnN.lt OQm.out hr hg
        cases hv
        exact Nat.lt_irrefl _ h1)
      have wrm : IntKind.i64.wrap ((m : Int) + 1) = (m : Int) + 1 := IntWalk.i64_in _ (by omega)
      have NB := Lib.hid (blk_ne OQm.out.1 B4m.out (by decide))
      have G4L : Hid (g4 < wm.heap.size) := Lib.hid B4m.out.lt
      clear cm hZ
      refine wp_region_held_drew (S := Chg (· = g4) wm.drew) (by kernel_rfl) (Chg.refl _ _) (fun hHeld => ?_)
      refine wpAnyH_take (i := 0) (oi := ⟨some 41, .move (.tmp 9), 31, "ideal.go:79", #[], none⟩) (v := ?_) rfl (by kernel_rfl) (by kernel_rfl) (by kernel_rfl) (fun _ _ _ h => h) (Or.inl ⟨by rfl, ?hyr1x0q1⟩) (by assumption) ?restr1x0q1
      case hyr1x0q1 => intro wq hSw; (go_simp); (try with_reducible rfl)
      try simp only [Act.put, List.setIfInBounds_toArray, List.set_cons_zero, List.set_cons_succ]
      refine wpAnyH_take (i := 1) (oi := ⟨some 42, .fieldAddr 48 (.tmp 11) 0, 0, "ideal.go:79", #[], none⟩) (v := ?_) rfl (by kernel_rfl) (by kernel_rfl) (by kernel_rfl) (fun _ _ _ h => h) (Or.inl ⟨by rfl, ?hyr1x1q4⟩) (by assumption) ?restr1x1q4
      case hyr1x1q4 => intro wq hSw; (go_simp); (try with_reducible rfl)
      try simp only [Act.put, List.setIfInBounds_toArray, List.set_cons_zero, List.set_cons_succ]
      refine wpAnyH_take (i := 2) (oi := ⟨some 43, .load 3 (.tmp 42), 3, "ideal.go:79", #[⟨1, .data⟩], none⟩) (v := ?_) rfl (by kernel_rfl) (by kernel_rfl) (by kernel_rfl) (fun _ _ _ h => h) (Or.inl ⟨by rfl, ?hyr1x2q7⟩) (by assumption) ?restr1x2q7
      case hyr1x2q7 => intro wq hSw; (have cq := (B4d.out.chg hSw rfl).cell 0 _ rfl; go_simp); (try with_reducible rfl)
      try simp only [Act.put, List.setIfInBounds_toArray, List.set_cons_zero, List.set_cons_succ]
      refine wpAnyH_take (i := 3) (oi := ⟨some 44, .move (.tmp 1), 3, "ideal.go:79", #[], none⟩) (v := ?_) rfl (by kernel_rfl) (by kernel_rfl) (by kernel_rfl) (fun _ _ _ h => h) (Or.inl ⟨by rfl, ?hyr1x3q10⟩) (by assumption) ?restr1x3q10
      case hyr1x3q10 => intro wq hSw; (go_simp); (try with_reducible rfl)
      try simp only [Act.put, List.setIfInBounds_toArray, List.set_cons_zero, List.set_cons_succ]
      refine wpAnyH_take (i := 4) (oi := ⟨some 45, .binOp .add 3 (.tmp 44) (.const (.int .i64 1)) 3, 3, "ideal.go:79", #[⟨3, .data⟩], none⟩) (v := ?_) rfl (by kernel_rfl) (by kernel_rfl) (by kernel_rfl) (fun _ _ _ h => h) (Or.inl ⟨by rfl, ?hyr1x4q13⟩) (by assumption) ?restr1x4q13
      case hyr1x4q13 => intro wq hSw; (go_simp); (try with_reducible rfl)
      try simp only [Act.put, List.setIfInBounds_toArray, List.set_cons_zero, List.set_cons_succ]
      refine wpAnyH_ready (rs := [5]) (by kernel_rfl) (by simp) ?_
      refine AllReadyH.cons (o := ⟨some 46, .makeSlice 53 (.tmp 45) (.tmp 45), 53, "ideal.go:79", #[⟨4, .data⟩, ⟨4, .data⟩], none⟩) rfl (fun K hK => ?_) AllReadyH.nil
      have cm := CM.out
      go_simp
      clear cm
      refine hK.out _ _ ((Chg.undrew ((Chg.refl (· = g4) wm).alloc _ (fun x hx => by cases hx; exact G4L.out)).drew)) (fun hHeld => ?_)
      clear hK K
      try simp only [Act.put, List.setIfInBounds_toArray, List.set_cons_zero, List.set_cons_succ]
      refine wpAnyH_take (i := 6) (oi := ⟨some 47, .build 55 #[(0, .tmp 43), (1, .tmp 46)], 55, "ideal.go:79", #[⟨2, .data⟩, ⟨5, .data⟩], none⟩) (v := ?_) rfl (by kernel_rfl) (by kernel_rfl) (by kernel_rfl) (fun _ _ _ h => h) (Or.inl ⟨by rfl, ?hyr1x6q24⟩) (by assumption) ?restr1x6q24
      case hyr1x6q24 => intro wq hSw; (go_simp); (try with_reducible rfl)
      try simp only [Act.put, List.setIfInBounds_toArray, List.set_cons_zero, List.set_cons_succ]
      refine wpAnyH_ready (rs := [7]) (by kernel_rfl) (by simp) ?_
      refine AllReadyH.cons (o := ⟨some 48, .buildSlice 31 1 #[(0, .tmp 47)], 31, "ideal.go:79", #[⟨6, .data⟩], none⟩) rfl (fun K hK => ?_) AllReadyH.nil
      go_simp
      refine hK.out _ _ ((Chg.undrew (((Chg.refl (· = g4) wm).alloc _ (fun x hx => by cases hx; exact G4L.out)).alloc _ (fun x hx => by cases hx; exact Nat.lt_of_lt_of_le G4L.out (Ex.new wm _).size)).drew)) (fun hHeld => ?_)
      clear hK K
      try simp only [Act.put, List.setIfInBounds_toArray, List.set_cons_zero, List.set_cons_succ]
      refine wpAnyH_ready (rs := [8]) (by kernel_rfl) (by simp) ?_
      refine AllReadyH.cons (o := ⟨some 49, .call { callee := .builtin .append, args := #[.tmp 41, .tmp 48], argTypes := #[31, 31] }, 31, "ideal.go:79", #[⟨0, .data⟩, ⟨7, .data⟩], none⟩) rfl (fun K hK => ?_) AllReadyH.nil
      rw [if_pos (by rfl)]
      have kz : Ex wm ((wm.alloc (.cells Z 36)).alloc (.cells #[.int .i64 yi, .slice (some ⟨wm.heap.size, 0, none⟩) M1 M1] 55)).drew := ((Ex.new wm (.cells Z 36)).alloc _).drew
      have OQ2 := OwnN.nx OQm.out kz
      have hql : qs.length ≤ 1000000 := by rw [hkq.out]; omega
      have SX0 : Sl 2 (encP encI) ((wm.alloc (.cells Z 36)).alloc (.cells #[.int .i64 yi, .slice (some ⟨wm.heap.size, 0, none⟩) M1 M1] 55)) (some ⟨wm.heap.size + 1, 0, none⟩) 1 [((yi, (some ⟨wm.heap.size, 0, none⟩, M1, M1)) : Int × Hdr)] := Sl.lit _ (by simp) rfl (fun _ => rfl) rfl
      have SX := SX0.nx (Ex.refl _).drew
      have zz := Nat.le_trans hbs kz.size
      refine wp_append_W (enc := encP encI) _ (.tmp 41) (.tmp 48) 31 rfl w1.heap.size 55 (.agg #[.int .i64 0, .slice none 0 0]) 2 32 Tryd.underlying31 Tryd.infoLd rfl (by omega) (by omega) _ qs OQ2.1 rfl _ 1 1 [((yi, (some ⟨wm.heap.size, 0, none⟩, M1, M1)) : Int × Hdr)] SX (fun _ => rfl) (by simp [encP, encI, Hdr.val, Value.oneCell']) rfl hql (by omega) zz ?_
      intro v9 w9 own9 ch0 ch1 _
      refine hK.out _ _ ((Chg.undrew (Chg.trans (Chg.mono kz (fun x hx => by cases hx; exact G4L.out)) (Chg.mono ch0 (fun x hx => by cases hx; exact ⟨Nat.lt_of_lt_of_le G4L.out kz.size, NB.out⟩))))) (fun hHeld => ?_)
      clear hK K
      try simp only [Act.put, List.setIfInBounds_toArray, List.set_cons_zero, List.set_cons_succ]
      refine wpAnyH_take (i := 9) (oi := ⟨some 9, .assign (.tmp 49), 31, "ideal.go:79", #[⟨8, .data⟩, ⟨8, .chain⟩, ⟨0, .phase⟩, ⟨1, .phase⟩, ⟨2, .phase⟩, ⟨3, .phase⟩, ⟨4, .phase⟩, ⟨5, .phase⟩, ⟨6, .phase⟩, ⟨7, .phase⟩, ⟨8, .phase⟩], none⟩) (v := ?_) rfl (by kernel_rfl) (by kernel_rfl) (by kernel_rfl) (fun _ _ _ h => h) (Or.inl ⟨by rfl, ?hyr1x9q47⟩) (by assumption) ?restr1x9q47
      case hyr1x9q47 => intro wq hSw; (go_simp); (try with_reducible rfl)
      try simp only [Act.put, List.setIfInBounds_toArray, List.set_cons_zero, List.set_cons_succ]
      refine wpAnyH_done (by kernel_rfl) ?_ _
      have OQ9 := OwnN.push (by decide) OQ2 own9 ch0 (IN.out.nx (Ex.new _ _).drew) FR.out
      have kw9 : Exb b w1 w9 := Chg.trans (Chg.trans kw.out (Chg.mono kz (fun x hx => Nat.lt_of_lt_of_le hx.1 kw.out.size))) (Chg.mono ch1 (fun x hx => hx.1))
      have MI9 := MI2.out.chg (S := (· = b)) (Chg.trans (Chg.mono kz (fun x hx => by cases hx; exact MI2.out.lt)) (Chg.mono ch1 (fun x hx => by cases hx; exact hbw1))) rfl
      clear OQ2 own9 ch0 ch1 SX SX0
      go_wp2_with fail
      exact ⟨⟨k + 1, _, by omega, by go_num, by rw [RS.out]; exact OQ9, MI9, kw9⟩, by simp [intOf]; omega⟩
    · obtain rfl : k = S.length := by omega
      rw [List.take_length] at OQ
      obtain ⟨ao, co, rfl⟩ := own_out OQ
      have HQB : Hid (∀ k, InQ qs k → w1.heap.size ≤ k ∧ k < wo.heap.size) := Lib.hid (fun k hk => inQ_base OQ hk)
      have KT : Hid (∀ wr, Exq qs wo wr → Exb b w1 wr) := Lib.hid (fun wr kq => Chg.trans kw (Chg.mono kq (fun x hx => ⟨Nat.lt_of_lt_of_le hx.1 kw.size, fun hi => by have h1 := (HQB.out x hi).1; have h2 := hx.1; exact absurd h2 (Nat.not_lt.2 h1)⟩)))
      have MIH : Hid (∀ wr, Exq qs wo wr → MapI wr b S.length (posK S S.length)) := Lib.hid (fun wr kq => MI.chg kq ⟨MI.lt, fun hi => by have h1 := (HQB.out b hi).1; omega⟩)
      have KW := Lib.hid kw
      have hzo := kw.size
      clear hk hlt kw MI
      have wrm : IntKind.i64.wrap ((m : Int) + 1) = (m : Int) + 1 := IntWalk.i64_in _ (by omega)
      go_wp2_with fail
      go_loopw [53] (fun i wr => B2Rel S M1 w1.heap.size (.slice ao S.length co) qs wo i wr) (fun i _ => M1 - (intOf i).toNat)
      case atStart => exact ⟨0, by omega, rfl, OQ, Exq.refl _ _⟩
      case round =>
        clear OQ
        obtain ⟨j, hj, rfl, OQ, kq⟩ := hrel
        obtain ⟨wj, rfl⟩ : ∃ wj : World, wj = wr := ⟨_, rfl⟩
        by_cases hjm : j < M1
        · have hjm1 : (j : Int) < (m : Int) + 1 := by have := HM1.out; omega
          have SSj := (SSB.out.nxb (KT.out _ kq)).sl
          have TGj : TabG wj := HT1.out.chg (KT.out _ kq) ⟨HT1.out.lt, by have := hTb.out; omega⟩
          have OQH := Lib.hid OQ
          have KQ := Lib.hid kq
          have hzj := kq.size
          have HLI := Lib.hid (lists_in (S := S) (h := (j : Int)))
          have HLS := Lib.hid (lists_sm (h := (j : Int)) hnS)
          have HPB : Hid (procB S (j + 1) = procL j (listsN S (j : Int)) (procB S j)) := Lib.hid rfl
          clear OQ kq
          go_wp2_with fail
          (with_reducible refine (lists_p _ _ _ _ _ _ SSj hnS hcS hmS SW.out TGj).mono ?_)
          rintro e w5 ⟨vl, ql, rfl, OL, k5⟩
          obtain ⟨aL, cL, rfl, LT⟩ := OwnIL.ilt OL
          obtain ⟨M, hM⟩ : ∃ M, M = listsN S (j : Int) := ⟨_, rfl⟩
          rw [← hM] at LT HLI HLS HPB ⊢
          have LT := Lib.hid LT
          have OQ := OwnN.nx OQH.out k5
          have K5 := Lib.hid k5
          have hz5 := k5.size
          have hMl := HLS.out.1
          have KL : Hid (∀ u v, w5.heap.size ≤ u.heap.size → Exq qs u v → Chg (fun k => wj.heap.size ≤ k ∧ k < w5.heap.size) u v) := Lib.hid (fun u v hu kq => Chg.mono kq (fun x hx => ⟨Nat.lt_of_lt_of_le hx.2 hu, fun hi => by have h1 := (HQB.out x hi).2; have h2 := hx.1; omega⟩))
          clear OL k5 SSj TGj hM
          go_wp2_with fail
          go_loopw [60] (fun i wr => B3Rel S M1 w1.heap.size j M (.slice ao S.length co) qs w5 i wr) (fun i _ => M.length - (intOf i).toNat)
          case atStart => exact ⟨0, by omega, rfl, OQ, Exq.refl _ _⟩
          case round =>
            clear OQ
            obtain ⟨q, hq, rfl, OQ, k3⟩ := hrel
            obtain ⟨wq3, rfl⟩ : ∃ wq3 : World, wq3 = wr := ⟨_, rfl⟩
            by_cases hqm : q < M.length
            · obtain ⟨x3, o3, a', n', c', cc, rfl, hx3, hcc, hcell, hids⟩ := (LT.out.chg (KL.out _ _ (Nat.le_refl _) k3)).at hqm
              have hnl := hids.1
              subst hnl
              have hcl : cc.length ≤ 1000 := HLS.out.2 cc (List.mem_of_getElem? hcc)
              have HIN := Lib.hid (HLI.out cc (List.mem_of_getElem? hcc))
              have PS := Lib.hid (procL_snoc j M (procB S j) q cc hcc)
              have hz3 := k3.size
              have HID := Lib.hid hids
              have K3 := Lib.hid k3
              obtain ⟨F, hF⟩ : ∃ F, F = procL j (M.take q) (procB S j) := ⟨_, rfl⟩
              rw [← hF] at OQ PS
              clear hcc hids k3 hF
              go_wp2_with fail
              clear hcell
              go_loopw [15] (fun i wr => B4Rel S M1 w1.heap.size j cc F (.slice ao S.length co) qs wq3 i wr) (fun i _ => cc.length - (intOf i).toNat)
              case atStart => exact ⟨0, .inr rfl, rfl, OQ, Exq.refl _ _⟩
              case round =>
                clear OQ
                obtain ⟨r, hr, rfl, OQ, k4⟩ := hrel
                obtain ⟨wi, rfl⟩ : ∃ wi : World, wi = wr := ⟨_, rfl⟩
                by_cases hrm : r + 1 < cc.length
                · have k4d : Exq qs wq3 wi.drew := k4.nx (Ex.refl wi).drew
                  have OQ := OwnN.nx OQ (Ex.refl wi).drew
                  have RI := HID.out.chg (KL.out _ _ hz3 k4d) (fun _ x => x)
                  obtain ⟨x6, o6, i1, rfl, hx6, hi1, hc6⟩ := RI.at hrm
                  obtain ⟨x7, o7, i0, e67, _, hi0, hc7⟩ := RI.at (show r < cc.length by omega)
                  cases e67
                  have E1 : wi.drew.cell? ⟨x6, o6 + (r + 1), none⟩ = some (.int .i64 i1) := by simpa using hc6 0 _ rfl
                  have E0 : wi.drew.cell? ⟨x6, o6 + r, none⟩ = some (.int .i64 i0) := by simpa using hc7 0 _ rfl
                  obtain ⟨p1, y1, hp1, hy1⟩ := mem_at (HIN.out i1 (List.mem_of_getElem? hi1))
                  obtain ⟨p0, y0, hp0, hy0⟩ := mem_at (HIN.out i0 (List.mem_of_getElem? hi0))
                  have PP : Hid (procI cc j F (r + 1) = updR (updL (procI cc j F r) i1 j i0) i0 j i1) := Lib.hid (by rw [← atI_of hi1, ← atI_of hi0]; rfl)
                  obtain ⟨FF, hFF⟩ : ∃ FF, FF = procI cc j F r := ⟨_, rfl⟩
                  rw [← hFF] at OQ PP
                  have b1 := SOK.out _ (List.mem_of_getElem? hp1)
                  have b0 := SOK.out _ (List.mem_of_getElem? hp0)
                  rw [hy1] at b1
                  rw [hy0] at b0
                  have hq1 := posK_at ID.out S.length p1 y1 (List.getElem?_eq_some_iff.1 hp1).1 (Nat.le_refl _) hp1
                  have hq0 := posK_at ID.out S.length p0 y0 (List.getElem?_eq_some_iff.1 hp0).1 (Nat.le_refl _) hp0
                  have hl1 := (List.getElem?_eq_some_iff.1 hp1).1
                  have hl0 := (List.getElem?_eq_some_iff.1 hp0).1
                  rw [hy1] at hq1
                  rw [hy0] at hq0
                  have KK := KQ.out.nxq ((Exq.of_ex K5.out).nxq (K3.out.nxq k4d))
                  have LK1 : Hid (∀ wq, Exq qs wi.drew wq → (Instr.lookup 69 (.map (some b)) (.int .i64 i1) false).run Tryd.prog wq = .ok (.int .i64 (p1 : Int)) wq) := Lib.hid (fun wq hSw => by
                    have := (MIH.out wq (KK.nxq hSw)).look (x := i1) (by omega)
                    rwa [hq1] at this)
                  have LK0 : Hid (∀ wq, Exq qs wi.drew wq → (Instr.lookup 69 (.map (some b)) (.int .i64 i0) false).run Tryd.prog wq = .ok (.int .i64 (p0 : Int)) wq) := Lib.hid (fun wq hSw => by
                    have := (MIH.out wq (KK.nxq hSw)).look (x := i0) (by omega)
                    rwa [hq0] at this)
                  have NX : Hid (x6 < wi.drew.heap.size ∧ ¬ InQ qs x6) := Lib.hid ⟨by have := k4d.size; have := hx6.2; omega, fun hi => by have h1 := (HQB.out x6 hi).2; have h2 := hx6.1; omega⟩
                  obtain ⟨g, cap, g1, cap1, ev, hgl, hgq, hc1, hin1, ⟨u10, hu10⟩, ⟨u11, hu11⟩, f10, f11, OU1, OV1⟩ := rows_at ID.out OQ hp1 hjm
                  cases ev
                  rw [hy1] at OU1
                  have OQ1 := OU1 i0
                  have ks1 : Exq qs wi.drew (wi.drew.setCell ⟨g1, j * 2, none⟩ (.int .i64 i0)) := (Exq.refl _ _).set _ hin1
                  obtain ⟨g', cap', g0, cap0, ev, hgl', hgq', hc0, hin0, ⟨u00, hu00⟩, ⟨u01, hu01⟩, f00, f01, OU0, OV0⟩ := rows_at ID.out (OwnN.nx OQ1 (Ex.refl _).drew) hp0 hjm
                  cases ev
                  rw [hy0] at OV0
                  have OQ0 := Lib.hid (OV0 i1)
                  have NG : Hid (g < wi.drew.heap.size ∧ ¬ InQ qs g) := Lib.hid ⟨hgl, hgq⟩
                  have NG' : Hid (g < (wi.drew.setCell ⟨g1, j * 2, none⟩ (.int .i64 i0)).drew.heap.size ∧ ¬ InQ qs g) := Lib.hid ⟨hgl', hgq⟩
                  have HE1 := Lib.hid E1
                  have HE0 := Lib.hid E0
                  have HC1 := Lib.hid hc1
                  have KS1 := Lib.hid ks1
                  have KS1d : Hid (Exq qs wi.drew (wi.drew.setCell ⟨g1, j * 2, none⟩ (.int .i64 i0)).drew) := Lib.hid (ks1.nx (Ex.refl _).drew)
                  have HC0 : Hid (wi.drew.cell? ⟨g, p0 * 2 + 1, none⟩ = some (.slice (some ⟨g0, 0, none⟩) M1 cap0)) := Lib.hid ((Chg.cell (p := ⟨g, p0 * 2 + 1, none⟩) KS1d.out NG.out).symm.trans hc0)
                  have IN1 := Lib.hid hin1
                  have IN0 := Lib.hid hin0
                  have ST1 := Lib.hid (And.intro hu10 f10)
                  obtain ⟨gx, capx, g0', cap0', ev, _, _, hc0', _, _, ⟨u01', hu01'⟩, _, f01', _, _⟩ := rows_at ID.out OQ hp0 hjm
                  cases ev
                  have hg00 : g0 = g0' := by
                    have := hc0'.symm.trans HC0.out
                    simp at this
                    exact this.1.symm
                  subst hg00
                  have ST0 : Hid (wi.cell? ⟨g0, j * 2 + 1, none⟩ = some u01' ∧ wi.frozen? ⟨g0, j * 2 + 1, none⟩ = false) := Lib.hid ⟨hu01', f01'⟩
                  clear hc0' hu01' f01'
                  have K4D := Lib.hid k4d
                  have wr1 : IntKind.i64.wrap ((r : Int) + 1 + 1) = (r : Int) + 1 + 1 := IntWalk.i64_in _ (by omega)
                  have hrm1 : (r : Int) + 1 < (cc.length : Int) := by omega
                  have wr0 : IntKind.i64.wrap (r : Int) = (r : Int) := IntWalk.i64_in _ (by omega)
                  have hr01 : (0 : Int) ≤ (r : Int) + 1 := by omega
                  have hrm0 : (r : Int) < (cc.length : Int) := by omega
                  have hp1S : (p1 : Int) < (S.length : Int) := by omega
                  have hp0S : (p0 : Int) < (S.length : Int) := by omega
                  have hjM : (j : Int) < (M1 : Int) := by omega
                  clear hFF b1 b0 hq1 hq0 hy1 hy0 hp1 hp0 hc6 hc7 hi0 hi1 E1 E0 OU1 OV1 OU0 OV0 OQ OQ1 ks1 hgl hgq hgl' hgq' hc1 hc0 hin1 hin0 hu10 hu11 hu00 hu01 f10 f11 f00 f01 RI k4 k4d hx6 KK
                  go_wp2_with fail
                  refine wp_region_held_drew (S := Exq qs wi.drew) (by kernel_rfl) (Exq.refl _ _) (fun hHeld => ?_)
                  refine wpAnyH_take (i := 0) (oi := ⟨some 70, .move (.tmp 9), 31, "ideal.go:84", #[], none⟩) (v := ?_) rfl (by kernel_rfl) (by kernel_rfl) (by kernel_rfl) (fun _ _ _ h => h) (Or.inl ⟨by rfl, ?hyr2x0q1⟩) (by assumption) ?restr2x0q1
                  case hyr2x0q1 => intro wq hSw; (go_simp); (try with_reducible rfl)
                  try simp only [Act.put, List.setIfInBounds_toArray, List.set_cons_zero, List.set_cons_succ]
                  refine wpAnyH_take (i := 1) (oi := ⟨some 71, .move (.tmp 8), 69, "ideal.go:84", #[], none⟩) (v := ?_) rfl (by kernel_rfl) (by kernel_rfl) (by kernel_rfl) (fun _ _ _ h => h) (Or.inl ⟨by rfl, ?hyr2x1q4⟩) (by assumption) ?restr2x1q4
                  case hyr2x1q4 => intro wq hSw; (go_simp); (try with_reducible rfl)
                  try simp only [Act.put, List.setIfInBounds_toArray, List.set_cons_zero, List.set_cons_succ]
                  refine wpAnyH_take (i := 2) (oi := ⟨some 72, .move (.tmp 14), 22, "ideal.go:84", #[], none⟩) (v := ?_) rfl (by kernel_rfl) (by kernel_rfl) (by kernel_rfl) (fun _ _ _ h => h) (Or.inl ⟨by rfl, ?hyr2x2q7⟩) (by assumption) ?restr2x2q7
                  case hyr2x2q7 => intro wq hSw; (go_simp); (try with_reducible rfl)
                  try simp only [Act.put, List.setIfInBounds_toArray, List.set_cons_zero, List.set_cons_succ]
                  refine wpAnyH_take (i := 3) (oi := ⟨some 73, .move (.tmp 15), 3, "ideal.go:84", #[], none⟩) (v := ?_) rfl (by kernel_rfl) (by kernel_rfl) (by kernel_rfl) (fun _ _ _ h => h) (Or.inl ⟨by rfl, ?hyr2x3q10⟩) (by assumption) ?restr2x3q10
                  case hyr2x3q10 => intro wq hSw; (go_simp); (try with_reducible rfl)
                  try simp only [Act.put, List.setIfInBounds_toArray, List.set_cons_zero, List.set_cons_succ]
                  refine wpAnyH_take (i := 4) (oi := ⟨some 74, .indexAddr 22 (.tmp 72) (.tmp 73), 0, "ideal.go:84", #[⟨2, .data⟩, ⟨3, .data⟩], none⟩) (v := ?_) rfl (by kernel_rfl) (by kernel_rfl) (by kernel_rfl) (fun _ _ _ h => h) (Or.inl ⟨by rfl, ?hyr2x4q13⟩) (by assumption) ?restr2x4q13
                  case hyr2x4q13 => intro wq hSw; (go_simp); (try with_reducible rfl)
                  try simp only [Act.put, List.setIfInBounds_toArray, List.set_cons_zero, List.set_cons_succ]
                  refine wpAnyH_take (i := 5) (oi := ⟨some 75, .load 3 (.tmp 74), 3, "ideal.go:84", #[⟨4, .data⟩], none⟩) (v := ?_) rfl (by kernel_rfl) (by kernel_rfl) (by kernel_rfl) (fun _ _ _ h => h) (Or.inl ⟨by rfl, ?hyr2x5q16⟩) (by assumption) ?restr2x5q16
                  case hyr2x5q16 => intro wq hSw; (have cq := Chg.cellv hSw HE1.out NX.out; go_simp); (try with_reducible rfl)
                  try simp only [Act.put, List.setIfInBounds_toArray, List.set_cons_zero, List.set_cons_succ]
                  refine wpAnyH_take (i := 6) (oi := ⟨some 76, .lookup 69 (.tmp 71) (.tmp 75) false, 3, "ideal.go:84", #[⟨1, .data⟩, ⟨5, .data⟩], none⟩) (v := ?_) rfl (by kernel_rfl) (by kernel_rfl) (by kernel_rfl) (fun _ _ _ h => h) (Or.inl ⟨by rfl, ?hyr2x6q19⟩) (by assumption) ?restr2x6q19
                  case hyr2x6q19 => intro wq hSw; (have cq := LK1.out _ hSw; go_simp); (try with_reducible rfl)
                  try simp only [Act.put, List.setIfInBounds_toArray, List.set_cons_zero, List.set_cons_succ]
                  refine wpAnyH_take (i := 7) (oi := ⟨some 77, .indexAddr 31 (.tmp 70) (.tmp 76), 0, "ideal.go:84", #[⟨0, .data⟩, ⟨6, .data⟩], none⟩) (v := ?_) rfl (by kernel_rfl) (by kernel_rfl) (by kernel_rfl) (fun _ _ _ h => h) (Or.inl ⟨by rfl, ?hyr2x7q22⟩) (by assumption) ?restr2x7q22
                  case hyr2x7q22 => intro wq hSw; (go_simp); (try with_reducible rfl)
                  try simp only [Act.put, List.setIfInBounds_toArray, List.set_cons_zero, List.set_cons_succ]
                  refine wpAnyH_take (i := 8) (oi := ⟨some 78, .fieldAddr 55 (.tmp 77) 1, 0, "ideal.go:84", #[⟨7, .data⟩], none⟩) (v := ?_) rfl (by kernel_rfl) (by kernel_rfl) (by kernel_rfl) (fun _ _ _ h => h) (Or.inl ⟨by rfl, ?hyr2x8q25⟩) (by assumption) ?restr2x8q25
                  case hyr2x8q25 => intro wq hSw; (go_simp); (try with_reducible rfl)
                  try simp only [Act.put, List.setIfInBounds_toArray, List.set_cons_zero, List.set_cons_succ]
                  refine wpAnyH_take (i := 9) (oi := ⟨some 79, .load 53 (.tmp 78), 53, "ideal.go:84", #[⟨8, .data⟩], none⟩) (v := ?_) rfl (by kernel_rfl) (by kernel_rfl) (by kernel_rfl) (fun _ _ _ h => h) (Or.inl ⟨by rfl, ?hyr2x9q28⟩) (by assumption) ?restr2x9q28
                  case hyr2x9q28 => intro wq hSw; (have cq := Chg.cellv hSw HC1.out NG.out; go_simp); (try with_reducible rfl)
                  try simp only [Act.put, List.setIfInBounds_toArray, List.set_cons_zero, List.set_cons_succ]
                  refine wpAnyH_take (i := 10) (oi := ⟨some 80, .move (.tmp 12), 3, "ideal.go:84", #[], none⟩) (v := ?_) rfl (by kernel_rfl) (by kernel_rfl) (by kernel_rfl) (fun _ _ _ h => h) (Or.inl ⟨by rfl, ?hyr2x10q31⟩) (by assumption) ?restr2x10q31
                  case hyr2x10q31 => intro wq hSw; (go_simp); (try with_reducible rfl)
                  try simp only [Act.put, List.setIfInBounds_toArray, List.set_cons_zero, List.set_cons_succ]
                  refine wpAnyH_take (i := 11) (oi := ⟨some 81, .move (.tmp 14), 22, "ideal.go:84", #[], none⟩) (v := ?_) rfl (by kernel_rfl) (by kernel_rfl) (by kernel_rfl) (fun _ _ _ h => h) (Or.inl ⟨by rfl, ?hyr2x11q34⟩) (by assumption) ?restr2x11q34
                  case hyr2x11q34 => intro wq hSw; (go_simp); (try with_reducible rfl)
                  try simp only [Act.put, List.setIfInBounds_toArray, List.set_cons_zero, List.set_cons_succ]
                  refine wpAnyH_take (i := 12) (oi := ⟨some 82, .move (.tmp 15), 3, "ideal.go:84", #[], none⟩) (v := ?_) rfl (by kernel_rfl) (by kernel_rfl) (by kernel_rfl) (fun _ _ _ h => h) (Or.inl ⟨by rfl, ?hyr2x12q37⟩) (by assumption) ?restr2x12q37
                  case hyr2x12q37 => intro wq hSw; (go_simp); (try with_reducible rfl)
                  try simp only [Act.put, List.setIfInBounds_toArray, List.set_cons_zero, List.set_cons_succ]
                  refine wpAnyH_take (i := 13) (oi := ⟨some 83, .binOp .sub 3 (.tmp 82) (.const (.int .i64 1)) 3, 3, "ideal.go:84", #[⟨12, .data⟩], none⟩) (v := ?_) rfl (by kernel_rfl) (by kernel_rfl) (by kernel_rfl) (fun _ _ _ h => h) (Or.inl ⟨by rfl, ?hyr2x13q40⟩) (by assumption) ?restr2x13q40
                  case hyr2x13q40 => intro wq hSw; (go_simp); (try with_reducible rfl)
                  try simp only [Act.put, List.setIfInBounds_toArray, List.set_cons_zero, List.set_cons_succ]
                  refine wpAnyH_take (i := 14) (oi := ⟨some 84, .indexAddr 22 (.tmp 81) (.tmp 83), 0, "ideal.go:84", #[⟨11, .data⟩, ⟨13, .data⟩], none⟩) (v := ?_) rfl (by kernel_rfl) (by kernel_rfl) (by kernel_rfl) (fun _ _ _ h => h) (Or.inl ⟨by rfl, ?hyr2x14q43⟩) (by assumption) ?restr2x14q43
                  case hyr2x14q43 => intro wq hSw; (go_simp); (try with_reducible rfl)
                  try simp only [Act.put, List.setIfInBounds_toArray, List.set_cons_zero, List.set_cons_succ]
                  refine wpAnyH_take (i := 15) (oi := ⟨some 85, .load 3 (.tmp 84), 3, "ideal.go:84", #[⟨14, .data⟩], none⟩) (v := ?_) rfl (by kernel_rfl) (by kernel_rfl) (by kernel_rfl) (fun _ _ _ h => h) (Or.inl ⟨by rfl, ?hyr2x15q46⟩) (by assumption) ?restr2x15q46
                  case hyr2x15q46 => intro wq hSw; (have cq := Chg.cellv hSw HE0.out NX.out; go_simp); (try with_reducible rfl)
                  try simp only [Act.put, List.setIfInBounds_toArray, List.set_cons_zero, List.set_cons_succ]
                  refine wpAnyH_take (i := 16) (oi := ⟨some 86, .indexAddr 53 (.tmp 79) (.tmp 80), 0, "ideal.go:84", #[⟨9, .data⟩, ⟨10, .data⟩, ⟨0, .phase⟩, ⟨1, .phase⟩, ⟨2, .phase⟩, ⟨3, .phase⟩, ⟨4, .phase⟩, ⟨5, .phase⟩, ⟨6, .phase⟩, ⟨7, .phase⟩, ⟨8, .phase⟩, ⟨9, .phase⟩, ⟨10, .phase⟩, ⟨11, .phase⟩, ⟨12, .phase⟩, ⟨13, .phase⟩, ⟨14, .phase⟩, ⟨15, .phase⟩], none⟩) (v := ?_) rfl (by kernel_rfl) (by kernel_rfl) (by kernel_rfl) (fun _ _ _ h => h) (Or.inl ⟨by rfl, ?hyr2x16q49⟩) (by assumption) ?restr2x16q49
                  case hyr2x16q49 => intro wq hSw; (go_simp); (try with_reducible rfl)
                  try simp only [Act.put, List.setIfInBounds_toArray, List.set_cons_zero, List.set_cons_succ]
                  refine wpAnyH_take (i := 17) (oi := ⟨some 87, .fieldAddr 36 (.tmp 86) 0, 0, "ideal.go:84", #[⟨16, .data⟩, ⟨0, .phase⟩, ⟨1, .phase⟩, ⟨2, .phase⟩, ⟨3, .phase⟩, ⟨4, .phase⟩, ⟨5, .phase⟩, ⟨6, .phase⟩, ⟨7, .phase⟩, ⟨8, .phase⟩, ⟨9, .phase⟩, ⟨10, .phase⟩, ⟨11, .phase⟩, ⟨12, .phase⟩, ⟨13, .phase⟩, ⟨14, .phase⟩, ⟨15, .phase⟩], none⟩) (v := ?_) rfl (by kernel_rfl) (by kernel_rfl) (by kernel_rfl) (fun _ _ _ h => h) (Or.inl ⟨by rfl, ?hyr2x17q52⟩) (by assumption) ?restr2x17q52
                  case hyr2x17q52 => intro wq hSw; (go_simp); (try with_reducible rfl)
                  try simp only [Act.put, List.setIfInBounds_toArray, List.set_cons_zero, List.set_cons_succ]
                  refine wpAnyH_ready (rs := [18]) (by kernel_rfl) (by simp) ?_
                  refine AllReadyH.cons (o := ⟨none, .store 3 (.tmp 87) (.tmp 85), 0, "ideal.go:84", #[⟨17, .data⟩, ⟨15, .data⟩, ⟨0, .phase⟩, ⟨1, .phase⟩, ⟨2, .phase⟩, ⟨3, .phase⟩, ⟨4, .phase⟩, ⟨5, .phase⟩, ⟨6, .phase⟩, ⟨7, .phase⟩, ⟨8, .phase⟩, ⟨9, .phase⟩, ⟨10, .phase⟩, ⟨11, .phase⟩, ⟨12, .phase⟩, ⟨13, .phase⟩, ⟨14, .phase⟩, ⟨15, .phase⟩], none⟩) rfl (fun K hK => ?_) AllReadyH.nil
                  have st := ST1.out
                  go_simp
                  refine hK.out _ _ (KS1.out) (fun hHeld => ?_)
                  clear hK K
                  try simp only [Act.put, List.setIfInBounds_toArray, List.set_cons_zero, List.set_cons_succ]
                  refine wpAnyH_done (by kernel_rfl) ?_ _
                  go_wp2_with fail
                  refine wp_region_held_drew (S := Exq qs wi.drew) (by kernel_rfl) (KS1d.out) (fun hHeld => ?_)
                  refine wpAnyH_take (i := 0) (oi := ⟨some 88, .move (.tmp 9), 31, "ideal.go:85", #[], none⟩) (v := ?_) rfl (by kernel_rfl) (by kernel_rfl) (by kernel_rfl) (fun _ _ _ h => h) (Or.inl ⟨by rfl, ?hyr3x0q1⟩) (by assumption) ?restr3x0q1
                  case hyr3x0q1 => intro wq hSw; (go_simp); (try with_reducible rfl)
                  try simp only [Act.put, List.setIfInBounds_toArray, List.set_cons_zero, List.set_cons_succ]
                  refine wpAnyH_take (i := 1) (oi := ⟨some 89, .move (.tmp 8), 69, "ideal.go:85", #[], none⟩) (v := ?_) rfl (by kernel_rfl) (by kernel_rfl) (by kernel_rfl) (fun _ _ _ h => h) (Or.inl ⟨by rfl, ?hyr3x1q4⟩) (by assumption) ?restr3x1q4
                  case hyr3x1q4 => intro wq hSw; (go_simp); (try with_reducible rfl)
                  try simp only [Act.put, List.setIfInBounds_toArray, List.set_cons_zero, List.set_cons_succ]
                  refine wpAnyH_take (i := 2) (oi := ⟨some 90, .move (.tmp 14), 22, "ideal.go:85", #[], none⟩) (v := ?_) rfl (by kernel_rfl) (by kernel_rfl) (by kernel_rfl) (fun _ _ _ h => h) (Or.inl ⟨by rfl, ?hyr3x2q7⟩) (by assumption) ?restr3x2q7
                  case hyr3x2q7 => intro wq hSw; (go_simp); (try with_reducible rfl)
                  try simp only [Act.put, List.setIfInBounds_toArray, List.set_cons_zero, List.set_cons_succ]
                  refine wpAnyH_take (i := 3) (oi := ⟨some 91, .move (.tmp 15), 3, "ideal.go:85", #[], none⟩) (v := ?_) rfl (by kernel_rfl) (by kernel_rfl) (by kernel_rfl) (fun _ _ _ h => h) (Or.inl ⟨by rfl, ?hyr3x3q10⟩) (by assumption) ?restr3x3q10
                  case hyr3x3q10 => intro wq hSw; (go_simp); (try with_reducible rfl)
                  try simp only [Act.put, List.setIfInBounds_toArray, List.set_cons_zero, List.set_cons_succ]
                  refine wpAnyH_take (i := 4) (oi := ⟨some 92, .binOp .sub 3 (.tmp 91) (.const (.int .i64 1)) 3, 3, "ideal.go:85", #[⟨3, .data⟩], none⟩) (v := ?_) rfl (by kernel_rfl) (by kernel_rfl) (by kernel_rfl) (fun _ _ _ h => h) (Or.inl ⟨by rfl, ?hyr3x4q13⟩) (by assumption) ?restr3x4q13
                  case hyr3x4q13 => intro wq hSw; (go_simp); (try with_reducible rfl)
                  try simp only [Act.put, List.setIfInBounds_toArray, List.set_cons_zero, List.set_cons_succ]
                  refine wpAnyH_take (i := 5) (oi := ⟨some 93, .indexAddr 22 (.tmp 90) (.tmp 92), 0, "ideal.go:85", #[⟨2, .data⟩, ⟨4, .data⟩], none⟩) (v := ?_) rfl (by kernel_rfl) (by kernel_rfl) (by kernel_rfl) (fun _ _ _ h => h) (Or.inl ⟨by rfl, ?hyr3x5q16⟩) (by assumption) ?restr3x5q16
                  case hyr3x5q16 => intro wq hSw; (go_simp); (try with_reducible rfl)
                  try simp only [Act.put, List.setIfInBounds_toArray, List.set_cons_zero, List.set_cons_succ]
                  refine wpAnyH_take (i := 6) (oi := ⟨some 94, .load 3 (.tmp 93), 3, "ideal.go:85", #[⟨5, .data⟩], none⟩) (v := ?_) rfl (by kernel_rfl) (by kernel_rfl) (by kernel_rfl) (fun _ _ _ h => h) (Or.inl ⟨by rfl, ?hyr3x6q19⟩) (by assumption) ?restr3x6q19
                  case hyr3x6q19 => intro wq hSw; (have cq := Chg.cellv hSw HE0.out NX.out; go_simp); (try with_reducible rfl)
                  try simp only [Act.put, List.setIfInBounds_toArray, List.set_cons_zero, List.set_cons_succ]
                  refine wpAnyH_take (i := 7) (oi := ⟨some 95, .lookup 69 (.tmp 89) (.tmp 94) false, 3, "ideal.go:85", #[⟨1, .data⟩, ⟨6, .data⟩], none⟩) (v := ?_) rfl (by kernel_rfl) (by kernel_rfl) (by kernel_rfl) (fun _ _ _ h => h) (Or.inl ⟨by rfl, ?hyr3x7q22⟩) (by assumption) ?restr3x7q22
                  case hyr3x7q22 => intro wq hSw; (have cq := LK0.out _ hSw; go_simp); (try with_reducible rfl)
                  try simp only [Act.put, List.setIfInBounds_toArray, List.set_cons_zero, List.set_cons_succ]
                  refine wpAnyH_take (i := 8) (oi := ⟨some 96, .indexAddr 31 (.tmp 88) (.tmp 95), 0, "ideal.go:85", #[⟨0, .data⟩, ⟨7, .data⟩], none⟩) (v := ?_) rfl (by kernel_rfl) (by kernel_rfl) (by kernel_rfl) (fun _ _ _ h => h) (Or.inl ⟨by rfl, ?hyr3x8q25⟩) (by assumption) ?restr3x8q25
                  case hyr3x8q25 => intro wq hSw; (go_simp); (try with_reducible rfl)
                  try simp only [Act.put, List.setIfInBounds_toArray, List.set_cons_zero, List.set_cons_succ]
                  refine wpAnyH_take (i := 9) (oi := ⟨some 97, .fieldAddr 55 (.tmp 96) 1, 0, "ideal.go:85", #[⟨8, .data⟩], none⟩) (v := ?_) rfl (by kernel_rfl) (by kernel_rfl) (by kernel_rfl) (fun _ _ _ h => h) (Or.inl ⟨by rfl, ?hyr3x9q28⟩) (by assumption) ?restr3x9q28
                  case hyr3x9q28 => intro wq hSw; (go_simp); (try with_reducible rfl)
                  try simp only [Act.put, List.setIfInBounds_toArray, List.set_cons_zero, List.set_cons_succ]
                  refine wpAnyH_take (i := 10) (oi := ⟨some 98, .load 53 (.tmp 97), 53, "ideal.go:85", #[⟨9, .data⟩], none⟩) (v := ?_) rfl (by kernel_rfl) (by kernel_rfl) (by kernel_rfl) (fun _ _ _ h => h) (Or.inl ⟨by rfl, ?hyr3x10q31⟩) (by assumption) ?restr3x10q31
                  case hyr3x10q31 => intro wq hSw; (have cq := Chg.cellv hSw HC0.out NG.out; go_simp); (try with_reducible rfl)
                  try simp only [Act.put, List.setIfInBounds_toArray, List.set_cons_zero, List.set_cons_succ]
                  refine wpAnyH_take (i := 11) (oi := ⟨some 99, .move (.tmp 12), 3, "ideal.go:85", #[], none⟩) (v := ?_) rfl (by kernel_rfl) (by kernel_rfl) (by kernel_rfl) (fun _ _ _ h => h) (Or.inl ⟨by rfl, ?hyr3x11q34⟩) (by assumption) ?restr3x11q34
                  case hyr3x11q34 => intro wq hSw; (go_simp); (try with_reducible rfl)
                  try simp only [Act.put, List.setIfInBounds_toArray, List.set_cons_zero, List.set_cons_succ]
                  refine wpAnyH_take (i := 12) (oi := ⟨some 100, .move (.tmp 14), 22, "ideal.go:85", #[], none⟩) (v := ?_) rfl (by kernel_rfl) (by kernel_rfl) (by kernel_rfl) (fun _ _ _ h => h) (Or.inl ⟨by rfl, ?hyr3x12q37⟩) (by assumption) ?restr3x12q37
                  case hyr3x12q37 => intro wq hSw; (go_simp); (try with_reducible rfl)
                  try simp only [Act.put, List.setIfInBounds_toArray, List.set_cons_zero, List.set_cons_succ]
                  refine wpAnyH_take (i := 13) (oi := ⟨some 101, .move (.tmp 15), 3, "ideal.go:85", #[], none⟩) (v := ?_) rfl (by kernel_rfl) (by kernel_rfl) (by kernel_rfl) (fun _ _ _ h => h) (Or.inl ⟨by rfl, ?hyr3x13q40⟩) (by assumption) ?restr3x13q40
                  case hyr3x13q40 => intro wq hSw; (go_simp); (try with_reducible rfl)
                  try simp only [Act.put, List.setIfInBounds_toArray, List.set_cons_zero, List.set_cons_succ]
                  refine wpAnyH_take (i := 14) (oi := ⟨some 102, .indexAddr 22 (.tmp 100) (.tmp 101), 0, "ideal.go:85", #[⟨12, .data⟩, ⟨13, .data⟩], none⟩) (v := ?_) rfl (by kernel_rfl) (by kernel_rfl) (by kernel_rfl) (fun _ _ _ h => h) (Or.inl ⟨by rfl, ?hyr3x14q43⟩) (by assumption) ?restr3x14q43
                  case hyr3x14q43 => intro wq hSw; (go_simp); (try with_reducible rfl)
                  try simp only [Act.put, List.setIfInBounds_toArray, List.set_cons_zero, List.set_cons_succ]
                  refine wpAnyH_take (i := 15) (oi := ⟨some 103, .load 3 (.tmp 102), 3, "ideal.go:85", #[⟨14, .data⟩], none⟩) (v := ?_) rfl (by kernel_rfl) (by kernel_rfl) (by kernel_rfl) (fun _ _ _ h => h) (Or.inl ⟨by rfl, ?hyr3x15q46⟩) (by assumption) ?restr3x15q46
                  case hyr3x15q46 => intro wq hSw; (have cq := Chg.cellv hSw HE1.out NX.out; go_simp); (try with_reducible rfl)
                  try simp only [Act.put, List.setIfInBounds_toArray, List.set_cons_zero, List.set_cons_succ]
                  refine wpAnyH_take (i := 16) (oi := ⟨some 104, .indexAddr 53 (.tmp 98) (.tmp 99), 0, "ideal.go:85", #[⟨10, .data⟩, ⟨11, .data⟩, ⟨0, .phase⟩, ⟨1, .phase⟩, ⟨2, .phase⟩, ⟨3, .phase⟩, ⟨4, .phase⟩, ⟨5, .phase⟩, ⟨6, .phase⟩, ⟨7, .phase⟩, ⟨8, .phase⟩, ⟨9, .phase⟩, ⟨10, .phase⟩, ⟨11, .phase⟩, ⟨12, .phase⟩, ⟨13, .phase⟩, ⟨14, .phase⟩, ⟨15, .phase⟩], none⟩) (v := ?_) rfl (by kernel_rfl) (by kernel_rfl) (by kernel_rfl) (fun _ _ _ h => h) (Or.inl ⟨by rfl, ?hyr3x16q49⟩) (by assumption) ?restr3x16q49
                  case hyr3x16q49 => intro wq hSw; (go_simp); (try with_reducible rfl)
                  try simp only [Act.put, List.setIfInBounds_toArray, List.set_cons_zero, List.set_cons_succ]
                  refine wpAnyH_take (i := 17) (oi := ⟨some 105, .fieldAddr 36 (.tmp 104) 1, 0, "ideal.go:85", #[⟨16, .data⟩, ⟨0, .phase⟩, ⟨1, .phase⟩, ⟨2, .phase⟩, ⟨3, .phase⟩, ⟨4, .phase⟩, ⟨5, .phase⟩, ⟨6, .phase⟩, ⟨7, .phase⟩, ⟨8, .phase⟩, ⟨9, .phase⟩, ⟨10, .phase⟩, ⟨11, .phase⟩, ⟨12, .phase⟩, ⟨13, .phase⟩, ⟨14, .phase⟩, ⟨15, .phase⟩], none⟩) (v := ?_) rfl (by kernel_rfl) (by kernel_rfl) (by kernel_rfl) (fun _ _ _ h => h) (Or.inl ⟨by rfl, ?hyr3x17q52⟩) (by assumption) ?restr3x17q52
                  case hyr3x17q52 => intro wq hSw; (go_simp); (try with_reducible rfl)
                  try simp only [Act.put, List.setIfInBounds_toArray, List.set_cons_zero, List.set_cons_succ]
                  refine wpAnyH_ready (rs := [18]) (by kernel_rfl) (by simp) ?_
                  refine AllReadyH.cons (o := ⟨none, .store 3 (.tmp 105) (.tmp 103), 0, "ideal.go:85", #[⟨17, .data⟩, ⟨15, .data⟩, ⟨0, .phase⟩, ⟨1, .phase⟩, ⟨2, .phase⟩, ⟨3, .phase⟩, ⟨4, .phase⟩, ⟨5, .phase⟩, ⟨6, .phase⟩, ⟨7, .phase⟩, ⟨8, .phase⟩, ⟨9, .phase⟩, ⟨10, .phase⟩, ⟨11, .phase⟩, ⟨12, .phase⟩, ⟨13, .phase⟩, ⟨14, .phase⟩, ⟨15, .phase⟩], none⟩) rfl (fun K hK => ?_) AllReadyH.nil
                  have st := ST0.out
                  go_simp
                  refine hK.out _ _ (Exq.set (p := ⟨g0, j * 2 + 1, none⟩) KS1d.out _ IN0.out) (fun hHeld => ?_)
                  clear hK K
                  try simp only [Act.put, List.setIfInBounds_toArray, List.set_cons_zero, List.set_cons_succ]
                  refine wpAnyH_done (by kernel_rfl) ?_ _
                  go_wp2_with fail
                  exact ⟨⟨r + 1, by omega, by go_num, by rw [PP.out]; exact OQ0.out, K4D.out.nxq (Exq.set (p := ⟨g0, j * 2 + 1, none⟩) KS1d.out _ IN0.out)⟩, by simp [intOf]; omega⟩
                · obtain ⟨FF, hFF⟩ : ∃ FF, FF = procI cc j F r := ⟨_, rfl⟩
                  have hre : r = cc.length - 1 := by omega
                  rw [← hFF] at OQ
                  rw [hre] at hFF
                  rw [← hFF] at PS
                  have dlt : ¬ ((r : Int) + 1 < (cc.length : Int)) := by omega
                  have OQ := Lib.hid OQ
                  have k34 := K3.out.nxq k4
                  clear hFF hre hrm k4
                  go_wp2_with fail
                  exact ⟨⟨q + 1, by omega, by go_num, by rw [PS.out]; exact OQ.out, k34⟩, by simp [intOf]; omega⟩
            · obtain rfl : q = M.length := by omega
              rw [List.take_length, ← HPB.out] at OQ
              have OQ := Lib.hid OQ
              have kj := KQ.out.nxq ((Exq.of_ex K5.out).nxq k3)
              clear hqm hq k3
              go_wp2_with fail
              exact ⟨⟨j + 1, by omega, by go_num, OQ.out, kj⟩, by simp [intOf]; omega⟩
        · obtain rfl : j = M1 := by omega
          rw [← HLL.out] at OQ
          have OQ := Lib.hid (OwnN.base OQ (show w.heap.size ≤ w1.heap.size by omega))
          have KE : Ex w wj := Chg.trans K1.out (Chg.mono (KT.out _ kq) (fun x hx => ⟨Nat.lt_of_lt_of_le hx K1.out.size, by have : x < w.heap.size := hx; omega⟩))
          have dlt : ¬ ((j : Int) < (m : Int) + 1) := by have := HM1.out; omega
          clear hjm hj kq
          go_wp2_with fail
          go_ret2
          exact ⟨_, qs, rfl, OQ.out, KE⟩
end Go.Proofs.YtihpaonhonhfoaaDoor

/- What Build of the package ideal lays is what the reference says. -/
namespace Go.Proofs.YtihpaonhonhfoaaDoor
open Go.RowKit

theorem fil_fold {h : Int} (hh : h ≤ 16) (l : List Nd) (hl : ∀ y ∈ l, y.word < 4294967296) : ∀ c ∈ foldC h l, c = l.filter fun y => sameN (headW c) y.word h := by
  induction l using snoc_ind with
  | h0 => intro c hc; simp [foldC] at hc
  | h1 l x ih =>
    have hl' : ∀ y ∈ l, y.word < 4294967296 := fun y hy => hl y (List.mem_append_left _ hy)
    have hx : x.word < 4294967296 := hl x (by simp)
    have ih := ih hl'
    have H := (foldC_cnt hh l hl').1
    rw [foldC_append]
    generalize foldC h l = C at H ih
    have hw : ∀ c ∈ C, headW c < 4294967296 := fun c hc => by
      obtain ⟨y, hy, he⟩ := headW_mem (H.mem c hc).1
      rw [he]; exact hl' y ((H.mem c hc).2 y hy).1
    rcases stepC_cases h C x with ⟨hno, he⟩ | ⟨K, c, hc, hs, he⟩
    · rw [he]
      intro d hd
      rw [List.filter_append]
      rcases List.mem_append.1 hd with hd | hd
      · have h1 := hno d hd
        rw [← ih d hd]
        simp [h1]
      · obtain rfl := List.mem_singleton.1 hd
        have h1 : l.filter (fun y => sameN (headW [x]) y.word h) = [] := by
          rw [List.filter_eq_nil_iff]
          intro y hy hxy
          obtain ⟨c, hc, hyc⟩ := H.all y hy
          have := sameN_trans (hw c hc) (hl' y hy) hx ((H.mem c hc).2 y hyc).2 (sameN_symm hxy)
          rw [hno c hc] at this
          cases this
        rw [h1]
        have : sameN (headW [x]) x.word h = true := sameN_refl _ hh
        simp [this]
    · rw [he]
      intro d hd
      rw [List.filter_append]
      obtain ⟨i, hi⟩ := List.mem_iff_getElem?.1 hd
      have hcm := List.mem_of_getElem? hc
      by_cases hik : i = K
      · subst hik
        rw [List.getElem?_set_self (List.getElem?_eq_some_iff.1 hc).1] at hi
        cases hi
        rw [headW_snoc x (H.mem c hcm).1, ← ih c hcm]
        simp [hs]
      · rw [List.getElem?_set_ne (by omega)] at hi
        have hdm := List.mem_of_getElem? hi
        have h1 : sameN (headW d) x.word h = false := by
          cases hsd : sameN (headW d) x.word h with
          | false => rfl
          | true => exact absurd (H.heads i K d c hi hc (sameN_trans (hw d hdm) hx (hw c hcm) hsd (sameN_symm hs))) hik
        rw [← ih d hdm]
        simp [h1]
theorem sort_check {l : List Nd} (h : checkN l = 0) : checkN (sortN l) = 0 := by
  have hp := sortN_perm l
  unfold checkN at h ⊢
  split at h
  · omega
  rename_i hlen
  split at h
  · omega
  rename_i hbad
  split at h
  · omega
  rename_i hdup
  have h0 : checkN l = 0 := by unfold checkN; rw [if_neg hlen, if_neg hbad, if_neg hdup]
  rw [if_neg (by rw [hp.length_eq]; exact hlen), if_neg (by
    intro hb
    obtain ⟨x, hx, hxb⟩ := List.any_eq_true.1 hb
    exact hbad (List.any_eq_true.2 ⟨x, hp.mem_iff.1 hx, hxb⟩)), if_neg]
  intro hd
  obtain ⟨i, k, x, y, hki, hx, hy, he⟩ := (dupN_iff _).1 hd
  have := asc_at (sortN_str h0) hy hx hki
  unfold eqN at he
  rcases Bool.or_eq_true_iff.1 he with h1 | h1
  · exact this.2 (by simpa using (beq_iff_eq.1 h1).symm)
  · rw [beq_iff_eq.1 h1, bytesLess_irrefl] at this
    cases this.1
theorem sort_sort {l : List Nd} (h : checkN l = 0) : sortN (sortN l) = sortN l :=
  sortN_unique (check_keys h) ((sortN_perm _).trans (sortN_perm l)) (sortN_asc _)
theorem find_in {S : List Nd} (h : checkN S = 0) {x : Nd} (hx : x ∈ S) : findN S x.id = (x, true) := by
  have h2 : (findN S x.id).2 = true := by
    unfold findN
    cases e : S.find? (fun y => y.id == x.id) with
    | none => have := List.find?_eq_none.1 e x hx; simp at this
    | some y => rfl
  obtain ⟨h3, h4⟩ := findN_mem h2
  have h5 := ids_eq (check_keys h) h3 hx h4
  exact Prod.ext h5 h2
theorem procB_high (S : List Nd) (x : Int) (j : Nat) : ∀ k, k ≤ j → procB S k x j = (0, 0)
  | 0, _ => rfl
  | k + 1, hk => by
    show procL k (listsN S (k : Nat)) (procB S k) x j = _
    rw [procL_level _ _ _ _ _ (by omega)]
    exact procB_high S x j k (by omega)
theorem procB_low (S : List Nd) (x : Int) (j : Nat) : ∀ d, procB S (j + 1 + d) x j = procB S (j + 1) x j
  | 0 => rfl
  | d + 1 => by
    show procL (j + 1 + d) _ (procB S (j + 1 + d)) x j = _
    rw [procL_level _ _ _ _ _ (by omega)]
    exact procB_low S x j d
theorem atI_ids {c : List Nd} {q : Nat} (_ : q < c.length) : atI (idsN c) q = (c[q]?.getD Nd.zero).id := by
  unfold atI idsN
  rw [List.getElem?_map]
  cases h : c[q]? with
  | none => exact absurd (List.getElem?_eq_none_iff.1 h) (by omega)
  | some y => rfl
theorem build_at {l : List Nd} (h0 : checkN l = 0) (hw : ∀ x ∈ l, x.word < 4294967296) {x : Nd} (hx : x ∈ sortN l) {j : Nat} (hj : j ≤ 16) : procB (sortN l) (j + 1) x.id j = (neighN (sortN l) x.id (j : Nat)).1 := by
  obtain ⟨S, hS⟩ : ∃ S, S = sortN l := ⟨_, rfl⟩
  have hc := sort_check h0
  have hss := sort_sort h0
  have hA := sortN_str h0
  have hws : ∀ y ∈ S, y.word < 4294967296 := fun y hy => hw y ((sortN_mem l y).1 (hS ▸ hy))
  rw [← hS] at hx hc hss hA ⊢
  have hlv : lvlN (j : Int) = true := by unfold lvlN; simp; omega
  have hf := find_in hc hx
  have hL : listsN S (j : Int) = (foldC (j : Int) S).map idsN := by
    unfold listsN
    rw [if_pos ⟨by rw [hc]; rfl, hlv⟩, hss, classesN_fold (by omega)]
  obtain ⟨i, hi, _, hn⟩ := neighN_yes (l := S) (id := x.id) (h := (j : Int)) hc (by rw [hf]) hlv
  have HC := (foldC_cnt (show (j : Int) ≤ 16 by omega) S hws).1
  have HF := fil_fold (show (j : Int) ≤ 16 by omega) S hws
  have hth : thrG S x.id (j : Int) = groupN S (j : Int) x.word := by unfold thrG; rw [hss, hf]
  rw [hth] at hi hn
  rw [hf] at hi
  obtain ⟨c, hcm, hxc⟩ := HC.all x hx
  have hgc : groupN S (j : Int) x.word = c := by
    have hsx := ((HC.mem c hcm).2 x hxc).2
    obtain ⟨y0, hy0, he0⟩ := headW_mem (HC.mem c hcm).1
    have hwc : headW c < 4294967296 := by rw [he0]; exact hws y0 ((HC.mem c hcm).2 y0 hy0).1
    conv => rhs; rw [HF c hcm]
    unfold groupN
    apply List.filter_congr
    intro y hy
    rw [Bool.eq_iff_iff]
    exact ⟨fun h => sameN_trans hwc (hws x hx) (hws y hy) hsx (sameN_symm h), fun h => sameN_trans (hws y hy) hwc (hws x hx) (sameN_symm h) hsx⟩
  rw [hgc] at hi hn
  have hAc : AscS c := by rw [HF c hcm]; exact List.Pairwise.filter _ hA
  have hil := (List.getElem?_eq_some_iff.1 hi).1
  show procL j (listsN S (j : Nat)) (procB S j) x.id j = _
  have hxi : x.id = atI (idsN c) i := by rw [atI_ids hil, hi]; rfl
  rw [hL, hn, hxi]
  rw [procL_at j _ _ ?_ ?_ (idsN c) (List.mem_map.2 ⟨c, hcm, rfl⟩) i (by unfold idsN; simpa using hil) (procB_high S _ j j (Nat.le_refl _))]
  · have hlen : (idsN c).length = c.length := by unfold idsN; simp
    show _ = (leftN c i, rightN c i)
    congr 1
    · unfold leftN
      by_cases h1 : i = 0
      · rw [if_neg (by omega), if_pos h1]
      · rw [if_pos (by omega), if_neg h1, atI_ids (by omega)]
    · unfold rightN
      rw [hlen]
      by_cases h1 : i + 1 < c.length
      · rw [if_pos h1, atI_ids h1]
      · rw [if_neg h1, List.getElem?_eq_none (by omega)]; rfl
  · rw [List.pairwise_map, List.pairwise_iff_getElem]
    intro p q hp hq hpq z hz1 hz2
    obtain ⟨y1, hy1, e1⟩ := List.mem_map.1 hz1
    obtain ⟨y2, hy2, e2⟩ := List.mem_map.1 hz2
    have m1 := (HC.mem _ (List.getElem_mem hp)).2 y1 hy1
    have m2 := (HC.mem _ (List.getElem_mem hq)).2 y2 hy2
    have e : y1 = y2 := ids_eq (check_keys hc) m1.1 m2.1 (e1.trans e2.symm)
    subst e
    have hwc : ∀ d ∈ foldC (j : Int) S, headW d < 4294967296 := fun d hd => by
      obtain ⟨y0, hy0, he0⟩ := headW_mem (HC.mem d hd).1
      rw [he0]; exact hws y0 ((HC.mem d hd).2 y0 hy0).1
    have := HC.heads p q _ _ (List.getElem?_eq_getElem hp) (List.getElem?_eq_getElem hq) (sameN_trans (hwc _ (List.getElem_mem hp)) (hws y1 m1.1) (hwc _ (List.getElem_mem hq)) m1.2 (sameN_symm m2.2))
    omega
  · intro d hd
    obtain ⟨c', hc', rfl⟩ := List.mem_map.1 hd
    have hA' : AscS c' := by rw [HF c' hc']; exact List.Pairwise.filter _ hA
    unfold idsN List.Nodup
    rw [List.pairwise_map]
    exact hA'.imp (fun h => h.2)
theorem build_rows {l : List Nd} (h0 : checkN l = 0) (hw : ∀ x ∈ l, x.word < 4294967296) {m : Nat} (hm : m ≤ 16) : rowsF (sortN l) (m + 1) (procB (sortN l) (m + 1)) = (sortN l).map (rowN (sortN l) (m + 1)) := by
  unfold rowsF rowN
  apply List.map_congr_left
  intro x hx
  congr 1
  apply List.map_congr_left
  intro j hj
  have hj := List.mem_range.1 hj
  have := procB_low (sortN l) x.id j (m - j)
  rw [show j + 1 + (m - j) = m + 1 by omega] at this
  rw [this, build_at h0 hw hx (by omega)]
theorem build_p (a : Option Addr) (n c : Nat) (l : List Nd) (h : Int) (w : World) (hs : Sl 3 encN w a n l) (hn : n ≤ 1000) (hc : n ≤ c) (hm : c ≤ maxLen) (hw : ∀ x ∈ l, x.word < 4294967296) (hT : TabG w) :
    Calls Tryd.prog 15 #[.slice a n c, .int .i64 h] w (LkPost (buildN l h).1 (buildN l h).2 w) := by
  refine build_q a n c l h w hs hn hc hm hw hT _ _ (fun h0 => ?_) (fun h0 h1 => ?_) (fun h0 m he hm => ?_)
  · unfold buildN
    rw [if_pos (by rw [beq_eq_false_iff_ne]; exact h0)]
    exact ⟨rfl, rfl⟩
  · unfold buildN
    rw [if_neg (by rw [h0]; simp), if_pos h1]
    exact ⟨rfl, rfl⟩
  · subst he
    unfold buildN
    rw [if_neg (by rw [h0]; simp), if_neg (by unfold lvlN; simp; omega)]
    rw [build_rows h0 hw hm]
    exact ⟨rfl, rfl⟩
end Go.Proofs.YtihpaonhonhfoaaDoor

/- When two lists of links are equal. -/
namespace Go.Proofs.YtihpaonhonhfoaaDoor
open Go.RowKit

def SmRel (L M : List Lkd) (n : Nat) (w : World) (i : Value) (wr : World) : Prop := ∃ k : Nat, k ≤ n ∧ i = .int .i64 k ∧ Ex w wr ∧ L.take k = M.take k
def SvRel (r s : List (Int × Int)) (n : Nat) (w : World) (i : Value) (wr : World) : Prop := ∃ k : Nat, k ≤ n ∧ i = .int .i64 k ∧ Ex w wr ∧ r.take k = s.take k
theorem take_snoc_eq {α : Type} {L M : List α} {k : Nat} {c d : α} (h : L.take k = M.take k) (hc : L[k]? = some c) (hd : M[k]? = some d) (he : c = d) : L.take (k + 1) = M.take (k + 1) := by
  rw [List.take_add_one, List.take_add_one, h, hc, hd, he]
theorem ne_at {α : Type} {L M : List α} {k : Nat} {c d : α} (hc : L[k]? = some c) (hd : M[k]? = some d) (he : c ≠ d) : ¬ L = M := by
  intro h
  rw [h, hd] at hc
  exact he (Option.some.inj hc).symm

set_option maxHeartbeats 4000000 in
theorem samelk_g (a1 a2 : Option Addr) (n m c1 c2 : Nat) (L M : List Lkd) (w : World) (h1 : LkL w a1 n L) (h2 : LkL w a2 m M) (hn : n ≤ 1000000) (hs : ∀ c ∈ L, c.2.length ≤ 9223372036854775807) :
    Calls Tryd.prog 19 #[.slice a1 n c1, .slice a2 m c2] w fun e w' => e = .returned (.bool (decide (L = M))) ∧ Ex w w' := by
  have HL := Lib.hid h1.len
  have HM := Lib.hid h2.len
  have HS := Lib.hid hs
  clear hs
  go_enter Tryd.func19, Tryd.ntmps19
  by_cases hnm : n = m
  · subst hnm
    go_wp2_with fail
    go_loopw [5] (fun i wr => SmRel L M n w i wr) (fun i _ => n - (intOf i).toNat)
    case atStart => exact ⟨0, by omega, rfl, Ex.refl _, rfl⟩
    case round =>
      obtain ⟨k, hk, rfl, kw, hT⟩ := hrel
      obtain ⟨wo, rfl⟩ : ∃ wo : World, wo = wr := ⟨_, rfl⟩
      have HT := Lib.hid hT
      clear hT
      by_cases hlt : k < n
      · obtain ⟨x1, o1, a1', n1', c1', d1, rfl, hx1, hy1, hc1, r1⟩ := (h1.nx kw).at hlt
        obtain ⟨x2, o2, a2', n2', c2', d2, rfl, hx2, hy2, hc2, r2⟩ := (h2.nx kw).at hlt
        have e0 : wo.cell? ⟨x1, o1 + k * 2, none⟩ = some (.int .i64 d1.1) := hc1 0 _ rfl
        have e1 : wo.cell? ⟨x1, o1 + k * 2 + 1, none⟩ = some (.slice a1' n1' c1') := hc1 1 _ rfl
        have f0 : wo.cell? ⟨x2, o2 + k * 2, none⟩ = some (.int .i64 d2.1) := hc2 0 _ rfl
        have f1 : wo.cell? ⟨x2, o2 + k * 2 + 1, none⟩ = some (.slice a2' n2' c2') := hc2 1 _ rfl
        have HY1 := Lib.hid hy1
        have HY2 := Lib.hid hy2
        have L1 := Lib.hid r1.len
        have L2 := Lib.hid r2.len
        have R1 := Lib.hid r1
        have R2 := Lib.hid r2
        have H1 := Lib.hid h1
        have H2 := Lib.hid h2
        have hb1 : n1' ≤ 9223372036854775807 := by rw [← r1.len]; exact HS.out _ (List.mem_of_getElem? hy1)
        have KW := Lib.hid kw
        clear hc1 hc2 hy1 hy2 r1 r2 h1 h2 kw
        by_cases hid : d1.1 = d2.1
        · by_cases hln : n1' = n2'
          · subst hln
            have g1 : decide (d1.1 = d2.1) = true := by simpa using hid
            go_wp2_with fail
            go_quiet (fail)
            go_wp2_with fail
            have KQ := KW.out.drewN 0
            go_loopw [6] (fun i wr => SvRel d1.2 d2.2 n1' wo i wr) (fun i _ => n1' - (intOf i).toNat)
            case atStart => exact ⟨0, by omega, rfl, (Ex.refl wo).drewN _, rfl⟩
            case round =>
              obtain ⟨j, hj, rfl, kv, hT2⟩ := hrel
              obtain ⟨wi, rfl⟩ : ∃ wi : World, wi = wr := ⟨_, rfl⟩
              have HT2 := Lib.hid hT2
              clear hT2
              have e1 := Chg.cellv kv e1 hx1
              have f1 := Chg.cellv kv f1 hx2
              by_cases hjl : j < n1'
              · obtain ⟨x3, o3, y1, rfl, hx3, hy1, hc3⟩ := (R1.out.nx kv).at hjl
                obtain ⟨x4, o4, y2, rfl, hx4, hy2, hc4⟩ := (R2.out.nx kv).at hjl
                have u0 : wi.cell? ⟨x3, o3 + j * 2, none⟩ = some (.int .i64 y1.1) := hc3 0 _ rfl
                have u1 : wi.cell? ⟨x3, o3 + j * 2 + 1, none⟩ = some (.int .i64 y1.2) := hc3 1 _ rfl
                have v0 : wi.cell? ⟨x4, o4 + j * 2, none⟩ = some (.int .i64 y2.1) := hc4 0 _ rfl
                have v1 : wi.cell? ⟨x4, o4 + j * 2 + 1, none⟩ = some (.int .i64 y2.2) := hc4 1 _ rfl
                have HZ1 := Lib.hid hy1
                have HZ2 := Lib.hid hy2
                have KV := Lib.hid kv
                clear hc3 hc4 hy1 hy2 kv e0 f0
                by_cases hy : y1 = y2
                · subst hy
                  go_wp2_with fail
                  go_quiet (fail)
                  go_wp2_with fail
                  exact ⟨⟨j + 1, by omega, by go_num, KV.out.drewN _, take_snoc_eq HT2.out HZ1.out HZ2.out rfl⟩, by simp [intOf]; omega⟩
                · have ND : Hid (decide (L = M) = false) := Lib.hid (decide_eq_false (ne_at HY1.out HY2.out (fun h => ne_at HZ1.out HZ2.out hy (by rw [h]))))
                  obtain ⟨p1, r1⟩ := y1
                  obtain ⟨p2, r2⟩ := y2
                  simp only at u0 u1 v0 v1
                  by_cases hp : p1 = p2
                  · subst hp
                    have hr : ¬ r1 = r2 := fun h => hy (by rw [h])
                    have hb : (r1 == r2) = false := by simpa using hr
                    clear hy HZ1 HZ2
                    go_wp2_with fail
                    go_quiet (fail)
                    go_wp2_with fail
                    go_ret
                    exact ⟨by rw [ND.out]; rfl, (KW.out.nx KV.out).drewN _⟩
                  · have hb : (p1 == p2) = false := by simpa using hp
                    clear hy HZ1 HZ2
                    go_wp2_with fail
                    go_quiet (fail)
                    go_wp2_with fail
                    go_ret
                    exact ⟨by rw [ND.out]; rfl, (KW.out.nx KV.out).drewN _⟩
              · obtain rfl : j = n1' := by omega
                have ED : d1 = d2 := Prod.ext hid (by
                  have h3 := HT2.out
                  rwa [List.take_of_length_le (by rw [L1.out]; exact Nat.le_refl _), List.take_of_length_le (by rw [L2.out]; exact Nat.le_refl _)] at h3)
                have ED := Lib.hid ED
                have KV := Lib.hid kv
                clear kv hj hjl e0 f0
                go_wp2_with fail
                exact ⟨⟨k + 1, by omega, by go_num, KW.out.nx KV.out, take_snoc_eq HT.out HY1.out HY2.out ED.out⟩, by simp [intOf]; omega⟩
          · have g1 : decide (d1.1 = d2.1) = true := by simpa using hid
            have g2 : ¬ (n1' : Int) = (n2' : Int) := by omega
            have ND : Hid (decide (L = M) = false) := Lib.hid (decide_eq_false (ne_at HY1.out HY2.out (fun h => hln (by rw [← L1.out, ← L2.out, h]))))
            go_wp2_with fail
            go_quiet (fail)
            go_wp2_with fail
            go_ret
            exact ⟨by rw [ND.out]; rfl, KW.out.drewN _⟩
        · have g1 : decide (d1.1 = d2.1) = false := by simpa using hid
          have ND : Hid (decide (L = M) = false) := Lib.hid (decide_eq_false (ne_at HY1.out HY2.out (fun h => hid (by rw [h]))))
          go_wp2_with fail
          go_quiet (fail)
          go_wp2_with fail
          go_ret
          exact ⟨by rw [ND.out]; rfl, KW.out.drewN _⟩
      · obtain rfl : k = n := by omega
        have ED : Hid (decide (L = M) = true) := Lib.hid (decide_eq_true (by
          have h3 := HT.out
          rwa [List.take_of_length_le (by rw [HL.out]; exact Nat.le_refl _), List.take_of_length_le (by rw [HM.out]; exact Nat.le_refl _)] at h3))
        clear h1 h2 hk hlt
        go_wp2_with fail
        go_ret
        exact ⟨by rw [ED.out]; rfl, kw⟩
  · have hnm' : ¬ (n : Int) = (m : Int) := by omega
    have ND : Hid (decide (L = M) = false) := Lib.hid (decide_eq_false (fun h => hnm (by rw [← HL.out, ← HM.out, h])))
    clear h1 h2
    go_wp2_with fail
    go_ret
    exact ⟨by rw [ND.out]; rfl, Ex.refl _⟩
theorem samelk_r (a1 a2 : Option Addr) (n m c1 c2 : Nat) (L M : List Lkd) (w : World) (h1 : LkL w a1 n L) (h2 : LkL w a2 m M) (hn : n ≤ 1000000) (hs : ∀ c ∈ L, c.2.length ≤ 1000000) :
    Calls Tryd.prog 19 #[.slice a1 n c1, .slice a2 m c2] w fun e w' => e = .returned (.bool (decide (L = M))) ∧ Ex w w' :=
  samelk_g a1 a2 n m c1 c2 L M w h1 h2 hn (fun c hc => Nat.le_trans (hs c hc) (by omega))
end Go.Proofs.YtihpaonhonhfoaaDoor

/- IDs, Lists, SameInts and SameLists of the reference. -/
namespace Go.Proofs.YtihpaonhonhfoaaDoor
open Go.RowKit

set_option maxRecDepth 100000 in
set_option maxHeartbeats 2000000 in
theorem ids_r (a : Option Addr) (n c : Nat) (l : List Nd) (w : World) (hs : Sl 3 encN w a n l) (hn : n ≤ 100000) :
    Calls Tryd.prog 47 #[.slice a n c] w (IdqPost l w) := by
  have HL := Lib.hid hs.len
  have hll := hs.len
  have HS := Lib.hid hs
  clear hs
  go_enter Tryd.func47, Tryd.ntmps47
  go_wp2_with fail
  go_loopw [3, 4] (fun o i wr => IdqRel l n w o i wr) (fun _ i _ => n - (intOf i).toNat)
  case atStart => exact ⟨0, by omega, rfl, OwnL.nil _ _ _ _ _, Ex.refl _⟩
  case round =>
    obtain ⟨j, hj, rfl, own, ki⟩ := hrel
    obtain ⟨wi, rfl⟩ : ∃ wi : World, wi = wr := ⟨_, rfl⟩
    by_cases hjm : j < n
    · obtain ⟨x3, o3, y, rfl, hx3, hy, hc3⟩ := (HS.out.nx ki).at hjm
      have e0 : wi.cell? ⟨x3, o3 + j * 3, none⟩ = some (.int .i64 y.id) := hc3 0 _ rfl
      have SN := Lib.hid (idsN_snoc l j _ hy)
      have hrl : (idsN (l.take j)).length = j := by unfold idsN; rw [List.length_map, List.length_take]; omega
      clear hy hc3
      have zb := ki.size
      generalize idsN (l.take j) = row at own SN hrl
      generalize y.id = yi at SN e0
      go_wp2_with (at_builtin; (refine wpList_append_lit (enc := encI) wi rfl _ _ 22 rfl w.heap.size 3 (.int .i64 0) 1 8 Tryd.underlying22 Tryd.infoI6 rfl (by omega) (by omega) _ _ own rfl (yi : Int) _ rfl rfl (by simp [encI, Value.oneCell']) _ (by simp) rfl (by omega) zb _ ?_); intro v6 w6 own6 _ ch1 _)
      refine ⟨⟨j + 1, by omega, by go_num, by rw [SN.out]; exact own6, Chg.trans ki ch1⟩, by simp [intOf]; omega⟩
    · obtain rfl : j = n := by omega
      rw [List.take_of_length_le (by omega)] at own
      have own := Lib.hid own
      clear hj hjm
      go_wp2_with fail
      go_ret
      exact ⟨_, rfl, own.out, ki⟩

set_option maxRecDepth 100000 in
set_option maxHeartbeats 2000000 in
theorem lists_r (a : Option Addr) (n c : Nat) (l : List Nd) (h : Int) (w : World) (hs : Sl 3 encN w a n l) (hn : n ≤ 1000) (hw : ∀ x ∈ l, x.word < 4294967296) :
    Calls Tryd.prog 22 #[.slice a n c, .int .i64 h] w (IlPost (listsN l h) w) := by
  have HW := Lib.hid hw
  have HL := Lib.hid hs.len
  have HSM := Lib.hid (classesN_sm (sortN l) h (by have := sortN_length l; have := hs.len; omega))
  clear hw
  go_enter Tryd.func22, Tryd.ntmps22
  go_wp2_with fail
  (with_reducible refine (is_r _ _ _ _ _ hs (by omega)).mono ?_)
  rintro e w1 ⟨rfl, k1⟩
  have S1 := hs.nx k1
  clear hs
  cases hc : (checkN l == 0) with
  | false =>
    have HNO : Hid (listsN l h = []) := Lib.hid (by unfold listsN; rw [if_neg]; rintro ⟨h1, _⟩; rw [hc] at h1; cases h1)
    clear S1 hc
    go_wp2_with fail
    go_ret
    rw [HNO.out]
    exact ⟨_, [], rfl, OwnN.nil _ _ _ _ _ _ _ _, k1⟩
  | true =>
    go_wp2_with fail
    refine (level_r h _).mono ?_
    rintro e w2 ⟨rfl, rfl⟩
    cases hl : lvlN h with
    | false =>
      have HNO : Hid (listsN l h = []) := Lib.hid (by unfold listsN; rw [if_neg]; rintro ⟨_, h1⟩; rw [hl] at h1; cases h1)
      clear S1 hc hl
      go_wp2_with fail
      go_ret
      rw [HNO.out]
      exact ⟨_, [], rfl, OwnN.nil _ _ _ _ _ _ _ _, k1⟩
    | true =>
      have HYES : Hid (listsN l h = (classesN (sortN l) h).map idsN) := Lib.hid (by unfold listsN; rw [if_pos ⟨hc, hl⟩])
      clear hc hl
      go_wp2_with fail
      (with_reducible refine (classes6_r _ _ _ _ _ _ S1 hn HW.out).mono ?_)
      rintro e w2 ⟨a2, c2, rfl, C2, k2⟩
      replace k1 := Lib.hid (k1.nx k2)
      have hsz := k1.out.size
      generalize classesN (sortN l) h = C at C2 HSM HYES ⊢
      have C2 := Lib.hid C2
      have hC := HSM.out.1
      clear k2 S1
      go_wp2_with fail
      go_loopw [5, 7] (fun o i wr => IlRel C w2 o i wr) (fun _ i _ => C.length - (intOf i).toNat)
      case atStart => exact ⟨0, [], by omega, rfl, OwnN.nil _ _ _ _ _ _ _ _, Ex.refl _⟩
      case round =>
        obtain ⟨k, qs, hk, rfl, OQ, kw⟩ := hrel
        obtain ⟨wo, rfl⟩ : ∃ wo : World, wo = wr := ⟨_, rfl⟩
        by_cases hlt : k < C.length
        · obtain ⟨x1, o1, a', n', c', cc, rfl, hx1, hcc, hcell, hsl⟩ := (C2.out.nx kw).at hlt
          have HCC := Lib.hid hcc
          have hnl := hsl.len
          have hcl : cc.length ≤ 1000 := HSM.out.2 cc (List.mem_of_getElem? hcc)
          subst hnl
          have hzo := kw.size
          clear hcc
          go_wp2_with fail
          (with_reducible refine (ids_r _ _ _ _ _ hsl (by omega)).mono ?_)
          rintro e wi ⟨vi, rfl, own, ki⟩
          have OQ1 := OQ.nx ki
          obtain ⟨a6, c6, rfl, _, _, _, _⟩ := own.rd (fun _ => rfl)
          have hkq : qs.length = k := by rw [OQ1.2.1, List.length_map, List.length_map, List.length_take]; omega
          have hzi : w2.heap.size ≤ wi.heap.size := by have := ki.size; omega
          have FR : ∀ (j : Nat) (r : Unit × Hdr) (g : Nat), qs[j]? = some r → r.2.val.ownBlock = some g → ¬ (Value.slice a6 (idsN cc).length c6).ownBlock = some g := by
            intro j r g hr hg hv
            have h1 := OQ.lt hr hg
            have h2 := (own.lt g hv).1
            omega
          have k8 := Ex.new wi (.cells #[.slice a6 (idsN cc).length c6] 22)
          have SX : Sl 1 (encP enc0) (wi.alloc (.cells #[.slice a6 (idsN cc).length c6] 22)) (some ⟨wi.heap.size, 0, none⟩) 1 [(((), (a6, (idsN cc).length, c6)) : Unit × Hdr)] := Sl.lit _ rfl rfl (fun _ => rfl) rfl
          have OQ2 := OQ1.nx k8
          have own2 := own.nx k8
          have ki8 := ki.nx k8
          have KW := Lib.hid kw
          have hql : qs.length ≤ 1000000 := by omega
          clear hsl hcell kw OQ OQ1 own ki
          go_wp2_with (at_builtin; (refine wpList_append_W (enc := encP enc0) _ rfl _ _ 41 rfl w2.heap.size 22 (.slice none 0 0) 1 24 Tryd.underlying41 Tryd.infoIL rfl (by omega) (by omega) _ _ OQ2.1 rfl _ 1 1 [_] SX (fun _ => rfl) (by simp [encP, enc0, Hdr.val, Value.oneCell']) rfl hql (by omega) (by simp; omega) ?_); intro v7 w7 own7 ch0 ch1 _)
          have OQ7 := OQ2.push (by decide) own7 ch0 (own2.base (by omega)) FR
          have kw7 : Ex w2 w7 := Chg.trans (KW.out.nx ki8) ch1
          exact ⟨⟨k + 1, qs ++ [(((), (a6, (idsN cc).length, c6)) : Unit × Hdr)], by omega, by go_num, by show OwnN enc0 1 1 encI _ _ _ _ _ _ (((C.take (k + 1)).map idsN).map pairU); rw [idsC_snoc C k cc HCC.out]; exact OQ7, kw7⟩, by simp [intOf]; omega⟩
        · obtain rfl : k = C.length := by omega
          rw [List.take_length] at OQ
          have OQ := Lib.hid OQ
          clear hk hlt
          go_wp2_with fail
          go_ret
          rw [HYES.out]
          exact ⟨_, qs, rfl, OwnN.base OQ.out hsz, k1.out.nx kw⟩

set_option maxHeartbeats 1000000 in
theorem sameints_x (a1 a2 : Option Addr) (n c1 c2 : Nat) (l : List Int) (w : World) (h1 : Sl 1 encI w a1 n l) (h2 : Sl 1 encI w a2 n l) (hn : n ≤ 1000000) :
    Calls Tryd.prog 44 #[.slice a1 n c1, .slice a2 n c2] w fun e w' => e = .returned (.bool true) ∧ Ex w w' := by
  go_enter Tryd.func44, Tryd.ntmps44
  go_wp2_with fail
  go_loopw [5] (fun i wr => ∃ k : Nat, k ≤ n ∧ i = .int .i64 k ∧ Ex w wr) (fun i _ => n - (intOf i).toNat)
  case atStart => exact ⟨0, by omega, rfl, Ex.refl _⟩
  case round =>
    obtain ⟨k, hk, rfl, kw⟩ := hrel
    obtain ⟨wo, rfl⟩ : ∃ wo : World, wo = wr := ⟨_, rfl⟩
    by_cases hlt : k < n
    · obtain ⟨x1, o1, y, rfl, hx1, hy, hc1⟩ := (h1.nx kw).at hlt
      obtain ⟨x2, o2, y', rfl, hx2, hy', hc2⟩ := (h2.nx kw).at hlt
      obtain rfl : y = y' := Option.some.inj (hy.symm.trans hy')
      have e0 : wo.cell? ⟨x1, o1 + k, none⟩ = some (.int .i64 y) := by simpa using hc1 0 _ rfl
      have f0 : wo.cell? ⟨x2, o2 + k, none⟩ = some (.int .i64 y) := by simpa using hc2 0 _ rfl
      clear hc1 hc2 hy hy' h1 h2
      go_wp2_with fail
      go_quiet (fail)
      go_wp2_with fail
      exact ⟨⟨k + 1, by omega, by go_num, kw.drewN _⟩, by simp [intOf]; omega⟩
    · obtain rfl : k = n := by omega
      clear h1 h2 hk hlt
      go_wp2_with fail
      go_ret
      exact ⟨rfl, kw⟩

theorem IL.at1 {w : World} {a : Option Addr} {n : Nat} {M : List (List Int)} (h : IL w a n M) {j : Nat} (hj : j < n) :
    ∃ x o a' n' c' c, a = some ⟨x, o, none⟩ ∧ x < w.heap.size ∧ M[j]? = some c ∧ w.cell? ⟨x, o + j, none⟩ = some (.slice a' n' c') ∧ Sl 1 encI w a' n' c := by
  obtain ⟨x, o, a', n', c', c, e, hx, hc, hcell, hs⟩ := NL.at h hj
  rw [List.getElem?_map] at hc
  cases hm : M[j]? with
  | none => rw [hm] at hc; cases hc
  | some m =>
    rw [hm] at hc
    cases hc
    refine ⟨x, o, a', n', c', m, e, hx, rfl, ?_, hs⟩
    have := hcell 0 _ rfl
    simpa using this
set_option maxRecDepth 100000 in
set_option maxHeartbeats 4000000 in
theorem samelists_x (a1 a2 : Option Addr) (n c1 c2 : Nat) (M : List (List Int)) (w : World) (h1 : IL w a1 n M) (h2 : IL w a2 n M) (hn : n ≤ 1000000) (hm : ∀ m ∈ M, m.length ≤ 1000000) :
    Calls Tryd.prog 20 #[.slice a1 n c1, .slice a2 n c2] w fun e w' => e = .returned (.bool true) ∧ Ex w w' := by
  have H1 := Lib.hid h1
  have H2 := Lib.hid h2
  have HM := Lib.hid hm
  clear h1 h2 hm
  go_enter Tryd.func20, Tryd.ntmps20
  go_wp2_with fail
  go_loopw [5] (fun i wr => ∃ k : Nat, k ≤ n ∧ i = .int .i64 k ∧ Ex w wr) (fun i _ => n - (intOf i).toNat)
  case atStart => exact ⟨0, by omega, rfl, Ex.refl _⟩
  case round =>
    obtain ⟨k, hk, rfl, kw⟩ := hrel
    obtain ⟨wo, rfl⟩ : ∃ wo : World, wo = wr := ⟨_, rfl⟩
    by_cases hlt : k < n
    · obtain ⟨x1, o1, a1', n1', c1', m1, rfl, hx1, hy1, hc1, r1⟩ := IL.at1 (H1.out.nx kw) hlt
      obtain ⟨x2, o2, a2', n2', c2', m2, rfl, hx2, hy2, hc2, r2⟩ := IL.at1 (H2.out.nx kw) hlt
      obtain rfl : m1 = m2 := Option.some.inj (hy1.symm.trans hy2)
      obtain rfl : n1' = n2' := by rw [← r1.len, ← r2.len]
      have hb := HM.out m1 (List.mem_of_getElem? hy1)
      rw [r1.len] at hb
      have R1 := Lib.hid r1
      have R2 := Lib.hid r2
      clear hy1 hy2 r1 r2
      have HC1 := Lib.hid (Chg.cellv (Ex.refl wo).drew hc1 hx1)
      have HC2 := Lib.hid (Chg.cellv (Ex.refl wo).drew hc2 hx2)
      have HX1 := Lib.hid hx1
      have HX2 := Lib.hid hx2
      clear hx1 hx2
      go_wp2_with fail
      refine wp_region_held_drew (S := Ex wo.drew) (by kernel_rfl) (Ex.refl _) (fun hHeld => ?_)
      refine wpAnyH_take (i := 0) (oi := ⟨some 17, .move (.tmp 0), 41, "ref.go:154", #[], none⟩) (v := ?_) rfl (by kernel_rfl) (by kernel_rfl) (by kernel_rfl) (fun _ _ _ h => h) (Or.inl ⟨by rfl, ?hyr1x0⟩) (by assumption) ?restr1x0
      case hyr1x0 => intro wq hSw; (go_simp); (try with_reducible rfl)
      try simp only [Act.put, List.setIfInBounds_toArray, List.set_cons_zero, List.set_cons_succ]
      refine wpAnyH_take (i := 1) (oi := ⟨some 18, .move (.tmp 5), 3, "ref.go:154", #[], none⟩) (v := ?_) rfl (by kernel_rfl) (by kernel_rfl) (by kernel_rfl) (fun _ _ _ h => h) (Or.inl ⟨by rfl, ?hyr1x1⟩) (by assumption) ?restr1x1
      case hyr1x1 => intro wq hSw; (go_simp); (try with_reducible rfl)
      try simp only [Act.put, List.setIfInBounds_toArray, List.set_cons_zero, List.set_cons_succ]
      refine wpAnyH_take (i := 2) (oi := ⟨some 19, .indexAddr 41 (.tmp 17) (.tmp 18), 0, "ref.go:154", #[⟨0, .data⟩, ⟨1, .data⟩], none⟩) (v := ?_) rfl (by kernel_rfl) (by kernel_rfl) (by kernel_rfl) (fun _ _ _ h => h) (Or.inl ⟨by rfl, ?hyr1x2⟩) (by assumption) ?restr1x2
      case hyr1x2 => intro wq hSw; (go_simp); (try with_reducible rfl)
      try simp only [Act.put, List.setIfInBounds_toArray, List.set_cons_zero, List.set_cons_succ]
      refine wpAnyH_take (i := 3) (oi := ⟨some 20, .load 22 (.tmp 19), 22, "ref.go:154", #[⟨2, .data⟩], none⟩) (v := ?_) rfl (by kernel_rfl) (by kernel_rfl) (by kernel_rfl) (fun _ _ _ h => h) (Or.inl ⟨by rfl, ?hyr1x3⟩) (by assumption) ?restr1x3
      case hyr1x3 => intro wq hSw; (have cq := Chg.cellv hSw HC1.out HX1.out; go_simp); (try with_reducible rfl)
      try simp only [Act.put, List.setIfInBounds_toArray, List.set_cons_zero, List.set_cons_succ]
      refine wpAnyH_take (i := 4) (oi := ⟨some 21, .move (.tmp 1), 41, "ref.go:154", #[], none⟩) (v := ?_) rfl (by kernel_rfl) (by kernel_rfl) (by kernel_rfl) (fun _ _ _ h => h) (Or.inl ⟨by rfl, ?hyr1x4⟩) (by assumption) ?restr1x4
      case hyr1x4 => intro wq hSw; (go_simp); (try with_reducible rfl)
      try simp only [Act.put, List.setIfInBounds_toArray, List.set_cons_zero, List.set_cons_succ]
      refine wpAnyH_take (i := 5) (oi := ⟨some 22, .move (.tmp 5), 3, "ref.go:154", #[], none⟩) (v := ?_) rfl (by kernel_rfl) (by kernel_rfl) (by kernel_rfl) (fun _ _ _ h => h) (Or.inl ⟨by rfl, ?hyr1x5⟩) (by assumption) ?restr1x5
      case hyr1x5 => intro wq hSw; (go_simp); (try with_reducible rfl)
      try simp only [Act.put, List.setIfInBounds_toArray, List.set_cons_zero, List.set_cons_succ]
      refine wpAnyH_take (i := 6) (oi := ⟨some 23, .indexAddr 41 (.tmp 21) (.tmp 22), 0, "ref.go:154", #[⟨4, .data⟩, ⟨5, .data⟩], none⟩) (v := ?_) rfl (by kernel_rfl) (by kernel_rfl) (by kernel_rfl) (fun _ _ _ h => h) (Or.inl ⟨by rfl, ?hyr1x6⟩) (by assumption) ?restr1x6
      case hyr1x6 => intro wq hSw; (go_simp); (try with_reducible rfl)
      try simp only [Act.put, List.setIfInBounds_toArray, List.set_cons_zero, List.set_cons_succ]
      refine wpAnyH_take (i := 7) (oi := ⟨some 24, .load 22 (.tmp 23), 22, "ref.go:154", #[⟨6, .data⟩], none⟩) (v := ?_) rfl (by kernel_rfl) (by kernel_rfl) (by kernel_rfl) (fun _ _ _ h => h) (Or.inl ⟨by rfl, ?hyr1x7⟩) (by assumption) ?restr1x7
      case hyr1x7 => intro wq hSw; (have cq := Chg.cellv hSw HC2.out HX2.out; go_simp); (try with_reducible rfl)
      try simp only [Act.put, List.setIfInBounds_toArray, List.set_cons_zero, List.set_cons_succ]
      refine wpAnyH_ready (rs := [8]) (by kernel_rfl) (by simp) ?_
      refine AllReadyH.cons (o := ⟨some 25, .call { callee := .value (.func 44), args := #[.tmp 20, .tmp 24], argTypes := #[22, 22] }, 4, "ref.go:154", #[⟨3, .data⟩, ⟨7, .data⟩], none⟩) rfl (fun K hK => ?_) AllReadyH.nil
      go_simp
      (with_reducible refine (sameints_x _ _ _ _ _ _ _ (R1.out.nx (Ex.refl wo).drew) (R2.out.nx (Ex.refl wo).drew) hb).mono ?_)
      rintro e w5 ⟨rfl, k5⟩
      replace k5 : Ex wo.drew w5 := k5
      refine hK.out _ _ k5 (fun _ => ?_)
      clear hK K
      try simp only [Act.put, List.setIfInBounds_toArray, List.set_cons_zero, List.set_cons_succ]
      refine wpAnyH_switch (S' := Ex w5) (fun _ hSw => Ex.nx k5 hSw) ?_
      clear hHeld
      have hHeld := Ex.refl w5
      refine wpAnyH_take (i := 9) (oi := ⟨some 26, .unOp .not 4 (.tmp 25), 4, "ref.go:154", #[⟨8, .data⟩], none⟩) (v := ?_) rfl (by kernel_rfl) (by kernel_rfl) (by kernel_rfl) (fun _ _ _ h => h) (Or.inl ⟨by rfl, ?hyr1x9⟩) (by assumption) ?restr1x9
      case hyr1x9 => intro wq hSw; (go_simp); (try with_reducible rfl)
      try simp only [Act.put, List.setIfInBounds_toArray, List.set_cons_zero, List.set_cons_succ]
      refine wpAnyH_done (by kernel_rfl) ?_ _
      replace kw := kw.nx ((Ex.refl wo).drew.nx k5)
      clear hc1 hc2
      go_wp2_with fail
      exact ⟨⟨k + 1, by omega, by go_num, kw⟩, by simp [intOf]; omega⟩
    · obtain rfl : k = n := by omega
      clear hk hlt
      go_wp2_with fail
      go_ret
      exact ⟨rfl, kw⟩
end Go.Proofs.YtihpaonhonhfoaaDoor

/- The sanity check of the statements on the unique skip graph. -/
namespace Go.Proofs.YtihpaonhonhfoaaDoor
open Go.RowKit

theorem TabG.nxb {b : Nat} {w w' : World} (h : TabG w) (hb : ¬ 1 = b) (k : Exb b w w') : TabG w' := h.chg k ⟨h.lt, hb⟩
def threeN : List Nd := [⟨1, ⟨#[97]⟩, 0⟩, ⟨2, ⟨#[98]⟩, 1⟩, ⟨3, ⟨#[99]⟩, 2⟩]
theorem k1_toList : (⟨#[97]⟩ : ByteArray).toList = [97] := by rw [ByteArray.toList_eq]
theorem k2_toList : (⟨#[98]⟩ : ByteArray).toList = [98] := by rw [ByteArray.toList_eq]
theorem k3_toList : (⟨#[99]⟩ : ByteArray).toList = [99] := by rw [ByteArray.toList_eq]
theorem three_build : buildN threeN 1 = ([(1, [(0, 2), (0, 3)]), (2, [(1, 3), (0, 0)]), (3, [(2, 0), (1, 0)])], 0) := by decide +kernel
theorem three_neigh : neighN threeN 1 1 = ((0, 3), true) := by decide +kernel
theorem three_lists : listsN threeN 1 = [[1, 3], [2]] := by decide +kernel
theorem three_height : heightN threeN = 2 := by decide +kernel
theorem threeW : ∀ x ∈ threeN, x.word < 4294967296 := by decide +kernel
def ThPost3 (w : World) (e : Ending) (w' : World) : Prop := ∃ a, e = .returned (.slice a 3 3) ∧ Sl 3 encN w' a 3 threeN ∧ Ex w w'
theorem three_x (w : World) : Calls Tryd.prog 49 #[] w (ThPost3 w) := by
  go_enter Tryd.func49, Tryd.ntmps49
  go_wp2_with fail
  go_ret
  exact ⟨_, rfl, Sl.lit threeN rfl rfl (fun _ => rfl) rfl, Ex.new _ _⟩
set_option maxRecDepth 100000 in
set_option maxHeartbeats 4000000 in
theorem sane6_x (w : World) (hT : TabG w) : Calls Tryd.prog 25 #[] w fun e w' => e = .returned (.bool true) ∧ Ex w w' := by
  go_enter Tryd.func25, Tryd.ntmps25
  go_wp2_with fail
  (with_reducible refine (three_x _).mono ?_)
  rintro e w1 ⟨a1, rfl, s1, k⟩
  have T := hT.nx k
  clear hT
  go_wp2_with fail
  (with_reducible refine (build_p _ _ _ _ _ _ s1 (by omega) (by omega) (by unfold maxLen; omega) threeW T).mono ?_)
  rintro e w2 ⟨v, qs, rfl, own, kk⟩
  rw [three_build] at own ⊢
  obtain ⟨aL, cL, rfl, L, _, _, _, _⟩ := OwnN.nl (encA := encI) (encB := encS) (s1 := 2) (s2 := 2) (fun _ => rfl) (fun _ => rfl) own
  simp only [List.length_cons, List.length_nil, List.length_map, Nat.zero_add, Nat.reduceAdd] at L ⊢
  replace k := k.nx kk
  replace T := T.nx kk
  have L := Lib.hid L
  clear s1 kk own
  go_wp2_with fail
  (with_reducible refine (three_x _).mono ?_)
  rintro e w3 ⟨a3, rfl, s1, kk⟩
  replace k := k.nx kk
  replace T := T.nx kk
  replace L := Lib.hid (L.out.nx kk)
  clear kk
  go_wp2_with fail
  (with_reducible refine (neigh_p _ _ _ _ _ _ _ s1 (by omega) (by omega) (by unfold maxLen; omega) threeW T).mono ?_)
  rintro e w4 ⟨rfl, kk⟩
  rw [three_neigh]
  replace k := k.nx kk
  replace T := T.nx kk
  replace L := Lib.hid (L.out.nx kk)
  clear kk s1
  have B := Blk.new w4 [.int .i64 0, .int .i64 3] 36
  have kk := Ex.new w4 (.cells #[.int .i64 0, .int .i64 3] 36)
  obtain ⟨w5, hw5⟩ : ∃ w5, w5 = w4.alloc (.cells #[.int .i64 0, .int .i64 3] 36) := ⟨_, rfl⟩
  obtain ⟨g, hg⟩ : ∃ g, g = w4.heap.size := ⟨_, rfl⟩
  have B : Blk w5 g [.int .i64 0, .int .i64 3] 36 := by rw [hw5, hg]; exact B
  rw [← hw5] at kk
  have HW5 := Lib.hid hw5
  have HG := Lib.hid hg
  replace k := k.nx kk
  replace T := T.nx kk
  replace L := Lib.hid (L.out.nx kk)
  clear hw5 hg kk
  go_wp2_with fail
  rw [← HG.out, ← HW5.out]
  clear HG HW5
  (with_reducible refine (three_x _).mono ?_)
  rintro e w6 ⟨a6, rfl, s1, kk⟩
  replace k := k.nx kk
  replace T := T.nx kk
  replace L := Lib.hid (L.out.nx kk)
  replace B := B.nx kk
  clear kk
  go_wp2_with fail
  (with_reducible refine (lists_p _ _ _ _ _ _ s1 (by omega) (by omega) (by unfold maxLen; omega) threeW T).mono ?_)
  rintro e w7 ⟨v, qs, rfl, own, kk⟩
  rw [three_lists] at own
  obtain ⟨aM, cM, rfl, M, _, _, _, _⟩ := OwnN.nl (encA := enc0) (encB := encI) (s1 := 1) (s2 := 1) (fun _ => rfl) (fun _ => rfl) own
  simp only [List.length_cons, List.length_nil, List.length_map, Nat.zero_add, Nat.reduceAdd] at M ⊢
  replace k := k.nx kk
  replace T := T.nx kk
  replace L := Lib.hid (L.out.nx kk)
  replace B := B.nx kk
  have M := Lib.hid M
  clear s1 kk own
  go_wp2_with fail
  (with_reducible refine (three_x _).mono ?_)
  rintro e w8 ⟨a8, rfl, s1, kk⟩
  replace k := k.nx kk
  replace T := T.nx kk
  replace L := Lib.hid (L.out.nx kk)
  replace B := B.nx kk
  replace M := Lib.hid (M.out.nx kk)
  clear kk
  go_wp2_with fail
  (with_reducible refine (height_p _ _ _ _ _ s1 (by omega) (by omega) (by unfold maxLen; omega) threeW T).mono ?_)
  rintro e w9 ⟨rfl, kk⟩
  rw [three_height]
  have K := Lib.hid (k.nx kk)
  replace L := L.out.nx kk
  replace B := B.nx kk
  replace M : IL w9 aM 2 [[1, 3], [2]] := M.out.nx kk
  clear k T kk s1
  obtain ⟨x1, o1, a1', n1', c1', d1, rfl, hx1, hd1, hc1, r1⟩ := NL.at L (j := 1) (by omega)
  cases hd1
  have e1 : w9.cell? ⟨x1, o1 + 1 * 2 + 1, none⟩ = some (.slice a1' n1' c1') := hc1 1 _ rfl
  obtain rfl : n1' = 2 := r1.len.symm
  obtain ⟨x2, o2, y2, rfl, hx2, hy2, hc2⟩ := r1.at (j := 0) (by omega)
  cases hy2
  have e2 : w9.cell? ⟨x2, o2, none⟩ = some (.int .i64 1) := by simpa using hc2 0 _ rfl
  have e3 : w9.cell? ⟨x2, o2 + 1, none⟩ = some (.int .i64 3) := by simpa using hc2 1 _ rfl
  obtain ⟨x4, o4, a4', n4', c4', m4, rfl, hx4, hm4, e4, r4⟩ := IL.at1 M (j := 0) (by omega)
  cases hm4
  rw [Nat.add_zero] at e4
  obtain rfl : n4' = 2 := r4.len.symm
  have b0 : w9.cell? ⟨g, 0, none⟩ = some (.int .i64 0) := B.cell 0 _ rfl
  have b1 : w9.cell? ⟨g, 1, none⟩ = some (.int .i64 3) := B.cell 1 _ rfl
  clear hc1 hc2 L M r1 r4 B
  go_wp2_with fail
  go_ret
  exact ⟨rfl, K.out⟩
end Go.Proofs.YtihpaonhonhfoaaDoor

/- What the statements on the unique skip graph say, in plain Lean. -/
namespace Go.Proofs.YtihpaonhonhfoaaDoor
open Go.RowKit

theorem check_perm {l l' : List Nd} (hp : l'.Perm l) (h : checkN l = 0) : checkN l' = 0 := by
  have hk := check_keys h
  unfold checkN at h ⊢
  split at h
  · omega
  rename_i hlen
  split at h
  · omega
  rename_i hbad
  rw [if_neg (by rw [hp.length_eq]; exact hlen), if_neg (by
    intro hb
    obtain ⟨x, hx, hxb⟩ := List.any_eq_true.1 hb
    exact hbad (List.any_eq_true.2 ⟨x, hp.mem_iff.1 hx, hxb⟩)), if_neg]
  intro hd
  obtain ⟨i, k, x, y, hki, hx, hy, he⟩ := (dupN_iff _).1 hd
  have h2 : l'.Pairwise fun x y => x.key.toList ≠ y.key.toList ∧ x.id ≠ y.id :=
    (hp.symm.pairwise_iff (fun {x y} hxy => ⟨fun he => hxy.1 he.symm, fun he => hxy.2 he.symm⟩)).1 (keys_pw hk)
  obtain ⟨hi, e1⟩ := List.getElem?_eq_some_iff.1 hx
  obtain ⟨hk, e2⟩ := List.getElem?_eq_some_iff.1 hy
  have := List.pairwise_iff_getElem.1 h2 k i hk hi hki
  rw [e1, e2] at this
  unfold eqN at he
  rcases Bool.or_eq_true_iff.1 he with h1 | h1
  · exact this.2 (by simpa using (beq_iff_eq.1 h1).symm)
  · exact this.1 (beq_iff_eq.1 h1).symm
theorem sort_perm {l l' : List Nd} (hp : l'.Perm l) (h : checkN l = 0) : sortN l' = sortN l :=
  sortN_unique (check_keys h) ((sortN_perm l').trans hp) (sortN_asc l')
theorem build_perm {l l' : List Nd} (hp : l'.Perm l) (h : checkN l = 0) (m : Int) : buildN l' m = buildN l m := by
  unfold buildN
  rw [sort_perm hp h, check_perm hp h, h]
theorem check_id {l : List Nd} (h : checkN l = 0) {x : Nd} (hx : x ∈ l) : 1 ≤ x.id := by
  unfold checkN at h
  split at h
  · omega
  · split at h
    · omega
    · rename_i hb
      have hb : badN x = false := by
        cases hy2 : badN x with
        | false => rfl
        | true => exact absurd (List.any_eq_true.2 ⟨x, hx, hy2⟩) hb
      unfold badN at hb
      simp only [Bool.or_eq_false_iff, decide_eq_false_iff_not] at hb
      omega
def lastI (A : List Nd) : Int := (A.getLast?.getD Nd.zero).id
def headI (B : List Nd) : Int := (B.head?.getD Nd.zero).id
/-- the nodes that agree with a word -/
def grpS (l : List Nd) (h : Int) (v : Nat) : List Nd := groupN (sortN l) h v
theorem grp_eq {l : List Nd} {h : Int} {u v : Nat} (hw : ∀ x ∈ l, x.word < 4294967296) (hu : u < 4294967296) (hv : v < 4294967296) (hs : sameN u v h = true) : grpS l h u = grpS l h v := by
  unfold grpS groupN
  apply List.filter_congr
  intro y hy
  have hy := hw y ((sortN_mem l y).1 hy)
  rw [Bool.eq_iff_iff]
  exact ⟨fun h => sameN_trans hy hu hv h hs, fun h => sameN_trans hy hv hu h (sameN_symm hs)⟩
theorem grp_mem {l : List Nd} {h : Int} {v : Nat} {y : Nd} : y ∈ grpS l h v ↔ y ∈ l ∧ sameN y.word v h = true := by
  unfold grpS groupN
  rw [List.mem_filter, sortN_mem]
theorem neigh_split {l : List Nd} (h0 : checkN l = 0) {x : Nd} (hx : x ∈ l) {h : Int} (hl : lvlN h = true) {A B : List Nd} (e : grpS l h x.word = A ++ x :: B) : neighN l x.id h = ((lastI A, headI B), true) := by
  have hf := find_in h0 hx
  obtain ⟨i, hi, _, hn⟩ := neighN_yes (l := l) (id := x.id) (h := h) h0 (by rw [hf]) hl
  have hG : thrG l x.id h = A ++ x :: B := by unfold thrG; rw [hf]; exact e
  have hA : AscS (thrG l x.id h) := asc_group (sortN_str h0) h _
  rw [hf] at hi
  rw [hG] at hi hn hA
  have h1 := idxI_at hA hi
  have h2 := idxI_at hA (i := A.length) (x := x) (by simp)
  have hi : i = A.length := by simp only at h1; omega
  subst hi
  rw [hn]
  congr 2
  · unfold leftN lastI
    by_cases ha : A.length = 0
    · rw [if_pos ha, List.length_eq_zero_iff.1 ha]; rfl
    · rw [if_neg ha, List.getElem?_append_left (by omega), List.getLast?_eq_getElem?]
  · unfold rightN headI
    rw [List.getElem?_append_right (by omega), show A.length + 1 - A.length = 1 by omega, List.getElem?_cons_succ, List.head?_eq_getElem?]
theorem grp_at {l : List Nd} {x : Nd} (hx : x ∈ l) {h : Int} (hl : lvlN h = true) : ∃ A B, grpS l h x.word = A ++ x :: B := by
  have : x ∈ grpS l h x.word := grp_mem.2 ⟨hx, sameN_refl _ (by unfold lvlN at hl; simp at hl; exact hl.2)⟩
  exact List.append_of_mem this
theorem grp_asc {l : List Nd} (h0 : checkN l = 0) (h : Int) (v : Nat) : AscS (grpS l h v) := asc_group (sortN_str h0) h v
theorem find_zero {l : List Nd} (h0 : checkN l = 0) : findN l 0 = (Nd.zero, false) :=
  findN_none fun j z _ hz => by have := check_id h0 (List.mem_of_getElem? hz); omega
/-- what IdealMutual says of a node -/
theorem mut_law {l : List Nd} (h0 : checkN l = 0) (hw : ∀ x ∈ l, x.word < 4294967296) {h : Int} (hl : lvlN h = true) {x : Nd} (hx : x ∈ l) :
    (neighN l x.id h).2 = true ∧ ((findN l (neighN l x.id h).1.2).2 = false → (neighN l x.id h).1.2 = 0) ∧
    (∀ z ∈ l, Op.bytesLess x.key.toList z.key.toList = true → sameN z.word x.word h = true → (findN l (neighN l x.id h).1.2).2 = true ∧ Op.bytesLess z.key.toList (findN l (neighN l x.id h).1.2).1.key.toList = false) ∧
    ((findN l (neighN l x.id h).1.2).2 = true → (neighN l (findN l (neighN l x.id h).1.2).1.id h).2 = true ∧ (neighN l (findN l (neighN l x.id h).1.2).1.id h).1.1 = x.id ∧
      Op.bytesLess x.key.toList (findN l (neighN l x.id h).1.2).1.key.toList = true ∧ sameN (findN l (neighN l x.id h).1.2).1.word x.word h = true) := by
  obtain ⟨A, B, e⟩ := grp_at hx hl
  have hn := neigh_split h0 hx hl e
  have ha := grp_asc h0 h x.word
  rw [hn]
  rw [e] at ha
  have hz : ∀ z ∈ l, Op.bytesLess x.key.toList z.key.toList = true → sameN z.word x.word h = true → z ∈ B := fun z hz hb hs => by
    have := grp_mem.2 ⟨hz, hs⟩
    rw [e] at this
    rcases List.mem_append.1 this with h1 | h1
    · have := (List.pairwise_append.1 ha).2.2 z h1 x (by simp)
      rw [bl_asymm this.1] at hb
      cases hb
    · rcases List.mem_cons.1 h1 with h1 | h1
      · subst h1; rw [bytesLess_irrefl] at hb; cases hb
      · exact h1
  cases B with
  | nil =>
    have hf := find_zero h0
    show true = true ∧ ((findN l 0).2 = false → (0 : Int) = 0) ∧ (∀ z ∈ l, _ → _ → (findN l 0).2 = true ∧ _) ∧ ((findN l 0).2 = true → _)
    rw [hf]
    exact ⟨rfl, fun _ => rfl, fun z h1 h2 h3 => (by cases hz z h1 h2 h3), fun h => by cases h⟩
  | cons r B =>
    have hr := grp_mem.1 (show r ∈ grpS l h x.word by rw [e]; simp)
    have hf := find_in h0 hr.1
    have e2 : grpS l h r.word = (A ++ [x]) ++ r :: B := by rw [grp_eq hw (hw r hr.1) (hw x hx) hr.2, e]; simp
    have hn2 := neigh_split h0 hr.1 hl e2
    show true = true ∧ ((findN l r.id).2 = false → r.id = 0) ∧ (∀ z ∈ l, _ → _ → (findN l r.id).2 = true ∧ Op.bytesLess z.key.toList (findN l r.id).1.key.toList = false) ∧ ((findN l r.id).2 = true → (neighN l (findN l r.id).1.id h).2 = true ∧ (neighN l (findN l r.id).1.id h).1.1 = x.id ∧ Op.bytesLess x.key.toList (findN l r.id).1.key.toList = true ∧ sameN (findN l r.id).1.word x.word h = true)
    rw [hf]
    dsimp only
    rw [hn2]
    have hxr := (List.pairwise_append.1 ha).2.1
    rw [List.pairwise_cons] at hxr
    refine ⟨by trivial, (by simp), fun z h1 h2 h3 => ⟨by trivial, ?_⟩, fun _ => ⟨by trivial, ?_, (hxr.1 r (by simp)).1, hr.2⟩⟩
    · rcases List.mem_cons.1 (hz z h1 h2 h3) with h4 | h4
      · subst h4; exact bytesLess_irrefl _
      · exact bl_asymm ((List.pairwise_cons.1 hxr.2).1 z h4).1
    · unfold lastI; simp
theorem lists_of {l : List Nd} (h0 : checkN l = 0) {h : Nat} (hh : h ≤ 16) : listsN l (h : Int) = (foldC (h : Int) (sortN l)).map idsN := by
  unfold listsN
  rw [if_pos ⟨by rw [h0]; rfl, by unfold lvlN; simp; omega⟩, classesN_fold (by omega)]
theorem part_ge (m : Nat) (c : List Nd) (hc : 0 < c.length) : 1 ≤ partC m c := by
  unfold partC
  by_cases h : 0 < onesN c m
  · rw [if_pos h]; omega
  · rw [if_neg h, if_pos (by omega)]; omega
theorem parts_le (m : Nat) (C : List (List Nd)) (hc : ∀ c ∈ C, 0 < c.length) : C.length ≤ partsC m C ∧ partsC m C ≤ 2 * C.length := by
  unfold partsC
  induction C with
  | nil => simp
  | cons c C ih =>
    have h1 := ih (fun d hd => hc d (by simp [hd]))
    have h2 := part_ge m c (hc c (by simp))
    have h3 : partC m c ≤ 2 := by unfold partC; split <;> split <;> omega
    simp only [List.map_cons, List.sum_cons, List.length_cons]
    omega
theorem classes_mono {S : List Nd} (hw : ∀ x ∈ S, x.word < 4294967296) (m : Nat) : ∀ d, m + d ≤ 16 → (foldC (m : Int) S).length ≤ (foldC ((m + d : Nat) : Int) S).length
  | 0, _ => Nat.le_refl _
  | d + 1, h => by
    obtain ⟨H1, H2, H3, H4⟩ := split_law (m + d) (by omega) S hw
    have h1 := classes_mono hw m d (by omega)
    have h2 := (parts_le (m + d) _ (fun c hc => (H1.mem c hc).1)).1
    have e : (((m + d : Nat) : Int) + 1) = ((m + (d + 1) : Nat) : Int) := by omega
    rw [e] at H3
    omega
theorem height_spec {l : List Nd} (h0 : checkN l = 0) (hne : l.length ≠ 0) : (heightN l < 16 → ¬ (classesN (sortN l) (heightN l : Nat)).length < l.length) ∧ ∀ j, j < heightN l → (classesN (sortN l) (j : Nat)).length < l.length := by
  unfold heightN
  rw [if_neg (by rw [h0]; simp [hne])]
  cases e : (List.range 16).find? fun h => !decide ((classesN (sortN l) (h : Nat)).length < l.length) with
  | none =>
    refine ⟨fun h => absurd h (by simp), fun j hj => ?_⟩
    have := List.find?_eq_none.1 e j (by simpa using hj)
    simpa using this
  | some k =>
    have h1 := List.find?_some e
    refine ⟨fun _ => by simpa using h1, fun j hj => ?_⟩
    have hj : j < k := hj
    obtain ⟨_, us, vs, e2, h3⟩ := List.find?_eq_some_iff_append.1 e
    have hk : k < 16 := by have : k ∈ List.range 16 := by rw [e2]; simp
                           simpa using this
    have hjm : j ∈ us := by
      have hp : (List.range 16).Pairwise (· < ·) := List.pairwise_lt_range
      have hj2 : j ∈ List.range 16 := by simp; omega
      rw [e2] at hp hj2
      rcases List.mem_append.1 hj2 with h | h
      · exact h
      · have h5 := (List.pairwise_append.1 hp).2.1
        rcases List.mem_cons.1 h with h | h
        · omega
        · have := (List.pairwise_cons.1 h5).1 j h; omega
    simpa using h3 j hjm
/-- what IdealNested says -/
theorem nest_law {l : List Nd} (h0 : checkN l = 0) (hne : l.length ≠ 0) (hw : ∀ x ∈ l, x.word < 4294967296) {h : Nat} (hh : h < 16) :
    (∀ m ∈ listsN l (h : Int), m.Pairwise fun a b => (findN l a).2 = true ∧ (findN l b).2 = true ∧ Op.bytesLess (findN l a).1.key.toList (findN l b).1.key.toList = true) ∧
    ((listsN l (h : Int)).map List.length).sum = l.length ∧ (listsN l (h : Int)).length ≤ (listsN l ((h : Int) + 1)).length ∧ (listsN l ((h : Int) + 1)).length ≤ 2 * (listsN l (h : Int)).length ∧
    (h < heightN l ∨ (listsN l (h : Int)).length = l.length) ∧ (heightN l ≤ h ∨ (listsN l (h : Int)).length < l.length) := by
  have e1 := lists_of h0 (h := h) (by omega)
  have e2 := lists_of h0 (h := h + 1) (by omega)
  rw [show ((h + 1 : Nat) : Int) = (h : Int) + 1 by omega] at e2
  rw [e1, e2]
  have hws := sort_word hw
  obtain ⟨H1, H2, H3, H4⟩ := split_law h hh (sortN l) hws
  have hP := parts_le h _ (fun c hc => (H1.mem c hc).1)
  obtain ⟨HS1, HS2⟩ := height_spec h0 hne
  have hle := classes_le (sortN l) (h : Int)
  rw [classesN_fold (by omega), sortN_length] at hle
  refine ⟨?_, ?_, by simp; omega, by simp; omega, ?_, ?_⟩
  · intro m hm
    obtain ⟨c, hc, rfl⟩ := List.mem_map.1 hm
    have hcf := fil_fold (show (h : Int) ≤ 16 by omega) (sortN l) hws c hc
    have ha : AscS c := by rw [hcf]; exact List.Pairwise.filter _ (sortN_str h0)
    have hcl : ∀ y ∈ c, y ∈ l := fun y hy => (sortN_mem l y).1 ((H1.mem c hc).2 y hy).1
    unfold idsN
    rw [List.pairwise_map]
    refine List.Pairwise.imp_of_mem ?_ ha
    intro a b hma hmb hab
    rw [find_in h0 (hcl a hma), find_in h0 (hcl b hmb)]
    exact ⟨rfl, rfl, hab.1⟩
  · have : ((foldC (h : Int) (sortN l)).map idsN).map List.length = (foldC (h : Int) (sortN l)).map List.length := by
      rw [List.map_map]; apply List.map_congr_left; intro c _; simp [idsN]
    rw [this]
    unfold lensC at H4
    rw [H4, sortN_length]
  · rcases Nat.lt_or_ge h (heightN l) with h1 | h1
    · exact .inl h1
    · right
      have h2 := HS1 (by omega)
      rw [classesN_fold (by omega)] at h2
      have h3 := classes_mono hws (heightN l) (h - heightN l) (by omega)
      rw [show heightN l + (h - heightN l) = h by omega] at h3
      simp
      omega
  · rcases Nat.lt_or_ge h (heightN l) with h1 | h1
    · right
      have := HS2 h h1
      rw [classesN_fold (by omega)] at this
      simpa using this
    · exact .inl h1
/-- a higher build, cut -/
theorem build_cut {l : List Nd} (h0 : checkN l = 0) {h : Nat} (hh : h < 16) : ((buildN l ((h : Int) + 1)).1.map fun c => (c.1, c.2.take (h + 1))) = (buildN l (h : Int)).1 := by
  unfold buildN
  rw [if_neg (by rw [h0]; simp), if_neg (by unfold lvlN; simp; omega), if_neg (by rw [h0]; simp), if_neg (by unfold lvlN; simp; omega)]
  simp only [List.map_map]
  apply List.map_congr_left
  intro x _
  show ((rowN _ _ x).1, (rowN _ _ x).2.take (h + 1)) = rowN _ _ x
  unfold rowN
  simp only [← List.map_take]
  rw [List.take_range]
  have e1 : min (h + 1) (((h : Int) + 1).toNat + 1) = h + 1 := by omega
  have e2 : ((h : Int)).toNat + 1 = h + 1 := by omega
  rw [e1, e2]
theorem build_ok0 {l : List Nd} (h0 : checkN l = 0) {h : Nat} (hh : h ≤ 16) : (buildN l (h : Int)).2 = 0 ∧ (buildN l (h : Int)).1.length = l.length ∧ ∀ c ∈ (buildN l (h : Int)).1, c.2.length = h + 1 := by
  unfold buildN
  rw [if_neg (by rw [h0]; simp), if_neg (by unfold lvlN; simp; omega)]
  refine ⟨rfl, by simp [sortN_length], ?_⟩
  intro c hc
  obtain ⟨x, _, rfl⟩ := List.mem_map.1 hc
  rw [rowN_len]
  omega
/-- what remains without a number -/
def dropN (l : List Nd) (id : Int) : List Nd := l.filter fun y => !(y.id == id)
theorem drop_check {l : List Nd} (h0 : checkN l = 0) (id : Int) : checkN (dropN l id) = 0 := by
  have hk := keys_pw (check_keys h0)
  have hs : (dropN l id).Sublist l := List.filter_sublist
  unfold checkN at h0 ⊢
  split at h0
  · omega
  rename_i hlen
  split at h0
  · omega
  rename_i hbad
  rw [if_neg (by have := hs.length_le; omega), if_neg (by
    intro hb
    obtain ⟨x, hx, hxb⟩ := List.any_eq_true.1 hb
    exact hbad (List.any_eq_true.2 ⟨x, hs.subset hx, hxb⟩)), if_neg]
  intro hd
  obtain ⟨i, k, x, y, hki, hx, hy, he⟩ := (dupN_iff _).1 hd
  have h2 := hk.sublist hs
  obtain ⟨hi, e1⟩ := List.getElem?_eq_some_iff.1 hx
  obtain ⟨hk, e2⟩ := List.getElem?_eq_some_iff.1 hy
  have := List.pairwise_iff_getElem.1 h2 k i hk hi hki
  rw [e1, e2] at this
  unfold eqN at he
  rcases Bool.or_eq_true_iff.1 he with h1 | h1
  · exact this.2 (by simpa using (beq_iff_eq.1 h1).symm)
  · exact this.1 (beq_iff_eq.1 h1).symm
theorem drop_sort {l : List Nd} (h0 : checkN l = 0) (id : Int) : sortN (dropN l id) = dropN (sortN l) id := by
  symm
  apply sortN_unique (check_keys (drop_check h0 id))
  · exact (sortN_perm l).filter _
  · exact List.Pairwise.filter _ (sortN_asc l)
theorem drop_grp {l : List Nd} (h0 : checkN l = 0) (id : Int) (h : Int) (v : Nat) : grpS (dropN l id) h v = dropN (grpS l h v) id := by
  unfold grpS groupN
  rw [drop_sort h0]
  unfold dropN
  rw [List.filter_filter, List.filter_filter]
  apply List.filter_congr
  intro y _
  rw [Bool.and_comm]
theorem drop_none {A : List Nd} {id : Int} (h : ∀ y ∈ A, y.id ≠ id) : dropN A id = A := by
  unfold dropN
  rw [List.filter_eq_self]
  intro y hy
  have := h y hy
  simp [this]
theorem drop_app (A B : List Nd) (id : Int) : dropN (A ++ B) id = dropN A id ++ dropN B id := by unfold dropN; rw [List.filter_append]
theorem drop_yes (y : Nd) (B : List Nd) {id : Int} (h : y.id = id) : dropN (y :: B) id = dropN B id := by unfold dropN; rw [List.filter_cons_of_neg (by simp [h])]
theorem drop_no (y : Nd) (B : List Nd) {id : Int} (h : y.id ≠ id) : dropN (y :: B) id = y :: dropN B id := by unfold dropN; rw [List.filter_cons_of_pos (by simp [h])]
theorem drop_nil (id : Int) : dropN [] id = [] := rfl
/-- what IdealLocal says of a node -/
theorem loc_law {l : List Nd} (h0 : checkN l = 0) (hw : ∀ x ∈ l, x.word < 4294967296) {h : Int} (hl : lvlN h = true) {x y : Nd} (hx : x ∈ l) (hy : y ∈ dropN l x.id) :
    (neighN l y.id h).2 = true ∧ (neighN (dropN l x.id) y.id h).2 = true ∧ (neighN l x.id h).2 = true ∧
    ((neighN l y.id h).1.1 ≠ (neighN (dropN l x.id) y.id h).1.1 → (neighN l y.id h).1.1 = x.id) ∧
    ((neighN l y.id h).1.2 ≠ (neighN (dropN l x.id) y.id h).1.2 → (neighN l y.id h).1.2 = x.id) ∧
    ((neighN l y.id h).1.1 = x.id → (neighN (dropN l x.id) y.id h).1.1 = (neighN l x.id h).1.1) ∧
    ((neighN l y.id h).1.2 = x.id → (neighN (dropN l x.id) y.id h).1.2 = (neighN l x.id h).1.2) := by
  have hyl : y ∈ l := (List.mem_filter.1 hy).1
  have hyx : y.id ≠ x.id := by have := (List.mem_filter.1 hy).2; simpa using this
  have hx1 := check_id h0 hx
  obtain ⟨A, B, e⟩ := grp_at hyl hl
  have ha := grp_asc h0 h y.word
  have hn := neigh_split h0 hyl hl e
  have e2 : grpS (dropN l x.id) h y.word = dropN A x.id ++ y :: dropN B x.id := by
    rw [drop_grp h0, e, drop_app, drop_no _ _ hyx]
  have hn2 := neigh_split (drop_check h0 x.id) hy hl e2
  obtain ⟨A3, B3, e3⟩ := grp_at hx hl
  have hn3 := neigh_split h0 hx hl e3
  have hmem : ∀ z ∈ grpS l h y.word, z.id = x.id → z = x := fun z hz he => ids_eq (check_keys h0) (grp_mem.1 hz).1 hx he
  have hxg : x ∈ grpS l h y.word → grpS l h x.word = grpS l h y.word := fun hm => grp_eq hw (hw x hx) (hw y hyl) (grp_mem.1 hm).2
  have hxn : ∀ A' B', grpS l h y.word = A' ++ x :: B' → (neighN l x.id h) = ((lastI A', headI B'), true) := fun A' B' e' => by
    refine neigh_split h0 hx hl ?_
    rw [hxg (by rw [e']; simp), e']
  have hnone : ∀ {P Q : List Nd}, (∀ z ∈ P, z ∈ grpS l h y.word) → (∀ z ∈ P, z.id ≠ x.id) → dropN P x.id = P := fun _ h2 => drop_none h2
  rw [hn, hn2]
  rw [e] at ha hmem hxn
  have hL : (lastI A ≠ lastI (dropN A x.id) → lastI A = x.id) ∧ (lastI A = x.id → lastI (dropN A x.id) = (neighN l x.id h).1.1) := by
    rcases List.eq_nil_or_concat A with rfl | ⟨A', z, rfl⟩
    · exact ⟨fun h => absurd rfl h, fun h => by have : (0 : Int) = x.id := h; omega⟩
    · rw [List.concat_eq_append] at *
      have e5 : lastI (A' ++ [z]) = z.id := by unfold lastI; simp
      by_cases hz : z.id = x.id
      · have hzx := hmem z (by simp) hz
        subst hzx
        have h7 := hxn A' (y :: B) (by simp)
        rw [h7, drop_app, drop_yes _ _ rfl, drop_nil, List.append_nil, drop_none (fun w hw' => ?_)]
        · exact ⟨fun _ => e5, fun _ => rfl⟩
        · have h8 := (List.pairwise_append.1 (List.pairwise_append.1 ha).1).2.2 w hw' z (by simp)
          exact h8.2
      · have e6 : lastI (dropN (A' ++ [z]) x.id) = z.id := by rw [drop_app, drop_no _ _ hz, drop_nil]; unfold lastI; simp
        rw [e5, e6]
        exact ⟨fun h => absurd rfl h, fun h => absurd h hz⟩
  have hR : (headI B ≠ headI (dropN B x.id) → headI B = x.id) ∧ (headI B = x.id → headI (dropN B x.id) = (neighN l x.id h).1.2) := by
    cases B with
    | nil => exact ⟨fun h => absurd rfl h, fun h => by have : (0 : Int) = x.id := h; omega⟩
    | cons z B' =>
      have e5 : headI (z :: B') = z.id := rfl
      by_cases hz : z.id = x.id
      · have hzx := hmem z (by simp) hz
        subst hzx
        have h7 := hxn (A ++ [y]) B' (by simp)
        rw [h7, drop_yes _ _ rfl, drop_none (fun w hw' => ?_)]
        · exact ⟨fun _ => e5, fun _ => rfl⟩
        · have h8 := (List.pairwise_cons.1 (List.pairwise_cons.1 (List.pairwise_append.1 ha).2.1).2).1 w hw'
          exact fun h => h8.2 h.symm
      · have e6 : headI (dropN (z :: B') x.id) = z.id := by rw [drop_no _ _ hz]; rfl
        rw [e5, e6]
        exact ⟨fun h => absurd rfl h, fun h => absurd h hz⟩
  refine ⟨rfl, rfl, by rw [hn3], hL.1, hR.1, hL.2, hR.2⟩
theorem drop_len {l : List Nd} (h0 : checkN l = 0) {x : Nd} (hx : x ∈ l) : (dropN l x.id).length + 1 = l.length := by
  obtain ⟨A, B, rfl⟩ := List.append_of_mem hx
  have hk := keys_pw (check_keys h0)
  rw [drop_app, drop_yes _ _ rfl, drop_none, drop_none]
  · simp; omega
  · intro y hy
    exact fun h => ((List.pairwise_cons.1 (List.pairwise_append.1 hk).2.1).1 y hy).2 h.symm
  · intro y hy
    exact ((List.pairwise_append.1 hk).2.2 y hy x (by simp)).2
theorem lists_small (l : List Nd) (h : Int) (hl : l.length ≤ 1000) : (listsN l h).length ≤ 1000000 ∧ ∀ m ∈ listsN l h, m.length ≤ 1000000 := by
  unfold listsN
  split
  · have := classesN_sm (sortN l) h (by rw [sortN_length]; exact hl)
    refine ⟨by simp; omega, fun m hm => ?_⟩
    obtain ⟨c, hc, rfl⟩ := List.mem_map.1 hm
    have := this.2 c hc
    unfold idsN
    simp
    omega
  · simp
theorem buildN_small (l : List Nd) (h : Int) (hl : l.length ≤ 1000) : (buildN l h).1.length ≤ 1000 ∧ ∀ c ∈ (buildN l h).1, c.2.length ≤ 17 := by
  unfold buildN
  split
  · simp
  · split
    · simp
    · rename_i hv
      refine ⟨by simp [sortN_length]; omega, fun c hc => ?_⟩
      obtain ⟨x, _, rfl⟩ := List.mem_map.1 hc
      rw [rowN_len]
      unfold lvlN at hv
      simp at hv
      omega
end Go.Proofs.YtihpaonhonhfoaaDoor

/- Rosters of at least one node, from the tape. -/
namespace Go.Proofs.YtihpaonhonhfoaaDoor
open Go.RowKit

theorem check_one {x : Nd} (h1 : 1 ≤ x.id) (h2 : x.id ≤ 2147483647) (h3 : x.key.size ≤ 64) (h4 : x.word < 65536) : checkN [x] = 0 := by
  have hb : badN x = false := by
    unfold badN validN
    simp
    omega
  have hd : dupN [x] = false := by
    cases h : dupN [x] with
    | false => rfl
    | true =>
      obtain ⟨i, k, _, _, hki, hi, _⟩ := (dupN_iff _).1 h
      have := (List.getElem?_eq_some_iff.1 hi).1
      simp at this
      omega
  unfold checkN
  simp [hb, hd]
/-- a roster of at least one node -/
def SomeOf (n b : Nat) (w w' : World) (v : Value) (L : List Nd) : Prop := RosterOf n b w w' v L ∧ 1 ≤ L.length
set_option maxRecDepth 100000 in
set_option maxHeartbeats 1000000 in
theorem some_n {b : Nat} (n : Nat) (w : World) (h : TK w b) (hL : LetG w) (hgb : ¬ 0 = b) (hn0 : 1 ≤ n) (hn : n ≤ 60) :
    Calls Tryd.prog 26 #[.pointer (some ⟨b, 0, none⟩), .int .i64 n] w fun e w' => ∃ v L, e = .returned v ∧ SomeOf n b w w' v L := by
  have hbw := h.lt
  go_enter Tryd.func26, Tryd.ntmps26
  go_wp2_with fail
  refine (roster_t n _ h hL hgb hn0 hn).mono ?_
  rintro e w1 ⟨v1, L, rfl, R⟩
  obtain ⟨A1, C1, rfl, _, _, _, _⟩ := R.own.slf (fun _ => rfl)
  have T := R.tape
  have L1 := hL.nxb hgb R.k
  clear h hL
  by_cases h0 : L.length = 0
  · have d0 : ((L.length : Int) == 0) = true := by rw [h0]; rfl
    have kk := R.k
    clear R
    go_wp2_with fail
    refine (next_t (3 * (n : Int)) _ T (by omega) (by omega)).mono ?_
    clear T
    rintro e w2 ⟨d, rfl, r0, r1, T, k2⟩
    replace L1 := L1.nxb hgb k2
    replace kk := kk.nxb k2
    clear k2
    go_wp2_with fail
    refine (key_t _ T L1 hgb).mono ?_
    clear T
    rintro e w3 ⟨s, rfl, hs, T, k2⟩
    replace kk := kk.nxb k2
    clear k2 L1
    go_wp2_with fail
    refine (word_t _ T).mono ?_
    clear T
    rintro e w4 ⟨m, rfl, hm, T, k2⟩
    replace kk := kk.nxb k2
    clear k2
    have kz := kk.size
    go_wp2_with fail
    go_ret
    refine ⟨_, [⟨1 + d, s, m⟩], rfl, ⟨OwnL.lit [⟨1 + d, s, m⟩] (fun _ => rfl) kz (by unfold maxLen; simp) rfl, by simp; omega, check_one (by simp; omega) (by simp; omega) hs hm, by simpa using hm, T.nx (Ex.new _ _), kk.nxb ((Ex.new _ _).b b)⟩, by simp⟩
  · have d0 : ((L.length : Int) == 0) = false := by rw [beq_eq_false_iff_ne]; omega
    have R := Lib.hid R
    go_wp2_with fail
    go_ret
    exact ⟨_, L, rfl, R.out, by omega⟩
end Go.Proofs.YtihpaonhonhfoaaDoor

/- Without of the package roster: slices.Index, Contains, DeleteFunc. -/
namespace Go.Proofs.YtihpaonhonhfoaaDoor
open Go.RowKit

def IjRel (l : List Int) (v : Int) (n : Nat) (w : World) (i : Value) (wr : World) : Prop :=
  ∃ k : Nat, k ≤ n ∧ i = .int .i64 k ∧ Ex w wr ∧ ∀ j z, j < k → l[j]? = some z → z ≠ v
set_option maxHeartbeats 1000000 in
theorem index_i (a : Option Addr) (n c : Nat) (l : List Int) (v : Int) (w : World) (h : Sl 1 encI w a n l) (hn : n ≤ 1000000) :
    Calls Tryd.prog 74 #[.slice a n c, .int .i64 v] w fun e w' => ∃ r : Int, e = .returned (.int .i64 r) ∧ decide (0 ≤ r) = l.contains v ∧ Ex w w' := by
  have HL := Lib.hid h.len
  have hs := Lib.hid h
  clear h
  go_enter Tryd.func74, Tryd.ntmps74
  go_wp2
  go_loopw [8] (fun i wr => IjRel l v n w i wr) (fun i _ => n - (intOf i).toNat)
  case atStart => exact ⟨0, by omega, rfl, Ex.refl _, by intro j z h; omega⟩
  case round =>
    obtain ⟨k, hk, rfl, kw, hno⟩ := hrel
    have HNO := Lib.hid hno
    clear hno
    obtain ⟨wo, rfl⟩ : ∃ wo : World, wo = wr := ⟨_, rfl⟩
    by_cases hlt : k < n
    · obtain ⟨x1, o1, y, rfl, hx1, hy, hc1⟩ := (hs.out.nx kw).at hlt
      have e0 : wo.cell? ⟨x1, o1 + k, none⟩ = some (.int .i64 y) := by simpa using hc1 0 _ rfl
      have HY := Lib.hid hy
      have KW := Lib.hid kw
      clear hc1 hy kw
      by_cases hv : y = v
      · have HC : Hid (decide ((0 : Int) ≤ (k : Int)) = l.contains v) := Lib.hid (by
          have h1 : l.contains v = true := by rw [List.contains_iff_mem, ← hv]; exact List.mem_of_getElem? HY.out
          rw [h1]; simp)
        have hb : (v == y) = true := by rw [hv]; simp
        clear hv
        go_wp2_with fail
        go_ret
        exact ⟨k, rfl, HC.out, KW.out⟩
      · have HV := Lib.hid hv
        have hb : (v == y) = false := by rw [beq_eq_false_iff_ne]; exact fun h => hv h.symm
        clear hv
        go_wp2_with fail
        refine ⟨⟨k + 1, by omega, by go_num, KW.out, fun j z hj hz => ?_⟩, by simp [intOf]; omega⟩
        rcases Nat.lt_or_ge j k with h | h
        · exact HNO.out j z h hz
        · obtain rfl : j = k := by omega
          rw [Option.some.inj (hz.symm.trans HY.out)]
          exact HV.out
    · obtain rfl : k = n := by omega
      have HC : Hid (decide ((0 : Int) ≤ -1) = l.contains v) := Lib.hid (by
        have h1 : l.contains v = false := by
          cases hc : l.contains v with
          | false => rfl
          | true =>
            rw [List.contains_iff_mem] at hc
            obtain ⟨j, hj⟩ := List.mem_iff_getElem?.1 hc
            exact absurd rfl (HNO.out j v (by rw [← HL.out]; exact (List.getElem?_eq_some_iff.1 hj).1) hj)
        rw [h1]; rfl)
      have KW := Lib.hid kw
      clear kw hk hlt
      go_wp2_with fail
      go_ret
      exact ⟨-1, rfl, HC.out, KW.out⟩
theorem contains_i (a : Option Addr) (n c : Nat) (l : List Int) (v : Int) (w : World) (h : Sl 1 encI w a n l) (hn : n ≤ 1000000) :
    Calls Tryd.prog 59 #[.slice a n c, .int .i64 v] w fun e w' => e = .returned (.bool (l.contains v)) ∧ Ex w w' := by
  go_enter Tryd.func59, Tryd.ntmps59
  go_wp2_with fail
  (with_reducible refine (index_i _ _ _ _ _ _ h hn).mono ?_)
  rintro e w1 ⟨r, rfl, hr, kk⟩
  have HR := Lib.hid hr
  clear h hr
  go_wp2_with fail
  go_ret
  exact ⟨by rw [← HR.out]; rfl, kk⟩
theorem wo1_p (gx : Nat) (a : Option Addr) (n c : Nat) (ids : List Int) (w : World) (hx : Blk w gx [.slice a n c] 22) (hs : Sl 1 encI w a n ids) (hn : n ≤ 1000000) :
    PredG 58 #[.pointer (some ⟨gx, 0, none⟩)] (fun x => ids.contains x.id) w := by
  intro x w' kk
  have hg := (hx.nx kk).lt
  have hne : ¬ gx = w'.heap.size := by omega
  have k2 := Ex.new w' (.cells #[.int .i64 x.id, .string x.key, .int .u32 x.word] 48)
  have S2 := Lib.hid ((hs.nx kk).nx k2)
  have K2 := Lib.hid k2
  have q0 := (hx.nx kk).cell 0 _ rfl
  unfold Nd.val
  clear hx kk hs k2
  go_enter Tryd.func58, Tryd.ntmps58
  go_wp2_with fail
  (with_reducible refine (contains_i _ _ _ _ _ _ S2.out hn).mono ?_)
  rintro e w1 ⟨rfl, k3⟩
  have K3 := Lib.hid (K2.out.nx k3)
  clear k3
  go_wp2_with fail
  go_ret
  exact ⟨by simp, K3.out⟩

/-- the built-in clear on the tail of a row of nodes -/
theorem own_setc {base : Nat} {w : World} {g m cap j : Nat} {L : List Nd} (h : OwnL 3 encN 48 base w (.slice (some ⟨g, 0, none⟩) m cap) L) (v : Value) (hj : m * 3 ≤ j) :
    OwnL 3 encN 48 base (w.setCell ⟨g, j, none⟩ v) (.slice (some ⟨g, 0, none⟩) m cap) L := by
  rcases h.2 with ⟨h1, _⟩ | ⟨g', cap', cur, e1, e2, e3, e4, e5, e6, e7⟩
  · cases h1
  · obtain ⟨rfl, hLn, rfl⟩ : g = g' ∧ m = L.length ∧ cap = cap' := by simpa using e1
    refine ⟨h.1, .inr ⟨g, cap, _, e1, e2, heap_set e3 j v, e4, e5, by simp [e6], ?_⟩⟩
    rw [← e7, Array.toList_setIfInBounds, List.take_set_of_le (by rw [← hLn]; exact hj)]
theorem own_setcs {base : Nat} {g m cap : Nat} {L : List Nd} : ∀ (vs : List Value) (w : World) (j : Nat), m * 3 ≤ j → OwnL 3 encN 48 base w (.slice (some ⟨g, 0, none⟩) m cap) L →
    OwnL 3 encN 48 base (w.setCells g j vs) (.slice (some ⟨g, 0, none⟩) m cap) L
  | [], _, _, _, h => h
  | v :: vs, w, j, hj, h => own_setcs vs _ (j + 1) (by omega) (own_setc h v hj)
theorem ex_setcs {g : Nat} {w0 : World} (hg : w0.heap.size ≤ g) : ∀ (vs : List Value) (w : World) (j : Nat), Ex w0 w → Ex w0 (w.setCells g j vs)
  | [], _, _, h => h
  | v :: vs, w, j, h => ex_setcs hg vs _ (j + 1) (h.setNew (p := ⟨g, j, none⟩) v hg)
theorem own_cutn {base : Nat} {w : World} {g n m cap : Nat} {L : List Nd} (h : OwnL 3 encN 48 base w (.slice (some ⟨g, 0, none⟩) n cap) L) (hm : m ≤ L.length) :
    OwnL 3 encN 48 base w (.slice (some ⟨g, 0, none⟩) m cap) (L.take m) := by
  have hml : (L.take m).length = m := by rw [List.length_take]; omega
  rcases h.2 with ⟨h1, _⟩ | ⟨g', cap', cur, e1, e2, e3, e4, e5, e6, e7⟩
  · cases h1
  · obtain ⟨rfl, hLn, rfl⟩ : g = g' ∧ n = L.length ∧ cap = cap' := by simpa using e1
    refine ⟨by rw [flatN_len (sz := 3) (fun _ => rfl)], .inr ⟨g, cap, cur, by simp [hml], e2, e3, by omega, e5, e6, ?_⟩⟩
    rw [hml, flatN_take (sz := 3) (fun _ => rfl), ← e7, List.take_take, Nat.min_eq_left (Nat.mul_le_mul_right _ hm)]
theorem own_cell {base : Nat} {w : World} {g n cap : Nat} {L : List Nd} (h : OwnL 3 encN 48 base w (.slice (some ⟨g, 0, none⟩) n cap) L) (j : Nat) (hj : j < n * 3) : (w.cell? ⟨g, j, none⟩).isSome = true ∧ w.frozen? ⟨g, j, none⟩ = false := by
  rcases h.2 with ⟨h1, _⟩ | ⟨g', cap', cur, e1, e2, e3, e4, e5, e6, e7⟩
  · cases h1
  · obtain ⟨rfl, hLn, rfl⟩ : g = g' ∧ n = L.length ∧ cap = cap' := by simpa using e1
    have hsz : j < cur.size := by rw [e6]; omega
    exact ⟨by simp [World.cell?, e3, hsz], by simp [World.frozen?, e3]⟩
theorem Tryd.zeroN (w : World) : (zeroValue 48).run Tryd.prog w = .ok (.agg #[.int .i64 0, .string ⟨#[]⟩, .int .u32 0]) w := by kernel_rfl
theorem run_clear_row {base : Nat} {w : World} {g n m cap c' : Nat} {L : List Nd} (h : OwnL 3 encN 48 base w (.slice (some ⟨g, 0, none⟩) n cap) L) (hm : m < n) (ty : TypeId) :
    ∃ vs, (Builtin.clear_ #[23] ty #[.slice (some ⟨g, m * 3, none⟩) (n - m) c']).run Tryd.prog w = .ok (.tuple #[]) (w.setCells g (m * 3) vs) := by
  obtain ⟨vs, hvs⟩ : ∃ vs, vs = (Builtin.zeroCells (Value.cells (.agg #[.int .i64 0, .string ⟨#[]⟩, .int .u32 0])) (n - m)).toList := ⟨_, rfl⟩
  have hcells : (Value.cells (.agg #[.int .i64 0, .string ⟨#[]⟩, .int .u32 0])) = #[.int .i64 0, .string ⟨#[]⟩, .int .u32 0] := rfl
  have hl : vs.length = (n - m) * 3 := by rw [hvs, hcells]; simp [Builtin.zeroCells]
  have h1 : ∀ v ∈ vs, v.oneCell' = true := by
    intro v hv
    rw [hvs, hcells] at hv
    simp only [Builtin.zeroCells, Array.toList_map, List.mem_map] at hv
    obtain ⟨i, _, rfl⟩ := hv
    have hi : i % 3 < 3 := Nat.mod_lt _ (by omega)
    show ((#[Value.int .i64 0, .string ⟨#[]⟩, .int .u32 0] : Array Value)[i % 3]!).oneCell' = true
    generalize i % 3 = q at hi
    match q, hi with
    | 0, _ => rfl
    | 1, _ => rfl
    | 2, _ => rfl
  have hst := run_storeCells_cells (P := Tryd.prog) g (m * 3) vs 0 w (by intro j hj; rw [hl] at hj; exact (own_cell h _ (by omega)).1) (by intro j hj; rw [hl] at hj; exact (own_cell h _ (by omega)).2) h1
  simp only [Nat.add_zero] at hst
  obtain ⟨q, hq⟩ : ∃ q, n - m = q + 1 := ⟨n - m - 1, by omega⟩
  refine ⟨vs, ?_⟩
  rw [hq] at hvs ⊢
  simp [Builtin.clear_, run_underlying Tryd.underlying23, Tryd.zeroN, ← hvs, hst]

def DlRel (l : List Nd) (p : Nd → Bool) (g cap base n : Nat) (w : World) (i j : Value) (wr : World) : Prop :=
  ∃ (k : Nat) (X : List Nd), k ≤ n ∧ j = .int .i64 k ∧ i = .int .i64 (((l.take k).filter fun x => !p x).length : Nat) ∧ ((l.take k).filter fun x => !p x).length < k ∧ X.length = n ∧
    X.take ((l.take k).filter fun x => !p x).length = (l.take k).filter (fun x => !p x) ∧ X.drop k = l.drop k ∧ OwnL 3 encN 48 base wr (.slice (some ⟨g, 0, none⟩) n cap) X ∧ Ex w wr
theorem filt_snoc (l : List Nd) (q : Nd → Bool) (k : Nat) (y : Nd) (hy : l[k]? = some y) : (l.take (k + 1)).filter q = (l.take k).filter q ++ (if q y = true then [y] else []) := by
  rw [List.take_add_one, hy, List.filter_append]
  congr 1
  simp only [Option.toList_some, List.filter_cons, List.filter_nil]
theorem set_mid {X : List Nd} {i k : Nat} {Y Z : List Nd} {y : Nd} (h1 : X.take i = Y) (h2 : X.drop k = Z) (hl : Y.length = i) (hi : i < k) (hk : k < X.length) : (X.set i y).take (i + 1) = Y ++ [y] ∧ (X.set i y).drop (k + 1) = Z.drop 1 := by
  refine ⟨?_, ?_⟩
  · rw [List.take_set, List.take_succ_eq_append_getElem (by omega), h1, List.set_append_right _ _ (by omega), hl, Nat.sub_self]
    rfl
  · rw [List.drop_set_of_lt (by omega), ← h2, List.drop_drop]
theorem idx_filter {l : List Nd} {p : Nd → Bool} {k : Nat} (hno : ∀ j z, j < k → l[j]? = some z → p z = false) : (l.take k).filter (fun x => !p x) = l.take k := by
  rw [List.filter_eq_self]
  intro x hx
  obtain ⟨j, hj⟩ := List.mem_iff_getElem?.1 hx
  rw [List.getElem?_take] at hj
  split at hj
  · rw [hno j x (by assumption) hj]; rfl
  · cases hj
theorem idxB_cases (l : List Nd) (p : Nd → Bool) : (∃ (k : Nat) (y : Nd), idxB p l = k ∧ k < l.length ∧ l[k]? = some y ∧ p y = true ∧ (l.take k).filter (fun x => !p x) = l.take k) ∨ (idxB p l = -1 ∧ l.filter (fun x => !p x) = l) := by
  unfold idxB
  by_cases h : l.findIdx p < l.length
  · refine .inl ⟨l.findIdx p, l[l.findIdx p], by rw [if_pos h], h, List.getElem?_eq_getElem h, List.findIdx_getElem, idx_filter (fun j z hj hz => ?_)⟩
    have := List.not_of_lt_findIdx hj
    rw [List.getElem?_eq_getElem (by omega)] at hz
    cases hz
    simpa using this
  · refine .inr ⟨by rw [if_neg h], ?_⟩
    rw [List.filter_eq_self]
    intro x hx
    cases hp : p x with
    | false => rfl
    | true => exact absurd (List.findIdx_lt_length.2 ⟨x, hx, hp⟩) h
/-- a row of nodes of the call's own -/
def NdPost (l : List Nd) (base : Nat) (w : World) (e : Ending) (w' : World) : Prop := ∃ v : Value, e = .returned v ∧ OwnL 3 encN 48 base w' v l ∧ Ex w w'

set_option maxRecDepth 100000 in
set_option maxHeartbeats 4000000 in
theorem delete_n (gf : Nat) (lb : Array Value) (p : Nd → Bool) (eg : ∀ args w, (callFunc gf args).run Tryd.prog w = .ok (.enter gf args) w) (v : Value) (l : List Nd) (w0 w : World) (h : OwnL 3 encN 48 w0.heap.size w v l) (hn : l.length ≤ 1000) (k0 : Ex w0 w) (hp : PredG gf lb p w0) :
    Calls Tryd.prog 56 #[v, .func (.func gf) #[] lb] w (NdPost (l.filter fun x => !p x) w0.heap.size w0) := by
  obtain ⟨a, cap, rfl, S, hc, hm, _⟩ := h.slf (fun _ => rfl)
  have HP := Lib.hid hp
  have EG := Lib.hid eg
  have H := Lib.hid h
  have S := Lib.hid S.sl
  have K0 := Lib.hid k0
  obtain ⟨n, hnl⟩ : ∃ n, n = l.length := ⟨_, rfl⟩
  rw [← hnl] at H S hc hn ⊢
  have HN := Lib.hid hnl
  clear h hp eg k0 hnl
  go_enter Tryd.func56, Tryd.ntmps56
  go_wp2_with fail
  (with_reducible refine (idxf_n gf lb p EG.out _ _ _ _ _ S.out (by omega) (HP.out.nx K0.out)).mono ?_)
  rintro e w1 ⟨rfl, kk⟩
  have K1 := Lib.hid (K0.out.nx kk)
  have H1 := Lib.hid (H.out.nx kk)
  clear kk H S K0
  rcases idxB_cases l p with ⟨q, y0, hq, hql, hy0, hpy, hf0⟩ | ⟨hq, hf⟩
  · rw [hq]
    rw [← HN.out] at hql
    rcases H1.out.2 with ⟨he, _⟩ | ⟨g, cap', cur, e1, e2, _⟩
    · simp only [Value.slice.injEq] at he
      omega
    · obtain ⟨rfl, hx0, rfl⟩ : a = some ⟨g, 0, none⟩ ∧ n = l.length ∧ cap = cap' := by simpa using e1
      clear hx0
      have hF : (l.take (q + 1)).filter (fun x => !p x) = l.take q := by rw [filt_snoc _ _ _ _ hy0, hf0, hpy]; simp
      have hFl : ((l.take (q + 1)).filter (fun x => !p x)).length = q := by rw [hF, List.length_take, ← HN.out]; omega
      have RR := Lib.hid (show DlRel l p g cap w0.heap.size n w0 (.int .i64 q) (.int .i64 ((q : Int) + 1)) w1 from
        ⟨q + 1, l, by omega, by go_num, by rw [hFl], by rw [hFl]; omega, HN.out.symm, by rw [hFl, hF], rfl, H1.out, K1.out⟩)
      have q0 : ¬ (q : Int) = -1 := by omega
      have q1 : ((q : Int) == -1) = false := by rw [beq_eq_false_iff_ne]; omega
      have HG := Lib.hid e2
      clear hq hy0 hpy hf0 hF hFl e1 e2 H1 K1
      go_wp2_with fail
      go_loopw [5, 6] (fun i j wr => DlRel l p g cap w0.heap.size n w0 i j wr) (fun _ j _ => n - (intOf j).toNat)
      case atStart => exact RR.out
      case round =>
        clear RR
        obtain ⟨k, X, hk, rfl, rfl, hik, hX, hXt, hXd, own, kw⟩ := hrel
        obtain ⟨wo, rfl⟩ : ∃ wo : World, wo = wr := ⟨_, rfl⟩
        obtain ⟨i, hi⟩ : ∃ i, i = ((l.take k).filter fun x => !p x).length := ⟨_, rfl⟩
        rw [← hi] at hik hXt ⊢
        have HI := Lib.hid hi
        have KW := Lib.hid kw
        by_cases hlt : k < n
        · obtain ⟨y, hy⟩ : ∃ y, l[k]? = some y := ⟨l[k]'(by rw [← HN.out]; exact hlt), by simp⟩
          have hXy : X[k]? = some y := by
            have h1 := congrArg (·[0]?) hXd
            simpa [List.getElem?_drop, hy] using h1
          have hs : Sl 3 encN wo (some ⟨g, 0, none⟩) n X := by
            obtain ⟨_, _, e5, s5, _⟩ := own.slf (fun _ => rfl)
            rw [hX] at e5 s5
            cases e5
            exact s5.sl
          obtain ⟨x1, o1, y', he, hx1, hy', hc1⟩ := hs.at hlt
          cases he
          obtain rfl : y = y' := Option.some.inj (hXy.symm.trans hy')
          have e0 : wo.cell? ⟨g, 0 + k * 3, none⟩ = some (.int .i64 y.id) := hc1 0 _ rfl
          have e1 : wo.cell? ⟨g, 0 + k * 3 + 1, none⟩ = some (.string y.key) := hc1 1 _ rfl
          have e2 : wo.cell? ⟨g, 0 + k * 3 + 1 + 1, none⟩ = some (.int .u32 y.word) := by simpa [Nat.add_assoc] using hc1 2 _ rfl
          rw [Nat.zero_add] at e0 e1 e2
          have k7 := Ex.new wo (.cells #[.int .i64 y.id, .string y.key, .int .u32 y.word] 48)
          have B7 := Blk.new wo [.int .i64 y.id, .string y.key, .int .u32 y.word] 48
          obtain ⟨w2, hw2⟩ : ∃ w2, w2 = wo.alloc (.cells #[.int .i64 y.id, .string y.key, .int .u32 y.word] 48) := ⟨_, rfl⟩
          obtain ⟨g7, hg7⟩ : ∃ g7, g7 = wo.heap.size := ⟨_, rfl⟩
          have B7 : Blk w2 g7 [.int .i64 y.id, .string y.key, .int .u32 y.word] 48 := by rw [hw2, hg7]; exact B7
          rw [← hw2] at k7
          have hg7b : w0.heap.size ≤ g7 := by rw [hg7]; exact kw.size
          have hne7 : ¬ g = g7 := by rw [hg7]; omega
          have hc := HP.out y w2 (kw.nx k7)
          unfold Nd.val at hc
          have own2 := own.nx k7
          have c0 := B7.cell 0 _ rfl
          have c1 := B7.cell 1 _ rfl
          have c2 := B7.cell 2 _ rfl
          have KW2 := Lib.hid (kw.nx k7)
          have HW2 := Lib.hid hw2
          have HG7 := Lib.hid hg7
          have FS := Lib.hid (filt_snoc l (fun x => !p x) k y hy)
          have hXd1 : l.drop (k + 1) = (l.drop k).drop 1 := by rw [List.drop_drop]
          have HXT := Lib.hid hXt
          have HXD := Lib.hid hXd
          have HXD1 := Lib.hid hXd1
          have HX := Lib.hid hX
          have OWN2 := Lib.hid own2
          have hilen := Lib.hid hi.symm
          clear hi hs hc1 hy hXy hy' k7 hw2 hg7 own own2 kw hXt hXd hXd1 hX
          go_upto_region 8 with fail
          rw [← HG7.out, ← HW2.out]
          have eg := EG.out
          go_wp2_with fail
          refine hc.mono ?_
          rintro e w3 ⟨rfl, k3⟩
          have K3 := Lib.hid (KW2.out.nx k3)
          have own3 := OWN2.out.nx k3
          have B8 := B7.nx k3
          have c0 := B8.cell 0 _ rfl
          have c1 := B8.cell 1 _ rfl
          have c2 := B8.cell 2 _ rfl
          clear hc k3 e0 e1 e2 B7 OWN2 eg
          cases hb : p y with
          | true =>
            have F1 : (l.take (k + 1)).filter (fun x => !p x) = (l.take k).filter (fun x => !p x) := by rw [FS.out]; simp [hb]
            have RZ := Lib.hid (show DlRel l p g cap w0.heap.size n w0 (.int .i64 (i : Nat)) (.int .i64 ((k : Int) + 1)) w3 from
              ⟨k + 1, X, by omega, by go_num, by rw [F1, HI.out], by rw [F1, ← HI.out]; omega, HX.out, by rw [F1, ← HI.out]; exact HXT.out, by rw [HXD1.out, ← HXD.out, List.drop_drop], own3, K3.out⟩)
            clear F1 own3 hb B8 c0 c1 c2
            go_wp2_with fail
            exact ⟨RZ.out, by simp [intOf]; omega⟩
          | false =>
            have F1 : (l.take (k + 1)).filter (fun x => !p x) = (l.take k).filter (fun x => !p x) ++ [y] := by rw [FS.out]; simp [hb]
            have F1l : ((l.take (k + 1)).filter (fun x => !p x)).length = i + 1 := by rw [F1, List.length_append, ← HI.out]; rfl
            obtain ⟨⟨va, vb, vc, d0, d1, d2⟩, fz, OS⟩ := own_set3 own3 (j := i) (by omega) y
            obtain ⟨s1, s2⟩ := set_mid (y := y) HXT.out HXD.out hilen.out hik (by rw [HX.out]; exact hlt)
            have hgw : w0.heap.size ≤ g := HG.out
            have RZ := Lib.hid (show DlRel l p g cap w0.heap.size n w0 (.int .i64 ((i : Int) + 1)) (.int .i64 ((k : Int) + 1)) (((w3.setCell ⟨g, i * 3, none⟩ (.int .i64 y.id)).setCell ⟨g, i * 3 + 1, none⟩ (.string y.key)).setCell ⟨g, i * 3 + 2, none⟩ (.int .u32 y.word)) from
              ⟨k + 1, X.set i y, by omega, by go_num, by rw [F1l]; go_num, by rw [F1l]; omega, by rw [List.length_set]; exact HX.out, by rw [F1l, s1, F1], by rw [s2, HXD1.out], OS,
                ((K3.out.setNew (p := ⟨g, i * 3, none⟩) _ hgw).setNew (p := ⟨g, i * 3 + 1, none⟩) _ hgw).setNew (p := ⟨g, i * 3 + 2, none⟩) _ hgw⟩)
            have z0 := fz (i * 3)
            have z1 := fz (i * 3 + 1)
            have z2 := fz (i * 3 + 1 + 1)
            clear F1 F1l own3 hb B8 OS s1 s2 fz
            go_wp2_with fail
            exact ⟨RZ.out, by simp [intOf]; omega⟩
        · obtain rfl : k = n := by omega
          have hfl : l.take k = l := List.take_of_length_le (by rw [← HN.out]; exact Nat.le_refl _)
          rw [hfl] at hXt HI
          obtain ⟨vs, hcl⟩ := run_clear_row (c' := cap - i) own hik 0
          have hcl : ∀ ty, (Builtin.clear_ #[23] ty #[.slice (some ⟨g, i * 3, none⟩) (k - i) (cap - i)]).run Tryd.prog wo = .ok (.tuple #[]) (wo.setCells g (i * 3) vs) := fun _ => hcl
          have O9 := Lib.hid (own_setcs vs wo (i * 3) (Nat.le_refl _) (own_cutn own (m := i) (by rw [hX]; omega)))
          rw [hXt] at O9
          have K9 := Lib.hid (ex_setcs HG.out vs wo (i * 3) KW.out)
          have hic : ¬ cap = i := by omega
          clear own kw hXd hX hXt hfl hk hlt hi
          go_wp2_with (simp only [hcl])
          go_ret
          exact ⟨_, rfl, O9.out, K9.out⟩
  · rw [hq]
    have HF := Lib.hid hf
    clear hq hf
    go_wp2_with fail
    go_ret
    exact ⟨_, rfl, by rw [HF.out, HN.out]; rw [← HN.out]; exact H1.out, K1.out⟩
def withoutN (l : List Nd) (ids : List Int) : List Nd := l.filter fun x => !(ids.contains x.id)
set_option maxHeartbeats 1000000 in
theorem without_p (a : Option Addr) (n c : Nat) (l : List Nd) (a2 : Option Addr) (n2 c2 : Nat) (ids : List Int) (w : World) (h : Sl 3 encN w a n l) (hn : n ≤ 1000) (h2 : Sl 1 encI w a2 n2 ids) (hn2 : n2 ≤ 1000000) :
    Calls Tryd.prog 33 #[.slice a n c, .slice a2 n2 c2] w (NdPost (withoutN l ids) w.heap.size w) := by
  have HL := Lib.hid h.len
  have k1 := Ex.new w (.cells #[.slice a2 n2 c2] 22)
  have B1 := Blk.new w [.slice a2 n2 c2] 22
  obtain ⟨w1, hw1⟩ : ∃ w1, w1 = w.alloc (.cells #[.slice a2 n2 c2] 22) := ⟨_, rfl⟩
  obtain ⟨g, hg⟩ : ∃ g, g = w.heap.size := ⟨_, rfl⟩
  have B1 : Blk w1 g [.slice a2 n2 c2] 22 := by rw [hw1, hg]; exact B1
  rw [← hw1] at k1
  have HW1 := Lib.hid hw1
  have HG := Lib.hid hg
  have PG := Lib.hid (wo1_p g a2 n2 c2 ids w1 B1 (h2.nx k1) hn2)
  have eg : ∀ args w, (callFunc 58 args).run Tryd.prog w = .ok (.enter 58 args) w := enters_of Tryd.func58 (by kernel_rfl) rfl
  have EG := Lib.hid eg
  have S1 := h.nx k1
  have K1 := Lib.hid k1
  clear h h2 hw1 hg B1 k1 eg
  go_enter Tryd.func33, Tryd.ntmps33
  go_upto_region 1 with fail
  rw [← HG.out, ← HW1.out]
  go_wp2_with fail
  (with_reducible refine (clone_n _ _ _ _ _ S1 hn).mono ?_)
  rintro e w2 ⟨v, rfl, own, k2⟩
  clear S1
  go_wp2_with fail
  (with_reducible refine (delete_n _ _ _ EG.out v l w1 w2 own (by rw [HL.out]; exact hn) k2 PG.out).mono ?_)
  rintro e w3 ⟨v3, rfl, own3, k3⟩
  have O3 := Lib.hid (OwnL.base own3 K1.out.size)
  have K3 := Lib.hid (K1.out.nx k3)
  clear own own3 k2 k3
  go_wp2_with fail
  go_ret
  exact ⟨_, rfl, O3.out, K3.out⟩
end Go.Proofs.YtihpaonhonhfoaaDoor
