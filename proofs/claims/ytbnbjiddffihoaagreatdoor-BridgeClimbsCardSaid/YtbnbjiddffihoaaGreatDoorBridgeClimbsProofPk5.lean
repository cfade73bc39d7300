/- Texts for the statement BridgeClimbsProof, part 5 of 12: BldW, BldQ, IdlL, Lin, Per, Rnd, LinP, Bri, RouP, RouA, SrP, SrE, RepP, JoiP, ConP, Wo, ConL. -/
import Derived.Lib.SliceRun
import Derived.Test.YtbnbjiddffihoaaGreatDoorBridgeClimbsProofPk1
import Derived.Test.YtbnbjiddffihoaaGreatDoorBridgeClimbsProofPk2
import Derived.Test.YtbnbjiddffihoaaGreatDoorBridgeClimbsProofPk3
import Derived.Test.YtbnbjiddffihoaaGreatDoorBridgeClimbsProofPk4

/- Build of the package ideal. -/
namespace Go.Proofs.YtbnbjiddffihoaaGreatDoor
open Go.RowKit

def posK (S : List Nd) : Nat → Int → Int
  | 0 => fun _ => 0
  | k + 1 => fun y => if y = (S[k]?.getD Nd.zero).id then (k : Int) else posK S k y
theorem posK_at {S : List Nd} (hd : S.Pairwise fun x y => x.id ≠ y.id) : ∀ (k p : Nat) (y : Nd), p < k → k ≤ S.length → S[p]? = some y → posK S k y.id = p
  | 0, _, _, h, _, _ => by omega
  | k + 1, p, y, hp, hk, hy => by
    unfold posK
    by_cases he : p = k
    · subst he; rw [hy]; exact if_pos rfl
    · obtain ⟨z, hz⟩ : ∃ z, S[k]? = some z := ⟨S[k], List.getElem?_eq_getElem (by omega)⟩
      have hne : y.id ≠ z.id := by
        obtain ⟨h1, e1⟩ := List.getElem?_eq_some_iff.1 hy
        obtain ⟨h2, e2⟩ := List.getElem?_eq_some_iff.1 hz
        have := List.pairwise_iff_getElem.1 hd p k h1 h2 (by omega)
        rwa [e1, e2] at this
      rw [hz, if_neg (by exact hne)]
      exact posK_at hd k p y (by omega) (by omega) hy
theorem rows0_snoc (S : List Nd) (m k : Nat) (x : Nd) (hx : S[k]? = some x) : rowsF (S.take (k + 1)) m (procB S 0) = rowsF (S.take k) m (procB S 0) ++ [(x.id, List.replicate m (0, 0))] := by
  unfold rowsF
  rw [take_snocN S k x hx, List.map_append]
  congr 1
  show [(x.id, (List.range m).map fun _ => ((0, 0) : Int × Int))] = _
  rw [List.map_const', List.length_range]
theorem lists_in {S : List Nd} {h : Int} : ∀ c ∈ listsN S h, ∀ x ∈ c, ∃ y ∈ S, y.id = x := by
  intro c hc x hx
  unfold listsN at hc
  split at hc
  · obtain ⟨d, hd, rfl⟩ := List.mem_map.1 hc
    obtain ⟨y, hy, rfl⟩ := List.mem_map.1 hx
    refine ⟨y, ?_, rfl⟩
    by_cases hh : 16 < h
    · rw [classesN_big hh] at hd; cases hd
    · rw [classesN_fold hh] at hd
      exact (sortN_mem S y).1 ((foldC_fine (h := h) (P := fun y => y ∈ sortN S) (sortN S) (fun _ hy => hy) d hd).2.2 y hy)
  · cases hc
theorem lists_sm {S : List Nd} {h : Int} (hl : S.length ≤ 1000) : (listsN S h).length ≤ 1000 ∧ ∀ c ∈ listsN S h, c.length ≤ 1000 := by
  unfold listsN
  split
  · have := classesN_sm (sortN S) h (by rw [sortN_length]; exact hl)
    refine ⟨by rw [List.length_map]; exact this.1, fun c hc => ?_⟩
    obtain ⟨d, hd, rfl⟩ := List.mem_map.1 hc
    unfold idsN
    rw [List.length_map]
    exact this.2 d hd
  · exact ⟨by simp, by simp⟩
def B1Rel (S : List Nd) (m b : Nat) (w : World) (o i : Value) (wr : World) : Prop :=
  ∃ (k : Nat) (qs : List (Int × Hdr)), k ≤ S.length ∧ i = .int .i64 k ∧ OwnLk w.heap.size wr o qs (rowsF (S.take k) m (procB S 0)) ∧ MapI wr b k (posK S k) ∧ Exb b w wr
def B2Rel (S : List Nd) (m base : Nat) (v : Value) (qs : List (Int × Hdr)) (w : World) (i : Value) (wr : World) : Prop :=
  ∃ j : Nat, j ≤ m ∧ i = .int .i64 j ∧ OwnLk base wr v qs (rowsF S m (procB S j)) ∧ Exq qs w wr
def B3Rel (S : List Nd) (m base j : Nat) (M : List (List Int)) (v : Value) (qs : List (Int × Hdr)) (w : World) (i : Value) (wr : World) : Prop :=
  ∃ q : Nat, q ≤ M.length ∧ i = .int .i64 q ∧ OwnLk base wr v qs (rowsF S m (procL j (M.take q) (procB S j))) ∧ Exq qs w wr
def B4Rel (S : List Nd) (m base j : Nat) (c : List Int) (F : FnL) (v : Value) (qs : List (Int × Hdr)) (w : World) (i : Value) (wr : World) : Prop :=
  ∃ r : Nat, (r < c.length ∨ r = 0) ∧ i = .int .i64 ((r : Int) + 1) ∧ OwnLk base wr v qs (rowsF S m (procI c j F r)) ∧ Exq qs w wr
theorem blk_ne {α : Type} {sz base g : Nat} {enc : α → List Value} {e ty : TypeId} {w : World} {v : Value} {l : List α} {cs : List Value} (h : OwnW sz enc e base w v l) (B : Blk w g cs ty) (hne : ty ≠ e) : ¬ v.ownBlock = some g := by
  intro hv
  obtain ⟨_, cur, e1⟩ := h.blk hv
  unfold Blk at B
  rw [B] at e1
  simp at e1
  exact hne e1.2
theorem own_out {base : Nat} {w : World} {v : Value} {qs : List (Int × Hdr)} {S : List Nd} {m : Nat} {F : FnL} (h : OwnLk base w v qs (rowsF S m F)) : ∃ a c, v = .slice a S.length c := by
  obtain ⟨a, c, e, _⟩ := h.1.rd (fun _ => rfl)
  refine ⟨a, c, ?_⟩
  rw [e, h.2.1]
  unfold rowsF
  rw [List.length_map]
theorem atI_of {c : List Int} {r : Nat} {x : Int} (h : c[r]? = some x) : atI c r = x := by unfold atI; rw [h]; rfl
theorem Chg.undrew {S : Nat → Prop} {w w' : World} (h : Chg S w w') : Chg S w.drew w' := ⟨h.1, h.2, h.3, h.4, h.5⟩
theorem mem_at {S : List Nd} {x : Int} (h : ∃ y : Nd, y ∈ S ∧ y.id = x) : ∃ (p : Nat) (y : Nd), S[p]? = some y ∧ y.id = x := by
  obtain ⟨y, hy, e⟩ := h
  obtain ⟨p, hp⟩ := List.mem_iff_getElem?.1 hy
  exact ⟨p, y, hp, e⟩

set_option maxRecDepth 100000 in
set_option maxHeartbeats 8000000 in
/-- what Build lays, in its own words -/
theorem build_q (a : Option Addr) (n c : Nat) (l : List Nd) (h : Int) (w : World) (hs : Sl 3 encN w a n l) (hn : n ≤ 1000) (hc : n ≤ c) (hm : c ≤ maxLen) (hw : ∀ x ∈ l, x.word < 4294967296) (hT : TabG w)
    (L : List Lkd) (e0 : Int) (hL1 : checkN l ≠ 0 → L = [] ∧ e0 = 1) (hL2 : checkN l = 0 → lvlN h = false → L = [] ∧ e0 = 2) (hL3 : checkN l = 0 → ∀ m : Nat, h = m → m ≤ 16 → L = rowsF (sortN l) (m + 1) (procB (sortN l) (m + 1)) ∧ e0 = 0) :
    Calls Tryz.prog 58 #[.slice a n c, .int .i64 h] w (LkPost L e0 w) := by
  have HW := Lib.hid hw
  have HL := Lib.hid hs.len
  have HT := Lib.hid hT
  have H1 := Lib.hid hL1
  have H2 := Lib.hid hL2
  have H3 := Lib.hid hL3
  have hmm := @run_makeMap Tryz.prog
  clear hw hT hL1 hL2 hL3
  go_enter Tryz.func58, Tryz.ntmps58
  go_wp2_with fail
  (with_reducible refine (ordered_p _ _ _ _ _ hs hn hc hm).mono ?_)
  rintro e w0 ⟨v, S, rfl, OS, ⟨hp, hsrt⟩, k0⟩
  have SL := Lib.hid hp.length_eq
  have SW : Hid (∀ x ∈ S, x.word < 4294967296) := Lib.hid (fun x hx => HW.out x (hp.mem_iff.1 hx))
  have HSR := Lib.hid hsrt
  replace HT := Lib.hid (HT.out.nx k0)
  have SOK : Hid (checkN l = 0 → ∀ x ∈ S, 1 ≤ x.id ∧ x.id ≤ 2147483647) := Lib.hid (fun h0 x hx => by
    have := roster_ok h0 x (hp.mem_iff.1 hx)
    exact ⟨this.2.1, this.2.2.1⟩)
  clear hp hsrt hs
  by_cases hck : checkN l = 0
  case neg =>
    obtain ⟨rfl, rfl⟩ := H1.out hck
    have d1 : (checkN l == 0) = false := by simpa using hck
    rw [d1]
    clear hck d1 OS
    go_wp2_with fail
    go_ret2
    exact ⟨_, [], rfl, OwnN.nil _ _ _ _ _ _ _ _, k0⟩
  have HCK := Lib.hid hck
  have d1 : (checkN l == 0) = true := by simpa using hck
  rw [d1]
  clear hck d1
  by_cases hlo : h < 0
  · obtain ⟨rfl, rfl⟩ := H2.out HCK.out (by unfold lvlN; simp; omega)
    clear OS
    go_wp2_with fail
    go_ret2
    exact ⟨_, [], rfl, OwnN.nil _ _ _ _ _ _ _ _, k0⟩
  by_cases hhi : 16 < h
  · obtain ⟨rfl, rfl⟩ := H2.out HCK.out (by unfold lvlN; simp; omega)
    clear OS
    go_wp2_with fail
    go_ret2
    exact ⟨_, [], rfl, OwnN.nil _ _ _ _ _ _ _ _, k0⟩
  obtain ⟨m, rfl⟩ := Int.eq_ofNat_of_zero_le (show 0 ≤ h by omega)
  have hm16 : m ≤ 16 := by omega
  obtain ⟨hLL, rfl⟩ := H3.out HCK.out m rfl hm16
  rw [← HSR.out HCK.out] at hLL
  have HLL := Lib.hid hLL
  have ID : Hid (S.Pairwise fun x y => x.id ≠ y.id) := Lib.hid (by
    rw [HSR.out HCK.out]
    exact (sortN_str HCK.out).imp (fun h => h.2))
  have SOK := Lib.hid (SOK.out HCK.out)
  obtain ⟨M1, hM1⟩ : ∃ M1, M1 = m + 1 := ⟨_, rfl⟩
  rw [← hM1] at HLL
  have HM1 := Lib.hid hM1
  have hM17 : M1 ≤ 17 := by omega
  clear hM1
  obtain ⟨aS, cS, rfl, sS, hcS, hmS⟩ := OS.sl3 (fun _ => rfl)
  have hnS : S.length ≤ 1000 := by have := HL.out; have := SL.out; omega
  clear OS hLL H1 H2 H3 hlo hhi
  obtain ⟨w1, hw1⟩ : ∃ w1, w1 = w0.alloc (.map #[] 0) := ⟨_, rfl⟩
  obtain ⟨b, hb⟩ : ∃ b, b = w0.heap.size := ⟨_, rfl⟩
  have MI : MapI w1 b 0 (posK S 0) := by rw [hw1, hb]; exact MapI.made w0
  have k1 : Ex w0 w1 := by rw [hw1]; exact Ex.new _ _
  have sSb := (sS.slb (Nat.le_of_eq hb.symm)).nxb (k1.b b)
  have hb0 : w.heap.size ≤ b := by have := k0.size; omega
  have HT1 := Lib.hid (HT.out.nx k1)
  have hTb : 1 < b := by have := HT.out.lt; omega
  have hTb := Lib.hid hTb
  have hbw1 : b < w1.heap.size := MI.lt
  have HW1 := Lib.hid hw1
  have HB := Lib.hid hb
  have K1 := Lib.hid (k0.nx k1)
  have SSB := Lib.hid sSb
  clear hw1 hb k0 k1 sS sSb
  go_upto_region 7 with fail
  rw [← HB.out, ← HW1.out]
  go_wp2_with fail
  go_loopw [9, 32] (fun o i wr => B1Rel S M1 b w1 o i wr) (fun _ i _ => S.length - (intOf i).toNat)
  case atStart => exact ⟨0, [], by omega, rfl, OwnN.nil _ _ _ _ _ _ _ _, MI, Exb.refl _ _⟩
  case round =>
    clear MI
    obtain ⟨k, qs, hk, rfl, OQ, MI, kw⟩ := hrel
    obtain ⟨wo, rfl⟩ : ∃ wo : World, wo = wr := ⟨_, rfl⟩
    by_cases hlt : k < S.length
    · obtain ⟨x1, o1, y, rfl, hx1, hy, hc1⟩ := ((SSB.out.nxb kw).sl).at hlt
      obtain ⟨yi, yk, yw⟩ := y
      have e0 : wo.cell? ⟨x1, o1 + k * 3, none⟩ = some (.int .i64 yi) := hc1 0 _ rfl
      have e1 : wo.cell? ⟨x1, o1 + k * 3 + 1, none⟩ = some (.string yk) := hc1 1 _ rfl
      have e2 : wo.cell? ⟨x1, o1 + k * 3 + 2, none⟩ = some (.int .u32 yw) := hc1 2 _ rfl
      have e2' : wo.cell? ⟨x1, o1 + k * 3 + 1 + 1, none⟩ = some (.int .u32 yw) := e2
      have RS := Lib.hid (rows0_snoc S M1 k _ hy)
      have hid := SOK.out _ (List.mem_of_getElem? hy)
      have hid1 : 1 ≤ yi := hid.1
      have hid2 : yi ≤ 2147483647 := hid.2
      have PK : Hid ((fun y => if y = yi then (k : Int) else posK S k y) = posK S (k + 1)) := Lib.hid (by
        show _ = fun y => if y = (S[k]?.getD Nd.zero).id then (k : Int) else posK S k y
        rw [hy]; rfl)
      clear hy hc1 hid
      have k7 := Ex.new wo (.cells #[.int .i64 yi, .string yk, .int .u32 yw] 57)
      have B4 := Blk.new wo [.int .i64 yi, .string yk, .int .u32 yw] 57
      obtain ⟨w7, hw7⟩ : ∃ w7, w7 = wo.alloc (.cells #[.int .i64 yi, .string yk, .int .u32 yw] 57) := ⟨_, rfl⟩
      obtain ⟨g4, hg4⟩ : ∃ g4, g4 = wo.heap.size := ⟨_, rfl⟩
      have B4 : Blk w7 g4 [.int .i64 yi, .string yk, .int .u32 yw] 57 := by rw [hw7, hg4]; exact B4
      rw [← hw7] at k7
      have hg4b : g4 ≠ b := by have := MI.lt; omega
      have HW7 := Lib.hid hw7
      have HG4 := Lib.hid hg4
      replace OQ := OwnN.nx OQ k7
      replace MI := MI.nx k7
      replace kw := kw.nxb (k7.b b)
      clear hw7 hg4 k7
      go_upto_region 11 with fail
      rw [← HG4.out, ← HW7.out]
      clear e0 e1 e2 e2'
      obtain ⟨wm, hrun, MI2, km⟩ := MI.put (x := yi) (v := k) (by omega) (by omega) (show k < maxLen by unfold maxLen; omega)
      have y0 := B4.cell 0 _ rfl
      have B4m := Lib.hid (B4.nxb hg4b km)
      have OQm := Lib.hid (OwnN.nxb OQ hbw1 km)
      replace kw := Lib.hid (kw.nxb km)
      rw [PK.out] at MI2
      have MI2 := Lib.hid MI2
      clear OQ MI B4 km
      go_upto_region 12 with fail
      clear hrun y0
      have B4d := Lib.hid (B4m.out.nx (Ex.refl wm).drew)
      obtain ⟨Z, hZ⟩ : ∃ Z, Z = ((List.replicate M1 ((0, 0) : Int × Int)).flatMap encS).toArray := ⟨_, rfl⟩
      have cm : (Instr.makeSlice 100 (.int .i64 ((m : Int) + 1)) (.int .i64 ((m : Int) + 1))).run Tryz.prog wm.drew = .ok (.slice (some ⟨wm.drew.heap.size, 0, none⟩) M1 M1) (wm.drew.alloc (.cells Z 65)) := by
        rw [hZ]; exact mkLk m M1 hm16 HM1.out _
      have CM := Lib.hid cm
      have HZ := Lib.hid hZ
      have hbs : w1.heap.size ≤ wm.heap.size := kw.out.size
      have IN : Hid (OwnL 2 encS 65 w1.heap.size (wm.alloc (.cells Z 65)) (.slice (some ⟨wm.heap.size, 0, none⟩) M1 M1) (List.replicate M1 ((0, 0) : Int × Int))) := Lib.hid (by
        have := OwnL.lit (sz := 2) (enc := encS) (e := 65) (base := w1.heap.size) (w := wm) (List.replicate M1 ((0, 0) : Int × Int)) (fun _ => rfl) hbs (by rw [List.length_replicate]; unfold maxLen; omega) (cs := Z) hZ
        rwa [List.length_replicate] at this)
      have hkq : qs.length = k := by rw [OQm.out.2.1]; unfold rowsF; rw [List.length_map, List.length_take]; omega
      have hkq := Lib.hid hkq
      have FR : Hid (∀ (j : Nat) (r : Int × Hdr) (g : Nat), qs[j]? = some r → r.2.val.ownBlock = some g → ¬ (Value.slice (some ⟨wm.heap.size, 0, none⟩) M1 M1).ownBlock = some g) := Lib.hid (by
        intro j r g hr hg hv
        have h1 : g < wm.heap.size := OwnN.lt OQm.out hr hg
        cases hv
        exact Nat.lt_irrefl _ h1)
      have wrm : IntKind.i64.wrap ((m : Int) + 1) = (m : Int) + 1 := IntWalk.i64_in _ (by omega)
      have NB := Lib.hid (blk_ne OQm.out.1 B4m.out (by decide))
      have G4L : Hid (g4 < wm.heap.size) := Lib.hid B4m.out.lt
      clear cm hZ
      refine wp_region_held_drew (S := Chg (· = g4) wm.drew) (by kernel_rfl) (Chg.refl _ _) (fun hHeld => ?_)
      refine wpAnyH_take (i := 0) (oi := ⟨some 41, .move (.tmp 9), 71, "ideal.go:79", #[], none⟩) (v := ?_) rfl (by kernel_rfl) (by kernel_rfl) (by kernel_rfl) (fun _ _ _ h => h) (Or.inl ⟨by rfl, ?hyr1x0q1⟩) (by assumption) ?restr1x0q1
      case hyr1x0q1 => intro wq hSw; (go_simp); (try with_reducible rfl)
      try simp only [Act.put, List.setIfInBounds_toArray, List.set_cons_zero, List.set_cons_succ]
      refine wpAnyH_take (i := 1) (oi := ⟨some 42, .fieldAddr 57 (.tmp 11) 0, 0, "ideal.go:79", #[], none⟩) (v := ?_) rfl (by kernel_rfl) (by kernel_rfl) (by kernel_rfl) (fun _ _ _ h => h) (Or.inl ⟨by rfl, ?hyr1x1q4⟩) (by assumption) ?restr1x1q4
      case hyr1x1q4 => intro wq hSw; (go_simp); (try with_reducible rfl)
      try simp only [Act.put, List.setIfInBounds_toArray, List.set_cons_zero, List.set_cons_succ]
      refine wpAnyH_take (i := 2) (oi := ⟨some 43, .load 3 (.tmp 42), 3, "ideal.go:79", #[⟨1, .data⟩], none⟩) (v := ?_) rfl (by kernel_rfl) (by kernel_rfl) (by kernel_rfl) (fun _ _ _ h => h) (Or.inl ⟨by rfl, ?hyr1x2q7⟩) (by assumption) ?restr1x2q7
      case hyr1x2q7 => intro wq hSw; (have cq := (B4d.out.chg hSw rfl).cell 0 _ rfl; go_simp); (try with_reducible rfl)
      try simp only [Act.put, List.setIfInBounds_toArray, List.set_cons_zero, List.set_cons_succ]
      refine wpAnyH_take (i := 3) (oi := ⟨some 44, .move (.tmp 1), 3, "ideal.go:79", #[], none⟩) (v := ?_) rfl (by kernel_rfl) (by kernel_rfl) (by kernel_rfl) (fun _ _ _ h => h) (Or.inl ⟨by rfl, ?hyr1x3q10⟩) (by assumption) ?restr1x3q10
      case hyr1x3q10 => intro wq hSw; (go_simp); (try with_reducible rfl)
      try simp only [Act.put, List.setIfInBounds_toArray, List.set_cons_zero, List.set_cons_succ]
      refine wpAnyH_take (i := 4) (oi := ⟨some 45, .binOp .add 3 (.tmp 44) (.const (.int .i64 1)) 3, 3, "ideal.go:79", #[⟨3, .data⟩], none⟩) (v := ?_) rfl (by kernel_rfl) (by kernel_rfl) (by kernel_rfl) (fun _ _ _ h => h) (Or.inl ⟨by rfl, ?hyr1x4q13⟩) (by assumption) ?restr1x4q13
      case hyr1x4q13 => intro wq hSw; (go_simp); (try with_reducible rfl)
      try simp only [Act.put, List.setIfInBounds_toArray, List.set_cons_zero, List.set_cons_succ]
      refine wpAnyH_ready (rs := [5]) (by kernel_rfl) (by simp) ?_
      refine AllReadyH.cons (o := ⟨some 46, .makeSlice 100 (.tmp 45) (.tmp 45), 100, "ideal.go:79", #[⟨4, .data⟩, ⟨4, .data⟩], none⟩) rfl (fun K hK => ?_) AllReadyH.nil
      have cm := CM.out
      go_simp
      clear cm
      refine hK.out _ _ ((Chg.undrew ((Chg.refl (· = g4) wm).alloc _ (fun x hx => by cases hx; exact G4L.out)).drew)) (fun hHeld => ?_)
      clear hK K
      try simp only [Act.put, List.setIfInBounds_toArray, List.set_cons_zero, List.set_cons_succ]
      refine wpAnyH_take (i := 6) (oi := ⟨some 47, .build 102 #[(0, .tmp 43), (1, .tmp 46)], 102, "ideal.go:79", #[⟨2, .data⟩, ⟨5, .data⟩], none⟩) (v := ?_) rfl (by kernel_rfl) (by kernel_rfl) (by kernel_rfl) (fun _ _ _ h => h) (Or.inl ⟨by rfl, ?hyr1x6q24⟩) (by assumption) ?restr1x6q24
      case hyr1x6q24 => intro wq hSw; (go_simp); (try with_reducible rfl)
      try simp only [Act.put, List.setIfInBounds_toArray, List.set_cons_zero, List.set_cons_succ]
      refine wpAnyH_ready (rs := [7]) (by kernel_rfl) (by simp) ?_
      refine AllReadyH.cons (o := ⟨some 48, .buildSlice 71 1 #[(0, .tmp 47)], 71, "ideal.go:79", #[⟨6, .data⟩], none⟩) rfl (fun K hK => ?_) AllReadyH.nil
      go_simp
      refine hK.out _ _ ((Chg.undrew (((Chg.refl (· = g4) wm).alloc _ (fun x hx => by cases hx; exact G4L.out)).alloc _ (fun x hx => by cases hx; exact Nat.lt_of_lt_of_le G4L.out (Ex.new wm _).size)).drew)) (fun hHeld => ?_)
      clear hK K
      try simp only [Act.put, List.setIfInBounds_toArray, List.set_cons_zero, List.set_cons_succ]
      refine wpAnyH_ready (rs := [8]) (by kernel_rfl) (by simp) ?_
      refine AllReadyH.cons (o := ⟨some 49, .call { callee := .builtin .append, args := #[.tmp 41, .tmp 48], argTypes := #[71, 71] }, 71, "ideal.go:79", #[⟨0, .data⟩, ⟨7, .data⟩], none⟩) rfl (fun K hK => ?_) AllReadyH.nil
      rw [if_pos (by rfl)]
      have kz : Ex wm ((wm.alloc (.cells Z 65)).alloc (.cells #[.int .i64 yi, .slice (some ⟨wm.heap.size, 0, none⟩) M1 M1] 102)).drew := ((Ex.new wm (.cells Z 65)).alloc _).drew
      have OQ2 := OwnN.nx OQm.out kz
      have hql : qs.length ≤ 1000000 := by rw [hkq.out]; omega
      have SX0 : Sl 2 (encP encI) ((wm.alloc (.cells Z 65)).alloc (.cells #[.int .i64 yi, .slice (some ⟨wm.heap.size, 0, none⟩) M1 M1] 102)) (some ⟨wm.heap.size + 1, 0, none⟩) 1 [((yi, (some ⟨wm.heap.size, 0, none⟩, M1, M1)) : Int × Hdr)] := Sl.lit _ (by simp) rfl (fun _ => rfl) rfl
      have SX := SX0.nx (Ex.refl _).drew
      have zz := Nat.le_trans hbs kz.size
      refine wp_append_W (enc := encP encI) _ (.tmp 41) (.tmp 48) 71 rfl w1.heap.size 102 (.agg #[.int .i64 0, .slice none 0 0]) 2 32 Tryz.underlying71 Tryz.infoLd rfl (by omega) (by omega) _ qs OQ2.1 rfl _ 1 1 [((yi, (some ⟨wm.heap.size, 0, none⟩, M1, M1)) : Int × Hdr)] SX (fun _ => rfl) (by simp [encP, encI, Hdr.val, Value.oneCell']) rfl hql (by omega) zz ?_
      intro v9 w9 own9 ch0 ch1 _
      refine hK.out _ _ ((Chg.undrew (Chg.trans (Chg.mono kz (fun x hx => by cases hx; exact G4L.out)) (Chg.mono ch0 (fun x hx => by cases hx; exact ⟨Nat.lt_of_lt_of_le G4L.out kz.size, NB.out⟩))))) (fun hHeld => ?_)
      clear hK K
      try simp only [Act.put, List.setIfInBounds_toArray, List.set_cons_zero, List.set_cons_succ]
      refine wpAnyH_take (i := 9) (oi := ⟨some 9, .assign (.tmp 49), 71, "ideal.go:79", #[⟨8, .data⟩, ⟨8, .chain⟩, ⟨0, .phase⟩, ⟨1, .phase⟩, ⟨2, .phase⟩, ⟨3, .phase⟩, ⟨4, .phase⟩, ⟨5, .phase⟩, ⟨6, .phase⟩, ⟨7, .phase⟩, ⟨8, .phase⟩], none⟩) (v := ?_) rfl (by kernel_rfl) (by kernel_rfl) (by kernel_rfl) (fun _ _ _ h => h) (Or.inl ⟨by rfl, ?hyr1x9q47⟩) (by assumption) ?restr1x9q47
      case hyr1x9q47 => intro wq hSw; (go_simp); (try with_reducible rfl)
      try simp only [Act.put, List.setIfInBounds_toArray, List.set_cons_zero, List.set_cons_succ]
      refine wpAnyH_done (by kernel_rfl) ?_ _
      have OQ9 := OwnN.push (by decide) OQ2 own9 ch0 (IN.out.nx (Ex.new _ _).drew) FR.out
      have kw9 : Exb b w1 w9 := Chg.trans (Chg.trans kw.out (Chg.mono kz (fun x hx => Nat.lt_of_lt_of_le hx.1 kw.out.size))) (Chg.mono ch1 (fun x hx => hx.1))
      have MI9 := MI2.out.chg (S := (· = b)) (Chg.trans (Chg.mono kz (fun x hx => by cases hx; exact MI2.out.lt)) (Chg.mono ch1 (fun x hx => by cases hx; exact hbw1))) rfl
      clear OQ2 own9 ch0 ch1 SX SX0
      go_wp2_with fail
      exact ⟨⟨k + 1, _, by omega, by go_num, by rw [RS.out]; exact OQ9, MI9, kw9⟩, by simp [intOf]; omega⟩
    · obtain rfl : k = S.length := by omega
      rw [List.take_length] at OQ
      obtain ⟨ao, co, rfl⟩ := own_out OQ
      have HQB : Hid (∀ k, InQ qs k → w1.heap.size ≤ k ∧ k < wo.heap.size) := Lib.hid (fun k hk => inQ_base OQ hk)
      have KT : Hid (∀ wr, Exq qs wo wr → Exb b w1 wr) := Lib.hid (fun wr kq => Chg.trans kw (Chg.mono kq (fun x hx => ⟨Nat.lt_of_lt_of_le hx.1 kw.size, fun hi => by have h1 := (HQB.out x hi).1; have h2 := hx.1; exact absurd h2 (Nat.not_lt.2 h1)⟩)))
      have MIH : Hid (∀ wr, Exq qs wo wr → MapI wr b S.length (posK S S.length)) := Lib.hid (fun wr kq => MI.chg kq ⟨MI.lt, fun hi => by have h1 := (HQB.out b hi).1; omega⟩)
      have KW := Lib.hid kw
      have hzo := kw.size
      clear hk hlt kw MI
      have wrm : IntKind.i64.wrap ((m : Int) + 1) = (m : Int) + 1 := IntWalk.i64_in _ (by omega)
      go_wp2_with fail
      go_loopw [53] (fun i wr => B2Rel S M1 w1.heap.size (.slice ao S.length co) qs wo i wr) (fun i _ => M1 - (intOf i).toNat)
      case atStart => exact ⟨0, by omega, rfl, OQ, Exq.refl _ _⟩
      case round =>
        clear OQ
        obtain ⟨j, hj, rfl, OQ, kq⟩ := hrel
        obtain ⟨wj, rfl⟩ : ∃ wj : World, wj = wr := ⟨_, rfl⟩
        by_cases hjm : j < M1
        · have hjm1 : (j : Int) < (m : Int) + 1 := by have := HM1.out; omega
          have SSj := (SSB.out.nxb (KT.out _ kq)).sl
          have TGj : TabG wj := HT1.out.chg (KT.out _ kq) ⟨HT1.out.lt, by have := hTb.out; omega⟩
          have OQH := Lib.hid OQ
          have KQ := Lib.hid kq
          have hzj := kq.size
          have HLI := Lib.hid (lists_in (S := S) (h := (j : Int)))
          have HLS := Lib.hid (lists_sm (h := (j : Int)) hnS)
          have HPB : Hid (procB S (j + 1) = procL j (listsN S (j : Int)) (procB S j)) := Lib.hid rfl
          clear OQ kq
          go_wp2_with fail
          (with_reducible refine (lists_p _ _ _ _ _ _ SSj hnS hcS hmS SW.out TGj).mono ?_)
          rintro e w5 ⟨vl, ql, rfl, OL, k5⟩
          obtain ⟨aL, cL, rfl, LT⟩ := OwnIL.ilt OL
          obtain ⟨M, hM⟩ : ∃ M, M = listsN S (j : Int) := ⟨_, rfl⟩
          rw [← hM] at LT HLI HLS HPB ⊢
          have LT := Lib.hid LT
          have OQ := OwnN.nx OQH.out k5
          have K5 := Lib.hid k5
          have hz5 := k5.size
          have hMl := HLS.out.1
          have KL : Hid (∀ u v, w5.heap.size ≤ u.heap.size → Exq qs u v → Chg (fun k => wj.heap.size ≤ k ∧ k < w5.heap.size) u v) := Lib.hid (fun u v hu kq => Chg.mono kq (fun x hx => ⟨Nat.lt_of_lt_of_le hx.2 hu, fun hi => by have h1 := (HQB.out x hi).2; have h2 := hx.1; omega⟩))
          clear OL k5 SSj TGj hM
          go_wp2_with fail
          go_loopw [60] (fun i wr => B3Rel S M1 w1.heap.size j M (.slice ao S.length co) qs w5 i wr) (fun i _ => M.length - (intOf i).toNat)
          case atStart => exact ⟨0, by omega, rfl, OQ, Exq.refl _ _⟩
          case round =>
            clear OQ
            obtain ⟨q, hq, rfl, OQ, k3⟩ := hrel
            obtain ⟨wq3, rfl⟩ : ∃ wq3 : World, wq3 = wr := ⟨_, rfl⟩
            by_cases hqm : q < M.length
            · obtain ⟨x3, o3, a', n', c', cc, rfl, hx3, hcc, hcell, hids⟩ := (LT.out.chg (KL.out _ _ (Nat.le_refl _) k3)).at hqm
              have hnl := hids.1
              subst hnl
              have hcl : cc.length ≤ 1000 := HLS.out.2 cc (List.mem_of_getElem? hcc)
              have HIN := Lib.hid (HLI.out cc (List.mem_of_getElem? hcc))
              have PS := Lib.hid (procL_snoc j M (procB S j) q cc hcc)
              have hz3 := k3.size
              have HID := Lib.hid hids
              have K3 := Lib.hid k3
              obtain ⟨F, hF⟩ : ∃ F, F = procL j (M.take q) (procB S j) := ⟨_, rfl⟩
              rw [← hF] at OQ PS
              clear hcc hids k3 hF
              go_wp2_with fail
              clear hcell
              go_loopw [15] (fun i wr => B4Rel S M1 w1.heap.size j cc F (.slice ao S.length co) qs wq3 i wr) (fun i _ => cc.length - (intOf i).toNat)
              case atStart => exact ⟨0, .inr rfl, rfl, OQ, Exq.refl _ _⟩
              case round =>
                clear OQ
                obtain ⟨r, hr, rfl, OQ, k4⟩ := hrel
                obtain ⟨wi, rfl⟩ : ∃ wi : World, wi = wr := ⟨_, rfl⟩
                by_cases hrm : r + 1 < cc.length
                · have k4d : Exq qs wq3 wi.drew := k4.nx (Ex.refl wi).drew
                  have OQ := OwnN.nx OQ (Ex.refl wi).drew
                  have RI := HID.out.chg (KL.out _ _ hz3 k4d) (fun _ x => x)
                  obtain ⟨x6, o6, i1, rfl, hx6, hi1, hc6⟩ := RI.at hrm
                  obtain ⟨x7, o7, i0, e67, _, hi0, hc7⟩ := RI.at (show r < cc.length by omega)
                  cases e67
                  have E1 : wi.drew.cell? ⟨x6, o6 + (r + 1), none⟩ = some (.int .i64 i1) := by simpa using hc6 0 _ rfl
                  have E0 : wi.drew.cell? ⟨x6, o6 + r, none⟩ = some (.int .i64 i0) := by simpa using hc7 0 _ rfl
                  obtain ⟨p1, y1, hp1, hy1⟩ := mem_at (HIN.out i1 (List.mem_of_getElem? hi1))
                  obtain ⟨p0, y0, hp0, hy0⟩ := mem_at (HIN.out i0 (List.mem_of_getElem? hi0))
                  have PP : Hid (procI cc j F (r + 1) = updR (updL (procI cc j F r) i1 j i0) i0 j i1) := Lib.hid (by rw [← atI_of hi1, ← atI_of hi0]; rfl)
                  obtain ⟨FF, hFF⟩ : ∃ FF, FF = procI cc j F r := ⟨_, rfl⟩
                  rw [← hFF] at OQ PP
                  have b1 := SOK.out _ (List.mem_of_getElem? hp1)
                  have b0 := SOK.out _ (List.mem_of_getElem? hp0)
                  rw [hy1] at b1
                  rw [hy0] at b0
                  have hq1 := posK_at ID.out S.length p1 y1 (List.getElem?_eq_some_iff.1 hp1).1 (Nat.le_refl _) hp1
                  have hq0 := posK_at ID.out S.length p0 y0 (List.getElem?_eq_some_iff.1 hp0).1 (Nat.le_refl _) hp0
                  have hl1 := (List.getElem?_eq_some_iff.1 hp1).1
                  have hl0 := (List.getElem?_eq_some_iff.1 hp0).1
                  rw [hy1] at hq1
                  rw [hy0] at hq0
                  have KK := KQ.out.nxq ((Exq.of_ex K5.out).nxq (K3.out.nxq k4d))
                  have LK1 : Hid (∀ wq, Exq qs wi.drew wq → (Instr.lookup 108 (.map (some b)) (.int .i64 i1) false).run Tryz.prog wq = .ok (.int .i64 (p1 : Int)) wq) := Lib.hid (fun wq hSw => by
                    have := (MIH.out wq (KK.nxq hSw)).look (x := i1) (by omega)
                    rwa [hq1] at this)
                  have LK0 : Hid (∀ wq, Exq qs wi.drew wq → (Instr.lookup 108 (.map (some b)) (.int .i64 i0) false).run Tryz.prog wq = .ok (.int .i64 (p0 : Int)) wq) := Lib.hid (fun wq hSw => by
                    have := (MIH.out wq (KK.nxq hSw)).look (x := i0) (by omega)
                    rwa [hq0] at this)
                  have NX : Hid (x6 < wi.drew.heap.size ∧ ¬ InQ qs x6) := Lib.hid ⟨by have := k4d.size; have := hx6.2; omega, fun hi => by have h1 := (HQB.out x6 hi).2; have h2 := hx6.1; omega⟩
                  obtain ⟨g, cap, g1, cap1, ev, hgl, hgq, hc1, hin1, ⟨u10, hu10⟩, ⟨u11, hu11⟩, f10, f11, OU1, OV1⟩ := rows_at ID.out OQ hp1 hjm
                  cases ev
                  rw [hy1] at OU1
                  have OQ1 := OU1 i0
                  have ks1 : Exq qs wi.drew (wi.drew.setCell ⟨g1, j * 2, none⟩ (.int .i64 i0)) := (Exq.refl _ _).set _ hin1
                  obtain ⟨g', cap', g0, cap0, ev, hgl', hgq', hc0, hin0, ⟨u00, hu00⟩, ⟨u01, hu01⟩, f00, f01, OU0, OV0⟩ := rows_at ID.out (OwnN.nx OQ1 (Ex.refl _).drew) hp0 hjm
                  cases ev
                  rw [hy0] at OV0
                  have OQ0 := Lib.hid (OV0 i1)
                  have NG : Hid (g < wi.drew.heap.size ∧ ¬ InQ qs g) := Lib.hid ⟨hgl, hgq⟩
                  have NG' : Hid (g < (wi.drew.setCell ⟨g1, j * 2, none⟩ (.int .i64 i0)).drew.heap.size ∧ ¬ InQ qs g) := Lib.hid ⟨hgl', hgq⟩
                  have HE1 := Lib.hid E1
                  have HE0 := Lib.hid E0
                  have HC1 := Lib.hid hc1
                  have KS1 := Lib.hid ks1
                  have KS1d : Hid (Exq qs wi.drew (wi.drew.setCell ⟨g1, j * 2, none⟩ (.int .i64 i0)).drew) := Lib.hid (ks1.nx (Ex.refl _).drew)
                  have HC0 : Hid (wi.drew.cell? ⟨g, p0 * 2 + 1, none⟩ = some (.slice (some ⟨g0, 0, none⟩) M1 cap0)) := Lib.hid ((Chg.cell (p := ⟨g, p0 * 2 + 1, none⟩) KS1d.out NG.out).symm.trans hc0)
                  have IN1 := Lib.hid hin1
                  have IN0 := Lib.hid hin0
                  have ST1 := Lib.hid (And.intro hu10 f10)
                  obtain ⟨gx, capx, g0', cap0', ev, _, _, hc0', _, _, ⟨u01', hu01'⟩, _, f01', _, _⟩ := rows_at ID.out OQ hp0 hjm
                  cases ev
                  have hg00 : g0 = g0' := by
                    have := hc0'.symm.trans HC0.out
                    simp at this
                    exact this.1.symm
                  subst hg00
                  have ST0 : Hid (wi.cell? ⟨g0, j * 2 + 1, none⟩ = some u01' ∧ wi.frozen? ⟨g0, j * 2 + 1, none⟩ = false) := Lib.hid ⟨hu01', f01'⟩
                  clear hc0' hu01' f01'
                  have K4D := Lib.hid k4d
                  have wr1 : IntKind.i64.wrap ((r : Int) + 1 + 1) = (r : Int) + 1 + 1 := IntWalk.i64_in _ (by omega)
                  have hrm1 : (r : Int) + 1 < (cc.length : Int) := by omega
                  have wr0 : IntKind.i64.wrap (r : Int) = (r : Int) := IntWalk.i64_in _ (by omega)
                  have hr01 : (0 : Int) ≤ (r : Int) + 1 := by omega
                  have hrm0 : (r : Int) < (cc.length : Int) := by omega
                  have hp1S : (p1 : Int) < (S.length : Int) := by omega
                  have hp0S : (p0 : Int) < (S.length : Int) := by omega
                  have hjM : (j : Int) < (M1 : Int) := by omega
                  clear hFF b1 b0 hq1 hq0 hy1 hy0 hp1 hp0 hc6 hc7 hi0 hi1 E1 E0 OU1 OV1 OU0 OV0 OQ OQ1 ks1 hgl hgq hgl' hgq' hc1 hc0 hin1 hin0 hu10 hu11 hu00 hu01 f10 f11 f00 f01 RI k4 k4d hx6 KK
                  go_wp2_with fail
                  refine wp_region_held_drew (S := Exq qs wi.drew) (by kernel_rfl) (Exq.refl _ _) (fun hHeld => ?_)
                  refine wpAnyH_take (i := 0) (oi := ⟨some 70, .move (.tmp 9), 71, "ideal.go:84", #[], none⟩) (v := ?_) rfl (by kernel_rfl) (by kernel_rfl) (by kernel_rfl) (fun _ _ _ h => h) (Or.inl ⟨by rfl, ?hyr2x0q1⟩) (by assumption) ?restr2x0q1
                  case hyr2x0q1 => intro wq hSw; (go_simp); (try with_reducible rfl)
                  try simp only [Act.put, List.setIfInBounds_toArray, List.set_cons_zero, List.set_cons_succ]
                  refine wpAnyH_take (i := 1) (oi := ⟨some 71, .move (.tmp 8), 108, "ideal.go:84", #[], none⟩) (v := ?_) rfl (by kernel_rfl) (by kernel_rfl) (by kernel_rfl) (fun _ _ _ h => h) (Or.inl ⟨by rfl, ?hyr2x1q4⟩) (by assumption) ?restr2x1q4
                  case hyr2x1q4 => intro wq hSw; (go_simp); (try with_reducible rfl)
                  try simp only [Act.put, List.setIfInBounds_toArray, List.set_cons_zero, List.set_cons_succ]
                  refine wpAnyH_take (i := 2) (oi := ⟨some 72, .move (.tmp 14), 22, "ideal.go:84", #[], none⟩) (v := ?_) rfl (by kernel_rfl) (by kernel_rfl) (by kernel_rfl) (fun _ _ _ h => h) (Or.inl ⟨by rfl, ?hyr2x2q7⟩) (by assumption) ?restr2x2q7
                  case hyr2x2q7 => intro wq hSw; (go_simp); (try with_reducible rfl)
                  try simp only [Act.put, List.setIfInBounds_toArray, List.set_cons_zero, List.set_cons_succ]
                  refine wpAnyH_take (i := 3) (oi := ⟨some 73, .move (.tmp 15), 3, "ideal.go:84", #[], none⟩) (v := ?_) rfl (by kernel_rfl) (by kernel_rfl) (by kernel_rfl) (fun _ _ _ h => h) (Or.inl ⟨by rfl, ?hyr2x3q10⟩) (by assumption) ?restr2x3q10
                  case hyr2x3q10 => intro wq hSw; (go_simp); (try with_reducible rfl)
                  try simp only [Act.put, List.setIfInBounds_toArray, List.set_cons_zero, List.set_cons_succ]
                  refine wpAnyH_take (i := 4) (oi := ⟨some 74, .indexAddr 22 (.tmp 72) (.tmp 73), 0, "ideal.go:84", #[⟨2, .data⟩, ⟨3, .data⟩], none⟩) (v := ?_) rfl (by kernel_rfl) (by kernel_rfl) (by kernel_rfl) (fun _ _ _ h => h) (Or.inl ⟨by rfl, ?hyr2x4q13⟩) (by assumption) ?restr2x4q13
                  case hyr2x4q13 => intro wq hSw; (go_simp); (try with_reducible rfl)
                  try simp only [Act.put, List.setIfInBounds_toArray, List.set_cons_zero, List.set_cons_succ]
                  refine wpAnyH_take (i := 5) (oi := ⟨some 75, .load 3 (.tmp 74), 3, "ideal.go:84", #[⟨4, .data⟩], none⟩) (v := ?_) rfl (by kernel_rfl) (by kernel_rfl) (by kernel_rfl) (fun _ _ _ h => h) (Or.inl ⟨by rfl, ?hyr2x5q16⟩) (by assumption) ?restr2x5q16
                  case hyr2x5q16 => intro wq hSw; (have cq := Chg.cellv hSw HE1.out NX.out; go_simp); (try with_reducible rfl)
                  try simp only [Act.put, List.setIfInBounds_toArray, List.set_cons_zero, List.set_cons_succ]
                  refine wpAnyH_take (i := 6) (oi := ⟨some 76, .lookup 108 (.tmp 71) (.tmp 75) false, 3, "ideal.go:84", #[⟨1, .data⟩, ⟨5, .data⟩], none⟩) (v := ?_) rfl (by kernel_rfl) (by kernel_rfl) (by kernel_rfl) (fun _ _ _ h => h) (Or.inl ⟨by rfl, ?hyr2x6q19⟩) (by assumption) ?restr2x6q19
                  case hyr2x6q19 => intro wq hSw; (have cq := LK1.out _ hSw; go_simp); (try with_reducible rfl)
                  try simp only [Act.put, List.setIfInBounds_toArray, List.set_cons_zero, List.set_cons_succ]
                  refine wpAnyH_take (i := 7) (oi := ⟨some 77, .indexAddr 71 (.tmp 70) (.tmp 76), 0, "ideal.go:84", #[⟨0, .data⟩, ⟨6, .data⟩], none⟩) (v := ?_) rfl (by kernel_rfl) (by kernel_rfl) (by kernel_rfl) (fun _ _ _ h => h) (Or.inl ⟨by rfl, ?hyr2x7q22⟩) (by assumption) ?restr2x7q22
                  case hyr2x7q22 => intro wq hSw; (go_simp); (try with_reducible rfl)
                  try simp only [Act.put, List.setIfInBounds_toArray, List.set_cons_zero, List.set_cons_succ]
                  refine wpAnyH_take (i := 8) (oi := ⟨some 78, .fieldAddr 102 (.tmp 77) 1, 0, "ideal.go:84", #[⟨7, .data⟩], none⟩) (v := ?_) rfl (by kernel_rfl) (by kernel_rfl) (by kernel_rfl) (fun _ _ _ h => h) (Or.inl ⟨by rfl, ?hyr2x8q25⟩) (by assumption) ?restr2x8q25
                  case hyr2x8q25 => intro wq hSw; (go_simp); (try with_reducible rfl)
                  try simp only [Act.put, List.setIfInBounds_toArray, List.set_cons_zero, List.set_cons_succ]
                  refine wpAnyH_take (i := 9) (oi := ⟨some 79, .load 100 (.tmp 78), 100, "ideal.go:84", #[⟨8, .data⟩], none⟩) (v := ?_) rfl (by kernel_rfl) (by kernel_rfl) (by kernel_rfl) (fun _ _ _ h => h) (Or.inl ⟨by rfl, ?hyr2x9q28⟩) (by assumption) ?restr2x9q28
                  case hyr2x9q28 => intro wq hSw; (have cq := Chg.cellv hSw HC1.out NG.out; go_simp); (try with_reducible rfl)
                  try simp only [Act.put, List.setIfInBounds_toArray, List.set_cons_zero, List.set_cons_succ]
                  refine wpAnyH_take (i := 10) (oi := ⟨some 80, .move (.tmp 12), 3, "ideal.go:84", #[], none⟩) (v := ?_) rfl (by kernel_rfl) (by kernel_rfl) (by kernel_rfl) (fun _ _ _ h => h) (Or.inl ⟨by rfl, ?hyr2x10q31⟩) (by assumption) ?restr2x10q31
                  case hyr2x10q31 => intro wq hSw; (go_simp); (try with_reducible rfl)
                  try simp only [Act.put, List.setIfInBounds_toArray, List.set_cons_zero, List.set_cons_succ]
                  refine wpAnyH_take (i := 11) (oi := ⟨some 81, .move (.tmp 14), 22, "ideal.go:84", #[], none⟩) (v := ?_) rfl (by kernel_rfl) (by kernel_rfl) (by kernel_rfl) (fun _ _ _ h => h) (Or.inl ⟨by rfl, ?hyr2x11q34⟩) (by assumption) ?restr2x11q34
                  case hyr2x11q34 => intro wq hSw; (go_simp); (try with_reducible rfl)
                  try simp only [Act.put, List.setIfInBounds_toArray, List.set_cons_zero, List.set_cons_succ]
                  refine wpAnyH_take (i := 12) (oi := ⟨some 82, .move (.tmp 15), 3, "ideal.go:84", #[], none⟩) (v := ?_) rfl (by kernel_rfl) (by kernel_rfl) (by kernel_rfl) (fun _ _ _ h => h) (Or.inl ⟨by rfl, ?hyr2x12q37⟩) (by assumption) ?restr2x12q37
                  case hyr2x12q37 => intro wq hSw; (go_simp); (try with_reducible rfl)
                  try simp only [Act.put, List.setIfInBounds_toArray, List.set_cons_zero, List.set_cons_succ]
                  refine wpAnyH_take (i := 13) (oi := ⟨some 83, .binOp .sub 3 (.tmp 82) (.const (.int .i64 1)) 3, 3, "ideal.go:84", #[⟨12, .data⟩], none⟩) (v := ?_) rfl (by kernel_rfl) (by kernel_rfl) (by kernel_rfl) (fun _ _ _ h => h) (Or.inl ⟨by rfl, ?hyr2x13q40⟩) (by assumption) ?restr2x13q40
                  case hyr2x13q40 => intro wq hSw; (go_simp); (try with_reducible rfl)
                  try simp only [Act.put, List.setIfInBounds_toArray, List.set_cons_zero, List.set_cons_succ]
                  refine wpAnyH_take (i := 14) (oi := ⟨some 84, .indexAddr 22 (.tmp 81) (.tmp 83), 0, "ideal.go:84", #[⟨11, .data⟩, ⟨13, .data⟩], none⟩) (v := ?_) rfl (by kernel_rfl) (by kernel_rfl) (by kernel_rfl) (fun _ _ _ h => h) (Or.inl ⟨by rfl, ?hyr2x14q43⟩) (by assumption) ?restr2x14q43
                  case hyr2x14q43 => intro wq hSw; (go_simp); (try with_reducible rfl)
                  try simp only [Act.put, List.setIfInBounds_toArray, List.set_cons_zero, List.set_cons_succ]
                  refine wpAnyH_take (i := 15) (oi := ⟨some 85, .load 3 (.tmp 84), 3, "ideal.go:84", #[⟨14, .data⟩], none⟩) (v := ?_) rfl (by kernel_rfl) (by kernel_rfl) (by kernel_rfl) (fun _ _ _ h => h) (Or.inl ⟨by rfl, ?hyr2x15q46⟩) (by assumption) ?restr2x15q46
                  case hyr2x15q46 => intro wq hSw; (have cq := Chg.cellv hSw HE0.out NX.out; go_simp); (try with_reducible rfl)
                  try simp only [Act.put, List.setIfInBounds_toArray, List.set_cons_zero, List.set_cons_succ]
                  refine wpAnyH_take (i := 16) (oi := ⟨some 86, .indexAddr 100 (.tmp 79) (.tmp 80), 0, "ideal.go:84", #[⟨9, .data⟩, ⟨10, .data⟩, ⟨0, .phase⟩, ⟨1, .phase⟩, ⟨2, .phase⟩, ⟨3, .phase⟩, ⟨4, .phase⟩, ⟨5, .phase⟩, ⟨6, .phase⟩, ⟨7, .phase⟩, ⟨8, .phase⟩, ⟨9, .phase⟩, ⟨10, .phase⟩, ⟨11, .phase⟩, ⟨12, .phase⟩, ⟨13, .phase⟩, ⟨14, .phase⟩, ⟨15, .phase⟩], none⟩) (v := ?_) rfl (by kernel_rfl) (by kernel_rfl) (by kernel_rfl) (fun _ _ _ h => h) (Or.inl ⟨by rfl, ?hyr2x16q49⟩) (by assumption) ?restr2x16q49
                  case hyr2x16q49 => intro wq hSw; (go_simp); (try with_reducible rfl)
                  try simp only [Act.put, List.setIfInBounds_toArray, List.set_cons_zero, List.set_cons_succ]
                  refine wpAnyH_take (i := 17) (oi := ⟨some 87, .fieldAddr 65 (.tmp 86) 0, 0, "ideal.go:84", #[⟨16, .data⟩, ⟨0, .phase⟩, ⟨1, .phase⟩, ⟨2, .phase⟩, ⟨3, .phase⟩, ⟨4, .phase⟩, ⟨5, .phase⟩, ⟨6, .phase⟩, ⟨7, .phase⟩, ⟨8, .phase⟩, ⟨9, .phase⟩, ⟨10, .phase⟩, ⟨11, .phase⟩, ⟨12, .phase⟩, ⟨13, .phase⟩, ⟨14, .phase⟩, ⟨15, .phase⟩], none⟩) (v := ?_) rfl (by kernel_rfl) (by kernel_rfl) (by kernel_rfl) (fun _ _ _ h => h) (Or.inl ⟨by rfl, ?hyr2x17q52⟩) (by assumption) ?restr2x17q52
                  case hyr2x17q52 => intro wq hSw; (go_simp); (try with_reducible rfl)
                  try simp only [Act.put, List.setIfInBounds_toArray, List.set_cons_zero, List.set_cons_succ]
                  refine wpAnyH_ready (rs := [18]) (by kernel_rfl) (by simp) ?_
                  refine AllReadyH.cons (o := ⟨none, .store 3 (.tmp 87) (.tmp 85), 0, "ideal.go:84", #[⟨17, .data⟩, ⟨15, .data⟩, ⟨0, .phase⟩, ⟨1, .phase⟩, ⟨2, .phase⟩, ⟨3, .phase⟩, ⟨4, .phase⟩, ⟨5, .phase⟩, ⟨6, .phase⟩, ⟨7, .phase⟩, ⟨8, .phase⟩, ⟨9, .phase⟩, ⟨10, .phase⟩, ⟨11, .phase⟩, ⟨12, .phase⟩, ⟨13, .phase⟩, ⟨14, .phase⟩, ⟨15, .phase⟩], none⟩) rfl (fun K hK => ?_) AllReadyH.nil
                  have st := ST1.out
                  go_simp
                  refine hK.out _ _ (KS1.out) (fun hHeld => ?_)
                  clear hK K
                  try simp only [Act.put, List.setIfInBounds_toArray, List.set_cons_zero, List.set_cons_succ]
                  refine wpAnyH_done (by kernel_rfl) ?_ _
                  go_wp2_with fail
                  refine wp_region_held_drew (S := Exq qs wi.drew) (by kernel_rfl) (KS1d.out) (fun hHeld => ?_)
                  refine wpAnyH_take (i := 0) (oi := ⟨some 88, .move (.tmp 9), 71, "ideal.go:85", #[], none⟩) (v := ?_) rfl (by kernel_rfl) (by kernel_rfl) (by kernel_rfl) (fun _ _ _ h => h) (Or.inl ⟨by rfl, ?hyr3x0q1⟩) (by assumption) ?restr3x0q1
                  case hyr3x0q1 => intro wq hSw; (go_simp); (try with_reducible rfl)
                  try simp only [Act.put, List.setIfInBounds_toArray, List.set_cons_zero, List.set_cons_succ]
                  refine wpAnyH_take (i := 1) (oi := ⟨some 89, .move (.tmp 8), 108, "ideal.go:85", #[], none⟩) (v := ?_) rfl (by kernel_rfl) (by kernel_rfl) (by kernel_rfl) (fun _ _ _ h => h) (Or.inl ⟨by rfl, ?hyr3x1q4⟩) (by assumption) ?restr3x1q4
                  case hyr3x1q4 => intro wq hSw; (go_simp); (try with_reducible rfl)
                  try simp only [Act.put, List.setIfInBounds_toArray, List.set_cons_zero, List.set_cons_succ]
                  refine wpAnyH_take (i := 2) (oi := ⟨some 90, .move (.tmp 14), 22, "ideal.go:85", #[], none⟩) (v := ?_) rfl (by kernel_rfl) (by kernel_rfl) (by kernel_rfl) (fun _ _ _ h => h) (Or.inl ⟨by rfl, ?hyr3x2q7⟩) (by assumption) ?restr3x2q7
                  case hyr3x2q7 => intro wq hSw; (go_simp); (try with_reducible rfl)
                  try simp only [Act.put, List.setIfInBounds_toArray, List.set_cons_zero, List.set_cons_succ]
                  refine wpAnyH_take (i := 3) (oi := ⟨some 91, .move (.tmp 15), 3, "ideal.go:85", #[], none⟩) (v := ?_) rfl (by kernel_rfl) (by kernel_rfl) (by kernel_rfl) (fun _ _ _ h => h) (Or.inl ⟨by rfl, ?hyr3x3q10⟩) (by assumption) ?restr3x3q10
                  case hyr3x3q10 => intro wq hSw; (go_simp); (try with_reducible rfl)
                  try simp only [Act.put, List.setIfInBounds_toArray, List.set_cons_zero, List.set_cons_succ]
                  refine wpAnyH_take (i := 4) (oi := ⟨some 92, .binOp .sub 3 (.tmp 91) (.const (.int .i64 1)) 3, 3, "ideal.go:85", #[⟨3, .data⟩], none⟩) (v := ?_) rfl (by kernel_rfl) (by kernel_rfl) (by kernel_rfl) (fun _ _ _ h => h) (Or.inl ⟨by rfl, ?hyr3x4q13⟩) (by assumption) ?restr3x4q13
                  case hyr3x4q13 => intro wq hSw; (go_simp); (try with_reducible rfl)
                  try simp only [Act.put, List.setIfInBounds_toArray, List.set_cons_zero, List.set_cons_succ]
                  refine wpAnyH_take (i := 5) (oi := ⟨some 93, .indexAddr 22 (.tmp 90) (.tmp 92), 0, "ideal.go:85", #[⟨2, .data⟩, ⟨4, .data⟩], none⟩) (v := ?_) rfl (by kernel_rfl) (by kernel_rfl) (by kernel_rfl) (fun _ _ _ h => h) (Or.inl ⟨by rfl, ?hyr3x5q16⟩) (by assumption) ?restr3x5q16
                  case hyr3x5q16 => intro wq hSw; (go_simp); (try with_reducible rfl)
                  try simp only [Act.put, List.setIfInBounds_toArray, List.set_cons_zero, List.set_cons_succ]
                  refine wpAnyH_take (i := 6) (oi := ⟨some 94, .load 3 (.tmp 93), 3, "ideal.go:85", #[⟨5, .data⟩], none⟩) (v := ?_) rfl (by kernel_rfl) (by kernel_rfl) (by kernel_rfl) (fun _ _ _ h => h) (Or.inl ⟨by rfl, ?hyr3x6q19⟩) (by assumption) ?restr3x6q19
                  case hyr3x6q19 => intro wq hSw; (have cq := Chg.cellv hSw HE0.out NX.out; go_simp); (try with_reducible rfl)
                  try simp only [Act.put, List.setIfInBounds_toArray, List.set_cons_zero, List.set_cons_succ]
                  refine wpAnyH_take (i := 7) (oi := ⟨some 95, .lookup 108 (.tmp 89) (.tmp 94) false, 3, "ideal.go:85", #[⟨1, .data⟩, ⟨6, .data⟩], none⟩) (v := ?_) rfl (by kernel_rfl) (by kernel_rfl) (by kernel_rfl) (fun _ _ _ h => h) (Or.inl ⟨by rfl, ?hyr3x7q22⟩) (by assumption) ?restr3x7q22
                  case hyr3x7q22 => intro wq hSw; (have cq := LK0.out _ hSw; go_simp); (try with_reducible rfl)
                  try simp only [Act.put, List.setIfInBounds_toArray, List.set_cons_zero, List.set_cons_succ]
                  refine wpAnyH_take (i := 8) (oi := ⟨some 96, .indexAddr 71 (.tmp 88) (.tmp 95), 0, "ideal.go:85", #[⟨0, .data⟩, ⟨7, .data⟩], none⟩) (v := ?_) rfl (by kernel_rfl) (by kernel_rfl) (by kernel_rfl) (fun _ _ _ h => h) (Or.inl ⟨by rfl, ?hyr3x8q25⟩) (by assumption) ?restr3x8q25
                  case hyr3x8q25 => intro wq hSw; (go_simp); (try with_reducible rfl)
                  try simp only [Act.put, List.setIfInBounds_toArray, List.set_cons_zero, List.set_cons_succ]
                  refine wpAnyH_take (i := 9) (oi := ⟨some 97, .fieldAddr 102 (.tmp 96) 1, 0, "ideal.go:85", #[⟨8, .data⟩], none⟩) (v := ?_) rfl (by kernel_rfl) (by kernel_rfl) (by kernel_rfl) (fun _ _ _ h => h) (Or.inl ⟨by rfl, ?hyr3x9q28⟩) (by assumption) ?restr3x9q28
                  case hyr3x9q28 => intro wq hSw; (go_simp); (try with_reducible rfl)
                  try simp only [Act.put, List.setIfInBounds_toArray, List.set_cons_zero, List.set_cons_succ]
                  refine wpAnyH_take (i := 10) (oi := ⟨some 98, .load 100 (.tmp 97), 100, "ideal.go:85", #[⟨9, .data⟩], none⟩) (v := ?_) rfl (by kernel_rfl) (by kernel_rfl) (by kernel_rfl) (fun _ _ _ h => h) (Or.inl ⟨by rfl, ?hyr3x10q31⟩) (by assumption) ?restr3x10q31
                  case hyr3x10q31 => intro wq hSw; (have cq := Chg.cellv hSw HC0.out NG.out; go_simp); (try with_reducible rfl)
                  try simp only [Act.put, List.setIfInBounds_toArray, List.set_cons_zero, List.set_cons_succ]
                  refine wpAnyH_take (i := 11) (oi := ⟨some 99, .move (.tmp 12), 3, "ideal.go:85", #[], none⟩) (v := ?_) rfl (by kernel_rfl) (by kernel_rfl) (by kernel_rfl) (fun _ _ _ h => h) (Or.inl ⟨by rfl, ?hyr3x11q34⟩) (by assumption) ?restr3x11q34
                  case hyr3x11q34 => intro wq hSw; (go_simp); (try with_reducible rfl)
                  try simp only [Act.put, List.setIfInBounds_toArray, List.set_cons_zero, List.set_cons_succ]
                  refine wpAnyH_take (i := 12) (oi := ⟨some 100, .move (.tmp 14), 22, "ideal.go:85", #[], none⟩) (v := ?_) rfl (by kernel_rfl) (by kernel_rfl) (by kernel_rfl) (fun _ _ _ h => h) (Or.inl ⟨by rfl, ?hyr3x12q37⟩) (by assumption) ?restr3x12q37
                  case hyr3x12q37 => intro wq hSw; (go_simp); (try with_reducible rfl)
                  try simp only [Act.put, List.setIfInBounds_toArray, List.set_cons_zero, List.set_cons_succ]
                  refine wpAnyH_take (i := 13) (oi := ⟨some 101, .move (.tmp 15), 3, "ideal.go:85", #[], none⟩) (v := ?_) rfl (by kernel_rfl) (by kernel_rfl) (by kernel_rfl) (fun _ _ _ h => h) (Or.inl ⟨by rfl, ?hyr3x13q40⟩) (by assumption) ?restr3x13q40
                  case hyr3x13q40 => intro wq hSw; (go_simp); (try with_reducible rfl)
                  try simp only [Act.put, List.setIfInBounds_toArray, List.set_cons_zero, List.set_cons_succ]
                  refine wpAnyH_take (i := 14) (oi := ⟨some 102, .indexAddr 22 (.tmp 100) (.tmp 101), 0, "ideal.go:85", #[⟨12, .data⟩, ⟨13, .data⟩], none⟩) (v := ?_) rfl (by kernel_rfl) (by kernel_rfl) (by kernel_rfl) (fun _ _ _ h => h) (Or.inl ⟨by rfl, ?hyr3x14q43⟩) (by assumption) ?restr3x14q43
                  case hyr3x14q43 => intro wq hSw; (go_simp); (try with_reducible rfl)
                  try simp only [Act.put, List.setIfInBounds_toArray, List.set_cons_zero, List.set_cons_succ]
                  refine wpAnyH_take (i := 15) (oi := ⟨some 103, .load 3 (.tmp 102), 3, "ideal.go:85", #[⟨14, .data⟩], none⟩) (v := ?_) rfl (by kernel_rfl) (by kernel_rfl) (by kernel_rfl) (fun _ _ _ h => h) (Or.inl ⟨by rfl, ?hyr3x15q46⟩) (by assumption) ?restr3x15q46
                  case hyr3x15q46 => intro wq hSw; (have cq := Chg.cellv hSw HE1.out NX.out; go_simp); (try with_reducible rfl)
                  try simp only [Act.put, List.setIfInBounds_toArray, List.set_cons_zero, List.set_cons_succ]
                  refine wpAnyH_take (i := 16) (oi := ⟨some 104, .indexAddr 100 (.tmp 98) (.tmp 99), 0, "ideal.go:85", #[⟨10, .data⟩, ⟨11, .data⟩, ⟨0, .phase⟩, ⟨1, .phase⟩, ⟨2, .phase⟩, ⟨3, .phase⟩, ⟨4, .phase⟩, ⟨5, .phase⟩, ⟨6, .phase⟩, ⟨7, .phase⟩, ⟨8, .phase⟩, ⟨9, .phase⟩, ⟨10, .phase⟩, ⟨11, .phase⟩, ⟨12, .phase⟩, ⟨13, .phase⟩, ⟨14, .phase⟩, ⟨15, .phase⟩], none⟩) (v := ?_) rfl (by kernel_rfl) (by kernel_rfl) (by kernel_rfl) (fun _ _ _ h => h) (Or.inl ⟨by rfl, ?hyr3x16q49⟩) (by assumption) ?restr3x16q49
                  case hyr3x16q49 => intro wq hSw; (go_simp); (try with_reducible rfl)
                  try simp only [Act.put, List.setIfInBounds_toArray, List.set_cons_zero, List.set_cons_succ]
                  refine wpAnyH_take (i := 17) (oi := ⟨some 105, .fieldAddr 65 (.tmp 104) 1, 0, "ideal.go:85", #[⟨16, .data⟩, ⟨0, .phase⟩, ⟨1, .phase⟩, ⟨2, .phase⟩, ⟨3, .phase⟩, ⟨4, .phase⟩, ⟨5, .phase⟩, ⟨6, .phase⟩, ⟨7, .phase⟩, ⟨8, .phase⟩, ⟨9, .phase⟩, ⟨10, .phase⟩, ⟨11, .phase⟩, ⟨12, .phase⟩, ⟨13, .phase⟩, ⟨14, .phase⟩, ⟨15, .phase⟩], none⟩) (v := ?_) rfl (by kernel_rfl) (by kernel_rfl) (by kernel_rfl) (fun _ _ _ h => h) (Or.inl ⟨by rfl, ?hyr3x17q52⟩) (by assumption) ?restr3x17q52
                  case hyr3x17q52 => intro wq hSw; (go_simp); (try with_reducible rfl)
                  try simp only [Act.put, List.setIfInBounds_toArray, List.set_cons_zero, List.set_cons_succ]
                  refine wpAnyH_ready (rs := [18]) (by kernel_rfl) (by simp) ?_
                  refine AllReadyH.cons (o := ⟨none, .store 3 (.tmp 105) (.tmp 103), 0, "ideal.go:85", #[⟨17, .data⟩, ⟨15, .data⟩, ⟨0, .phase⟩, ⟨1, .phase⟩, ⟨2, .phase⟩, ⟨3, .phase⟩, ⟨4, .phase⟩, ⟨5, .phase⟩, ⟨6, .phase⟩, ⟨7, .phase⟩, ⟨8, .phase⟩, ⟨9, .phase⟩, ⟨10, .phase⟩, ⟨11, .phase⟩, ⟨12, .phase⟩, ⟨13, .phase⟩, ⟨14, .phase⟩, ⟨15, .phase⟩], none⟩) rfl (fun K hK => ?_) AllReadyH.nil
                  have st := ST0.out
                  go_simp
                  refine hK.out _ _ (Exq.set (p := ⟨g0, j * 2 + 1, none⟩) KS1d.out _ IN0.out) (fun hHeld => ?_)
                  clear hK K
                  try simp only [Act.put, List.setIfInBounds_toArray, List.set_cons_zero, List.set_cons_succ]
                  refine wpAnyH_done (by kernel_rfl) ?_ _
                  go_wp2_with fail
                  exact ⟨⟨r + 1, by omega, by go_num, by rw [PP.out]; exact OQ0.out, K4D.out.nxq (Exq.set (p := ⟨g0, j * 2 + 1, none⟩) KS1d.out _ IN0.out)⟩, by simp [intOf]; omega⟩
                · obtain ⟨FF, hFF⟩ : ∃ FF, FF = procI cc j F r := ⟨_, rfl⟩
                  have hre : r = cc.length - 1 := by omega
                  rw [← hFF] at OQ
                  rw [hre] at hFF
                  rw [← hFF] at PS
                  have dlt : ¬ ((r : Int) + 1 < (cc.length : Int)) := by omega
                  have OQ := Lib.hid OQ
                  have k34 := K3.out.nxq k4
                  clear hFF hre hrm k4
                  go_wp2_with fail
                  exact ⟨⟨q + 1, by omega, by go_num, by rw [PS.out]; exact OQ.out, k34⟩, by simp [intOf]; omega⟩
            · obtain rfl : q = M.length := by omega
              rw [List.take_length, ← HPB.out] at OQ
              have OQ := Lib.hid OQ
              have kj := KQ.out.nxq ((Exq.of_ex K5.out).nxq k3)
              clear hqm hq k3
              go_wp2_with fail
              exact ⟨⟨j + 1, by omega, by go_num, OQ.out, kj⟩, by simp [intOf]; omega⟩
        · obtain rfl : j = M1 := by omega
          rw [← HLL.out] at OQ
          have OQ := Lib.hid (OwnN.base OQ (show w.heap.size ≤ w1.heap.size by omega))
          have KE : Ex w wj := Chg.trans K1.out (Chg.mono (KT.out _ kq) (fun x hx => ⟨Nat.lt_of_lt_of_le hx K1.out.size, by have : x < w.heap.size := hx; omega⟩))
          have dlt : ¬ ((j : Int) < (m : Int) + 1) := by have := HM1.out; omega
          clear hjm hj kq
          go_wp2_with fail
          go_ret2
          exact ⟨_, qs, rfl, OQ.out, KE⟩
end Go.Proofs.YtbnbjiddffihoaaGreatDoor

/- What Build of the package ideal lays is what the reference says. -/
namespace Go.Proofs.YtbnbjiddffihoaaGreatDoor
open Go.RowKit

theorem fil_fold {h : Int} (hh : h ≤ 16) (l : List Nd) (hl : ∀ y ∈ l, y.word < 4294967296) : ∀ c ∈ foldC h l, c = l.filter fun y => sameN (headW c) y.word h := by
  induction l using snoc_ind with
  | h0 => intro c hc; simp [foldC] at hc
  | h1 l x ih =>
    have hl' : ∀ y ∈ l, y.word < 4294967296 := fun y hy => hl y (List.mem_append_left _ hy)
    have hx : x.word < 4294967296 := hl x (by simp)
    have ih := ih hl'
    have H := (foldC_cnt hh l hl').1
    rw [foldC_append]
    generalize foldC h l = C at H ih
    have hw : ∀ c ∈ C, headW c < 4294967296 := fun c hc => by
      obtain ⟨y, hy, he⟩ := headW_mem (H.mem c hc).1
      rw [he]; exact hl' y ((H.mem c hc).2 y hy).1
    rcases stepC_cases h C x with ⟨hno, he⟩ | ⟨K, c, hc, hs, he⟩
    · rw [he]
      intro d hd
      rw [List.filter_append]
      rcases List.mem_append.1 hd with hd | hd
      · have h1 := hno d hd
        rw [← ih d hd]
        simp [h1]
      · obtain rfl := List.mem_singleton.1 hd
        have h1 : l.filter (fun y => sameN (headW [x]) y.word h) = [] := by
          rw [List.filter_eq_nil_iff]
          intro y hy hxy
          obtain ⟨c, hc, hyc⟩ := H.all y hy
          have := sameN_trans (hw c hc) (hl' y hy) hx ((H.mem c hc).2 y hyc).2 (sameN_symm hxy)
          rw [hno c hc] at this
          cases this
        rw [h1]
        have : sameN (headW [x]) x.word h = true := sameN_refl _ hh
        simp [this]
    · rw [he]
      intro d hd
      rw [List.filter_append]
      obtain ⟨i, hi⟩ := List.mem_iff_getElem?.1 hd
      have hcm := List.mem_of_getElem? hc
      by_cases hik : i = K
      · subst hik
        rw [List.getElem?_set_self (List.getElem?_eq_some_iff.1 hc).1] at hi
        cases hi
        rw [headW_snoc x (H.mem c hcm).1, ← ih c hcm]
        simp [hs]
      · rw [List.getElem?_set_ne (by omega)] at hi
        have hdm := List.mem_of_getElem? hi
        have h1 : sameN (headW d) x.word h = false := by
          cases hsd : sameN (headW d) x.word h with
          | false => rfl
          | true => exact absurd (H.heads i K d c hi hc (sameN_trans (hw d hdm) hx (hw c hcm) hsd (sameN_symm hs))) hik
        rw [← ih d hdm]
        simp [h1]
theorem sort_check {l : List Nd} (h : checkN l = 0) : checkN (sortN l) = 0 := by
  have hp := sortN_perm l
  unfold checkN at h ⊢
  split at h
  · omega
  rename_i hlen
  split at h
  · omega
  rename_i hbad
  split at h
  · omega
  rename_i hdup
  have h0 : checkN l = 0 := by unfold checkN; rw [if_neg hlen, if_neg hbad, if_neg hdup]
  rw [if_neg (by rw [hp.length_eq]; exact hlen), if_neg (by
    intro hb
    obtain ⟨x, hx, hxb⟩ := List.any_eq_true.1 hb
    exact hbad (List.any_eq_true.2 ⟨x, hp.mem_iff.1 hx, hxb⟩)), if_neg]
  intro hd
  obtain ⟨i, k, x, y, hki, hx, hy, he⟩ := (dupN_iff _).1 hd
  have := asc_at (sortN_str h0) hy hx hki
  unfold eqN at he
  rcases Bool.or_eq_true_iff.1 he with h1 | h1
  · exact this.2 (by simpa using (beq_iff_eq.1 h1).symm)
  · rw [beq_iff_eq.1 h1, bytesLess_irrefl] at this
    cases this.1
theorem sort_sort {l : List Nd} (h : checkN l = 0) : sortN (sortN l) = sortN l :=
  sortN_unique (check_keys h) ((sortN_perm _).trans (sortN_perm l)) (sortN_asc _)
theorem find_in {S : List Nd} (h : checkN S = 0) {x : Nd} (hx : x ∈ S) : findN S x.id = (x, true) := by
  have h2 : (findN S x.id).2 = true := by
    unfold findN
    cases e : S.find? (fun y => y.id == x.id) with
    | none => have := List.find?_eq_none.1 e x hx; simp at this
    | some y => rfl
  obtain ⟨h3, h4⟩ := findN_mem h2
  have h5 := ids_eq (check_keys h) h3 hx h4
  exact Prod.ext h5 h2
theorem procB_high (S : List Nd) (x : Int) (j : Nat) : ∀ k, k ≤ j → procB S k x j = (0, 0)
  | 0, _ => rfl
  | k + 1, hk => by
    show procL k (listsN S (k : Nat)) (procB S k) x j = _
    rw [procL_level _ _ _ _ _ (by omega)]
    exact procB_high S x j k (by omega)
theorem procB_low (S : List Nd) (x : Int) (j : Nat) : ∀ d, procB S (j + 1 + d) x j = procB S (j + 1) x j
  | 0 => rfl
  | d + 1 => by
    show procL (j + 1 + d) _ (procB S (j + 1 + d)) x j = _
    rw [procL_level _ _ _ _ _ (by omega)]
    exact procB_low S x j d
theorem atI_ids {c : List Nd} {q : Nat} (_ : q < c.length) : atI (idsN c) q = (c[q]?.getD Nd.zero).id := by
  unfold atI idsN
  rw [List.getElem?_map]
  cases h : c[q]? with
  | none => exact absurd (List.getElem?_eq_none_iff.1 h) (by omega)
  | some y => rfl
theorem build_at {l : List Nd} (h0 : checkN l = 0) (hw : ∀ x ∈ l, x.word < 4294967296) {x : Nd} (hx : x ∈ sortN l) {j : Nat} (hj : j ≤ 16) : procB (sortN l) (j + 1) x.id j = (neighN (sortN l) x.id (j : Nat)).1 := by
  obtain ⟨S, hS⟩ : ∃ S, S = sortN l := ⟨_, rfl⟩
  have hc := sort_check h0
  have hss := sort_sort h0
  have hA := sortN_str h0
  have hws : ∀ y ∈ S, y.word < 4294967296 := fun y hy => hw y ((sortN_mem l y).1 (hS ▸ hy))
  rw [← hS] at hx hc hss hA ⊢
  have hlv : lvlN (j : Int) = true := by unfold lvlN; simp; omega
  have hf := find_in hc hx
  have hL : listsN S (j : Int) = (foldC (j : Int) S).map idsN := by
    unfold listsN
    rw [if_pos ⟨by rw [hc]; rfl, hlv⟩, hss, classesN_fold (by omega)]
  obtain ⟨i, hi, _, hn⟩ := neighN_yes (l := S) (id := x.id) (h := (j : Int)) hc (by rw [hf]) hlv
  have HC := (foldC_cnt (show (j : Int) ≤ 16 by omega) S hws).1
  have HF := fil_fold (show (j : Int) ≤ 16 by omega) S hws
  have hth : thrG S x.id (j : Int) = groupN S (j : Int) x.word := by unfold thrG; rw [hss, hf]
  rw [hth] at hi hn
  rw [hf] at hi
  obtain ⟨c, hcm, hxc⟩ := HC.all x hx
  have hgc : groupN S (j : Int) x.word = c := by
    have hsx := ((HC.mem c hcm).2 x hxc).2
    obtain ⟨y0, hy0, he0⟩ := headW_mem (HC.mem c hcm).1
    have hwc : headW c < 4294967296 := by rw [he0]; exact hws y0 ((HC.mem c hcm).2 y0 hy0).1
    conv => rhs; rw [HF c hcm]
    unfold groupN
    apply List.filter_congr
    intro y hy
    rw [Bool.eq_iff_iff]
    exact ⟨fun h => sameN_trans hwc (hws x hx) (hws y hy) hsx (sameN_symm h), fun h => sameN_trans (hws y hy) hwc (hws x hx) (sameN_symm h) hsx⟩
  rw [hgc] at hi hn
  have hAc : AscS c := by rw [HF c hcm]; exact List.Pairwise.filter _ hA
  have hil := (List.getElem?_eq_some_iff.1 hi).1
  show procL j (listsN S (j : Nat)) (procB S j) x.id j = _
  have hxi : x.id = atI (idsN c) i := by rw [atI_ids hil, hi]; rfl
  rw [hL, hn, hxi]
  rw [procL_at j _ _ ?_ ?_ (idsN c) (List.mem_map.2 ⟨c, hcm, rfl⟩) i (by unfold idsN; simpa using hil) (procB_high S _ j j (Nat.le_refl _))]
  · have hlen : (idsN c).length = c.length := by unfold idsN; simp
    show _ = (leftN c i, rightN c i)
    congr 1
    · unfold leftN
      by_cases h1 : i = 0
      · rw [if_neg (by omega), if_pos h1]
      · rw [if_pos (by omega), if_neg h1, atI_ids (by omega)]
    · unfold rightN
      rw [hlen]
      by_cases h1 : i + 1 < c.length
      · rw [if_pos h1, atI_ids h1]
      · rw [if_neg h1, List.getElem?_eq_none (by omega)]; rfl
  · rw [List.pairwise_map, List.pairwise_iff_getElem]
    intro p q hp hq hpq z hz1 hz2
    obtain ⟨y1, hy1, e1⟩ := List.mem_map.1 hz1
    obtain ⟨y2, hy2, e2⟩ := List.mem_map.1 hz2
    have m1 := (HC.mem _ (List.getElem_mem hp)).2 y1 hy1
    have m2 := (HC.mem _ (List.getElem_mem hq)).2 y2 hy2
    have e : y1 = y2 := ids_eq (check_keys hc) m1.1 m2.1 (e1.trans e2.symm)
    subst e
    have hwc : ∀ d ∈ foldC (j : Int) S, headW d < 4294967296 := fun d hd => by
      obtain ⟨y0, hy0, he0⟩ := headW_mem (HC.mem d hd).1
      rw [he0]; exact hws y0 ((HC.mem d hd).2 y0 hy0).1
    have := HC.heads p q _ _ (List.getElem?_eq_getElem hp) (List.getElem?_eq_getElem hq) (sameN_trans (hwc _ (List.getElem_mem hp)) (hws y1 m1.1) (hwc _ (List.getElem_mem hq)) m1.2 (sameN_symm m2.2))
    omega
  · intro d hd
    obtain ⟨c', hc', rfl⟩ := List.mem_map.1 hd
    have hA' : AscS c' := by rw [HF c' hc']; exact List.Pairwise.filter _ hA
    unfold idsN List.Nodup
    rw [List.pairwise_map]
    exact hA'.imp (fun h => h.2)
theorem build_rows {l : List Nd} (h0 : checkN l = 0) (hw : ∀ x ∈ l, x.word < 4294967296) {m : Nat} (hm : m ≤ 16) : rowsF (sortN l) (m + 1) (procB (sortN l) (m + 1)) = (sortN l).map (rowN (sortN l) (m + 1)) := by
  unfold rowsF rowN
  apply List.map_congr_left
  intro x hx
  congr 1
  apply List.map_congr_left
  intro j hj
  have hj := List.mem_range.1 hj
  have := procB_low (sortN l) x.id j (m - j)
  rw [show j + 1 + (m - j) = m + 1 by omega] at this
  rw [this, build_at h0 hw hx (by omega)]
theorem build_p (a : Option Addr) (n c : Nat) (l : List Nd) (h : Int) (w : World) (hs : Sl 3 encN w a n l) (hn : n ≤ 1000) (hc : n ≤ c) (hm : c ≤ maxLen) (hw : ∀ x ∈ l, x.word < 4294967296) (hT : TabG w) :
    Calls Tryz.prog 58 #[.slice a n c, .int .i64 h] w (LkPost (buildN l h).1 (buildN l h).2 w) := by
  refine build_q a n c l h w hs hn hc hm hw hT _ _ (fun h0 => ?_) (fun h0 h1 => ?_) (fun h0 m he hm => ?_)
  · unfold buildN
    rw [if_pos (by rw [beq_eq_false_iff_ne]; exact h0)]
    exact ⟨rfl, rfl⟩
  · unfold buildN
    rw [if_neg (by rw [h0]; simp), if_pos h1]
    exact ⟨rfl, rfl⟩
  · subst he
    unfold buildN
    rw [if_neg (by rw [h0]; simp), if_neg (by unfold lvlN; simp; omega)]
    rw [build_rows h0 hw hm]
    exact ⟨rfl, rfl⟩
end Go.Proofs.YtbnbjiddffihoaaGreatDoor

/- What the statements on the unique skip graph say, in plain Lean. -/
namespace Go.Proofs.YtbnbjiddffihoaaGreatDoor
open Go.RowKit

theorem check_perm {l l' : List Nd} (hp : l'.Perm l) (h : checkN l = 0) : checkN l' = 0 := by
  have hk := check_keys h
  unfold checkN at h ⊢
  split at h
  · omega
  rename_i hlen
  split at h
  · omega
  rename_i hbad
  rw [if_neg (by rw [hp.length_eq]; exact hlen), if_neg (by
    intro hb
    obtain ⟨x, hx, hxb⟩ := List.any_eq_true.1 hb
    exact hbad (List.any_eq_true.2 ⟨x, hp.mem_iff.1 hx, hxb⟩)), if_neg]
  intro hd
  obtain ⟨i, k, x, y, hki, hx, hy, he⟩ := (dupN_iff _).1 hd
  have h2 : l'.Pairwise fun x y => x.key.toList ≠ y.key.toList ∧ x.id ≠ y.id :=
    (hp.symm.pairwise_iff (fun {x y} hxy => ⟨fun he => hxy.1 he.symm, fun he => hxy.2 he.symm⟩)).1 (keys_pw hk)
  obtain ⟨hi, e1⟩ := List.getElem?_eq_some_iff.1 hx
  obtain ⟨hk, e2⟩ := List.getElem?_eq_some_iff.1 hy
  have := List.pairwise_iff_getElem.1 h2 k i hk hi hki
  rw [e1, e2] at this
  unfold eqN at he
  rcases Bool.or_eq_true_iff.1 he with h1 | h1
  · exact this.2 (by simpa using (beq_iff_eq.1 h1).symm)
  · exact this.1 (beq_iff_eq.1 h1).symm
theorem sort_perm {l l' : List Nd} (hp : l'.Perm l) (h : checkN l = 0) : sortN l' = sortN l :=
  sortN_unique (check_keys h) ((sortN_perm l').trans hp) (sortN_asc l')
theorem check_id {l : List Nd} (h : checkN l = 0) {x : Nd} (hx : x ∈ l) : 1 ≤ x.id := by
  unfold checkN at h
  split at h
  · omega
  · split at h
    · omega
    · rename_i hb
      have hb : badN x = false := by
        cases hy2 : badN x with
        | false => rfl
        | true => exact absurd (List.any_eq_true.2 ⟨x, hx, hy2⟩) hb
      unfold badN at hb
      simp only [Bool.or_eq_false_iff, decide_eq_false_iff_not] at hb
      omega
def lastI (A : List Nd) : Int := (A.getLast?.getD Nd.zero).id
def headI (B : List Nd) : Int := (B.head?.getD Nd.zero).id
/-- the nodes that agree with a word -/
def grpS (l : List Nd) (h : Int) (v : Nat) : List Nd := groupN (sortN l) h v
theorem grp_eq {l : List Nd} {h : Int} {u v : Nat} (hw : ∀ x ∈ l, x.word < 4294967296) (hu : u < 4294967296) (hv : v < 4294967296) (hs : sameN u v h = true) : grpS l h u = grpS l h v := by
  unfold grpS groupN
  apply List.filter_congr
  intro y hy
  have hy := hw y ((sortN_mem l y).1 hy)
  rw [Bool.eq_iff_iff]
  exact ⟨fun h => sameN_trans hy hu hv h hs, fun h => sameN_trans hy hv hu h (sameN_symm hs)⟩
theorem grp_mem {l : List Nd} {h : Int} {v : Nat} {y : Nd} : y ∈ grpS l h v ↔ y ∈ l ∧ sameN y.word v h = true := by
  unfold grpS groupN
  rw [List.mem_filter, sortN_mem]
theorem neigh_split {l : List Nd} (h0 : checkN l = 0) {x : Nd} (hx : x ∈ l) {h : Int} (hl : lvlN h = true) {A B : List Nd} (e : grpS l h x.word = A ++ x :: B) : neighN l x.id h = ((lastI A, headI B), true) := by
  have hf := find_in h0 hx
  obtain ⟨i, hi, _, hn⟩ := neighN_yes (l := l) (id := x.id) (h := h) h0 (by rw [hf]) hl
  have hG : thrG l x.id h = A ++ x :: B := by unfold thrG; rw [hf]; exact e
  have hA : AscS (thrG l x.id h) := asc_group (sortN_str h0) h _
  rw [hf] at hi
  rw [hG] at hi hn hA
  have h1 := idxI_at hA hi
  have h2 := idxI_at hA (i := A.length) (x := x) (by simp)
  have hi : i = A.length := by simp only at h1; omega
  subst hi
  rw [hn]
  congr 2
  · unfold leftN lastI
    by_cases ha : A.length = 0
    · rw [if_pos ha, List.length_eq_zero_iff.1 ha]; rfl
    · rw [if_neg ha, List.getElem?_append_left (by omega), List.getLast?_eq_getElem?]
  · unfold rightN headI
    rw [List.getElem?_append_right (by omega), show A.length + 1 - A.length = 1 by omega, List.getElem?_cons_succ, List.head?_eq_getElem?]
theorem grp_at {l : List Nd} {x : Nd} (hx : x ∈ l) {h : Int} (hl : lvlN h = true) : ∃ A B, grpS l h x.word = A ++ x :: B := by
  have : x ∈ grpS l h x.word := grp_mem.2 ⟨hx, sameN_refl _ (by unfold lvlN at hl; simp at hl; exact hl.2)⟩
  exact List.append_of_mem this
theorem grp_asc {l : List Nd} (h0 : checkN l = 0) (h : Int) (v : Nat) : AscS (grpS l h v) := asc_group (sortN_str h0) h v
theorem find_zero {l : List Nd} (h0 : checkN l = 0) : findN l 0 = (Nd.zero, false) :=
  findN_none fun j z _ hz => by have := check_id h0 (List.mem_of_getElem? hz); omega
theorem build_ok0 {l : List Nd} (h0 : checkN l = 0) {h : Nat} (hh : h ≤ 16) : (buildN l (h : Int)).2 = 0 ∧ (buildN l (h : Int)).1.length = l.length ∧ ∀ c ∈ (buildN l (h : Int)).1, c.2.length = h + 1 := by
  unfold buildN
  rw [if_neg (by rw [h0]; simp), if_neg (by unfold lvlN; simp; omega)]
  refine ⟨rfl, by simp [sortN_length], ?_⟩
  intro c hc
  obtain ⟨x, _, rfl⟩ := List.mem_map.1 hc
  rw [rowN_len]
  omega
end Go.Proofs.YtbnbjiddffihoaaGreatDoor

/- Sorting by introductions, in plain Lean: numbers 0 .. n - 1 stand for the nodes in ascending order, K t p q says that p refers to q before round t. -/
namespace Go.Proofs.YtbnbjiddffihoaaGreatDoor

namespace Lin
/-- a path by a relation, within bounds -/
inductive Path (M : Nat → Nat → Prop) (lo hi : Nat) : Nat → Nat → Prop
  | refl {a : Nat} : lo ≤ a → a ≤ hi → Path M lo hi a a
  | step {a c b : Nat} : lo ≤ a → a ≤ hi → M a c → Path M lo hi c b → Path M lo hi a b
theorem Path.head {M : Nat → Nat → Prop} {lo hi a b : Nat} (h : Path M lo hi a b) : lo ≤ a ∧ a ≤ hi := by cases h <;> exact ⟨by assumption, by assumption⟩
theorem Path.trans {M : Nat → Nat → Prop} {lo hi a b c : Nat} (h : Path M lo hi a b) (k : Path M lo hi b c) : Path M lo hi a c := by
  induction h with
  | refl _ _ => exact k
  | step h1 h2 h3 _ ih => exact .step h1 h2 h3 (ih k)
theorem Path.mono {M M' : Nat → Nat → Prop} {lo hi lo' hi' a b : Nat} (h : Path M lo hi a b) (hm : ∀ x y, M x y → M' x y) (h1 : lo' ≤ lo) (h2 : hi ≤ hi') : Path M' lo' hi' a b := by
  induction h with
  | refl g1 g2 => exact .refl (by omega) (by omega)
  | step g1 g2 g3 _ ih => exact .step (by omega) (by omega) (hm _ _ g3) ih
theorem Path.one {M : Nat → Nat → Prop} {lo hi a b : Nat} (h1 : lo ≤ a) (h2 : a ≤ hi) (h3 : lo ≤ b) (h4 : b ≤ hi) (h : M a b) : Path M lo hi a b := .step h1 h2 h (.refl h3 h4)
theorem Path.symm {M : Nat → Nat → Prop} (hs : ∀ x y, M x y → M y x) {lo hi a b : Nat} (h : Path M lo hi a b) : Path M lo hi b a := by
  induction h with
  | refl g1 g2 => exact .refl g1 g2
  | step g1 g2 g3 k ih => exact ih.trans (.one k.head.1 k.head.2 g1 g2 (hs _ _ g3))

/-- the row of p: itself and its references -/
def Row (K : Nat → Nat → Prop) (p x : Nat) : Prop := x = p ∨ K p x
/-- x and y lie next to each other in the row of p -/
def Adj (K : Nat → Nat → Prop) (p x y : Nat) : Prop := Row K p x ∧ Row K p y ∧ x < y ∧ ∀ r, Row K p r → ¬ (x < r ∧ r < y)
def Sym (K : Nat → Nat → Prop) (x y : Nat) : Prop := K x y ∧ K y x
theorem Sym.symm {K : Nat → Nat → Prop} {x y : Nat} (h : Sym K x y) : Sym K y x := ⟨h.2, h.1⟩
/-- what a round does at least -/
def Rnd (K K' : Nat → Nat → Prop) : Prop := ∀ p x y, Adj K p x y → Sym K' x y

section
variable {K K' : Nat → Nat → Prop}
theorem chain (hR : Rnd K K') (p : Nat) : ∀ (d x y : Nat), y - x ≤ d → Row K p x → Row K p y → x < y → Path (Sym K') x y x y := by
  intro d
  induction d with
  | zero => intro x y h _ _ hl; omega
  | succ d ih =>
    intro x y h hx hy hl
    by_cases hb : ∃ r, Row K p r ∧ x < r ∧ r < y
    · obtain ⟨r, hr, h1, h2⟩ := hb
      have p1 := ih x r (by omega) hx hr h1
      have p2 := ih r y (by omega) hr hy h2
      exact (p1.mono (fun _ _ h => h) (by omega) (by omega)).trans (p2.mono (fun _ _ h => h) (by omega) (by omega))
    · exact .one (by omega) (by omega) (by omega) (by omega) (hR p x y ⟨hx, hy, hl, fun r hr hh => hb ⟨r, hr, hh⟩⟩)
/-- two of a row are joined behind the round, within them -/
theorem joined (hR : Rnd K K') {p x y lo hi : Nat} (hx : Row K p x) (hy : Row K p y) (h1 : lo ≤ x) (h2 : x ≤ hi) (h3 : lo ≤ y) (h4 : y ≤ hi) : Path (Sym K') lo hi x y := by
  rcases Nat.lt_trichotomy x y with h | h | h
  · exact (chain hR p _ x y (Nat.le_refl _) hx hy h).mono (fun _ _ h => h) h1 h4
  · subst h; exact .refl h1 h2
  · exact ((chain hR p _ y x (Nat.le_refl _) hy hx h).mono (fun _ _ h => h) h3 h2).symm (fun _ _ h => h.symm)
theorem edge (hR : Rnd K K') {a c lo hi : Nat} (h : K a c ∨ K c a) (h1 : lo ≤ a) (h2 : a ≤ hi) (h3 : lo ≤ c) (h4 : c ≤ hi) : Path (Sym K') lo hi a c := by
  rcases h with h | h
  · exact joined hR (p := a) (.inl rfl) (.inr h) h1 h2 h3 h4
  · exact joined hR (p := c) (.inr h) (.inl rfl) h1 h2 h3 h4
/-- a round keeps what is joined, within the same bounds -/
theorem keep (hR : Rnd K K') {lo hi a b : Nat} (h : Path (fun x y => K x y ∨ K y x) lo hi a b) : Path (Sym K') lo hi a b := by
  induction h with
  | refl g1 g2 => exact .refl g1 g2
  | step g1 g2 g3 k ih => exact (edge hR g3 g1 g2 k.head.1 k.head.2).trans ih
/-- a round lowers the upper bound -/
theorem lower (hR : Rnd K K') (hirr : ∀ x, ¬ K x x) {lo hi a b : Nat} (h : Path (Sym K) lo (hi + 1) a b) (hb : b ≤ hi) :
    (a ≤ hi → Path (Sym K') lo hi a b) ∧ (a = hi + 1 → ∀ e, K (hi + 1) e → lo ≤ e → e ≤ hi → Path (Sym K') lo hi e b) := by
  induction h with
  | refl g1 g2 => exact ⟨fun h => .refl g1 h, fun h => by omega⟩
  | step g1 g2 g3 k ih =>
    rename_i a c b
    obtain ⟨i1, i2⟩ := ih hb
    refine ⟨fun ha => ?_, fun ha e he h1 h2 => ?_⟩
    · by_cases hc : c ≤ hi
      · exact (edge hR (.inl g3.1) g1 ha k.head.1 hc).trans (i1 hc)
      · have hc : c = hi + 1 := by have := k.head.2; omega
        subst hc
        exact i2 rfl a g3.2 g1 ha
    · subst ha
      have hc : c ≤ hi := by
        have := k.head.2
        rcases Nat.lt_or_ge c (hi + 1) with h | h
        · omega
        · have : c = hi + 1 := by omega
          subst this
          exact absurd g3.1 (hirr _)
      exact (joined hR (p := hi + 1) (.inr he) (.inr g3.1) h1 h2 k.head.1 hc).trans (i1 hc)
/-- a round raises the lower bound -/
theorem raise (hR : Rnd K K') (hirr : ∀ x, ¬ K x x) {lo hi a b : Nat} (h : Path (Sym K) lo hi a b) (hb : lo + 1 ≤ b) :
    (lo + 1 ≤ a → Path (Sym K') (lo + 1) hi a b) ∧ (a = lo → ∀ e, K lo e → lo + 1 ≤ e → e ≤ hi → Path (Sym K') (lo + 1) hi e b) := by
  induction h with
  | refl g1 g2 => exact ⟨fun h => .refl h g2, fun h => by omega⟩
  | step g1 g2 g3 k ih =>
    rename_i a c b
    obtain ⟨i1, i2⟩ := ih hb
    refine ⟨fun ha => ?_, fun ha e he h1 h2 => ?_⟩
    · by_cases hc : lo + 1 ≤ c
      · exact (edge hR (.inl g3.1) ha g2 hc k.head.2).trans (i1 hc)
      · have hc : c = lo := by have := k.head.1; omega
        subst hc
        exact i2 rfl a g3.2 ha g2
    · subst ha
      have hc : a + 1 ≤ c := by
        have := k.head.1
        rcases Nat.lt_or_ge a c with h | h
        · exact h
        · have : c = a := by omega
          subst this
          exact absurd g3.1 (hirr _)
      exact (joined hR (p := a) (.inr he) (.inr g3.1) h1 h2 hc k.head.2).trans (i1 hc)
end
/-- a path of two neighbours within themselves -/
theorem pair {M : Nat → Nat → Prop} {i b : Nat} (h : Path M i (i + 1) i b) (hb : b = i + 1) (hirr : ∀ x, ¬ M x x) : M i (i + 1) := by
  have gen : ∀ a b, Path M i (i + 1) a b → a = i → b = i + 1 → M i (i + 1) := by
    intro a b h
    induction h with
    | refl _ _ => intro h1 h2; omega
    | step g1 g2 g3 k ih =>
      rename_i a c b
      intro h1 h2
      subst h1
      have := k.head
      rcases (show c = a ∨ c = a + 1 by omega) with h | h
      · subst h; exact absurd g3 (hirr _)
      · subst h; exact g3
  exact gen i b h rfl hb
section
variable {n : Nat} {K : Nat → Nat → Nat → Prop}
/-- after as many rounds as there are nodes, less one, neighbours know each other -/
theorem sorts (hR : ∀ t, Rnd (K t) (K (t + 1))) (hirr : ∀ t x, ¬ K t x x) (hc : ∀ a b, a < n → b < n → Path (fun x y => K 0 x y ∨ K 0 y x) 0 (n - 1) a b) {i : Nat} (hi : i + 1 < n) : Sym (K (n - 1)) i (i + 1) := by
  have h1 : Path (Sym (K 1)) 0 (n - 1) i (i + 1) := keep (hR 0) (hc i (i + 1) (by omega) hi)
  have up : ∀ d, d ≤ n - 1 - (i + 1) → Path (Sym (K (1 + d))) 0 (n - 1 - d) i (i + 1) := by
    intro d
    induction d with
    | zero => intro _; exact h1
    | succ d ih =>
      intro hd
      have h := ih (by omega)
      rw [show n - 1 - d = (n - 1 - (d + 1)) + 1 by omega] at h
      exact (lower (hR (1 + d)) (hirr _) h (by omega)).1 (by omega)
  have h2 := up (n - 1 - (i + 1)) (Nat.le_refl _)
  rw [show n - 1 - (n - 1 - (i + 1)) = i + 1 by omega] at h2
  have down : ∀ d, d ≤ i → Path (Sym (K (1 + (n - 1 - (i + 1)) + d))) d (i + 1) i (i + 1) := by
    intro d
    induction d with
    | zero => intro _; exact h2
    | succ d ih =>
      intro hd
      exact (raise (hR (1 + (n - 1 - (i + 1)) + d)) (hirr _) (ih (by omega)) (by omega)).1 (by omega)
  have h3 := down i (Nat.le_refl _)
  rw [show 1 + (n - 1 - (i + 1)) + i = n - 1 by omega] at h3
  exact pair h3 rfl (fun x h => hirr _ x h.1)
/-- and go on knowing each other -/
theorem stays {K K' : Nat → Nat → Prop} (hR : Rnd K K') {i : Nat} (h : Sym K i (i + 1)) : Sym K' i (i + 1) :=
  hR i i (i + 1) ⟨.inl rfl, .inr h.1, by omega, fun r _ hh => by omega⟩
end
end Lin
end Go.Proofs.YtbnbjiddffihoaaGreatDoor

/- Peers, their references and what they do in a round of the linear repair, in plain Lean. -/
namespace Go.Proofs.YtbnbjiddffihoaaGreatDoor
open Go.RowKit

def nums4 (x : Nr) : List Int := [x.1, x.2.1, x.2.2.1, x.2.2.2]
/-- all numbers of a peer -/
def numsP (p : Pr) : List Int := p.known ++ [p.left, p.right] ++ p.near.flatMap nums4
/-- the numbers of the nodes that lie in a list, ascending, without one -/
def ordN (N : List Nd) (l : List Int) (but : Int) : List Int := ((sortN N).filter fun x => !(x.id == but) && l.contains x.id).map Nd.id
def refsN (N : List Nd) (p : Pr) : List Int := if checkN N = 0 then ordN N (numsP p) p.id else []
def peerN (P : List Pr) (id : Int) : Pr := (P.find? fun p => p.id == id).getD ⟨id, 0, 0, [], []⟩
def normalN (N : List Nd) (P : List Pr) : List Pr := if checkN N = 0 then (sortN N).map fun x => peerN P x.id else []
section
variable {N : List Nd} {P : List Pr}
theorem peer_id (P : List Pr) (id : Int) : (peerN P id).id = id := by
  unfold peerN
  cases h : P.find? fun p => p.id == id with
  | none => rfl
  | some p => simpa using List.find?_some h
end
end Go.Proofs.YtbnbjiddffihoaaGreatDoor

/- A round of the linear repair sorts, in plain Lean. -/
namespace Go.Proofs.YtbnbjiddffihoaaGreatDoor
open Go.RowKit

section
variable {N : List Nd} {P : List Pr}
theorem sort_ids {N : List Nd} (h0 : checkN N = 0) : (sortN N).Pairwise fun x y => x.id ≠ y.id := List.Pairwise.imp (fun h => h.2) (sortN_str h0)
/-- the peer of a number in a list that is made of the nodes -/
theorem peer_map {S : List Nd} (hd : S.Pairwise fun x y => x.id ≠ y.id) {f : Nd → Pr} (hf : ∀ x, (f x).id = x.id) {a : Nd} (ha : a ∈ S) : peerN (S.map f) a.id = f a := by
  unfold peerN
  have : (S.map f).find? (fun p => p.id == a.id) = some (f a) := by
    rw [List.find?_map]
    have e : ((fun p : Pr => p.id == a.id) ∘ f) = fun x : Nd => x.id == a.id := by funext x; simp [hf]
    rw [e]
    have hfd : S.find? (fun x => x.id == a.id) = some a := by
      obtain ⟨A, B, rfl⟩ := List.append_of_mem ha
      rw [List.find?_append]
      have hn : A.find? (fun x => x.id == a.id) = none := by
        rw [List.find?_eq_none]
        intro x hx
        have := (List.pairwise_append.1 hd).2.2 x hx a (by simp)
        simpa using this
      rw [hn]
      simp
    rw [hfd]; rfl
  rw [this]; rfl
theorem normal_peer (h0 : checkN N = 0) {a : Nd} (ha : a ∈ N) : peerN (normalN N P) a.id = peerN P a.id := by
  unfold normalN
  rw [if_pos h0]
  exact peer_map (sort_ids h0) (fun x => peer_id _ _) ((sortN_mem N a).2 ha)
/-- x refers to y, by their places -/
def KR (N : List Nd) (P : List Pr) (x y : Nat) : Prop := ∃ a b, (sortN N)[x]? = some a ∧ (sortN N)[y]? = some b ∧ b.id ∈ refsN N (peerN P a.id)
theorem KR.lt {x y : Nat} (h : KR N P x y) : x < N.length ∧ y < N.length := by
  obtain ⟨a, b, h1, h2, _⟩ := h
  have g1 := (List.getElem?_eq_some_iff.1 h1).1
  have g2 := (List.getElem?_eq_some_iff.1 h2).1
  rw [sortN_length] at g1 g2
  exact ⟨g1, g2⟩
/-- joined by a relation, in whatever direction -/
inductive Cl (R : Int → Int → Prop) : Int → Int → Prop
  | refl (a : Int) : Cl R a a
  | step {a c b : Int} : R a c ∨ R c a → Cl R c b → Cl R a b
theorem Cl.trans {R : Int → Int → Prop} {a b c : Int} (h : Cl R a b) (k : Cl R b c) : Cl R a c := by
  induction h with
  | refl _ => exact k
  | step h1 _ ih => exact .step h1 (ih k)
theorem Cl.one {R : Int → Int → Prop} {a b : Int} (h : R a b ∨ R b a) : Cl R a b := .step h (.refl b)
theorem Cl.symm {R : Int → Int → Prop} {a b : Int} (h : Cl R a b) : Cl R b a := by
  induction h with
  | refl _ => exact .refl _
  | step h1 _ ih => exact ih.trans (.one h1.symm)
theorem Cl.mono {R R' : Int → Int → Prop} (hr : ∀ a b, R a b → Cl R' a b) {a b : Int} (h : Cl R a b) : Cl R' a b := by
  induction h with
  | refl _ => exact .refl _
  | step h1 _ ih =>
    rcases h1 with h | h
    · exact (hr _ _ h).trans ih
    · exact (hr _ _ h).symm.trans ih
/-- a node refers to another one -/
def EdgeN (N : List Nd) (P : List Pr) (u v : Int) : Prop := (∃ x ∈ N, x.id = u) ∧ v ∈ refsN N (peerN P u)
def ConnN (N : List Nd) (P : List Pr) : Prop := checkN N = 0 ∧ ∀ x ∈ N, ∀ y ∈ N, Cl (EdgeN N P) x.id y.id
/-- the neighbours at level 0 are right -/
def exactL (N : List Nd) (P : List Pr) : Prop := checkN N = 0 ∧ ∀ x ∈ N, ((peerN P x.id).left, (peerN P x.id).right) = (neighN N x.id (0 : Nat)).1
end
end Go.Proofs.YtbnbjiddffihoaaGreatDoor

/- What the statements of chapter 16 say, in plain Lean. -/
namespace Go.Proofs.YtbnbjiddffihoaaGreatDoor
open Go.RowKit

section
variable {N : List Nd}
variable {P : List Pr}
end
end Go.Proofs.YtbnbjiddffihoaaGreatDoor

/- How each level is made from the one below, in plain Lean. -/
namespace Go.Proofs.YtbnbjiddffihoaaGreatDoor
open Go.RowKit

def otherN (N : List Nd) (id own : Int) : Int := if (findN N id).2 = true ∧ id ≠ own then id else 0
def zNr : Nr := (0, 0, 0, 0)
def nearAt (p : Pr) (i : Nat) : Nr := p.near[i]?.getD zNr
/-- the neighbours of a peer at a level -/
def linkB (N : List Nd) (p : Pr) (lev : Int) : Int × Int :=
  if (findN N p.id).2 = true ∧ checkN N = 0 ∧ lvlN lev = true ∧ lev ≤ p.near.length then
    (let y := if lev = 0 then (p.left, p.right) else if bitN (findN N p.id).1.word (lev - 1) = 1 then ((nearAt p (lev - 1).toNat).2.1, (nearAt p (lev - 1).toNat).2.2.2) else ((nearAt p (lev - 1).toNat).1, (nearAt p (lev - 1).toNat).2.2.1)
     (otherN N y.1 p.id, otherN N y.2 p.id))
  else (0, 0)
def pairB (N : List Nd) (own nb : Int) (lev : Nat) (zero one : Int) : Int × Int :=
  if (findN N nb).2 = true then (if bitN (findN N nb).1.word lev = 0 then ((findN N nb).1.id, otherN N one own) else (otherN N zero own, (findN N nb).1.id)) else (0, 0)
/-- the nearest nodes that a peer computes at a level -/
def stepB (N : List Nd) (st : Int → Pr) (p : Pr) (i : Nat) : Nr :=
  ((pairB N p.id (linkB N p i).1 i (nearAt (st (linkB N p i).1) i).1 (nearAt (st (linkB N p i).1) i).2.1).1, (pairB N p.id (linkB N p i).1 i (nearAt (st (linkB N p i).1) i).1 (nearAt (st (linkB N p i).1) i).2.1).2,
   (pairB N p.id (linkB N p i).2 i (nearAt (st (linkB N p i).2) i).2.2.1 (nearAt (st (linkB N p i).2) i).2.2.2).1, (pairB N p.id (linkB N p i).2 i (nearAt (st (linkB N p i).2) i).2.2.1 (nearAt (st (linkB N p i).2) i).2.2.2).2)
def nextB (N : List Nd) (st : Int → Pr) (p : Pr) (h : Nat) : List Nr := (List.range h).map (stepB N st p)
def bRoundN (N : List Nd) (P : List Pr) (h : Int) : List Pr := if lvlN h = true then (normalN N P).map fun p => { p with near := nextB N (peerN (normalN N P)) p h.toNat } else []
def linksB (N : List Nd) (P : List Pr) (h : Int) : List Lkd := if lvlN h = true then (normalN N P).map fun p => (p.id, (List.range (h.toNat + 1)).map fun (lev : Nat) => linkB N p lev) else []
noncomputable def exactB (N : List Nd) (P : List Pr) (h : Int) : Bool := (buildN N h).2 == 0 && decide (linksB N P h = (buildN N h).1)

section
variable {N : List Nd}
def bitIs (i b : Nat) (y : Nd) : Bool := bitN y.word i == b
theorem other_node (h0 : checkN N = 0) {z : Nd} (hz : z ∈ N) {own : Int} (hne : z.id ≠ own) : otherN N z.id own = z.id := by
  unfold otherN
  rw [if_pos ⟨by rw [find_in h0 hz], hne⟩]
theorem other_zero (h0 : checkN N = 0) (own : Int) : otherN N 0 own = 0 := by
  unfold otherN
  rw [if_neg]
  rintro ⟨h, _⟩
  rw [find_zero h0] at h
  cases h
theorem other_last (h0 : checkN N = 0) {A : List Nd} {own : Int} (hA : ∀ z ∈ A, z ∈ N ∧ z.id ≠ own) : otherN N (lastI A) own = lastI A := by
  rcases List.eq_nil_or_concat A with h | ⟨A0, z, h⟩
  · subst h; exact other_zero h0 own
  · rw [List.concat_eq_append] at h
    subst h
    have : lastI (A0 ++ [z]) = z.id := by unfold lastI; simp
    rw [this]
    exact other_node h0 (hA z (by simp)).1 (hA z (by simp)).2
theorem other_head (h0 : checkN N = 0) {B : List Nd} {own : Int} (hB : ∀ z ∈ B, z ∈ N ∧ z.id ≠ own) : otherN N (headI B) own = headI B := by
  cases B with
  | nil => exact other_zero h0 own
  | cons z B =>
    show otherN N z.id own = z.id
    exact other_node h0 (hB z (by simp)).1 (hB z (by simp)).2
theorem grp_parts (h0 : checkN N = 0) {i : Int} {v : Nat} {A B : List Nd} {x : Nd} (e : grpS N i v = A ++ x :: B) : (∀ z ∈ A, z ∈ N ∧ z.id ≠ x.id) ∧ (∀ z ∈ B, z ∈ N ∧ z.id ≠ x.id) := by
  have ha := grp_asc h0 i v
  rw [e] at ha
  have h1 := List.pairwise_append.1 ha
  have hm : ∀ z ∈ A ++ x :: B, z ∈ N := fun z hz => (grp_mem.1 (by rw [e]; exact hz)).1
  exact ⟨fun z hz => ⟨hm z (by simp [hz]), (h1.2.2 z hz x (by simp)).2⟩, fun z hz => ⟨hm z (by simp [hz]), (((List.pairwise_cons.1 h1.2.1).1 z hz).2).symm⟩⟩
/-- the nearest nodes to the left that a peer computes are right, if those of its neighbour are -/
theorem step_left (h0 : checkN N = 0) {st : Int → Pr} {p : Pr} {x : Nd} {i : Nat} (hi : i ≤ 16) (hx : x ∈ N) (hp : p.id = x.id) (hl : linkB N p i = (neighN N x.id i).1) {A B : List Nd} (e : grpS N i x.word = A ++ x :: B)
    (hu : ∀ A0 u, A = A0 ++ [u] → (nearAt (st u.id) i).1 = lastI (A0.filter (bitIs i 0)) ∧ (nearAt (st u.id) i).2.1 = lastI (A0.filter (bitIs i 1))) :
    (stepB N st p i).1 = lastI (A.filter (bitIs i 0)) ∧ (stepB N st p i).2.1 = lastI (A.filter (bitIs i 1)) := by
  have hn := neigh_split h0 hx (h := (i : Int)) (by unfold lvlN; simp; omega) e
  obtain ⟨hA, _⟩ := grp_parts h0 e
  have hs : stepB N st p i = ((pairB N x.id (lastI A) i (nearAt (st (lastI A)) i).1 (nearAt (st (lastI A)) i).2.1).1, (pairB N x.id (lastI A) i (nearAt (st (lastI A)) i).1 (nearAt (st (lastI A)) i).2.1).2, (stepB N st p i).2.2) := by
    unfold stepB
    rw [hl, hn, hp]
  rw [hs]
  simp only
  rcases List.eq_nil_or_concat A with h | ⟨A0, u, h⟩
  · subst h
    have : pairB N x.id (lastI []) i (nearAt (st (lastI [])) i).1 (nearAt (st (lastI [])) i).2.1 = (0, 0) := by
      unfold pairB
      rw [if_neg]
      rw [show lastI [] = 0 from rfl, find_zero h0]
      simp
    rw [this]
    exact ⟨rfl, rfl⟩
  · rw [List.concat_eq_append] at h
    subst h
    have hlu : lastI (A0 ++ [u]) = u.id := by unfold lastI; simp
    obtain ⟨g0, g1⟩ := hu A0 u rfl
    have huN := (hA u (by simp)).1
    have sub : ∀ b, ∀ z ∈ A0.filter (bitIs i b), z ∈ N ∧ z.id ≠ x.id := fun b z hz => hA z (by simp [(List.mem_filter.1 hz).1])
    rw [hlu, g0, g1]
    unfold pairB
    rw [find_in h0 huN, if_pos rfl]
    by_cases hb : bitN u.word i = 0
    · rw [if_pos hb, other_last h0 (sub 1), List.filter_append, List.filter_append]
      have e0 : [u].filter (bitIs i 0) = [u] := by simp [bitIs, hb]
      have e1 : [u].filter (bitIs i 1) = [] := by simp [bitIs, hb]
      rw [e0, e1, List.append_nil]
      exact ⟨by unfold lastI; simp, rfl⟩
    · have hb1 : bitN u.word i = 1 := by have := bitN_lt u.word (i : Int); omega
      rw [if_neg hb, other_last h0 (sub 0), List.filter_append, List.filter_append]
      have e0 : [u].filter (bitIs i 0) = [] := by simp [bitIs, hb1]
      have e1 : [u].filter (bitIs i 1) = [u] := by simp [bitIs, hb1]
      rw [e0, e1, List.append_nil]
      exact ⟨rfl, by unfold lastI; simp⟩
theorem step_right (h0 : checkN N = 0) {st : Int → Pr} {p : Pr} {x : Nd} {i : Nat} (hi : i ≤ 16) (hx : x ∈ N) (hp : p.id = x.id) (hl : linkB N p i = (neighN N x.id i).1) {A B : List Nd} (e : grpS N i x.word = A ++ x :: B)
    (hu : ∀ u B0, B = u :: B0 → (nearAt (st u.id) i).2.2.1 = headI (B0.filter (bitIs i 0)) ∧ (nearAt (st u.id) i).2.2.2 = headI (B0.filter (bitIs i 1))) :
    (stepB N st p i).2.2.1 = headI (B.filter (bitIs i 0)) ∧ (stepB N st p i).2.2.2 = headI (B.filter (bitIs i 1)) := by
  have hn := neigh_split h0 hx (h := (i : Int)) (by unfold lvlN; simp; omega) e
  obtain ⟨_, hB⟩ := grp_parts h0 e
  have hs : (stepB N st p i).2.2 = pairB N x.id (headI B) i (nearAt (st (headI B)) i).2.2.1 (nearAt (st (headI B)) i).2.2.2 := by
    unfold stepB
    rw [hl, hn, hp]
  rw [hs]
  cases B with
  | nil =>
    have : pairB N x.id (headI []) i (nearAt (st (headI [])) i).2.2.1 (nearAt (st (headI [])) i).2.2.2 = (0, 0) := by
      unfold pairB
      rw [if_neg]
      rw [show headI [] = 0 from rfl, find_zero h0]
      simp
    rw [this]
    exact ⟨rfl, rfl⟩
  | cons u B0 =>
    obtain ⟨g0, g1⟩ := hu u B0 rfl
    have huN := (hB u (by simp)).1
    have sub : ∀ b, ∀ z ∈ B0.filter (bitIs i b), z ∈ N ∧ z.id ≠ x.id := fun b z hz => hB z (by simp [(List.mem_filter.1 hz).1])
    rw [show headI (u :: B0) = u.id from rfl, g0, g1]
    unfold pairB
    rw [find_in h0 huN, if_pos rfl]
    by_cases hb : bitN u.word i = 0
    · rw [if_pos hb, other_head h0 (sub 1), List.filter_cons_of_pos (by simp [bitIs, hb]), List.filter_cons_of_neg (by simp [bitIs, hb])]
      exact ⟨rfl, rfl⟩
    · have hb1 : bitN u.word i = 1 := by have := bitN_lt u.word (i : Int); omega
      rw [if_neg hb, other_head h0 (sub 0), List.filter_cons_of_neg (by simp [bitIs, hb1]), List.filter_cons_of_pos (by simp [bitIs, hb1])]
      exact ⟨rfl, rfl⟩
theorem grp_next (hw : ∀ x ∈ N, x.word < 4294967296) {x : Nd} (hx : x ∈ N) {i : Nat} (hi : i < 16) : grpS N ((i + 1 : Nat) : Int) x.word = (grpS N i x.word).filter (bitIs i (bitN x.word i)) := by
  unfold grpS groupN
  rw [List.filter_filter]
  refine List.filter_congr fun y hy => ?_
  have hy := (sortN_mem N y).1 hy
  rw [Bool.eq_iff_iff, show ((i + 1 : Nat) : Int) = (i : Int) + 1 by omega, same_succ (hw y hy) (hw x hx) hi]
  unfold bitIs
  simp only [Bool.and_eq_true, beq_iff_eq]
  exact And.comm
/-- the links of the next level are right, if the nearest nodes are -/
theorem link_near (h0 : checkN N = 0) (hw : ∀ x ∈ N, x.word < 4294967296) {p : Pr} {x : Nd} {i : Nat} (hi : i < 16) (hx : x ∈ N) (hp : p.id = x.id) (hlen : i + 1 ≤ p.near.length) {A B : List Nd} (e : grpS N i x.word = A ++ x :: B)
    (hL : (nearAt p i).1 = lastI (A.filter (bitIs i 0)) ∧ (nearAt p i).2.1 = lastI (A.filter (bitIs i 1))) (hR : (nearAt p i).2.2.1 = headI (B.filter (bitIs i 0)) ∧ (nearAt p i).2.2.2 = headI (B.filter (bitIs i 1))) :
    linkB N p ((i + 1 : Nat) : Int) = (neighN N x.id ((i + 1 : Nat) : Int)).1 := by
  have hlv : lvlN ((i + 1 : Nat) : Int) = true := by unfold lvlN; simp; omega
  obtain ⟨hA, hB⟩ := grp_parts h0 e
  have e' : grpS N ((i + 1 : Nat) : Int) x.word = A.filter (bitIs i (bitN x.word i)) ++ x :: B.filter (bitIs i (bitN x.word i)) := by
    rw [grp_next hw hx hi, e, List.filter_append, List.filter_cons_of_pos (by simp [bitIs])]
  rw [neigh_split h0 hx hlv e']
  have subA : ∀ b, ∀ z ∈ A.filter (bitIs i b), z ∈ N ∧ z.id ≠ x.id := fun b z hz => hA z (List.mem_filter.1 hz).1
  have subB : ∀ b, ∀ z ∈ B.filter (bitIs i b), z ∈ N ∧ z.id ≠ x.id := fun b z hz => hB z (List.mem_filter.1 hz).1
  unfold linkB
  rw [hp, find_in h0 hx, if_pos ⟨rfl, h0, hlv, by omega⟩, if_neg (by omega), show (((i + 1 : Nat) : Int) - 1) = (i : Int) by omega, show ((i : Int)).toNat = i by omega, hL.1, hL.2, hR.1, hR.2]
  simp only
  by_cases hb : bitN x.word i = 1
  · rw [if_pos hb, hb]
    simp only
    rw [other_last h0 (subA 1), other_head h0 (subB 1)]
  · have hb0 : bitN x.word i = 0 := by have := bitN_lt x.word (i : Int); omega
    rw [if_neg hb, hb0]
    simp only
    rw [other_last h0 (subA 0), other_head h0 (subB 0)]
/-- the links of a level are right -/
def RightB (N : List Nd) (st : Int → Pr) (i : Nat) : Prop := ∀ x ∈ N, linkB N (st x.id) i = (neighN N x.id i).1
theorem near_next {st : Int → Pr} {p q : Pr} {h i : Nat} (hq : q.near = nextB N st p h) (hi : i < h) : nearAt q i = stepB N st p i := by
  unfold nearAt
  rw [hq]
  unfold nextB
  rw [List.getElem?_map, List.getElem?_range hi]
  rfl
/-- the list of a node that lies in the list of another one -/
theorem grp_same (hw : ∀ x ∈ N, x.word < 4294967296) {x u : Nd} {i : Nat} (hx : x ∈ N) (hu : u ∈ grpS N i x.word) : grpS N i u.word = grpS N i x.word := by
  obtain ⟨h1, h2⟩ := grp_mem.1 hu
  exact grp_eq hw (hw u h1) (hw x hx) h2
theorem near_of {p q : Pr} {i : Nat} (h : p.near = q.near) : nearAt p i = nearAt q i := by unfold nearAt; rw [h]
/-- each level is made from the one below, in as many rounds as there are nodes -/
theorem climbA (h0 : checkN N = 0) (hw : ∀ x ∈ N, x.word < 4294967296) {h : Nat} (hh : h ≤ 16) {S : Nat → Int → Pr} (hid : ∀ t id, (S t id).id = id)
    (hnear : ∀ t, ∀ x ∈ N, ∃ st : Int → Pr, (∀ y ∈ N, (st y.id).near = (S t y.id).near ∨ (st y.id).near = (S (t + 1) y.id).near) ∧ (S (t + 1) x.id).near = nextB N st (S t x.id) h) {T : Nat} (hR0 : ∀ t, T ≤ t → RightB N (S t) 0) :
    ∀ i, i ≤ h → ∀ t, T + i * N.length ≤ t → RightB N (S t) i := by
  intro i
  induction i with
  | zero => intro _ t ht; exact hR0 t (by omega)
  | succ i ih =>
    intro hi t ht x hx
    have hR := ih (by omega)
    have hne : 1 ≤ N.length := by rcases N with _ | ⟨a, N⟩; cases hx; simp
    have hm : (i + 1) * N.length = i * N.length + N.length := by rw [Nat.add_mul, Nat.one_mul]
    -- by the number of nodes on the side
    have left : ∀ r, ∀ s, T + i * N.length + r + 1 ≤ s → ∀ y ∈ N, ∀ A B, grpS N i y.word = A ++ y :: B → A.length ≤ r → (nearAt (S s y.id) i).1 = lastI (A.filter (bitIs i 0)) ∧ (nearAt (S s y.id) i).2.1 = lastI (A.filter (bitIs i 1)) := by
      intro r
      induction r with
      | zero =>
        intro s hs y hy A B e hA
        obtain ⟨s', rfl⟩ : ∃ s', s = s' + 1 := ⟨s - 1, by omega⟩
        obtain ⟨st, hst, hnx⟩ := hnear s' y hy
        rw [near_next hnx (by omega)]
        refine step_left h0 (by omega) hy (hid _ _) (hR s' (by omega) y hy) e fun A0 u he => ?_
        rw [he] at hA
        simp at hA
      | succ r ihr =>
        intro s hs y hy A B e hA
        obtain ⟨s', rfl⟩ : ∃ s', s = s' + 1 := ⟨s - 1, by omega⟩
        obtain ⟨st, hst, hnx⟩ := hnear s' y hy
        rw [near_next hnx (by omega)]
        refine step_left h0 (by omega) hy (hid _ _) (hR s' (by omega) y hy) e fun A0 u he => ?_
        have hu : u ∈ grpS N i y.word := by rw [e, he]; simp
        have g1 : grpS N i u.word = A0 ++ u :: (y :: B) := by rw [grp_same hw hy hu, e, he]; simp
        have g2 : A0.length ≤ r := by rw [he] at hA; simp at hA; omega
        rcases hst u (grp_mem.1 hu).1 with hn | hn
        · rw [near_of hn]; exact ihr s' (by omega) u (grp_mem.1 hu).1 A0 (y :: B) g1 g2
        · rw [near_of hn]; exact ihr (s' + 1) (by omega) u (grp_mem.1 hu).1 A0 (y :: B) g1 g2
    have right : ∀ r, ∀ s, T + i * N.length + r + 1 ≤ s → ∀ y ∈ N, ∀ A B, grpS N i y.word = A ++ y :: B → B.length ≤ r → (nearAt (S s y.id) i).2.2.1 = headI (B.filter (bitIs i 0)) ∧ (nearAt (S s y.id) i).2.2.2 = headI (B.filter (bitIs i 1)) := by
      intro r
      induction r with
      | zero =>
        intro s hs y hy A B e hB
        obtain ⟨s', rfl⟩ : ∃ s', s = s' + 1 := ⟨s - 1, by omega⟩
        obtain ⟨st, hst, hnx⟩ := hnear s' y hy
        rw [near_next hnx (by omega)]
        refine step_right h0 (by omega) hy (hid _ _) (hR s' (by omega) y hy) e fun u B0 he => ?_
        rw [he] at hB
        simp at hB
      | succ r ihr =>
        intro s hs y hy A B e hB
        obtain ⟨s', rfl⟩ : ∃ s', s = s' + 1 := ⟨s - 1, by omega⟩
        obtain ⟨st, hst, hnx⟩ := hnear s' y hy
        rw [near_next hnx (by omega)]
        refine step_right h0 (by omega) hy (hid _ _) (hR s' (by omega) y hy) e fun u B0 he => ?_
        have hu : u ∈ grpS N i y.word := by rw [e, he]; simp
        have g1 : grpS N i u.word = (A ++ [y]) ++ u :: B0 := by rw [grp_same hw hy hu, e, he]; simp
        have g2 : B0.length ≤ r := by rw [he] at hB; simp at hB; omega
        rcases hst u (grp_mem.1 hu).1 with hn | hn
        · rw [near_of hn]; exact ihr s' (by omega) u (grp_mem.1 hu).1 (A ++ [y]) B0 g1 g2
        · rw [near_of hn]; exact ihr (s' + 1) (by omega) u (grp_mem.1 hu).1 (A ++ [y]) B0 g1 g2
    obtain ⟨A, B, e⟩ := grp_at hx (h := (i : Int)) (by unfold lvlN; simp; omega)
    have hlen : A.length + B.length + 1 ≤ N.length := by
      have h1 : (grpS N (i : Int) x.word).length ≤ (sortN N).length := List.length_filter_le _ _
      rw [sortN_length, e] at h1
      simp at h1
      omega
    obtain ⟨s', rfl⟩ : ∃ s', t = s' + 1 := ⟨t - 1, by omega⟩
    refine link_near h0 hw (by omega) hx (hid _ _) ?_ e (left (N.length - 1) (s' + 1) (by omega) x hx A B e (by omega)) (right (N.length - 1) (s' + 1) (by omega) x hx A B e (by omega))
    obtain ⟨st, _, hnx⟩ := hnear s' x hx
    rw [hnx]
    unfold nextB
    simp
    omega
theorem climb (h0 : checkN N = 0) (hw : ∀ x ∈ N, x.word < 4294967296) {h : Nat} (hh : h ≤ 16) {S : Nat → Int → Pr} (hid : ∀ t id, (S t id).id = id)
    (hnear : ∀ t, ∀ x ∈ N, (S (t + 1) x.id).near = nextB N (S t) (S t x.id) h) {T : Nat} (hR0 : ∀ t, T ≤ t → RightB N (S t) 0) :
    ∀ i, i ≤ h → ∀ t, T + i * N.length ≤ t → RightB N (S t) i :=
  climbA h0 hw hh hid (fun t x hx => ⟨S t, fun _ _ => .inl rfl, hnear t x hx⟩) hR0
end
end Go.Proofs.YtbnbjiddffihoaaGreatDoor

/- Routes over links, in plain Lean. -/
namespace Go.Proofs.YtbnbjiddffihoaaGreatDoor
open Go.RowKit

abbrev Hop := Int × Int × Int
def atL (L : List Lkd) (id lev : Int) : Int × Int := match L.find? (fun c => c.1 == id) with | some c => if lev < 0 then (0, 0) else c.2[lev.toNat]?.getD (0, 0) | none => (0, 0)
/-- the node to which a search hops -/
def hopN (N : List Nd) (L : List Lkd) (key : List UInt8) (right : Bool) (x : Nd) (lev : Nat) : Option Nd :=
  if right then (if (findN N (atL L x.id lev).2).2 && (Op.bytesLess x.key.toList (findN N (atL L x.id lev).2).1.key.toList && !Op.bytesLess key (findN N (atL L x.id lev).2).1.key.toList) then some (findN N (atL L x.id lev).2).1 else none)
  else (if (findN N (atL L x.id lev).1).2 && (Op.bytesLess (findN N (atL L x.id lev).1).1.key.toList x.key.toList && Op.bytesLess key (findN N (atL L x.id lev).1).1.key.toList) then some (findN N (atL L x.id lev).1).1 else none)
/-- the hops from a node on, from the level below lev on -/
def rtF (N : List Nd) (L : List Lkd) (key : List UInt8) (right : Bool) : Nat → Nd → Nat → List Hop → Nd × List Hop
  | 0, x, _, out => (x, out)
  | _ + 1, x, 0, out => (x, out)
  | f + 1, x, lev + 1, out =>
    match hopN N L key right x lev with
    | some y => rtF N L key right f y (lev + 1) (out ++ [(x.id, y.id, (lev : Int))])
    | none => rtF N L key right f x lev out
/-- how many nodes lie beyond -/
def bey (N : List Nd) (right : Bool) (x : Nd) : Nat := N.countP fun z => if right then Op.bytesLess x.key.toList z.key.toList else Op.bytesLess z.key.toList x.key.toList
def measR (N : List Nd) (right : Bool) (x : Nd) (lev : Nat) : Nat := lev * (N.length + 1) + bey N right x
variable {N : List Nd} {L : List Lkd} {key : List UInt8} {right : Bool}
theorem hop_mem {x y : Nd} {lev : Nat} (h : hopN N L key right x lev = some y) : y ∈ N ∧
    (if right then Op.bytesLess x.key.toList y.key.toList = true ∧ Op.bytesLess key y.key.toList = false else Op.bytesLess y.key.toList x.key.toList = true ∧ Op.bytesLess key y.key.toList = true) := by
  unfold hopN at h
  cases right with
  | true =>
    rw [if_pos rfl] at h ⊢
    split at h
    · rename_i hc
      cases h
      simp only [Bool.and_eq_true, Bool.not_eq_true'] at hc
      exact ⟨(findN_mem hc.1).1, hc.2.1, hc.2.2⟩
    · cases h
  | false =>
    rw [if_neg (by simp)] at h ⊢
    split at h
    · rename_i hc
      cases h
      simp only [Bool.and_eq_true] at hc
      exact ⟨(findN_mem hc.1).1, hc.2.1, hc.2.2⟩
    · cases h
theorem count_lt {α : Type} {p q : α → Bool} : ∀ {l : List α} {y : α}, y ∈ l → (∀ z, p z = true → q z = true) → q y = true → p y = false → l.countP p < l.countP q
  | [], _, hy, _, _, _ => by cases hy
  | a :: l, y, hy, h, h1, h2 => by
    rw [List.countP_cons, List.countP_cons]
    have hle : l.countP p ≤ l.countP q := List.countP_mono_left (fun z _ => h z)
    rcases List.mem_cons.1 hy with rfl | hy
    · rw [h1, h2]; simp; omega
    · have := count_lt hy h h1 h2
      have h3 := h a
      cases hp : p a with
      | true => rw [h3 hp]; simp; omega
      | false =>
        generalize (if q a = true then 1 else 0) = z
        simp
        omega
theorem bey_lt {x y : Nd} {lev : Nat} (h : hopN N L key right x lev = some y) : bey N right y < bey N right x := by
  obtain ⟨hm, hc⟩ := hop_mem h
  unfold bey
  cases right with
  | true =>
    rw [if_pos rfl] at hc
    refine count_lt hm (fun z hz => ?_) ?_ ?_
    · rw [if_pos rfl] at hz ⊢; exact bl_trans hc.1 hz
    · rw [if_pos rfl]; exact hc.1
    · rw [if_pos rfl]; exact bytesLess_irrefl _
  | false =>
    rw [if_neg (by simp)] at hc
    refine count_lt hm (fun z hz => ?_) ?_ ?_
    · rw [if_neg (by simp)] at hz ⊢; exact bl_trans hz hc.1
    · rw [if_neg (by simp)]; exact hc.1
    · rw [if_neg (by simp)]; exact bytesLess_irrefl _
theorem bey_le (x : Nd) : bey N right x ≤ N.length := List.countP_le_length
theorem meas_hop {x y : Nd} {lev : Nat} (h : hopN N L key right x lev = some y) : measR N right y (lev + 1) < measR N right x (lev + 1) := by
  have := bey_lt h
  unfold measR
  omega
theorem meas_down (x : Nd) (lev : Nat) : measR N right x lev < measR N right x (lev + 1) := by
  unfold measR
  rw [Nat.add_mul]
  omega
/-- a state of the search whose result is known -/
def RtSt (N : List Nd) (L : List Lkd) (key : List UInt8) (right : Bool) (R : Nd × List Hop) (x : Nd) (lev : Nat) (out : List Hop) : Prop := ∃ f, measR N right x lev ≤ f ∧ rtF N L key right f x lev out = R
theorem RtSt.start {x : Nd} {lev : Nat} (hl : lev ≤ 17) : RtSt N L key right (rtF N L key right (18 * (N.length + 1)) x lev []) x lev [] := by
  refine ⟨_, ?_, rfl⟩
  unfold measR
  have := bey_le (N := N) (right := right) x
  have : lev * (N.length + 1) ≤ 17 * (N.length + 1) := Nat.mul_le_mul_right _ hl
  omega
theorem RtSt.hop {R : Nd × List Hop} {x y : Nd} {lev : Nat} {out : List Hop} (h : RtSt N L key right R x (lev + 1) out) (hh : hopN N L key right x lev = some y) : RtSt N L key right R y (lev + 1) (out ++ [(x.id, y.id, (lev : Int))]) := by
  obtain ⟨f, h1, h2⟩ := h
  have hm := meas_hop hh
  obtain ⟨f, rfl⟩ : ∃ g, f = g + 1 := ⟨f - 1, by omega⟩
  refine ⟨f, by omega, ?_⟩
  rw [← h2]
  show _ = (match hopN N L key right x lev with | some y => rtF N L key right f y (lev + 1) (out ++ [(x.id, y.id, (lev : Int))]) | none => rtF N L key right f x lev out)
  rw [hh]
theorem RtSt.down {R : Nd × List Hop} {x : Nd} {lev : Nat} {out : List Hop} (h : RtSt N L key right R x (lev + 1) out) (hh : hopN N L key right x lev = none) : RtSt N L key right R x lev out := by
  obtain ⟨f, h1, h2⟩ := h
  have hm := meas_down (N := N) (right := right) x lev
  obtain ⟨f, rfl⟩ : ∃ g, f = g + 1 := ⟨f - 1, by omega⟩
  refine ⟨f, by omega, ?_⟩
  rw [← h2]
  show _ = (match hopN N L key right x lev with | some y => rtF N L key right f y (lev + 1) (out ++ [(x.id, y.id, (lev : Int))]) | none => rtF N L key right f x lev out)
  rw [hh]
end Go.Proofs.YtbnbjiddffihoaaGreatDoor

/- How the hops of a route go, in plain Lean: over any links. -/
namespace Go.Proofs.YtbnbjiddffihoaaGreatDoor
open Go.RowKit

/-- one hop on the side of the key -/
def DirN (key : List UInt8) (right : Bool) (x y : Nd) : Prop := if right then Op.bytesLess x.key.toList y.key.toList = true ∧ Op.bytesLess key y.key.toList = false else Op.bytesLess y.key.toList x.key.toList = true ∧ Op.bytesLess key y.key.toList = true
/-- hops from x at levels up to lev, ending at x' -/
def HopsOk (N : List Nd) (key : List UInt8) (right : Bool) (x' : Nd) : Nd → Nat → List Hop → Prop
  | x, _, [] => x = x'
  | x, lev, h :: hs => ∃ (y : Nd) (lev' : Nat), y ∈ N ∧ h = (x.id, y.id, (lev' : Int)) ∧ lev' ≤ lev ∧ DirN key right x y ∧ HopsOk N key right x' y lev' hs
variable {N : List Nd} {L : List Lkd} {key : List UInt8} {right : Bool}
theorem HopsOk.mono {x' : Nd} : ∀ {hs : List Hop} {x : Nd} {lev lev2 : Nat}, HopsOk N key right x' x lev hs → lev ≤ lev2 → HopsOk N key right x' x lev2 hs
  | [], _, _, _, h, _ => h
  | _ :: _, _, _, _, ⟨y, l', h1, h2, h3, h4, h5⟩, hl => ⟨y, l', h1, h2, by omega, h4, h5⟩
theorem HopsOk.len {x' : Nd} : ∀ {hs : List Hop} {x : Nd} {lev : Nat}, HopsOk N key right x' x lev hs → hs.length + bey N right x' ≤ bey N right x
  | [], _, _, h => by rw [← show _ = x' from h]; simp
  | _ :: hs, x, _, ⟨y, l', h1, h2, h3, h4, h5⟩ => by
    have := h5.len
    have hlt : bey N right y < bey N right x := by
      unfold bey
      cases right with
      | true =>
        unfold DirN at h4
        rw [if_pos rfl] at h4
        refine count_lt h1 (fun z hz => ?_) ?_ ?_
        · rw [if_pos rfl] at hz ⊢; exact bl_trans h4.1 hz
        · rw [if_pos rfl]; exact h4.1
        · rw [if_pos rfl]; exact bytesLess_irrefl _
      | false =>
        unfold DirN at h4
        rw [if_neg (by simp)] at h4
        refine count_lt h1 (fun z hz => ?_) ?_ ?_
        · rw [if_neg (by simp)] at hz ⊢; exact bl_trans hz h4.1
        · rw [if_neg (by simp)]; exact h4.1
        · rw [if_neg (by simp)]; exact bytesLess_irrefl _
    simp only [List.length_cons]
    omega
theorem HopsOk.side {x' : Nd} : ∀ {hs : List Hop} {x : Nd} {lev : Nat}, HopsOk N key right x' x lev hs → (if right then Op.bytesLess key x.key.toList = false else Op.bytesLess key x.key.toList = true) → (if right then Op.bytesLess key x'.key.toList = false else Op.bytesLess key x'.key.toList = true)
  | [], _, _, h, hk => by rw [← show _ = x' from h]; exact hk
  | _ :: hs, x, _, ⟨y, l', h1, h2, h3, h4, h5⟩, hk => h5.side (by
      unfold DirN at h4
      cases right with
      | true => rw [if_pos rfl] at h4 ⊢; exact h4.2
      | false => rw [if_neg (by simp)] at h4 ⊢; exact h4.2)
theorem HopsOk.mem {x' : Nd} : ∀ {hs : List Hop} {x : Nd} {lev : Nat}, HopsOk N key right x' x lev hs → x ∈ N → x' ∈ N
  | [], _, _, h, hx => by rw [← show _ = x' from h]; exact hx
  | _ :: _, _, _, ⟨_, _, h1, _, _, _, h5⟩, _ => h5.mem h1
/-- the hops of a route, with the last one -/
def RouteOk (N : List Nd) (key : List UInt8) (right : Bool) : Nd → Nat → List Hop → Prop
  | _, _, [] => True
  | x, lev, h :: hs => ∃ (y : Nd) (lev' : Nat), y ∈ N ∧ h = (x.id, y.id, (lev' : Int)) ∧ lev' ≤ lev ∧
      (DirN key right x y ∨ (right = false ∧ hs = [] ∧ lev' = 0 ∧ Op.bytesLess key y.key.toList = false ∧ Op.bytesLess y.key.toList x.key.toList = true)) ∧ RouteOk N key right y lev' hs
theorem HopsOk.route {x' : Nd} : ∀ {hs : List Hop} {x : Nd} {lev : Nat}, HopsOk N key right x' x lev hs → RouteOk N key right x lev hs
  | [], _, _, _ => trivial
  | _ :: _, _, _, ⟨y, l', h1, h2, h3, h4, h5⟩ => ⟨y, l', h1, h2, h3, .inl h4, h5.route⟩
end Go.Proofs.YtbnbjiddffihoaaGreatDoor

/- Runs, bounds and where searches end, in plain Lean. -/
namespace Go.Proofs.YtbnbjiddffihoaaGreatDoor
open Go.RowKit

def brkN (x : Nd) (lev : Int) (y : Nd) : Bool := y.id == x.id || sameN x.word y.word (lev + 1)
def runStep (x : Nd) (lev : Int) (s : Nat × Nat) (y : Nd) : Nat × Nat := if brkN x lev y then (s.1, 0) else (max s.1 (s.2 + 1), s.2 + 1)
def runF (x : Nd) (lev : Int) (G : List Nd) : Nat × Nat := G.foldl (runStep x lev) (0, 0)
def runN (l : List Nd) (id lev : Int) : Nat := if checkN l = 0 ∧ (findN l id).2 = true ∧ lvlN lev = true then (runF (findN l id).1 lev (thrG l id lev)).1 else 0
section
variable {x : Nd} {lev : Int}
theorem run_inv : ∀ (G : List Nd) (s : Nat × Nat), s.2 ≤ s.1 → (G.foldl (runStep x lev) s).2 ≤ (G.foldl (runStep x lev) s).1 ∧ s.1 ≤ (G.foldl (runStep x lev) s).1
  | [], s, h => ⟨h, Nat.le_refl _⟩
  | y :: G, s, h => by
    have h1 : (runStep x lev s y).2 ≤ (runStep x lev s y).1 ∧ s.1 ≤ (runStep x lev s y).1 := by
      unfold runStep
      split
      · exact ⟨Nat.zero_le _, Nat.le_refl _⟩
      · exact ⟨by show s.2 + 1 ≤ max s.1 (s.2 + 1); omega, by show s.1 ≤ max s.1 (s.2 + 1); omega⟩
    have := run_inv G _ h1.1
    exact ⟨this.1, Nat.le_trans h1.2 this.2⟩
theorem run_q : ∀ (Q : List Nd) (s : Nat × Nat), s.2 ≤ s.1 → (∀ y ∈ Q, brkN x lev y = false) → (Q.foldl (runStep x lev) s).2 = s.2 + Q.length
  | [], s, _, _ => rfl
  | y :: Q, s, h, hQ => by
    have e : runStep x lev s y = (max s.1 (s.2 + 1), s.2 + 1) := by unfold runStep; rw [hQ y (by simp)]; rfl
    show (Q.foldl (runStep x lev) (runStep x lev s y)).2 = _
    rw [e, run_q Q _ (by simp only; omega) (fun z hz => hQ z (by simp [hz]))]
    simp only [List.length_cons]
    omega
theorem run_seg (A Q B : List Nd) (hQ : ∀ y ∈ Q, brkN x lev y = false) : Q.length ≤ (runF x lev (A ++ Q ++ B)).1 := by
  unfold runF
  rw [List.foldl_append, List.foldl_append]
  have h1 := run_inv (x := x) (lev := lev) A (0, 0) (Nat.le_refl _)
  have h2 := run_q Q _ h1.1 hQ
  have h3 := run_inv (x := x) (lev := lev) Q _ h1.1
  have h4 := run_inv (x := x) (lev := lev) B _ h3.1
  omega
end
theorem runN_eq {l : List Nd} (h0 : checkN l = 0) {x : Nd} (hx : x ∈ l) {h : Nat} (hh : h ≤ 16) : runN l x.id h = (runF x h (grpS l h x.word)).1 := by
  have hf := find_in h0 hx
  unfold runN thrG
  rw [hf, if_pos ⟨h0, rfl, by unfold lvlN; simp; omega⟩]
  rfl
end Go.Proofs.YtbnbjiddffihoaaGreatDoor

/- Where searches over exact links end, and after how many hops, in plain Lean. -/
namespace Go.Proofs.YtbnbjiddffihoaaGreatDoor
open Go.RowKit

def dirL (right : Bool) (G : List Nd) : List Nd := if right then G else G.reverse
def dlt (right : Bool) (a b : Nd) : Bool := if right then Op.bytesLess a.key.toList b.key.toList else Op.bytesLess b.key.toList a.key.toList
def win (right : Bool) (key : List UInt8) (z : Nd) : Bool := if right then !Op.bytesLess key z.key.toList else Op.bytesLess key z.key.toList
theorem dlt_trans {right : Bool} {a b c : Nd} (h1 : dlt right a b = true) (h2 : dlt right b c = true) : dlt right a c = true := by
  cases right with
  | true => exact bl_trans h1 h2
  | false => exact bl_trans h2 h1
theorem dlt_irrefl {right : Bool} (a : Nd) : dlt right a a = false := by
  cases right <;> exact bytesLess_irrefl _
theorem win_down {right : Bool} {key : List UInt8} {a b : Nd} (h : dlt right a b = true) (hw : win right key b = true) : win right key a = true := by
  cases right with
  | true =>
    have h : Op.bytesLess a.key.toList b.key.toList = true := h
    have hw : (!Op.bytesLess key b.key.toList) = true := hw
    show (!Op.bytesLess key a.key.toList) = true
    cases hk : Op.bytesLess key a.key.toList with
    | false => rfl
    | true => rw [bl_trans hk h] at hw; cases hw
  | false =>
    have h : Op.bytesLess b.key.toList a.key.toList = true := h
    have hw : Op.bytesLess key b.key.toList = true := hw
    exact bl_trans hw h
theorem dir_asc {right : Bool} {G : List Nd} (h : AscS G) : (dirL right G).Pairwise fun a b => dlt right a b = true := by
  cases right with
  | true => exact List.Pairwise.imp (fun h => h.1) h
  | false => exact List.pairwise_reverse.2 (List.Pairwise.imp (fun h => h.1) h)
theorem dir_mem {right : Bool} {G : List Nd} {y : Nd} : y ∈ dirL right G ↔ y ∈ G := by cases right <;> simp [dirL]
section
variable {N : List Nd} {L : List Lkd} {key : List UInt8} {right : Bool}
/-- the first node of a list, if it is within the key -/
def nextW (right : Bool) (key : List UInt8) : List Nd → Option Nd
  | [] => none
  | y :: _ => if win right key y = true then some y else none
theorem nextW_nil (right : Bool) (key : List UInt8) : nextW right key [] = none := rfl
theorem nextW_cons (right : Bool) (key : List UInt8) (y : Nd) (B : List Nd) : nextW right key (y :: B) = if win right key y = true then some y else none := rfl
/-- a hop over exact links goes to the next node of the list, if it is within the key -/
theorem hop_exact (h0 : checkN N = 0) {x : Nd} {lev : Nat} (hl : lev ≤ 16) (hx : x ∈ N) (hL : atL L x.id lev = (neighN N x.id lev).1) {A B : List Nd} (e : dirL right (grpS N lev x.word) = A ++ x :: B) :
    hopN N L key right x lev = nextW right key B := by
  have hlv : lvlN (lev : Int) = true := by unfold lvlN; simp; omega
  have hm : ∀ y ∈ A ++ x :: B, y ∈ N := fun y hy => (grp_mem.1 (dir_mem.1 (by rw [e]; exact hy))).1
  have ha := dir_asc (right := right) (grp_asc h0 (lev : Int) x.word)
  rw [e] at ha
  have hxB := (List.pairwise_cons.1 (List.pairwise_append.1 ha).2.1).1
  cases right with
  | true =>
    have hn := neigh_split h0 hx hlv (A := A) (B := B) e
    unfold hopN
    rw [if_pos rfl, hL, hn]
    cases B with
    | nil => simp [headI, Nd.zero, find_zero h0, nextW_nil]
    | cons y B =>
      have hy := find_in h0 (hm y (by simp))
      have h1 : Op.bytesLess x.key.toList y.key.toList = true := hxB y (by simp)
      simp only [headI, List.head?_cons, Option.getD_some, hy]
      simp [h1, win, nextW_cons]
  | false =>
    have e' : grpS N lev x.word = B.reverse ++ x :: A.reverse := by
      have := congrArg List.reverse (show (grpS N lev x.word).reverse = A ++ x :: B from e)
      simpa using this
    have hn := neigh_split h0 hx hlv e'
    unfold hopN
    rw [if_neg (by simp), hL, hn]
    cases B with
    | nil => simp [lastI, Nd.zero, find_zero h0, nextW_nil]
    | cons y B =>
      have hy := find_in h0 (hm y (by simp))
      have h1 : Op.bytesLess y.key.toList x.key.toList = true := hxB y (by simp)
      simp only [lastI, List.reverse_cons, List.getLast?_append, List.getLast?_singleton, Option.some_or, Option.getD_some, hy]
      simp [h1, win, nextW_cons]
/-- where a search stands: at x, having made hops over Q at this level -/
def CntSt (N : List Nd) (key : List UInt8) (right : Bool) (frm : Nd) (lev : Nat) (x : Nd) (q : Nat) : Prop :=
  ∃ P A Q B, dirL right (grpS N (lev : Int) frm.word) = P ++ x :: B ∧ P ++ [x] = A ++ Q ∧ Q.length = q ∧ (∀ y ∈ Q, brkN frm lev y = false) ∧ (∀ y ∈ B, win right key y = true → brkN frm lev y = false) ∧ (x = frm ∨ dlt right frm x = true)
theorem run_dir (h0 : checkN N = 0) {frm : Nd} (hf : frm ∈ N) {lev : Nat} (hl : lev ≤ 16) {A Q B : List Nd} (e : dirL right (grpS N (lev : Int) frm.word) = A ++ Q ++ B) (hQ : ∀ y ∈ Q, brkN frm lev y = false) : Q.length ≤ runN N frm.id lev := by
  rw [runN_eq h0 hf hl]
  cases right with
  | true =>
    have e : grpS N (lev : Int) frm.word = A ++ Q ++ B := e
    rw [e]; exact run_seg A Q B hQ
  | false =>
    have e' : grpS N (lev : Int) frm.word = B.reverse ++ Q.reverse ++ A.reverse := by
      have := congrArg List.reverse (show (grpS N lev frm.word).reverse = A ++ Q ++ B from e)
      simpa using this
    rw [e', ← List.length_reverse]; exact run_seg _ _ _ (fun y hy => hQ y (by simpa using hy))
theorem CntSt.le (h0 : checkN N = 0) {frm : Nd} (hf : frm ∈ N) {lev : Nat} (hl : lev ≤ 16) {x : Nd} {q : Nat} (h : CntSt N key right frm lev x q) : q ≤ runN N frm.id lev := by
  obtain ⟨P, A, Q, B, e1, e2, rfl, h3, _, _⟩ := h
  refine run_dir (right := right) (A := A) (B := B) h0 hf hl ?_ h3
  rw [e1, ← e2]; simp
theorem CntSt.mem {frm : Nd} {lev : Nat} {x : Nd} {q : Nat} (h : CntSt N key right frm lev x q) : x ∈ N ∧ sameN x.word frm.word lev = true := by
  obtain ⟨P, A, Q, B, e1, _⟩ := h
  exact grp_mem.1 (dir_mem.1 (by rw [e1]; simp))
/-- the list of a node that agrees -/
theorem CntSt.own (hw : ∀ x ∈ N, x.word < 4294967296) {frm : Nd} (hf : frm ∈ N) {lev : Nat} {x : Nd} {q : Nat} (h : CntSt N key right frm lev x q) : grpS N (lev : Int) x.word = grpS N (lev : Int) frm.word :=
  grp_eq hw (hw x h.mem.1) (hw frm hf) h.mem.2
theorem CntSt.step (h0 : checkN N = 0) (hw : ∀ x ∈ N, x.word < 4294967296) {frm : Nd} (hf : frm ∈ N) {lev : Nat} (hl : lev ≤ 16) {x y : Nd} {q : Nat} (h : CntSt N key right frm lev x q) (hL : atL L x.id lev = (neighN N x.id lev).1) (hh : hopN N L key right x lev = some y) :
    CntSt N key right frm lev y (q + 1) := by
  have ho := h.own hw hf
  have hm := h.mem
  obtain ⟨P, A, Q, B, e1, e2, rfl, h3, h4, h5⟩ := h
  rw [hop_exact h0 hl hm.1 hL (by rw [ho]; exact e1)] at hh
  have ha := dir_asc (right := right) (grp_asc h0 (lev : Int) frm.word)
  rw [e1] at ha
  have hxB := (List.pairwise_cons.1 (List.pairwise_append.1 ha).2.1).1
  cases B with
  | nil => cases hh
  | cons z B =>
    rw [nextW_cons] at hh
    split at hh
    · rename_i hwin
      cases hh
      refine ⟨P ++ [x], A, Q ++ [y], B, by rw [e1]; simp, by rw [e2]; simp, by simp, ?_, fun z hz => h4 z (by simp [hz]), ?_⟩
      · intro z hz
        rcases List.mem_append.1 hz with h | h
        · exact h3 z h
        · have : z = y := by simpa using h
          rw [this]
          exact h4 y (by simp) hwin
      · have hxy := hxB y (by simp)
        rcases h5 with rfl | h5
        · exact .inr hxy
        · exact .inr (dlt_trans h5 hxy)
    · cases hh
theorem sameN_le {a b : Nat} {h k : Int} (hs : sameN a b h = true) (hk : k ≤ h) : sameN a b k = true := by
  unfold sameN at *
  simp only [decide_eq_true_eq] at *
  omega
theorem CntSt.down (h0 : checkN N = 0) (hw : ∀ x ∈ N, x.word < 4294967296) {frm : Nd} (hf : frm ∈ N) {lev : Nat} (hl : lev + 1 ≤ 16) {x : Nd} {q : Nat} (h : CntSt N key right frm (lev + 1) x q) (hL : atL L x.id (lev + 1 : Nat) = (neighN N x.id (lev + 1 : Nat)).1) (hh : hopN N L key right x (lev + 1) = none) :
    CntSt N key right frm lev x 0 := by
  have ho := h.own hw hf
  have hm := h.mem
  obtain ⟨P, A, Q, B, e1, e2, rfl, h3, h4, h5⟩ := h
  rw [hop_exact h0 hl hm.1 hL (by rw [ho]; exact e1)] at hh
  have ha := dir_asc (right := right) (grp_asc h0 ((lev + 1 : Nat) : Int) frm.word)
  rw [e1] at ha
  have ha2 := List.pairwise_append.1 ha
  have hxm : x ∈ dirL right (grpS N (lev : Int) frm.word) := dir_mem.2 (grp_mem.2 ⟨hm.1, sameN_le hm.2 (by omega)⟩)
  obtain ⟨P2, B2, f1⟩ := List.append_of_mem hxm
  have hb := dir_asc (right := right) (grp_asc h0 (lev : Int) frm.word)
  rw [f1] at hb
  have hb2 := (List.pairwise_cons.1 (List.pairwise_append.1 hb).2.1).1
  refine ⟨P2, P2 ++ [x], [], B2, f1, by simp, rfl, by simp, fun z hz hwz => ?_, h5⟩
  have hxz := hb2 z hz
  have hzN : z ∈ N := (grp_mem.1 (dir_mem.1 (by rw [f1]; simp [hz]))).1
  cases hbr : brkN frm lev z with
  | false => rfl
  | true =>
    exfalso
    unfold brkN at hbr
    rcases Bool.or_eq_true_iff.1 hbr with h | h
    · have hid : z.id = frm.id := by simpa using h
      have hz2 : z = frm := ids_eq (check_keys h0) hzN hf hid
      rw [hz2] at hxz
      rcases h5 with rfl | h5
      · rw [dlt_irrefl] at hxz; cases hxz
      · have := dlt_trans h5 hxz
        rw [dlt_irrefl] at this; cases this
    · have hzG : z ∈ dirL right (grpS N ((lev + 1 : Nat) : Int) frm.word) := dir_mem.2 (grp_mem.2 ⟨hzN, sameN_symm (by rw [show ((lev + 1 : Nat) : Int) = (lev : Int) + 1 by omega]; exact h)⟩)
      rw [e1] at hzG
      have hzB : z ∈ B := by
        rcases List.mem_append.1 hzG with h | h
        · have := ha2.2.2 z h x (by simp)
          have := dlt_trans this hxz
          rw [dlt_irrefl] at this; cases this
        · rcases List.mem_cons.1 h with h | h
          · rw [h, dlt_irrefl] at hxz; cases hxz
          · exact h
      cases B with
      | nil => cases hzB
      | cons y B =>
        rw [nextW_cons] at hh
        split at hh
        · cases hh
        · rename_i hwn
          rcases List.mem_cons.1 hzB with h | h
          · rw [h] at hwz; exact hwn hwz
          · exact hwn (win_down ((List.pairwise_cons.1 (List.pairwise_cons.1 ha2.2.1).2).1 z h) hwz)
end
end Go.Proofs.YtbnbjiddffihoaaGreatDoor

/- What the statements of chapters 17 and 18 say, in plain Lean. -/
namespace Go.Proofs.YtbnbjiddffihoaaGreatDoor
open Go.RowKit

section
variable {N : List Nd}
theorem pair_congr {own nb : Int} {lev : Nat} {z1 o1 z2 o2 : Int} (h : (findN N nb).2 = true → z1 = z2 ∧ o1 = o2) : pairB N own nb lev z1 o1 = pairB N own nb lev z2 o2 := by
  unfold pairB
  split
  · rename_i hf
    rw [(h hf).1, (h hf).2]
  · rfl
theorem step_congr {st st' : Int → Pr} (h : ∀ x ∈ N, st x.id = st' x.id) (p : Pr) (i : Nat) : stepB N st p i = stepB N st' p i := by
  have hf : ∀ nb, (findN N nb).2 = true → st nb = st' nb := fun nb hb => by
    obtain ⟨m1, m2⟩ := findN_mem hb
    have := h _ m1
    rwa [m2] at this
  have e1 := pair_congr (N := N) (own := p.id) (nb := (linkB N p i).1) (lev := i) (z1 := (nearAt (st (linkB N p i).1) i).1) (o1 := (nearAt (st (linkB N p i).1) i).2.1) (z2 := (nearAt (st' (linkB N p i).1) i).1) (o2 := (nearAt (st' (linkB N p i).1) i).2.1)
    (fun hb => by rw [hf _ hb]; exact ⟨rfl, rfl⟩)
  have e2 := pair_congr (N := N) (own := p.id) (nb := (linkB N p i).2) (lev := i) (z1 := (nearAt (st (linkB N p i).2) i).2.2.1) (o1 := (nearAt (st (linkB N p i).2) i).2.2.2) (z2 := (nearAt (st' (linkB N p i).2) i).2.2.1) (o2 := (nearAt (st' (linkB N p i).2) i).2.2.2)
    (fun hb => by rw [hf _ hb]; exact ⟨rfl, rfl⟩)
  unfold stepB
  rw [e1, e2]
theorem next_congr {st st' : Int → Pr} (h : ∀ x ∈ N, st x.id = st' x.id) (p : Pr) (k : Nat) : nextB N st p k = nextB N st' p k := by
  unfold nextB
  exact List.map_congr_left fun i _ => step_congr h p i
theorem broundN_map {P : List Pr} (h0 : checkN N = 0) {h : Nat} (hh : h ≤ 16) : bRoundN N P (h : Int) = (sortN N).map fun x => { peerN P x.id with near := nextB N (peerN P) (peerN P x.id) h } := by
  unfold bRoundN
  rw [if_pos (by unfold lvlN; simp; omega)]
  have hc : ∀ p, nextB N (peerN (normalN N P)) p h = nextB N (peerN P) p h := fun p => next_congr (fun x hx => normal_peer h0 hx) p h
  simp only [show ((h : Int)).toNat = h by omega, hc]
  unfold normalN
  rw [if_pos h0, List.map_map]
  rfl
/-- at level 0 -/
theorem right_zero (h0 : checkN N = 0) {P : List Pr} (he : exactL N P) : RightB N (peerN P) 0 := by
  intro x hx
  have hpid := peer_id P x.id
  obtain ⟨A, B, e⟩ := grp_at hx (h := ((0 : Nat) : Int)) rfl
  obtain ⟨hA, hB⟩ := grp_parts h0 e
  have hn := neigh_split h0 hx (h := ((0 : Nat) : Int)) rfl e
  have hx2 := he.2 x hx
  rw [hn] at hx2 ⊢
  simp only [Prod.mk.injEq] at hx2
  unfold linkB
  rw [hpid, find_in h0 hx, if_pos ⟨rfl, h0, rfl, by omega⟩, if_pos (show ((0 : Nat) : Int) = 0 from rfl)]
  simp only
  rw [hx2.1, hx2.2, other_last h0 hA, other_head h0 hB]
/-- all levels right: the links are those of the unique skip graph -/
theorem links_build (h0 : checkN N = 0) {h : Nat} (hh : h ≤ 16) {P : List Pr} (hR : ∀ i, i ≤ h → RightB N (peerN P) i) : linksB N P (h : Int) = (buildN N (h : Int)).1 := by
  unfold linksB buildN normalN
  have hlv : lvlN (h : Int) = true := by unfold lvlN; simp; omega
  rw [if_pos hlv, if_pos h0, if_neg (show ¬ (checkN N == 0) = false by rw [h0]; simp), if_neg (show ¬ lvlN (h : Int) = false by rw [hlv]; simp), List.map_map]
  refine List.map_congr_left fun x hx => ?_
  have hxN := (sortN_mem N x).1 hx
  have h0s : checkN (sortN N) = 0 := check_perm (sortN_perm N) h0
  show ((peerN P x.id).id, _) = rowN (sortN N) _ x
  unfold rowN
  rw [peer_id, show ((h : Int)).toNat = h by omega]
  congr 1
  refine List.map_congr_left fun i hi => ?_
  have hi : i < h + 1 := by simpa using hi
  rw [hR i (by omega) x hxN]
  have hlv : lvlN (i : Int) = true := by unfold lvlN; simp; omega
  obtain ⟨A, B, e⟩ := grp_at hxN hlv
  have es : grpS (sortN N) i x.word = A ++ x :: B := by
    unfold grpS at e ⊢
    rw [sort_perm (sortN_perm N) h0]; exact e
  rw [neigh_split h0 hxN hlv e, neigh_split h0s hx hlv es]
theorem exact_yes (h0 : checkN N = 0) {h : Nat} (hh : h ≤ 16) {P : List Pr} (hR : ∀ i, i ≤ h → RightB N (peerN P) i) : exactB N P (h : Int) = true := by
  unfold exactB
  rw [links_build h0 hh hR, (build_ok0 h0 hh).1]
  simp
/-- the nearest nodes on both sides of a node, as they are -/
def nearG (N : List Nd) (x : Nd) (i : Nat) : Nr :=
  (lastI (((grpS N i x.word).takeWhile fun y => !(y.id == x.id)).filter (bitIs i 0)), lastI (((grpS N i x.word).takeWhile fun y => !(y.id == x.id)).filter (bitIs i 1)),
   headI ((((grpS N i x.word).dropWhile fun y => !(y.id == x.id)).drop 1).filter (bitIs i 0)), headI ((((grpS N i x.word).dropWhile fun y => !(y.id == x.id)).drop 1).filter (bitIs i 1)))
theorem nearG_at (h0 : checkN N = 0) {x : Nd} {i : Nat} {A B : List Nd} (e : grpS N i x.word = A ++ x :: B) : nearG N x i = (lastI (A.filter (bitIs i 0)), lastI (A.filter (bitIs i 1)), headI (B.filter (bitIs i 0)), headI (B.filter (bitIs i 1))) := by
  obtain ⟨hA, _⟩ := grp_parts h0 e
  have h1 : (A ++ x :: B).takeWhile (fun y => !(y.id == x.id)) = A := by
    rw [List.takeWhile_append_of_pos (fun y hy => by simpa using (hA y hy).2), List.takeWhile_cons_of_neg (by simp), List.append_nil]
  have h2 : (A ++ x :: B).dropWhile (fun y => !(y.id == x.id)) = x :: B := by
    rw [List.dropWhile_append_of_pos (fun y hy => by simpa using (hA y hy).2), List.dropWhile_cons_of_neg (by simp)]
  unfold nearG
  rw [e, h1, h2]
  rfl
/-- a network that knows the unique skip graph -/
def Full (N : List Nd) (P : List Pr) (h : Nat) : Prop := exactL N P ∧ ∀ x ∈ N, (peerN P x.id).near = (List.range h).map (nearG N x)
end
end Go.Proofs.YtbnbjiddffihoaaGreatDoor

/- Components by labels, in plain Lean. -/
namespace Go.Proofs.YtbnbjiddffihoaaGreatDoor
open Go.RowKit

namespace Lab
/-- one pair of places is joined -/
def joinL (lab : List Nat) (i j : Nat) : List Nat := (lab.set i (min (lab.getD i 0) (lab.getD j 0))).set j (min (lab.getD i 0) (lab.getD j 0))
def stepL (ids : List Int) (lab : List Nat) (q : Int × Int) : List Nat := match ids.findIdx? (· == q.1), ids.findIdx? (· == q.2) with
  | some i, some j => joinL lab i j
  | _, _ => lab
def sweepL (ids : List Int) (E : List (Int × Int)) (lab : List Nat) : List Nat := E.foldl (stepL ids) lab
def labsL (ids : List Int) (E : List (Int × Int)) : Nat → List Nat
  | 0 => List.range ids.length
  | t + 1 => sweepL ids E (labsL ids E t)
/-- two places are joined by a pair -/
def Ed (ids : List Int) (E : List (Int × Int)) (i j : Nat) : Prop := ∃ q ∈ E, ids.findIdx? (· == q.1) = some i ∧ ids.findIdx? (· == q.2) = some j
inductive Cn (ids : List Int) (E : List (Int × Int)) : Nat → Nat → Prop
  | refl (i : Nat) : Cn ids E i i
  | step {i j k : Nat} : Ed ids E i j ∨ Ed ids E j i → Cn ids E j k → Cn ids E i k
variable {ids : List Int} {E : List (Int × Int)}
theorem Cn.trans {i j k : Nat} (h : Cn ids E i j) (g : Cn ids E j k) : Cn ids E i k := by
  induction h with
  | refl _ => exact g
  | step h1 _ ih => exact .step h1 (ih g)
theorem Cn.one {i j : Nat} (h : Ed ids E i j ∨ Ed ids E j i) : Cn ids E i j := .step h (.refl j)
theorem Cn.symm {i j : Nat} (h : Cn ids E i j) : Cn ids E j i := by
  induction h with
  | refl _ => exact .refl _
  | step h1 _ ih => exact ih.trans (.one h1.symm)
theorem ed_lt {i j : Nat} (h : Ed ids E i j) : i < ids.length ∧ j < ids.length := by
  obtain ⟨q, _, h1, h2⟩ := h
  exact ⟨(List.findIdx?_eq_some_iff_getElem.1 h1).1, (List.findIdx?_eq_some_iff_getElem.1 h2).1⟩
theorem set_getD (l : List Nat) (i x k : Nat) (h : i < l.length) : (l.set i x).getD k 0 = if k = i then x else l.getD k 0 := by
  rw [List.getD_eq_getElem?_getD, List.getD_eq_getElem?_getD]
  by_cases hk : k = i
  · subst hk; rw [if_pos rfl, List.getElem?_set_self h]; rfl
  · rw [if_neg hk, List.getElem?_set_ne (Ne.symm hk)]
theorem join_getD (lab : List Nat) (i j k : Nat) (hi : i < lab.length) (hj : j < lab.length) : (joinL lab i j).getD k 0 = if k = i ∨ k = j then min (lab.getD i 0) (lab.getD j 0) else lab.getD k 0 := by
  unfold joinL
  rw [set_getD _ _ _ _ (by simp; exact hj), set_getD _ _ _ _ hi]
  by_cases h1 : k = j
  · rw [if_pos h1, if_pos (.inr h1)]
  · rw [if_neg h1]
    by_cases h2 : k = i
    · rw [if_pos h2, if_pos (.inl h2)]
    · rw [if_neg h2, if_neg (by rintro (h | h); exact h2 h; exact h1 h)]
theorem join_len (lab : List Nat) (i j : Nat) : (joinL lab i j).length = lab.length := by unfold joinL; simp
/-- labels of a list: places of the same component, not above -/
def Okl (ids : List Int) (E : List (Int × Int)) (lab : List Nat) : Prop := lab.length = ids.length ∧ ∀ i, i < ids.length → lab.getD i 0 ≤ i ∧ Cn ids E i (lab.getD i 0)
/-- labels fall -/
def Lel (a b : List Nat) : Prop := ∀ i, b.getD i 0 ≤ a.getD i 0
theorem stepl_ok {lab : List Nat} (h : Okl ids E lab) {q : Int × Int} (hq : q ∈ E) : Okl ids E (stepL ids lab q) ∧ Lel lab (stepL ids lab q) := by
  unfold stepL
  cases h1 : ids.findIdx? (· == q.1) with
  | none => exact ⟨h, fun i => Nat.le_refl _⟩
  | some i =>
    cases h2 : ids.findIdx? (· == q.2) with
    | none => exact ⟨h, fun i => Nat.le_refl _⟩
    | some j =>
      simp only
      have he : Ed ids E i j := ⟨q, hq, h1, h2⟩
      obtain ⟨hi, hj⟩ := ed_lt he
      have li : i < lab.length := by rw [h.1]; exact hi
      have lj : j < lab.length := by rw [h.1]; exact hj
      have ci := h.2 i hi
      have cj := h.2 j hj
      have hij : Cn ids E i j := .one (.inl he)
      refine ⟨⟨by rw [join_len]; exact h.1, fun k hk => ?_⟩, fun k => ?_⟩
      · rw [join_getD lab i j k li lj]
        by_cases hkk : k = i ∨ k = j
        · rw [if_pos hkk]
          rcases hkk with rfl | rfl
          · refine ⟨by omega, ?_⟩
            rcases Nat.le_total (lab.getD k 0) (lab.getD j 0) with h | h
            · rw [Nat.min_eq_left h]; exact ci.2
            · rw [Nat.min_eq_right h]; exact hij.trans cj.2
          · refine ⟨by omega, ?_⟩
            rcases Nat.le_total (lab.getD i 0) (lab.getD k 0) with h | h
            · rw [Nat.min_eq_left h]; exact hij.symm.trans ci.2
            · rw [Nat.min_eq_right h]; exact cj.2
        · rw [if_neg hkk]; exact h.2 k hk
      · rw [join_getD lab i j k li lj]
        by_cases hkk : k = i ∨ k = j
        · rw [if_pos hkk]
          rcases hkk with rfl | rfl <;> omega
        · rw [if_neg hkk]; exact Nat.le_refl _
theorem fold_ok : ∀ (F : List (Int × Int)) (lab : List Nat), (∀ q ∈ F, q ∈ E) → Okl ids E lab → Okl ids E (F.foldl (stepL ids) lab) ∧ Lel lab (F.foldl (stepL ids) lab)
  | [], lab, _, h => ⟨h, fun _ => Nat.le_refl _⟩
  | q :: F, lab, hF, h => by
    obtain ⟨h1, h2⟩ := stepl_ok h (hF q (by simp))
    obtain ⟨h3, h4⟩ := fold_ok F _ (fun r hr => hF r (by simp [hr])) h1
    exact ⟨h3, fun i => Nat.le_trans (h4 i) (h2 i)⟩
theorem labs_ok : ∀ t, Okl ids E (labsL ids E t)
  | 0 => ⟨by simp [labsL], fun i hi => by
      have : (labsL ids E 0).getD i 0 = i := by unfold labsL; rw [List.getD_eq_getElem?_getD, List.getElem?_range hi]; rfl
      rw [this]
      exact ⟨Nat.le_refl _, .refl _⟩⟩
  | t + 1 => (fold_ok E _ (fun _ h => h) (labs_ok t)).1
theorem labs_le (t : Nat) : Lel (labsL ids E t) (labsL ids E (t + 1)) := (fold_ok E _ (fun _ h => h) (labs_ok t)).2
/-- an edge carries the least label over -/
theorem carry {c : Nat} : ∀ (F : List (Int × Int)) (lab : List Nat), (∀ q ∈ F, q ∈ E) → Okl ids E lab → ∀ {q : Int × Int} {i j : Nat}, q ∈ F → ids.findIdx? (· == q.1) = some i → ids.findIdx? (· == q.2) = some j →
    (lab.getD i 0 ≤ c ∨ lab.getD j 0 ≤ c) → (F.foldl (stepL ids) lab).getD i 0 ≤ c ∧ (F.foldl (stepL ids) lab).getD j 0 ≤ c
  | [], _, _, _, _, _, _, hq, _, _, _ => by cases hq
  | r :: F, lab, hF, h, q, i, j, hq, h1, h2, hc => by
    have ho := stepl_ok h (hF r (by simp))
    have hl := (fold_ok F _ (fun r hr => hF r (by simp [hr])) ho.1).2
    show (F.foldl (stepL ids) (stepL ids lab r)).getD i 0 ≤ c ∧ (F.foldl (stepL ids) (stepL ids lab r)).getD j 0 ≤ c
    rcases List.mem_cons.1 hq with rfl | hq
    · have he : Ed ids E i j := ⟨q, hF q (by simp), h1, h2⟩
      obtain ⟨hi, hj⟩ := ed_lt he
      have li : i < lab.length := by rw [h.1]; exact hi
      have lj : j < lab.length := by rw [h.1]; exact hj
      have e : stepL ids lab q = joinL lab i j := by unfold stepL; rw [h1, h2]
      have gi : (stepL ids lab q).getD i 0 ≤ c := by rw [e, join_getD lab i j i li lj, if_pos (.inl rfl)]; omega
      have gj : (stepL ids lab q).getD j 0 ≤ c := by rw [e, join_getD lab i j j li lj, if_pos (.inr rfl)]; omega
      exact ⟨Nat.le_trans (hl i) gi, Nat.le_trans (hl j) gj⟩
    · refine carry F _ (fun r hr => hF r (by simp [hr])) ho.1 hq h1 h2 ?_
      rcases hc with hc | hc
      · exact .inl (Nat.le_trans (ho.2 i) hc)
      · exact .inr (Nat.le_trans (ho.2 j) hc)
theorem carry_labs {c t i j : Nat} (he : Ed ids E i j ∨ Ed ids E j i) (hc : (labsL ids E t).getD i 0 ≤ c) : (labsL ids E (t + 1)).getD j 0 ≤ c := by
  rcases he with ⟨q, hq, h1, h2⟩ | ⟨q, hq, h1, h2⟩
  · exact (carry E _ (fun _ h => h) (labs_ok t) hq h1 h2 (.inl hc)).2
  · exact (carry E _ (fun _ h => h) (labs_ok t) hq h1 h2 (.inr hc)).1
/-- somewhere a label that is too great lies beside one that is not -/
theorem border {P : Nat → Prop} (hdec : ∀ i, P i ∨ ¬ P i) {i j : Nat} (h : Cn ids E i j) : P i → ¬ P j → ∃ u v, (Ed ids E u v ∨ Ed ids E v u) ∧ P u ∧ ¬ P v ∧ Cn ids E i v := by
  induction h with
  | refl _ => intro h1 h2; exact absurd h1 h2
  | step h1 g ih =>
    rename_i i k j
    intro hi hj
    rcases hdec k with hk | hk
    · obtain ⟨u, v, h2, h3, h4, h5⟩ := ih hk hj
      exact ⟨u, v, h2, h3, h4, (Cn.one h1).trans h5⟩
    · exact ⟨i, k, h1, hi, hk, .one h1⟩
/-- after as many sweeps as there are places all of a component bear its least place -/
theorem conv {c : Nat} (hc : c < ids.length) {j : Nat} (hj : j < ids.length) (h : Cn ids E c j) : (labsL ids E ids.length).getD j 0 ≤ c := by
  -- the number of places that bear c or less grows until all of the component do
  have grow : ∀ t, (∀ j, j < ids.length → Cn ids E c j → (labsL ids E t).getD j 0 ≤ c) ∨ t + 1 ≤ ((List.range ids.length).countP fun i => decide ((labsL ids E t).getD i 0 ≤ c)) := by
    intro t
    induction t with
    | zero =>
      right
      refine List.countP_pos_iff.2 ⟨c, by simpa using hc, ?_⟩
      have := ((labs_ok (ids := ids) (E := E) 0).2 c hc).1
      simpa using this
    | succ t ih =>
      rcases ih with h | h
      · left
        intro j hj hcj
        exact Nat.le_trans (labs_le t j) (h j hj hcj)
      · by_cases hall : ∀ j, j < ids.length → Cn ids E c j → (labsL ids E t).getD j 0 ≤ c
        · left
          intro j hj hcj
          exact Nat.le_trans (labs_le t j) (hall j hj hcj)
        · right
          have hex : ∃ j, j < ids.length ∧ Cn ids E c j ∧ ¬ (labsL ids E t).getD j 0 ≤ c := by
            apply Classical.byContradiction
            intro hno
            exact hall fun j hj hcj => Classical.byContradiction fun hn => hno ⟨j, hj, hcj, hn⟩
          obtain ⟨j, hj, hcj, hn⟩ := hex
          obtain ⟨u, v, he, hu, hv, _⟩ := border (P := fun i => (labsL ids E t).getD i 0 ≤ c) (fun i => Classical.em _) hcj ((labs_ok (ids := ids) (E := E) t).2 c hc).1 hn
          have hvl : v < ids.length := by rcases he with h | h; exact (ed_lt h).2; exact (ed_lt h).1
          have := carry_labs he hu
          have hlt : ((List.range ids.length).countP fun i => decide ((labsL ids E t).getD i 0 ≤ c)) < ((List.range ids.length).countP fun i => decide ((labsL ids E (t + 1)).getD i 0 ≤ c)) :=
            count_lt (y := v) (by simpa using hvl) (fun z hz => by simp only [decide_eq_true_eq] at hz ⊢; exact Nat.le_trans (labs_le t z) hz) (by simpa using this) (by simpa using hv)
          omega
  rcases grow ids.length with g | g
  · exact g j hj h
  · have : ((List.range ids.length).countP fun i => decide ((labsL ids E ids.length).getD i 0 ≤ c)) ≤ (List.range ids.length).length := List.countP_le_length
    rw [List.length_range] at this
    omega
end Lab
end Go.Proofs.YtbnbjiddffihoaaGreatDoor

/- What connects the nodes, by labels; in plain Lean. -/
namespace Go.Proofs.YtbnbjiddffihoaaGreatDoor
open Go.RowKit

section
variable {N : List Nd} {E : List (Int × Int)}
end
end Go.Proofs.YtbnbjiddffihoaaGreatDoor

/- Without of the package roster: slices.Index, Contains, DeleteFunc. -/
namespace Go.Proofs.YtbnbjiddffihoaaGreatDoor
open Go.RowKit

end Go.Proofs.YtbnbjiddffihoaaGreatDoor

/- Contacts, gaps and the peers that know them, in plain Lean. -/
namespace Go.Proofs.YtbnbjiddffihoaaGreatDoor
open Go.RowKit

/-- the numbers of the nodes of a list at most m places from place k -/
def besideN (g : List Nd) (k : Nat) (m : Int) : List Int := (g.zipIdx.filter fun q => decide (q.2 ≠ k) && decide ((q.2 : Int) - k ≤ m) && decide ((k : Int) - q.2 ≤ m)).map fun q => q.1.id
def contactsN (N : List Nd) (id width height : Int) : List Int :=
  if width < 1 ∨ lvlN height = false ∨ checkN N ≠ 0 then [] else ordN N ((List.range (height.toNat + 1)).flatMap fun (h : Nat) => besideN (throughN N id h).1 (throughN N id h).2.1 width) id
def peerC (N : List Nd) (width height : Int) (x : Nd) : Pr :=
  ⟨x.id, (neighN (sortN N) x.id 0).1.1, (neighN (sortN N) x.id 0).1.2, contactsN (sortN N) x.id width height, (List.range height.toNat).map (nearG (sortN N) x)⟩
def peersN (N : List Nd) (width height : Int) : List Pr := if checkN N = 0 ∧ lvlN height = true then (sortN N).map (peerC N width height) else []
theorem mem_beside {g : List Nd} {k : Nat} {m v : Int} : v ∈ besideN g k m ↔ ∃ j y, g[j]? = some y ∧ j ≠ k ∧ (j : Int) - k ≤ m ∧ (k : Int) - j ≤ m ∧ y.id = v := by
  unfold besideN
  rw [List.mem_map]
  constructor
  · rintro ⟨⟨y, j⟩, h1, rfl⟩
    obtain ⟨h2, h3⟩ := List.mem_filter.1 h1
    have h4 := List.mem_zipIdx_iff_getElem?.1 h2
    simp only [Bool.and_eq_true, decide_eq_true_eq] at h3
    exact ⟨j, y, h4, h3.1.1, h3.1.2, h3.2, rfl⟩
  · rintro ⟨j, y, h1, h2, h3, h4, rfl⟩
    refine ⟨(y, j), List.mem_filter.2 ⟨List.mem_zipIdx_iff_getElem?.2 h1, ?_⟩, rfl⟩
    simp only [Bool.and_eq_true, decide_eq_true_eq]
    exact ⟨⟨h2, h3⟩, h4⟩
theorem beside_len (g : List Nd) (k : Nat) (m : Nat) : (besideN g k m).length ≤ 2 * m := by
  have key : ∀ (g : List Nd) (s : Nat), ((g.zipIdx s).filter fun q => decide (q.2 ≠ k) && decide ((q.2 : Int) - k ≤ (m : Int)) && decide ((k : Int) - q.2 ≤ (m : Int))).length ≤ (if s ≤ k then min m (k - s) + m else k + m + 1 - s) := by
    intro g
    induction g with
    | nil => intro s; simp
    | cons x g ih =>
      intro s
      have := ih (s + 1)
      rw [List.zipIdx_cons, List.filter_cons]
      by_cases hc : s ≠ k ∧ (s : Int) - k ≤ (m : Int) ∧ (k : Int) - s ≤ (m : Int)
      · rw [if_pos (by simp only [Bool.and_eq_true, decide_eq_true_eq]; exact ⟨⟨hc.1, hc.2.1⟩, hc.2.2⟩), List.length_cons]
        obtain ⟨h1, h2, h3⟩ := hc
        split at this <;> split <;> omega
      · rw [if_neg (by simp only [Bool.and_eq_true, decide_eq_true_eq]; exact fun h => hc ⟨h.1.1, h.1.2, h.2⟩)]
        split at this <;> split <;> omega
  have := key g 0
  unfold besideN
  rw [List.length_map]
  simp only [Nat.zero_le, if_true] at this
  omega
section
variable {N : List Nd}
theorem thr_at (h0 : checkN N = 0) {x : Nd} (hx : x ∈ N) {h : Nat} (hh : h ≤ 16) : throughN N x.id h = (grpS N h x.word, idxI (grpS N h x.word) x.id, true) ∧ (grpS N h x.word)[idxI (grpS N h x.word) x.id]? = some x := by
  have hf := find_in h0 hx
  have hG : thrG N x.id h = grpS N h x.word := by unfold thrG; rw [hf]; rfl
  obtain ⟨A, B, e⟩ := grp_at hx (h := (h : Int)) (by unfold lvlN; simp; omega)
  have hi : idxI (grpS N h x.word) x.id = A.length := by
    have ha := grp_asc h0 (h : Int) x.word
    rw [e] at ha ⊢
    exact idxI_at ha (i := A.length) (x := x) (by simp)
  have hat : (grpS N h x.word)[idxI (grpS N h x.word) x.id]? = some x := by rw [hi, e]; simp
  refine ⟨?_, hat⟩
  unfold throughN
  rw [hG, if_pos ⟨by rw [hf], by rw [h0]; rfl, by unfold lvlN; simp; omega, (List.getElem?_eq_some_iff.1 hat).1⟩]
theorem thr_no {id : Int} (h : ∀ x ∈ N, x.id ≠ id) (l : Int) : throughN N id l = ([], 0, false) := by
  unfold throughN
  rw [if_neg]
  rintro ⟨h1, _⟩
  rw [findN_none fun j z _ hz => h z (List.mem_of_getElem? hz)] at h1
  cases h1
/-- who is a contact -/
def Near (N : List Nd) (x y : Nd) (w : Int) (h : Nat) : Prop := ∃ i k j : Nat, i ≤ h ∧ (grpS N (i : Int) x.word)[k]? = some x ∧ (grpS N (i : Int) x.word)[j]? = some y ∧ j ≠ k ∧ (j : Int) - k ≤ w ∧ (k : Int) - j ≤ w
theorem grp_uniq (h0 : checkN N = 0) {i : Int} {v k j : Nat} {x y : Nd} (hk : (grpS N i v)[k]? = some x) (hj : (grpS N i v)[j]? = some y) (he : x.id = y.id) : k = j := by
  have := idxI_at (grp_asc h0 i v) hk
  have := idxI_at (grp_asc h0 i v) hj
  rw [he] at *
  omega
theorem contacts_len (h0 : checkN N = 0) (id : Int) (w : Nat) {h : Nat} : (contactsN N id w h).length ≤ 2 * w * (h + 1) := by
  unfold contactsN
  split
  · simp
  · have h1 : ∀ (S : List Nd) (l : List Int), (S.Pairwise fun x y => x.id ≠ y.id) → (S.filter fun x => !(x.id == id) && l.contains x.id).length ≤ l.length := by
      intro S
      induction S with
      | nil => intro l _; simp
      | cons x S ih =>
        intro l hp
        rw [List.pairwise_cons] at hp
        rw [List.filter_cons]
        split
        · rename_i hc
          simp only [Bool.and_eq_true, List.contains_iff_mem] at hc
          have h2 := ih (l.erase x.id) hp.2
          have h3 : (S.filter fun y => !(y.id == id) && l.contains y.id) = S.filter fun y => !(y.id == id) && (l.erase x.id).contains y.id := by
            refine List.filter_congr fun y hy => ?_
            have := hp.1 y hy
            rw [Bool.eq_iff_iff]
            simp only [Bool.and_eq_true, List.contains_iff_mem]
            rw [List.mem_erase_of_ne (fun h => this h.symm)]
          rw [h3, List.length_cons]
          have h4 := List.length_erase_of_mem hc.2
          have h5 := List.length_pos_of_mem hc.2
          omega
        · exact ih l hp.2
    have h2 : ∀ (L : List Nat), (L.flatMap fun (h : Nat) => besideN (throughN N id h).1 (throughN N id h).2.1 (w : Int)).length ≤ 2 * w * L.length := by
      intro L
      induction L with
      | nil => simp
      | cons a L ih =>
        have := beside_len (throughN N id a).1 (throughN N id a).2.1 w
        rw [List.flatMap_cons, List.length_append, List.length_cons, Nat.mul_succ]
        omega
    have h3 := h2 (List.range ((h : Int).toNat + 1))
    rw [List.length_range, Int.toNat_natCast] at h3
    unfold ordN
    rw [List.length_map]
    exact Nat.le_trans (h1 _ _ (sort_ids h0)) (by simpa using h3)
theorem contacts_sort (h0 : checkN N = 0) (id w h : Int) : contactsN (sortN N) id w h = contactsN N id w h := by
  have hs : sortN (sortN N) = sortN N := sort_perm (sortN_perm N) h0
  have hc : checkN (sortN N) = checkN N := by rw [check_perm (sortN_perm N) h0, h0]
  have ht : ∀ (i : Nat), throughN (sortN N) id i = throughN N id i := by
    intro i
    by_cases hx : ∃ x ∈ N, x.id = id
    · obtain ⟨x, hx, rfl⟩ := hx
      unfold throughN thrG
      rw [find_in h0 hx, find_in (hc.trans h0) ((sortN_mem N x).2 hx), hs, hc]
    · rw [thr_no (fun x hx' he => hx ⟨x, hx', he⟩), thr_no (fun x hx' he => hx ⟨x, (sortN_mem N x).1 hx', he⟩)]
  unfold contactsN ordN
  simp only [ht, hs, hc]
end
end Go.Proofs.YtbnbjiddffihoaaGreatDoor
