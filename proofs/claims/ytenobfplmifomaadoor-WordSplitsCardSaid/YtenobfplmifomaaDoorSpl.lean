/- The walk over WordSplits. -/
import Derived.Test.YtenobfplmifomaaDoorSplP
import Derived.Test.YtenobfplmifomaaDoorWordGr
namespace Go.Proofs.YtenobfplmifomaaDoor
open Go.RowKit

theorem sum_take_succ (l : List Nat) (k u : Nat) (h : l[k]? = some u) : (l.take (k + 1)).sum = (l.take k).sum + u := by
  rw [List.take_add_one, h]; simp
theorem sum_take_le (l : List Nat) (k : Nat) : (l.take k).sum ≤ l.sum := by
  conv => rhs; rw [← List.take_append_drop k l]
  rw [List.sum_append]; omega
def SpRel (C : List (List Nd)) (m : Nat) (w : World) (n p i : Value) (wr : World) : Prop :=
  ∃ k : Nat, k ≤ C.length ∧ i = .int .i64 k ∧ n = .int .i64 ((C.map List.length).take k).sum ∧ p = .int .i64 ((C.map (partC m)).take k).sum ∧ Ex w wr
def OnRel (c : List Nd) (m : Nat) (w : World) (s j : Value) (wr : World) : Prop :=
  ∃ k : Nat, k ≤ c.length ∧ j = .int .i64 k ∧ s = .int .i64 ((c.map fun y => bitN y.word m).take k).sum ∧ Ex w wr
theorem bit_pE (a : Nat) (i : Int) (w : World) (ha : a < 4294967296) (hi1 : -9223372036854775808 ≤ i) (hi2 : i ≤ 9223372036854775807) :
    Calls Tryd.prog 13 #[.int .u32 a, .int .i64 i] w fun e w' => e = .returned (.int .i64 (bitN a i)) ∧ Ex w w' :=
  (bit_p a i w ha hi1 hi2).mono fun _ _ h => ⟨h.1, by rw [← h.2]; exact Ex.refl _⟩
theorem partC_le (m : Nat) (c : List Nd) : partC m c ≤ 2 := by unfold partC; split <;> split <;> omega

set_option maxRecDepth 100000 in
set_option maxHeartbeats 4000000 in
theorem wordsplits_walk (a1 : Option Addr) (n1 c1 : Nat) (l1 : List Int) (lev : Int) (w : World) (h1 : Sl 1 encI w a1 n1 l1) (hc1 : n1 ≤ c1) (hm1 : c1 ≤ maxLen)
    (hlev : -9223372036854775808 ≤ lev ∧ lev ≤ 9223372036854775807) (hT : TabG w) (hL : LetG w) :
    Calls Tryd.prog 7 #[.slice a1 n1 c1, .int .i64 lev] w fun e w' => e = .returned (.bool true) ∧ Ex w w' := by
  go_enter Tryd.func7, Tryd.ntmps7
  go_wp2_with fail
  refine (new_t _ _ _ l1 _ h1 hc1 hm1).mono ?_
  rintro e w1 ⟨rfl, T, kk, z1⟩
  obtain ⟨b, hb⟩ : ∃ b, b = w.heap.size := ⟨_, rfl⟩
  rw [← hb] at T ⊢
  have hgt : ¬ 0 = b := by have := hT.lt; omega
  have hgl : ¬ 1 = b := by have := hL.lt; omega
  have T1 := hT.nx kk
  have L1 := hL.nx kk
  have q : Exl b w w1 := ⟨kk, by omega⟩
  clear h1 hT hL kk hb z1
  go_wp2_with fail
  refine (roster_t 10 _ T L1 hgl (by omega) (by omega)).mono ?_
  rintro e w2 ⟨v1, L, rfl, R⟩
  obtain ⟨aX, cX, rfl, SX, _, _, _⟩ := R.own.slf (fun _ => rfl)
  have SX := SX.sl
  have RL := R.len
  have RW := Lib.hid (fun x hx => Nat.lt_trans (R.word x hx) (show 65536 < 4294967296 by omega))
  have QL := q.nxb R.k
  have T2 := T1.nxb hgt R.k
  clear R T L1 q T1
  go_wp2_with fail
  refine (mod_any lev 16 _ (by omega) (by omega)).mono ?_
  rintro e w3 ⟨rfl, rfl⟩
  obtain ⟨m, hm⟩ : ∃ m : Nat, lev % 16 = (m : Int) := ⟨(lev % 16).toNat, by omega⟩
  have hm16 : m < 16 := by omega
  rw [hm]
  clear hm hlev
  obtain ⟨H1, _, H3, H4⟩ := split_law m hm16 L RW.out
  have F1 : Hid (classesN L (m : Int) = foldC (m : Int) L) := Lib.hid (classesN_fold (by omega))
  have F2 : Hid (classesN L ((m : Int) + 1) = foldC ((m : Int) + 1) L) := Lib.hid (classesN_fold (by omega))
  have WC : Hid (∀ c ∈ foldC (m : Int) L, ∀ y ∈ c, y.word < 4294967296) := Lib.hid (fun c hc y hy => RW.out y ((H1.mem c hc).2 y hy).1)
  have H1 := Lib.hid H1
  have H3 := Lib.hid H3
  have H4 := Lib.hid H4
  go_wp2_with fail
  (with_reducible refine (classes_p _ _ _ _ _ _ SX (by omega) RW.out T2).mono ?_)
  rintro e w4 ⟨p4, q4, rfl, C4, kk⟩
  have SX := SX.nx kk
  have T2 := T2.nx kk
  have QL := QL.nx kk
  rw [F1.out] at C4 ⊢
  clear kk
  go_wp2_with fail
  (with_reducible refine (classes_p _ _ _ _ _ _ SX (by omega) RW.out T2).mono ?_)
  rintro e w5 ⟨p5, q5, rfl, C5, kk⟩
  have C4 := C4.nx kk
  have T2 := T2.nx kk
  have QL := Lib.hid (QL.nx kk)
  rw [F2.out] at C5 ⊢
  have C4 := Lib.hid C4
  have T2 := Lib.hid T2
  clear kk C5 SX F1 F2 RW
  generalize foldC (m : Int) L = C at C4 H1 H3 H4 WC ⊢
  generalize foldC ((m : Int) + 1) L = D at H3 ⊢
  go_wp2_with fail
  go_loopw [10, 11, 12] (fun n p i wr => SpRel C m w5 n p i wr) (fun _ _ i _ => C.length - (intOf i).toNat)
  case atStart => exact ⟨0, by omega, rfl, rfl, rfl, Ex.refl _⟩
  case round =>
    obtain ⟨k, hk, rfl, rfl, rfl, kw⟩ := hrel
    obtain ⟨wo, rfl⟩ : ∃ wo : World, wo = wr := ⟨_, rfl⟩
    have HS : ((C.map List.length).take k).sum ≤ 10 := Nat.le_trans (sum_take_le _ _) (by have := H4.out; unfold lensC at this; omega)
    have HP : ((C.map (partC m)).take k).sum ≤ 2 * k := by
      clear H1 H3 H4 WC C4 hk kw HS
      induction C generalizing k with
      | nil => simp
      | cons c r ih =>
        cases k with
        | zero => simp
        | succ k => have := ih k; have := partC_le m c; simp; omega
    have hCL : C.length ≤ 10 := by
      have h4 := H4.out
      have hne := fun c hc => (H1.out.mem c hc).1
      unfold lensC at h4
      clear H1 H3 H4 WC C4 hk kw HS HP
      have : C.length ≤ (C.map List.length).sum := by
        clear h4
        induction C with
        | nil => simp
        | cons c r ih => have := ih (fun d hd => hne d (List.mem_cons_of_mem _ hd)); have := hne c (List.mem_cons_self ..); simp; omega
      omega
    by_cases hlt : k < C.length
    · obtain ⟨x2, o2, b1, m1, d1, c, rfl, hx2, hy2, hc2, r1⟩ := (C4.out.nx kw).at hlt
      have eS := sum_take_succ (C.map List.length) k c.length (by rw [List.getElem?_map, hy2]; rfl)
      have eP := sum_take_succ (C.map (partC m)) k (partC m c) (by rw [List.getElem?_map, hy2]; rfl)
      have hS1 : ((C.map List.length).take (k + 1)).sum ≤ 10 := Nat.le_trans (sum_take_le _ _) (by have := H4.out; unfold lensC at this; omega)
      have ES := Lib.hid eS
      have EP := Lib.hid eP
      rw [eS] at hS1
      generalize ((C.map List.length).take k).sum = sn at HS hS1 ES ⊢
      generalize ((C.map (partC m)).take k).sum = sp at HP EP ⊢
      have hcl := r1.len
      subst hcl
      have hcm := H1.out.mem c (List.mem_of_getElem? hy2)
      have hcw := WC.out c (List.mem_of_getElem? hy2)
      obtain ⟨x4, o4, y0, rfl, hx4, hy0, hc0⟩ := r1.at (j := 0) hcm.1
      have f0 : wo.cell? ⟨x4, o4 + 2, none⟩ = some (.int .u32 y0.word) := by simpa using hc0 2 _ rfl
      have hw0 := hcw y0 (List.mem_of_getElem? hy0)
      have hHW : headW c = y0.word := by
        cases c with
        | nil => simp at hy0
        | cons z r => simp at hy0; subst hy0; rfl
      have HM := Lib.hid (fun y hy => sameN_symm (hcm.2 y hy).2)
      rw [hHW] at HM
      have HCW := Lib.hid hcw
      have R1 := Lib.hid r1
      have hcl10 : c.length ≤ 10 := by omega
      have hcl0 : 0 < c.length := hcm.1
      clear eS eP hc0 hy0 hcm hcw r1 hHW hy2
      go_wp2_with fail
      go_loopw [13, 14] (fun s j wr => OnRel c m wo s j wr) (fun _ j _ => c.length - (intOf j).toNat)
      case atStart => exact ⟨0, by omega, rfl, rfl, Ex.refl _⟩
      case round =>
        obtain ⟨j, hj, rfl, rfl, ki⟩ := hrel
        obtain ⟨wi, rfl⟩ : ∃ wi : World, wi = wr := ⟨_, rfl⟩
        have hb : ((c.map fun y => bitN y.word m).take j).sum ≤ c.length := Nat.le_trans (sum_take_le _ _) (ones_le c m)
        have hc2' := Chg.cellv ki hc2 hx2
        have hx2' : x2 < wi.heap.size := Nat.lt_of_lt_of_le hx2 ki.size
        by_cases hjl : j < c.length
        · obtain ⟨x5, o5, y, he5, hx5, hy, hcy⟩ := (R1.out.nx ki).at hjl
          cases he5
          have fw : wi.cell? ⟨x4, o4 + j * 3 + 2, none⟩ = some (.int .u32 y.word) := hcy 2 _ rfl
          have f0' := Chg.cellv ki f0 hx4
          have eB := Lib.hid (sum_take_succ (c.map fun y => bitN y.word m) j (bitN y.word m) (by rw [List.getElem?_map, hy]; rfl))
          have hyw := HCW.out y (List.mem_of_getElem? hy)
          have hsm := HM.out y (List.mem_of_getElem? hy)
          have hbl := bitN_lt y.word (m : Int)
          generalize ((c.map fun y => bitN y.word m).take j).sum = sb at hb eB ⊢
          clear hcy hy
          go_wp2_with fail
          (with_reducible refine (bit_pE y.word (m : Int) _ hyw (by omega) (by omega)).mono ?_)
          rintro e w6 ⟨rfl, kk⟩
          replace ki := ki.nx kk
          replace fw := Chg.cellv kk fw hx5
          replace f0' := Chg.cellv kk f0' hx5
          replace hc2' := Chg.cellv kk hc2' hx2'
          have hx5' : x4 < w6.heap.size := Nat.lt_of_lt_of_le hx5 kk.size
          have hx6' : x2 < w6.heap.size := Nat.lt_of_lt_of_le hx2' kk.size
          have SR := (same_pE y.word y0.word (m : Int) w6.drew hyw hw0 ((T2.out.nx kw).nx (ki.nx (Ex.refl w6).drew)))
          rw [hsm] at SR
          have SR := Lib.hid SR
          have EX := Lib.hid ki
          clear kk hc2 f0 hsm hx5 hx2' ki
          go_wp2_with fail
          refine wp_region_held_drew (S := Ex w6.drew) (by kernel_rfl) (Ex.refl _) (fun hHeld => ?_)
          refine wpAnyH_take (i := 0) (oi := { dst := some 62, op := Op.move (Operand.tmp 8), type := 44, pos := "law.go:87", after := #[], guard := none }) (v := ?_) rfl (by kernel_rfl) (by kernel_rfl) (by kernel_rfl) (fun _ _ _ h => h) (Or.inl ⟨by rfl, ?hyr1x0⟩) (by assumption) ?restr1x0
          case hyr1x0 => intro wq hSw; (go_simp); (try with_reducible rfl)
          try simp only [Act.put, List.setIfInBounds_toArray, List.set_cons_zero, List.set_cons_succ]
          refine wpAnyH_take (i := 1) (oi := { dst := some 63, op := Op.move (Operand.tmp 12), type := 3, pos := "law.go:87", after := #[], guard := none }) (v := ?_) rfl (by kernel_rfl) (by kernel_rfl) (by kernel_rfl) (fun _ _ _ h => h) (Or.inl ⟨by rfl, ?hyr1x1⟩) (by assumption) ?restr1x1
          case hyr1x1 => intro wq hSw; (go_simp); (try with_reducible rfl)
          try simp only [Act.put, List.setIfInBounds_toArray, List.set_cons_zero, List.set_cons_succ]
          refine wpAnyH_take (i := 2) (oi := { dst := some 64, op := Op.indexAddr 44 (Operand.tmp 62) (Operand.tmp 63), type := 0, pos := "law.go:87", after := #[{ on := 0, ground := Ground.data }, { on := 1, ground := Ground.data }], guard := none }) (v := ?_) rfl (by kernel_rfl) (by kernel_rfl) (by kernel_rfl) (fun _ _ _ h => h) (Or.inl ⟨by rfl, ?hyr1x2⟩) (by assumption) ?restr1x2
          case hyr1x2 => intro wq hSw; (go_simp); (try with_reducible rfl)
          try simp only [Act.put, List.setIfInBounds_toArray, List.set_cons_zero, List.set_cons_succ]
          refine wpAnyH_take (i := 3) (oi := { dst := some 65, op := Op.load 39 (Operand.tmp 64), type := 39, pos := "law.go:87", after := #[{ on := 2, ground := Ground.data }], guard := none }) (v := ?_) rfl (by kernel_rfl) (by kernel_rfl) (by kernel_rfl) (fun _ _ _ h => h) (Or.inl ⟨by rfl, ?hyr1x3⟩) (by assumption) ?restr1x3
          case hyr1x3 => intro wq hSw; (have cq := Chg.cellv hSw hc2' hx6'; go_simp); (try with_reducible rfl)
          try simp only [Act.put, List.setIfInBounds_toArray, List.set_cons_zero, List.set_cons_succ]
          refine wpAnyH_take (i := 4) (oi := { dst := some 66, op := Op.move (Operand.tmp 14), type := 3, pos := "law.go:87", after := #[], guard := none }) (v := ?_) rfl (by kernel_rfl) (by kernel_rfl) (by kernel_rfl) (fun _ _ _ h => h) (Or.inl ⟨by rfl, ?hyr1x4⟩) (by assumption) ?restr1x4
          case hyr1x4 => intro wq hSw; (go_simp); (try with_reducible rfl)
          try simp only [Act.put, List.setIfInBounds_toArray, List.set_cons_zero, List.set_cons_succ]
          refine wpAnyH_take (i := 5) (oi := { dst := some 67, op := Op.indexAddr 39 (Operand.tmp 65) (Operand.tmp 66), type := 0, pos := "law.go:87", after := #[{ on := 3, ground := Ground.data }, { on := 4, ground := Ground.data }], guard := none }) (v := ?_) rfl (by kernel_rfl) (by kernel_rfl) (by kernel_rfl) (fun _ _ _ h => h) (Or.inl ⟨by rfl, ?hyr1x5⟩) (by assumption) ?restr1x5
          case hyr1x5 => intro wq hSw; (go_simp); (try with_reducible rfl)
          try simp only [Act.put, List.setIfInBounds_toArray, List.set_cons_zero, List.set_cons_succ]
          refine wpAnyH_take (i := 6) (oi := { dst := some 68, op := Op.fieldAddr 48 (Operand.tmp 67) 2, type := 0, pos := "law.go:87", after := #[{ on := 5, ground := Ground.data }], guard := none }) (v := ?_) rfl (by kernel_rfl) (by kernel_rfl) (by kernel_rfl) (fun _ _ _ h => h) (Or.inl ⟨by rfl, ?hyr1x6⟩) (by assumption) ?restr1x6
          case hyr1x6 => intro wq hSw; (go_simp); (try with_reducible rfl)
          try simp only [Act.put, List.setIfInBounds_toArray, List.set_cons_zero, List.set_cons_succ]
          refine wpAnyH_take (i := 7) (oi := { dst := some 69, op := Op.load 23 (Operand.tmp 68), type := 23, pos := "law.go:87", after := #[{ on := 6, ground := Ground.data }], guard := none }) (v := ?_) rfl (by kernel_rfl) (by kernel_rfl) (by kernel_rfl) (fun _ _ _ h => h) (Or.inl ⟨by rfl, ?hyr1x7⟩) (by assumption) ?restr1x7
          case hyr1x7 => intro wq hSw; (have cq := Chg.cellv hSw fw hx5'; go_simp); (try with_reducible rfl)
          try simp only [Act.put, List.setIfInBounds_toArray, List.set_cons_zero, List.set_cons_succ]
          refine wpAnyH_take (i := 8) (oi := { dst := some 70, op := Op.move (Operand.tmp 8), type := 44, pos := "law.go:87", after := #[], guard := none }) (v := ?_) rfl (by kernel_rfl) (by kernel_rfl) (by kernel_rfl) (fun _ _ _ h => h) (Or.inl ⟨by rfl, ?hyr1x8⟩) (by assumption) ?restr1x8
          case hyr1x8 => intro wq hSw; (go_simp); (try with_reducible rfl)
          try simp only [Act.put, List.setIfInBounds_toArray, List.set_cons_zero, List.set_cons_succ]
          refine wpAnyH_take (i := 9) (oi := { dst := some 71, op := Op.move (Operand.tmp 12), type := 3, pos := "law.go:87", after := #[], guard := none }) (v := ?_) rfl (by kernel_rfl) (by kernel_rfl) (by kernel_rfl) (fun _ _ _ h => h) (Or.inl ⟨by rfl, ?hyr1x9⟩) (by assumption) ?restr1x9
          case hyr1x9 => intro wq hSw; (go_simp); (try with_reducible rfl)
          try simp only [Act.put, List.setIfInBounds_toArray, List.set_cons_zero, List.set_cons_succ]
          refine wpAnyH_take (i := 10) (oi := { dst := some 72, op := Op.indexAddr 44 (Operand.tmp 70) (Operand.tmp 71), type := 0, pos := "law.go:87", after := #[{ on := 8, ground := Ground.data }, { on := 9, ground := Ground.data }], guard := none }) (v := ?_) rfl (by kernel_rfl) (by kernel_rfl) (by kernel_rfl) (fun _ _ _ h => h) (Or.inl ⟨by rfl, ?hyr1x10⟩) (by assumption) ?restr1x10
          case hyr1x10 => intro wq hSw; (go_simp); (try with_reducible rfl)
          try simp only [Act.put, List.setIfInBounds_toArray, List.set_cons_zero, List.set_cons_succ]
          refine wpAnyH_take (i := 11) (oi := { dst := some 73, op := Op.load 39 (Operand.tmp 72), type := 39, pos := "law.go:87", after := #[{ on := 10, ground := Ground.data }], guard := none }) (v := ?_) rfl (by kernel_rfl) (by kernel_rfl) (by kernel_rfl) (fun _ _ _ h => h) (Or.inl ⟨by rfl, ?hyr1x11⟩) (by assumption) ?restr1x11
          case hyr1x11 => intro wq hSw; (have cq := Chg.cellv hSw hc2' hx6'; go_simp); (try with_reducible rfl)
          try simp only [Act.put, List.setIfInBounds_toArray, List.set_cons_zero, List.set_cons_succ]
          refine wpAnyH_take (i := 12) (oi := { dst := some 74, op := Op.indexAddr 39 (Operand.tmp 73) (Operand.const (Value.int IntKind.i64 0)), type := 0, pos := "law.go:87", after := #[{ on := 11, ground := Ground.data }], guard := none }) (v := ?_) rfl (by kernel_rfl) (by kernel_rfl) (by kernel_rfl) (fun _ _ _ h => h) (Or.inl ⟨by rfl, ?hyr1x12⟩) (by assumption) ?restr1x12
          case hyr1x12 => intro wq hSw; (go_simp); (try with_reducible rfl)
          try simp only [Act.put, List.setIfInBounds_toArray, List.set_cons_zero, List.set_cons_succ]
          refine wpAnyH_take (i := 13) (oi := { dst := some 75, op := Op.fieldAddr 48 (Operand.tmp 74) 2, type := 0, pos := "law.go:87", after := #[{ on := 12, ground := Ground.data }], guard := none }) (v := ?_) rfl (by kernel_rfl) (by kernel_rfl) (by kernel_rfl) (fun _ _ _ h => h) (Or.inl ⟨by rfl, ?hyr1x13⟩) (by assumption) ?restr1x13
          case hyr1x13 => intro wq hSw; (go_simp); (try with_reducible rfl)
          try simp only [Act.put, List.setIfInBounds_toArray, List.set_cons_zero, List.set_cons_succ]
          refine wpAnyH_take (i := 14) (oi := { dst := some 76, op := Op.load 23 (Operand.tmp 75), type := 23, pos := "law.go:87", after := #[{ on := 13, ground := Ground.data }], guard := none }) (v := ?_) rfl (by kernel_rfl) (by kernel_rfl) (by kernel_rfl) (fun _ _ _ h => h) (Or.inl ⟨by rfl, ?hyr1x14⟩) (by assumption) ?restr1x14
          case hyr1x14 => intro wq hSw; (have cq := Chg.cellv hSw f0' hx5'; go_simp); (try with_reducible rfl)
          try simp only [Act.put, List.setIfInBounds_toArray, List.set_cons_zero, List.set_cons_succ]
          refine wpAnyH_take (i := 15) (oi := { dst := some 77, op := Op.move (Operand.tmp 7), type := 3, pos := "law.go:87", after := #[], guard := none }) (v := ?_) rfl (by kernel_rfl) (by kernel_rfl) (by kernel_rfl) (fun _ _ _ h => h) (Or.inl ⟨by rfl, ?hyr1x15⟩) (by assumption) ?restr1x15
          case hyr1x15 => intro wq hSw; (go_simp); (try with_reducible rfl)
          try simp only [Act.put, List.setIfInBounds_toArray, List.set_cons_zero, List.set_cons_succ]
          refine wpAnyH_ready (rs := [16]) (by kernel_rfl) (by simp) ?_
          refine AllReadyH.cons (o := { dst := some 78, op := Op.call { callee := Callee.value (Operand.func 17), args := #[Operand.tmp 69, Operand.tmp 76, Operand.tmp 77], argTypes := #[23, 23, 3] }, type := 4, pos := "law.go:87", after := #[{ on := 7, ground := Ground.data }, { on := 14, ground := Ground.data }, { on := 15, ground := Ground.data }], guard := none }) rfl (fun K hK => ?_) AllReadyH.nil
          go_simp
          refine SR.out.mono ?_
          rintro e v1 ⟨rfl, kk⟩
          refine hK.out _ _ kk (fun _ => ?_)
          clear hK K
          try simp only [Act.put, List.setIfInBounds_toArray, List.set_cons_zero, List.set_cons_succ]
          refine wpAnyH_switch (S' := Ex v1) (fun _ hSw => Ex.nx kk hSw) ?_
          clear hHeld
          have hHeld := Ex.refl v1
          refine wpAnyH_take (i := 17) (oi := { dst := some 79, op := Op.unOp UnOp.not 4 (Operand.tmp 78), type := 4, pos := "law.go:87", after := #[{ on := 16, ground := Ground.data }], guard := none }) (v := ?_) rfl (by kernel_rfl) (by kernel_rfl) (by kernel_rfl) (fun _ _ _ h => h) (Or.inl ⟨by rfl, ?hyr1x17⟩) (by assumption) ?restr1x17
          case hyr1x17 => intro wq hSw; (go_simp); (try with_reducible rfl)
          try simp only [Act.put, List.setIfInBounds_toArray, List.set_cons_zero, List.set_cons_succ]
          refine wpAnyH_done (by kernel_rfl) ?_ _
          have ki := (EX.out.nx (Ex.refl w6).drew).nx kk
          clear kk fw f0' hc2'
          go_wp2_with fail
          exact ⟨⟨j + 1, by omega, by go_num, by rw [eB.out]; rfl, ki⟩, by simp [intOf]; omega⟩
        · obtain rfl : j = c.length := by omega
          have hones : ((c.map fun y => bitN y.word m).take c.length).sum = onesN c m := by rw [List.take_of_length_le (by simp)]; rfl
          rw [hones] at hb ⊢
          have hpc : partC m c = (if 0 < onesN c m then 1 else 0) + (if onesN c m < c.length then 1 else 0) := rfl
          have PC := Lib.hid hpc
          replace kw := kw.nx ki
          generalize onesN c m = on at hb PC ⊢
          clear hones hpc hc2 f0 hj hjl ki
          by_cases p0 : 0 < on
          · by_cases p1 : on < c.length
            · have P2 : Hid (partC m c = 2) := Lib.hid (by rw [PC.out, if_pos p0, if_pos p1])
              clear PC
              go_wp2_with fail
              exact ⟨⟨k + 1, by omega, by go_num, by rw [ES.out]; rfl, by rw [EP.out, P2.out]; go_num, kw⟩, by simp [intOf]; omega⟩
            · have P2 : Hid (partC m c = 1) := Lib.hid (by rw [PC.out, if_pos p0, if_neg p1])
              clear PC
              go_wp2_with fail
              exact ⟨⟨k + 1, by omega, by go_num, by rw [ES.out]; rfl, by rw [EP.out, P2.out]; go_num, kw⟩, by simp [intOf]; omega⟩
          · by_cases p1 : on < c.length
            · have P2 : Hid (partC m c = 1) := Lib.hid (by rw [PC.out, if_neg p0, if_pos p1])
              clear PC
              go_wp2_with fail
              exact ⟨⟨k + 1, by omega, by go_num, by rw [ES.out]; rfl, by rw [EP.out, P2.out]; go_num, kw⟩, by simp [intOf]; omega⟩
            · omega
    · obtain rfl : k = C.length := by omega
      have e1 : ((C.map List.length).take C.length).sum = L.length := by rw [List.take_of_length_le (by simp)]; exact H4.out
      have e2 : ((C.map (partC m)).take C.length).sum = D.length := by rw [List.take_of_length_le (by simp)]; exact H3.out.symm
      rw [e1, e2]
      have TT := T2.out.nx kw
      clear e1 e2 HS HP hk hlt
      go_wp2_with fail
      (with_reducible refine (sanew_x _ TT).mono ?_)
      rintro e w9 ⟨rfl, kk⟩
      go_wp2_with fail
      go_ret
      exact ⟨rfl, (QL.out.nx (kw.nx kk)).1⟩
end Go.Proofs.YtenobfplmifomaaDoor
