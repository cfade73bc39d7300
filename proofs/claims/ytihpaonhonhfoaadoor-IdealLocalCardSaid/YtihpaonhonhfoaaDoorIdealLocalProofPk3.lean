/- Texts for the statement IdealLocalProof, part 3 of 7: ClsR, Nb, Ord, SrtG, SrtH, SrtI, SrtJ, IdxN, Word. -/
import Derived.Deep.DeepCutAuto
import Derived.Sort.Walk0
import Derived.Sort.LotA
import Derived.Deep.RegionHeld3
import Derived.Shelf.GgSortFunc.SmallK
import Derived.Shelf.Abstract
import Derived.Test.YtihpaonhonhfoaaDoorRows
import Derived.Test.YtihpaonhonhfoaaDoorIdealLocalProofPk1
import Derived.Test.YtihpaonhonhfoaaDoorIdealLocalProofPk2

/- Classes of the reference. -/
namespace Go.Proofs.YtihpaonhonhfoaaDoor
open Go.RowKit

theorem same_rE (a b : Nat) (h : Int) (w : World) (ha : a < 4294967296) (hb : b < 4294967296) :
    Calls Tryd.prog 29 #[.int .u32 a, .int .u32 b, .int .i64 h] w fun e w' => e = .returned (.bool (sameN a b h)) ∧ Ex w w' :=
  (same_r a b h w ha hb).mono fun _ _ h => ⟨h.1, by rw [← h.2]; exact Ex.refl _⟩

set_option maxRecDepth 100000 in
set_option maxHeartbeats 4000000 in
theorem classes_r (a : Option Addr) (n cp : Nat) (l : List Nd) (h : Int) (w : World) (hs : Sl 3 encN w a n l) (hn : n ≤ 1000) (hw : ∀ x ∈ l, x.word < 4294967296) :
    Calls Tryd.prog 68 #[.slice a n cp, .int .i64 h] w (ClPost (classesN l h) w) := by
  have HL := Lib.hid hs.len
  have hs := Lib.hid hs
  have HW := Lib.hid hw
  obtain ⟨w1, rfl⟩ : ∃ w1 : World, w1 = w := ⟨_, rfl⟩
  clear hw
  go_enter Tryd.func68, Tryd.ntmps68
  by_cases h16 : 16 < h
  · have HC : Hid (classesN l h = []) := Lib.hid (classesN_big h16)
    have d16 : decide (h ≤ 16) = false := by simp; omega
    go_wp2_with fail
    go_loopw [5, 6] (fun o i wr => o = .slice none 0 0 ∧ i = .int .i64 0 ∧ Ex w1 wr) (fun _ i _ => 0)
    case atStart => exact ⟨rfl, rfl, Ex.refl _⟩
    case round =>
      obtain ⟨rfl, rfl, kx⟩ := hrel
      obtain ⟨wo, rfl⟩ : ∃ wo : World, wo = wr := ⟨_, rfl⟩
      have hh : ¬ h ≤ 16 := by omega
      by_cases hn0 : (0 : Int) < (n : Int)
      · go_wp2_with fail
        go_ret
        exact ⟨none, 0, by rw [HC.out]; rfl, by rw [HC.out]; exact LL.nil _ _, kx⟩
      · go_wp2_with fail
        go_ret
        exact ⟨none, 0, by rw [HC.out]; rfl, by rw [HC.out]; exact LL.nil _ _, kx⟩
  have HF := Lib.hid (classesN_fold (l := l) h16)
  have d16 : decide (h ≤ 16) = true := by simp; omega
  go_wp2_with fail
  go_loopw [5, 6] (fun o i wr => ClRel l h n w1 o i wr) (fun _ i _ => n - (intOf i).toNat)
  case atStart => exact ⟨0, [], by omega, rfl, OwnQ.nil _ _, Ex.refl _⟩
  case round =>
    obtain ⟨k, qs, hk, rfl, OQ, kx⟩ := hrel
    obtain ⟨wo, rfl⟩ : ∃ wo : World, wo = wr := ⟨_, rfl⟩
    by_cases hlt : k < n
    · obtain ⟨x1, o1, y, rfl, hx1, hy, hc1⟩ := (hs.out.nx (kx)).at hlt
      have e0 : wo.cell? ⟨x1, o1 + k * 3, none⟩ = some (.int .i64 y.id) := hc1 0 _ rfl
      have e1 : wo.cell? ⟨x1, o1 + k * 3 + 1, none⟩ = some (.string y.key) := hc1 1 _ rfl
      have e2 : wo.cell? ⟨x1, o1 + k * 3 + 1 + 1, none⟩ = some (.int .u32 y.word) := by simpa [Nat.add_assoc] using hc1 2 _ rfl
      have e2' : wo.cell? ⟨x1, o1 + k * 3 + 2, none⟩ = some (.int .u32 y.word) := hc1 2 _ rfl
      have HY := Lib.hid hy
      have hyw := HW.out y (List.mem_of_getElem? hy)
      have FS := Lib.hid (foldC_snoc h l k y hy)
      have hFL : (foldC h (l.take k)).length ≤ k := Nat.le_trans (foldC_length h (l.take k)) (by rw [List.length_take]; omega)
      have FF : Hid (Fine 100000 (fun y => y.word < 4294967296) (foldC h (l.take k))) := Lib.hid (fun c hc => by
        have := foldC_fine (h := h) (l.take k) (P := fun y => y.word < 4294967296) (fun y hy => HW.out y (List.mem_of_mem_take hy)) c hc
        exact ⟨this.1, Nat.le_trans this.2.1 (by rw [List.length_take]; omega), this.2.2⟩)
      generalize foldC h (l.take k) = C at OQ FS hFL FF
      clear hc1 hy
      obtain ⟨a3, cap3, rfl, ll3, hc3, _, some3⟩ := OQ.ll
      have LL3 := Lib.hid ll3
      have OQ := Lib.hid OQ
      have SOME3 := Lib.hid some3
      clear ll3 e0 e1 e2 some3
      go_wp2_with fail
      go_loopw [7] (fun i wr => IdxRel C.length C y.word h wo i wr) (fun i _ => C.length - (intOf i).toNat)
      case atStart => exact ⟨0, by omega, rfl, Ex.refl _, by intro _ _ h; omega⟩
      case round =>
        obtain ⟨KX, hKle, rfl, ki, hno⟩ := hrel
        have HNO := Lib.hid hno
        obtain ⟨wi, rfl⟩ : ∃ wi : World, wi = wr := ⟨_, rfl⟩
        replace OQ := OQ.out.nx ki
        replace kx := kx.nx ki
        have KIX := Lib.hid ki
        clear hno
        by_cases hKn : KX = C.length
        · have KI : Hid (idxC C y.word h = KX) := Lib.hid (by rw [idxC_none (fun j c hj hc => HNO.out j c (by omega) hc), hKn])
          have lq : qs.length ≤ 1000000 := by rw [OQ.2.1]; omega
          have zq := kx.size
          have d1 : decide ((KX : Int) < (C.length : Int)) = false := by simp; omega
          have d2 : decide (KX < C.length) = false := by simp; omega
          clear e2' ki
          have hKn' := Lib.hid hKn
          clear hKn
          go_wp2_with fail
          refine wp_region_held_drew (S := Ex wi.drew) (by kernel_rfl) (Ex.refl _) (fun hHeld => ?_)
          refine wpAnyH_take (i := 0) (oi := ⟨some 18, .move (.tmp 7), 3, "ref.go:53", #[], none⟩) (v := ?_) rfl (by kernel_rfl) (by kernel_rfl) (by kernel_rfl) (fun _ _ _ h => h) (Or.inl ⟨by rfl, ?hyr1x0⟩) (by assumption) ?restr1x0
          case hyr1x0 => intro wq hSw; (go_simp); (try with_reducible rfl)
          try simp only [Act.put, List.setIfInBounds_toArray, List.set_cons_zero, List.set_cons_succ]
          refine wpAnyH_take (i := 1) (oi := ⟨some 19, .move (.tmp 5), 74, "ref.go:53", #[], none⟩) (v := ?_) rfl (by kernel_rfl) (by kernel_rfl) (by kernel_rfl) (fun _ _ _ h => h) (Or.inl ⟨by rfl, ?hyr1x1⟩) (by assumption) ?restr1x1
          case hyr1x1 => intro wq hSw; (go_simp); (try with_reducible rfl)
          try simp only [Act.put, List.setIfInBounds_toArray, List.set_cons_zero, List.set_cons_succ]
          refine wpAnyH_take (i := 2) (oi := ⟨some 20, .call { callee := .builtin .len, args := #[.tmp 19], argTypes := #[74] }, 3, "ref.go:53", #[⟨1, .data⟩], none⟩) (v := ?_) rfl (by kernel_rfl) (by kernel_rfl) (by kernel_rfl) (fun _ _ _ h => h) (Or.inl ⟨by rfl, ?hyr1x2⟩) (by assumption) ?restr1x2
          case hyr1x2 => intro wq hSw; (go_simp); (try with_reducible rfl)
          try simp only [Act.put, List.setIfInBounds_toArray, List.set_cons_zero, List.set_cons_succ]
          refine wpAnyH_take (i := 3) (oi := ⟨some 21, .binOp .lss 3 (.tmp 18) (.tmp 20) 3, 4, "ref.go:53", #[⟨0, .data⟩, ⟨2, .data⟩], none⟩) (v := ?_) rfl (by kernel_rfl) (by kernel_rfl) (by kernel_rfl) (fun _ _ _ h => h) (Or.inl ⟨by rfl, ?hyr1x3⟩) (by assumption) ?restr1x3
          case hyr1x3 => intro wq hSw; (go_simp); (try with_reducible rfl)
          try simp only [Act.put, List.setIfInBounds_toArray, List.set_cons_zero, List.set_cons_succ]
          refine wpAnyH_take (i := 4) (oi := ⟨some 22, .move (.tmp 21), 4, "ref.go:53", #[⟨3, .data⟩], none⟩) (v := ?_) rfl (by kernel_rfl) (by kernel_rfl) (by kernel_rfl) (fun _ _ _ h => h) (Or.inl ⟨by rfl, ?hyr1x4⟩) (by assumption) ?restr1x4
          case hyr1x4 => intro wq hSw; (go_simp); (try with_reducible rfl)
          try simp only [Act.put, List.setIfInBounds_toArray, List.set_cons_zero, List.set_cons_succ]
          refine wpAnyH_take (i := 5) (oi := ⟨some 23, .move (.tmp 5), 74, "ref.go:53", #[⟨4, .guard⟩], some (4, true)⟩) (v := undef) rfl (by kernel_rfl) (by kernel_rfl) (by kernel_rfl) (fun _ _ _ h => h) (Or.inr ⟨by rfl, rfl⟩) (by assumption) ?_
          try simp only [Act.put, List.setIfInBounds_toArray, List.set_cons_zero, List.set_cons_succ]
          refine wpAnyH_take (i := 6) (oi := ⟨some 24, .move (.tmp 7), 3, "ref.go:53", #[⟨4, .guard⟩], some (4, true)⟩) (v := undef) rfl (by kernel_rfl) (by kernel_rfl) (by kernel_rfl) (fun _ _ _ h => h) (Or.inr ⟨by rfl, rfl⟩) (by assumption) ?_
          try simp only [Act.put, List.setIfInBounds_toArray, List.set_cons_zero, List.set_cons_succ]
          refine wpAnyH_take (i := 7) (oi := ⟨some 25, .indexAddr 74 (.tmp 23) (.tmp 24), 0, "ref.go:53", #[⟨5, .data⟩, ⟨6, .data⟩, ⟨4, .guard⟩], some (4, true)⟩) (v := undef) rfl (by kernel_rfl) (by kernel_rfl) (by kernel_rfl) (fun _ _ _ h => h) (Or.inr ⟨by rfl, rfl⟩) (by assumption) ?_
          try simp only [Act.put, List.setIfInBounds_toArray, List.set_cons_zero, List.set_cons_succ]
          refine wpAnyH_take (i := 8) (oi := ⟨some 26, .load 23 (.tmp 25), 23, "ref.go:53", #[⟨7, .data⟩, ⟨4, .guard⟩], some (4, true)⟩) (v := undef) rfl (by kernel_rfl) (by kernel_rfl) (by kernel_rfl) (fun _ _ _ h => h) (Or.inr ⟨by rfl, rfl⟩) (by assumption) ?_
          try simp only [Act.put, List.setIfInBounds_toArray, List.set_cons_zero, List.set_cons_succ]
          refine wpAnyH_take (i := 9) (oi := ⟨some 27, .indexAddr 23 (.tmp 26) (.const (.int .i64 0)), 0, "ref.go:53", #[⟨8, .data⟩, ⟨4, .guard⟩], some (4, true)⟩) (v := undef) rfl (by kernel_rfl) (by kernel_rfl) (by kernel_rfl) (fun _ _ _ h => h) (Or.inr ⟨by rfl, rfl⟩) (by assumption) ?_
          try simp only [Act.put, List.setIfInBounds_toArray, List.set_cons_zero, List.set_cons_succ]
          refine wpAnyH_take (i := 10) (oi := ⟨some 28, .fieldAddr 48 (.tmp 27) 2, 0, "ref.go:53", #[⟨9, .data⟩, ⟨4, .guard⟩], some (4, true)⟩) (v := undef) rfl (by kernel_rfl) (by kernel_rfl) (by kernel_rfl) (fun _ _ _ h => h) (Or.inr ⟨by rfl, rfl⟩) (by assumption) ?_
          try simp only [Act.put, List.setIfInBounds_toArray, List.set_cons_zero, List.set_cons_succ]
          refine wpAnyH_take (i := 11) (oi := ⟨some 29, .load 46 (.tmp 28), 46, "ref.go:53", #[⟨10, .data⟩, ⟨4, .guard⟩], some (4, true)⟩) (v := undef) rfl (by kernel_rfl) (by kernel_rfl) (by kernel_rfl) (fun _ _ _ h => h) (Or.inr ⟨by rfl, rfl⟩) (by assumption) ?_
          try simp only [Act.put, List.setIfInBounds_toArray, List.set_cons_zero, List.set_cons_succ]
          refine wpAnyH_take (i := 12) (oi := ⟨some 30, .move (.tmp 0), 23, "ref.go:53", #[⟨4, .guard⟩], some (4, true)⟩) (v := undef) rfl (by kernel_rfl) (by kernel_rfl) (by kernel_rfl) (fun _ _ _ h => h) (Or.inr ⟨by rfl, rfl⟩) (by assumption) ?_
          try simp only [Act.put, List.setIfInBounds_toArray, List.set_cons_zero, List.set_cons_succ]
          refine wpAnyH_take (i := 13) (oi := ⟨some 31, .move (.tmp 6), 3, "ref.go:53", #[⟨4, .guard⟩], some (4, true)⟩) (v := undef) rfl (by kernel_rfl) (by kernel_rfl) (by kernel_rfl) (fun _ _ _ h => h) (Or.inr ⟨by rfl, rfl⟩) (by assumption) ?_
          try simp only [Act.put, List.setIfInBounds_toArray, List.set_cons_zero, List.set_cons_succ]
          refine wpAnyH_take (i := 14) (oi := ⟨some 32, .indexAddr 23 (.tmp 30) (.tmp 31), 0, "ref.go:53", #[⟨12, .data⟩, ⟨13, .data⟩, ⟨4, .guard⟩], some (4, true)⟩) (v := undef) rfl (by kernel_rfl) (by kernel_rfl) (by kernel_rfl) (fun _ _ _ h => h) (Or.inr ⟨by rfl, rfl⟩) (by assumption) ?_
          try simp only [Act.put, List.setIfInBounds_toArray, List.set_cons_zero, List.set_cons_succ]
          refine wpAnyH_take (i := 15) (oi := ⟨some 33, .fieldAddr 48 (.tmp 32) 2, 0, "ref.go:53", #[⟨14, .data⟩, ⟨4, .guard⟩], some (4, true)⟩) (v := undef) rfl (by kernel_rfl) (by kernel_rfl) (by kernel_rfl) (fun _ _ _ h => h) (Or.inr ⟨by rfl, rfl⟩) (by assumption) ?_
          try simp only [Act.put, List.setIfInBounds_toArray, List.set_cons_zero, List.set_cons_succ]
          refine wpAnyH_take (i := 16) (oi := ⟨some 34, .load 46 (.tmp 33), 46, "ref.go:53", #[⟨15, .data⟩, ⟨4, .guard⟩], some (4, true)⟩) (v := undef) rfl (by kernel_rfl) (by kernel_rfl) (by kernel_rfl) (fun _ _ _ h => h) (Or.inr ⟨by rfl, rfl⟩) (by assumption) ?_
          try simp only [Act.put, List.setIfInBounds_toArray, List.set_cons_zero, List.set_cons_succ]
          refine wpAnyH_take (i := 17) (oi := ⟨some 35, .move (.tmp 1), 3, "ref.go:53", #[⟨4, .guard⟩], some (4, true)⟩) (v := undef) rfl (by kernel_rfl) (by kernel_rfl) (by kernel_rfl) (fun _ _ _ h => h) (Or.inr ⟨by rfl, rfl⟩) (by assumption) ?_
          try simp only [Act.put, List.setIfInBounds_toArray, List.set_cons_zero, List.set_cons_succ]
          refine wpAnyH_take (i := 18) (oi := ⟨some 36, .call { callee := .value (.func 29), args := #[.tmp 29, .tmp 34, .tmp 35], argTypes := #[46, 46, 3] }, 4, "ref.go:53", #[⟨11, .data⟩, ⟨16, .data⟩, ⟨17, .data⟩, ⟨4, .chain⟩, ⟨4, .guard⟩], some (4, true)⟩) (v := undef) rfl (by kernel_rfl) (by kernel_rfl) (by kernel_rfl) (fun _ _ _ h => h) (Or.inr ⟨by rfl, rfl⟩) (by assumption) ?_
          try simp only [Act.put, List.setIfInBounds_toArray, List.set_cons_zero, List.set_cons_succ]
          refine wpAnyH_take (i := 19) (oi := ⟨some 37, .unOp .not 4 (.tmp 36), 4, "ref.go:53", #[⟨18, .data⟩, ⟨4, .guard⟩], some (4, true)⟩) (v := undef) rfl (by kernel_rfl) (by kernel_rfl) (by kernel_rfl) (fun _ _ _ h => h) (Or.inr ⟨by rfl, rfl⟩) (by assumption) ?_
          try simp only [Act.put, List.setIfInBounds_toArray, List.set_cons_zero, List.set_cons_succ]
          refine wpAnyH_take (i := 20) (oi := ⟨some 38, .pick (.tmp 22) (.tmp 37) (.const (.bool false)), 4, "ref.go:53", #[⟨4, .data⟩, ⟨19, .data⟩], none⟩) (v := ?_) rfl (by kernel_rfl) (by kernel_rfl) (by kernel_rfl) (fun _ _ _ h => h) (Or.inl ⟨by rfl, ?hyr1x20⟩) (by assumption) ?restr1x20
          case hyr1x20 => intro wq hSw; (go_simp); (try with_reducible rfl)
          try simp only [Act.put, List.setIfInBounds_toArray, List.set_cons_zero, List.set_cons_succ]
          refine wpAnyH_done (by kernel_rfl) ?_ _
          have hKn := hKn'.out
          have d3 : ((KX : Int) == (C.length : Int)) = true := by simp; omega
          replace OQ := OQ.nx (Ex.refl wi).drew
          replace kx := kx.nx (Ex.refl wi).drew
          obtain ⟨w3, hw3⟩ : ∃ w3, w3 = wi.drew := ⟨_, rfl⟩
          rw [← hw3] at OQ kx ⊢
          clear d1 d2 hw3 zq
          have zq := kx.size
          go_upto_region 10 with (at_builtin; (refine wpList_append_lit (enc := encH) w3 rfl _ _ 74 rfl w1.heap.size 23 (.slice none 0 0) 1 24 Tryd.underlying74 Tryd.infoH rfl (by omega) (by omega) _ _ OQ.1 rfl ((none, 0, 0) : Hdr) _ rfl rfl (by simp [encH, Hdr.val, Value.oneCell']) _ (by simp) rfl lq (by omega) _ ?_); intro vp wp ownp ch0 ch1 _)
          have OQ := OQ.pad ownp ch0
          replace kx : Ex w1 wp := Chg.trans kx ch1
          obtain ⟨C', hC'⟩ : ∃ C' : List (List Nd), C' = C ++ [[]] := ⟨_, rfl⟩
          rw [← hC'] at OQ
          have CL : C'.length = C.length + 1 := by rw [hC']; simp
          have EC : Hid (C' = padC C KX) := Lib.hid (by unfold padC; rw [if_pos (by omega), hC'])
          have CLEN : Hid (∀ c ∈ C', c.length ≤ 1000000) := Lib.hid (fun c hc => by
            rw [hC'] at hc
            rcases List.mem_append.1 hc with h1 | h1
            · exact Nat.le_trans (FF.out c h1).2.1 (by omega)
            · rw [List.mem_singleton.1 h1]; simp)
          generalize (qs ++ [((none, 0, 0) : Hdr)]) = qs at OQ
          obtain ⟨wa, rfl⟩ : ∃ wa : World, wa = wp := ⟨_, rfl⟩
          have hKC : KX < C'.length := by omega
          have NL : Hid (C'.length ≤ 1000001) := Lib.hid (by omega)
          clear hC' CL ownp ch0 ch1
          rw [← hKn]
          clear hKn
          obtain ⟨x5, o5, y5, he5, hx5, hy5, hc5⟩ := (hs.out.nx kx).at hlt
          cases he5
          obtain rfl : y = y5 := Option.some.inj (HY.out.symm.trans hy5)
          have E0 := Lib.hid (hc5 0 _ rfl)
          have E1 := Lib.hid (hc5 1 _ rfl)
          have E2 := Lib.hid (hc5 2 _ rfl)
          clear hy5 hc5 hx5
          obtain ⟨a4, cap4, he4, ll4, _, _, some4⟩ := OQ.ll
          cases he4
          obtain ⟨g4, e4, hg4⟩ := some4 (by intro h0; rw [h0] at hKC; simp at hKC)
          first | subst e4 | (obtain rfl : g4 = g3 := by cases e4; rfl)
          obtain ⟨c, hc⟩ : ∃ c, C'[KX]? = some c := ⟨C'[KX]'hKC, by simp⟩
          obtain ⟨⟨qa, qn, qc⟩, hq⟩ : ∃ q : Hdr, qs[KX]? = some q := ⟨qs[KX]'(by rw [OQ.2.1]; exact hKC), by simp⟩
          have hcl : c.length ≤ 1000000 := CLEN.out c (List.mem_of_getElem? hc)
          obtain ⟨cy, hcy⟩ : ∃ cy : List Nd, cy = c ++ [y] := ⟨_, rfl⟩
          have FIN : Hid (stepC h C y = C'.set KX cy) := Lib.hid (by unfold stepC; rw [KI.out, ← EC.out, hc, hcy]; rfl)
          have HCY := Lib.hid hcy
          clear hcy
          have HQ := Lib.hid hq
          have HCC := Lib.hid hc
          have hn4 : (KX : Int) < (C'.length : Int) := by omega
          have hn5 : C'.length ≤ 1000001 := NL.out
          clear hc hq ll4 some4
          go_wp2_with fail
          have OQ := Lib.hid (OQ.nx (Ex.refl wa).drew)
          have kx := kx.nx (Ex.refl wa).drew
          have SXF : ∀ cur : World, Sl 3 encN (cur.alloc (.cells #[.int .i64 y.id, .string y.key, .int .u32 y.word] 48)) (some ⟨cur.heap.size, 0, none⟩) 1 [y] := fun cur => Sl.lit _ rfl rfl (fun _ => rfl) rfl
          refine wp_region_held_drew (S := fun _ => True) (by kernel_rfl) (trivial) (fun hHeld => ?_)
          refine wpAnyH_take (i := 0) (oi := ⟨some 48, .move (.tmp 5), 74, "ref.go:59", #[], none⟩) (v := ?_) rfl (by kernel_rfl) (by kernel_rfl) (by kernel_rfl) (fun _ _ _ h => h) (Or.inl ⟨by rfl, ?hyr2x0q1⟩) (by assumption) ?restr2x0q1
          case hyr2x0q1 => intro wq hSw; (go_simp); (try with_reducible rfl)
          try simp only [Act.put, List.setIfInBounds_toArray, List.set_cons_zero, List.set_cons_succ]
          refine wpAnyH_take (i := 1) (oi := ⟨some 49, .move (.tmp 7), 3, "ref.go:59", #[], none⟩) (v := ?_) rfl (by kernel_rfl) (by kernel_rfl) (by kernel_rfl) (fun _ _ _ h => h) (Or.inl ⟨by rfl, ?hyr2x1q4⟩) (by assumption) ?restr2x1q4
          case hyr2x1q4 => intro wq hSw; (go_simp); (try with_reducible rfl)
          try simp only [Act.put, List.setIfInBounds_toArray, List.set_cons_zero, List.set_cons_succ]
          refine wpAnyH_take (i := 2) (oi := ⟨some 50, .move (.tmp 5), 74, "ref.go:59", #[], none⟩) (v := ?_) rfl (by kernel_rfl) (by kernel_rfl) (by kernel_rfl) (fun _ _ _ h => h) (Or.inl ⟨by rfl, ?hyr2x2q7⟩) (by assumption) ?restr2x2q7
          case hyr2x2q7 => intro wq hSw; (go_simp); (try with_reducible rfl)
          try simp only [Act.put, List.setIfInBounds_toArray, List.set_cons_zero, List.set_cons_succ]
          refine wpAnyH_take (i := 3) (oi := ⟨some 51, .move (.tmp 7), 3, "ref.go:59", #[], none⟩) (v := ?_) rfl (by kernel_rfl) (by kernel_rfl) (by kernel_rfl) (fun _ _ _ h => h) (Or.inl ⟨by rfl, ?hyr2x3q10⟩) (by assumption) ?restr2x3q10
          case hyr2x3q10 => intro wq hSw; (go_simp); (try with_reducible rfl)
          try simp only [Act.put, List.setIfInBounds_toArray, List.set_cons_zero, List.set_cons_succ]
          refine wpAnyH_take (i := 4) (oi := ⟨some 52, .indexAddr 74 (.tmp 50) (.tmp 51), 0, "ref.go:59", #[⟨2, .data⟩, ⟨3, .data⟩], none⟩) (v := ?_) rfl (by kernel_rfl) (by kernel_rfl) (by kernel_rfl) (fun _ _ _ h => h) (Or.inl ⟨by rfl, ?hyr2x4q13⟩) (by assumption) ?restr2x4q13
          case hyr2x4q13 => intro wq hSw; (go_simp); (try with_reducible rfl)
          try simp only [Act.put, List.setIfInBounds_toArray, List.set_cons_zero, List.set_cons_succ]
          refine wpAnyH_take (i := 6) (oi := ⟨some 54, .move (.tmp 0), 23, "ref.go:59", #[], none⟩) (v := ?_) rfl (by kernel_rfl) (by kernel_rfl) (by kernel_rfl) (fun _ _ _ h => h) (Or.inl ⟨by rfl, ?hyr2x6q16⟩) (by assumption) ?restr2x6q16
          case hyr2x6q16 => intro wq hSw; (go_simp); (try with_reducible rfl)
          try simp only [Act.put, List.setIfInBounds_toArray, List.set_cons_zero, List.set_cons_succ]
          refine wpAnyH_take (i := 7) (oi := ⟨some 55, .move (.tmp 6), 3, "ref.go:59", #[], none⟩) (v := ?_) rfl (by kernel_rfl) (by kernel_rfl) (by kernel_rfl) (fun _ _ _ h => h) (Or.inl ⟨by rfl, ?hyr2x7q19⟩) (by assumption) ?restr2x7q19
          case hyr2x7q19 => intro wq hSw; (go_simp); (try with_reducible rfl)
          try simp only [Act.put, List.setIfInBounds_toArray, List.set_cons_zero, List.set_cons_succ]
          refine wpAnyH_take (i := 8) (oi := ⟨some 56, .indexAddr 23 (.tmp 54) (.tmp 55), 0, "ref.go:59", #[⟨6, .data⟩, ⟨7, .data⟩], none⟩) (v := ?_) rfl (by kernel_rfl) (by kernel_rfl) (by kernel_rfl) (fun _ _ _ h => h) (Or.inl ⟨by rfl, ?hyr2x8q22⟩) (by assumption) ?restr2x8q22
          case hyr2x8q22 => intro wq hSw; (go_simp); (try with_reducible rfl)
          try simp only [Act.put, List.setIfInBounds_toArray, List.set_cons_zero, List.set_cons_succ]
          refine wpAnyH_ready (rs := [5, 9]) (by kernel_rfl) (by simp) ?_
          refine AllReadyH.cons (o := ⟨some 53, .load 23 (.tmp 52), 23, "ref.go:59", #[⟨4, .data⟩], none⟩) rfl (fun K hK => ?_) ?_
          · have cc := (own_cellH OQ.out.1 HQ.out).1
            simp only [Hdr.val] at cc
            (try have cc2 : (wa.alloc (.cells #[.int .i64 y.id, .string y.key, .int .u32 y.word] 48)).cell? ⟨g4, KX, none⟩ = some (.slice qa qn qc) := cc)
            go_simp
            clear cc
            (try clear cc2)
            refine hK.out _ _ (trivial) (fun hHeld => ?_)
            clear hK K
            try simp only [Act.put, List.setIfInBounds_toArray, List.set_cons_zero, List.set_cons_succ]
            refine wpAnyH_ready (rs := [9]) (by kernel_rfl) (by simp) ?_
            refine AllReadyH.cons (o := ⟨some 57, .load 48 (.tmp 56), 48, "ref.go:59", #[⟨8, .data⟩], none⟩) rfl (fun K hK => ?_) AllReadyH.nil
            have b0 : wa.cell? ⟨x1, o1 + k * 3, none⟩ = some (.int .i64 y.id) := E0.out
            have b1 : wa.cell? ⟨x1, o1 + k * 3 + 1, none⟩ = some (.string y.key) := E1.out
            have b2 : wa.cell? ⟨x1, o1 + k * 3 + 1 + 1, none⟩ = some (.int .u32 y.word) := E2.out
            go_simp
            clear b0 b1 b2
            refine hK.out _ _ (trivial) (fun hHeld => ?_)
            clear hK K
            try simp only [Act.put, List.setIfInBounds_toArray, List.set_cons_zero, List.set_cons_succ]
            refine wpAnyH_ready (rs := [10]) (by kernel_rfl) (by simp) ?_
            refine AllReadyH.cons (o := ⟨some 58, .buildSlice 23 1 #[(0, .tmp 57)], 23, "ref.go:59", #[⟨9, .data⟩], none⟩) rfl (fun K hK => ?_) AllReadyH.nil
            go_simp
            have SX := SXF wa.drew
            have e7 := Ex.new wa.drew (.cells #[.int .i64 y.id, .string y.key, .int .u32 y.word] 48)
            replace OQ := Lib.hid (OQ.out.nx e7)
            replace kx := kx.nx e7
            clear e7
            refine hK.out _ _ (trivial) (fun hHeld => ?_)
            clear hK K
            try simp only [Act.put, List.setIfInBounds_toArray, List.set_cons_zero, List.set_cons_succ]
            refine wpAnyH_ready (rs := [11]) (by kernel_rfl) (by simp) ?_
            refine AllReadyH.cons (o := ⟨some 59, .call { callee := .builtin .append, args := #[.tmp 53, .tmp 58], argTypes := #[23, 23] }, 23, "ref.go:59", #[⟨5, .data⟩, ⟨10, .data⟩], none⟩) rfl (fun K hK => ?_) AllReadyH.nil
            rw [if_pos (by rfl)]
            have z0 := Ex.size kx
            have oi := OQ.out.2.2.1 KX _ _ HQ.out HCC.out
            refine wp_append_rda (enc := encN) _ (.tmp 53) (.tmp 58) 23 rfl w1.heap.size 48 (.agg #[.int .i64 0, .string ByteArray.empty, .int .u32 0]) 3 32 Tryd.underlying23 Tryd.infoN rfl (by omega) (by omega) _ c oi rfl _ _ 1 1 [y] SX (fun h => by cases h) (fun _ => rfl) (by simp [encN, Value.oneCell']) rfl hcl (by omega) z0 ?_
            intro v8 w8 own8 ch0 ch1 hat
            rw [← HCY.out] at own8
            obtain ⟨a8, cap8, rfl, _, _, _, _⟩ := own8.rd (fun _ => rfl)
            obtain ⟨pc, pf, OQ2⟩ := OwnQ.put (q' := (a8, cy.length, cap8)) OQ.out HQ.out own8 ch0 hat
            replace kx : Ex w1 w8 := Chg.trans kx ch1
            replace OQ := Lib.hid OQ2
            clear OQ2 own8 ch0 ch1 hat oi z0 SX
            refine hK.out _ _ (trivial) (fun hHeld => ?_)
            clear hK K
            try simp only [Act.put, List.setIfInBounds_toArray, List.set_cons_zero, List.set_cons_succ]
            refine wpAnyH_take (i := 12) (oi := ⟨some 60, .indexAddr 74 (.tmp 48) (.tmp 49), 0, "ref.go:59", #[⟨0, .data⟩, ⟨1, .data⟩, ⟨0, .phase⟩, ⟨1, .phase⟩, ⟨2, .phase⟩, ⟨3, .phase⟩, ⟨4, .phase⟩, ⟨5, .phase⟩, ⟨6, .phase⟩, ⟨7, .phase⟩, ⟨8, .phase⟩, ⟨9, .phase⟩, ⟨10, .phase⟩, ⟨11, .phase⟩], none⟩) (v := ?_) rfl (by kernel_rfl) (by kernel_rfl) (by kernel_rfl) (fun _ _ _ h => h) (Or.inl ⟨by rfl, ?hyr2x12q73⟩) (by assumption) ?restr2x12q73
            case hyr2x12q73 => intro wq hSw; (go_simp); (try with_reducible rfl)
            try simp only [Act.put, List.setIfInBounds_toArray, List.set_cons_zero, List.set_cons_succ]
            refine wpAnyH_ready (rs := [13]) (by kernel_rfl) (by simp) ?_
            refine AllReadyH.cons (o := ⟨none, .store 23 (.tmp 60) (.tmp 59), 0, "ref.go:59", #[⟨12, .data⟩, ⟨11, .data⟩, ⟨11, .chain⟩, ⟨0, .phase⟩, ⟨1, .phase⟩, ⟨2, .phase⟩, ⟨3, .phase⟩, ⟨4, .phase⟩, ⟨5, .phase⟩, ⟨6, .phase⟩, ⟨7, .phase⟩, ⟨8, .phase⟩, ⟨9, .phase⟩, ⟨10, .phase⟩, ⟨11, .phase⟩], none⟩) rfl (fun K hK => ?_) AllReadyH.nil
            go_simp
            clear pc pf
            refine hK.out _ _ (trivial) (fun hHeld => ?_)
            clear hK K
            try simp only [Act.put, List.setIfInBounds_toArray, List.set_cons_zero, List.set_cons_succ]
            refine wpAnyH_done (by kernel_rfl) ?_ _
            replace kx := kx.setNew (p := ⟨g4, KX, none⟩) (Hdr.val (a8, cy.length, cap8)) hg4
            obtain ⟨wz, hwz⟩ : ∃ wz, wz = w8.setCell ⟨g4, KX, none⟩ (.slice a8 cy.length cap8) := ⟨_, rfl⟩
            have OQ := Lib.hid (OwnQ.cast OQ.out (w' := wz) hwz)
            have kx : Ex w1 wz := by rw [hwz]; exact kx
            rw [← hwz]
            clear hwz SXF hHeld hn5 hcl
            go_wp2_with fail
            exact ⟨⟨k + 1, _, by omega, by go_num, by rw [FS.out, FIN.out]; exact OQ.out, kx⟩, by simp [intOf]; omega⟩
          refine AllReadyH.cons (o := ⟨some 57, .load 48 (.tmp 56), 48, "ref.go:59", #[⟨8, .data⟩], none⟩) rfl (fun K hK => ?_) AllReadyH.nil
          · have b0 : wa.cell? ⟨x1, o1 + k * 3, none⟩ = some (.int .i64 y.id) := E0.out
            have b1 : wa.cell? ⟨x1, o1 + k * 3 + 1, none⟩ = some (.string y.key) := E1.out
            have b2 : wa.cell? ⟨x1, o1 + k * 3 + 1 + 1, none⟩ = some (.int .u32 y.word) := E2.out
            go_simp
            clear b0 b1 b2
            refine hK.out _ _ (trivial) (fun hHeld => ?_)
            clear hK K
            try simp only [Act.put, List.setIfInBounds_toArray, List.set_cons_zero, List.set_cons_succ]
            refine wpAnyH_ready (rs := [5, 10]) (by kernel_rfl) (by simp) ?_
            refine AllReadyH.cons (o := ⟨some 53, .load 23 (.tmp 52), 23, "ref.go:59", #[⟨4, .data⟩], none⟩) rfl (fun K hK => ?_) ?_
            · have cc := (own_cellH OQ.out.1 HQ.out).1
              simp only [Hdr.val] at cc
              (try have cc2 : (wa.alloc (.cells #[.int .i64 y.id, .string y.key, .int .u32 y.word] 48)).cell? ⟨g4, KX, none⟩ = some (.slice qa qn qc) := cc)
              go_simp
              clear cc
              (try clear cc2)
              refine hK.out _ _ (trivial) (fun hHeld => ?_)
              clear hK K
              try simp only [Act.put, List.setIfInBounds_toArray, List.set_cons_zero, List.set_cons_succ]
              refine wpAnyH_ready (rs := [10]) (by kernel_rfl) (by simp) ?_
              refine AllReadyH.cons (o := ⟨some 58, .buildSlice 23 1 #[(0, .tmp 57)], 23, "ref.go:59", #[⟨9, .data⟩], none⟩) rfl (fun K hK => ?_) AllReadyH.nil
              go_simp
              have SX := SXF wa.drew
              have e7 := Ex.new wa.drew (.cells #[.int .i64 y.id, .string y.key, .int .u32 y.word] 48)
              replace OQ := Lib.hid (OQ.out.nx e7)
              replace kx := kx.nx e7
              clear e7
              refine hK.out _ _ (trivial) (fun hHeld => ?_)
              clear hK K
              try simp only [Act.put, List.setIfInBounds_toArray, List.set_cons_zero, List.set_cons_succ]
              refine wpAnyH_ready (rs := [11]) (by kernel_rfl) (by simp) ?_
              refine AllReadyH.cons (o := ⟨some 59, .call { callee := .builtin .append, args := #[.tmp 53, .tmp 58], argTypes := #[23, 23] }, 23, "ref.go:59", #[⟨5, .data⟩, ⟨10, .data⟩], none⟩) rfl (fun K hK => ?_) AllReadyH.nil
              rw [if_pos (by rfl)]
              have z0 := Ex.size kx
              have oi := OQ.out.2.2.1 KX _ _ HQ.out HCC.out
              refine wp_append_rda (enc := encN) _ (.tmp 53) (.tmp 58) 23 rfl w1.heap.size 48 (.agg #[.int .i64 0, .string ByteArray.empty, .int .u32 0]) 3 32 Tryd.underlying23 Tryd.infoN rfl (by omega) (by omega) _ c oi rfl _ _ 1 1 [y] SX (fun h => by cases h) (fun _ => rfl) (by simp [encN, Value.oneCell']) rfl hcl (by omega) z0 ?_
              intro v8 w8 own8 ch0 ch1 hat
              rw [← HCY.out] at own8
              obtain ⟨a8, cap8, rfl, _, _, _, _⟩ := own8.rd (fun _ => rfl)
              obtain ⟨pc, pf, OQ2⟩ := OwnQ.put (q' := (a8, cy.length, cap8)) OQ.out HQ.out own8 ch0 hat
              replace kx : Ex w1 w8 := Chg.trans kx ch1
              replace OQ := Lib.hid OQ2
              clear OQ2 own8 ch0 ch1 hat oi z0 SX
              refine hK.out _ _ (trivial) (fun hHeld => ?_)
              clear hK K
              try simp only [Act.put, List.setIfInBounds_toArray, List.set_cons_zero, List.set_cons_succ]
              refine wpAnyH_take (i := 12) (oi := ⟨some 60, .indexAddr 74 (.tmp 48) (.tmp 49), 0, "ref.go:59", #[⟨0, .data⟩, ⟨1, .data⟩, ⟨0, .phase⟩, ⟨1, .phase⟩, ⟨2, .phase⟩, ⟨3, .phase⟩, ⟨4, .phase⟩, ⟨5, .phase⟩, ⟨6, .phase⟩, ⟨7, .phase⟩, ⟨8, .phase⟩, ⟨9, .phase⟩, ⟨10, .phase⟩, ⟨11, .phase⟩], none⟩) (v := ?_) rfl (by kernel_rfl) (by kernel_rfl) (by kernel_rfl) (fun _ _ _ h => h) (Or.inl ⟨by rfl, ?hyr2x12q132⟩) (by assumption) ?restr2x12q132
              case hyr2x12q132 => intro wq hSw; (go_simp); (try with_reducible rfl)
              try simp only [Act.put, List.setIfInBounds_toArray, List.set_cons_zero, List.set_cons_succ]
              refine wpAnyH_ready (rs := [13]) (by kernel_rfl) (by simp) ?_
              refine AllReadyH.cons (o := ⟨none, .store 23 (.tmp 60) (.tmp 59), 0, "ref.go:59", #[⟨12, .data⟩, ⟨11, .data⟩, ⟨11, .chain⟩, ⟨0, .phase⟩, ⟨1, .phase⟩, ⟨2, .phase⟩, ⟨3, .phase⟩, ⟨4, .phase⟩, ⟨5, .phase⟩, ⟨6, .phase⟩, ⟨7, .phase⟩, ⟨8, .phase⟩, ⟨9, .phase⟩, ⟨10, .phase⟩, ⟨11, .phase⟩], none⟩) rfl (fun K hK => ?_) AllReadyH.nil
              go_simp
              clear pc pf
              refine hK.out _ _ (trivial) (fun hHeld => ?_)
              clear hK K
              try simp only [Act.put, List.setIfInBounds_toArray, List.set_cons_zero, List.set_cons_succ]
              refine wpAnyH_done (by kernel_rfl) ?_ _
              replace kx := kx.setNew (p := ⟨g4, KX, none⟩) (Hdr.val (a8, cy.length, cap8)) hg4
              obtain ⟨wz, hwz⟩ : ∃ wz, wz = w8.setCell ⟨g4, KX, none⟩ (.slice a8 cy.length cap8) := ⟨_, rfl⟩
              have OQ := Lib.hid (OwnQ.cast OQ.out (w' := wz) hwz)
              have kx : Ex w1 wz := by rw [hwz]; exact kx
              rw [← hwz]
              clear hwz SXF hHeld hn5 hcl
              go_wp2_with fail
              exact ⟨⟨k + 1, _, by omega, by go_num, by rw [FS.out, FIN.out]; exact OQ.out, kx⟩, by simp [intOf]; omega⟩
            refine AllReadyH.cons (o := ⟨some 58, .buildSlice 23 1 #[(0, .tmp 57)], 23, "ref.go:59", #[⟨9, .data⟩], none⟩) rfl (fun K hK => ?_) AllReadyH.nil
            · go_simp
              have SX := SXF wa.drew
              have e7 := Ex.new wa.drew (.cells #[.int .i64 y.id, .string y.key, .int .u32 y.word] 48)
              replace OQ := Lib.hid (OQ.out.nx e7)
              replace kx := kx.nx e7
              clear e7
              refine hK.out _ _ (trivial) (fun hHeld => ?_)
              clear hK K
              try simp only [Act.put, List.setIfInBounds_toArray, List.set_cons_zero, List.set_cons_succ]
              refine wpAnyH_ready (rs := [5]) (by kernel_rfl) (by simp) ?_
              refine AllReadyH.cons (o := ⟨some 53, .load 23 (.tmp 52), 23, "ref.go:59", #[⟨4, .data⟩], none⟩) rfl (fun K hK => ?_) AllReadyH.nil
              have cc := (own_cellH OQ.out.1 HQ.out).1
              simp only [Hdr.val] at cc
              (try have cc2 : (wa.alloc (.cells #[.int .i64 y.id, .string y.key, .int .u32 y.word] 48)).cell? ⟨g4, KX, none⟩ = some (.slice qa qn qc) := cc)
              go_simp
              clear cc
              (try clear cc2)
              refine hK.out _ _ (trivial) (fun hHeld => ?_)
              clear hK K
              try simp only [Act.put, List.setIfInBounds_toArray, List.set_cons_zero, List.set_cons_succ]
              refine wpAnyH_ready (rs := [11]) (by kernel_rfl) (by simp) ?_
              refine AllReadyH.cons (o := ⟨some 59, .call { callee := .builtin .append, args := #[.tmp 53, .tmp 58], argTypes := #[23, 23] }, 23, "ref.go:59", #[⟨5, .data⟩, ⟨10, .data⟩], none⟩) rfl (fun K hK => ?_) AllReadyH.nil
              rw [if_pos (by rfl)]
              have z0 := Ex.size kx
              have oi := OQ.out.2.2.1 KX _ _ HQ.out HCC.out
              refine wp_append_rda (enc := encN) _ (.tmp 53) (.tmp 58) 23 rfl w1.heap.size 48 (.agg #[.int .i64 0, .string ByteArray.empty, .int .u32 0]) 3 32 Tryd.underlying23 Tryd.infoN rfl (by omega) (by omega) _ c oi rfl _ _ 1 1 [y] SX (fun h => by cases h) (fun _ => rfl) (by simp [encN, Value.oneCell']) rfl hcl (by omega) z0 ?_
              intro v8 w8 own8 ch0 ch1 hat
              rw [← HCY.out] at own8
              obtain ⟨a8, cap8, rfl, _, _, _, _⟩ := own8.rd (fun _ => rfl)
              obtain ⟨pc, pf, OQ2⟩ := OwnQ.put (q' := (a8, cy.length, cap8)) OQ.out HQ.out own8 ch0 hat
              replace kx : Ex w1 w8 := Chg.trans kx ch1
              replace OQ := Lib.hid OQ2
              clear OQ2 own8 ch0 ch1 hat oi z0 SX
              refine hK.out _ _ (trivial) (fun hHeld => ?_)
              clear hK K
              try simp only [Act.put, List.setIfInBounds_toArray, List.set_cons_zero, List.set_cons_succ]
              refine wpAnyH_take (i := 12) (oi := ⟨some 60, .indexAddr 74 (.tmp 48) (.tmp 49), 0, "ref.go:59", #[⟨0, .data⟩, ⟨1, .data⟩, ⟨0, .phase⟩, ⟨1, .phase⟩, ⟨2, .phase⟩, ⟨3, .phase⟩, ⟨4, .phase⟩, ⟨5, .phase⟩, ⟨6, .phase⟩, ⟨7, .phase⟩, ⟨8, .phase⟩, ⟨9, .phase⟩, ⟨10, .phase⟩, ⟨11, .phase⟩], none⟩) (v := ?_) rfl (by kernel_rfl) (by kernel_rfl) (by kernel_rfl) (fun _ _ _ h => h) (Or.inl ⟨by rfl, ?hyr2x12q181⟩) (by assumption) ?restr2x12q181
              case hyr2x12q181 => intro wq hSw; (go_simp); (try with_reducible rfl)
              try simp only [Act.put, List.setIfInBounds_toArray, List.set_cons_zero, List.set_cons_succ]
              refine wpAnyH_ready (rs := [13]) (by kernel_rfl) (by simp) ?_
              refine AllReadyH.cons (o := ⟨none, .store 23 (.tmp 60) (.tmp 59), 0, "ref.go:59", #[⟨12, .data⟩, ⟨11, .data⟩, ⟨11, .chain⟩, ⟨0, .phase⟩, ⟨1, .phase⟩, ⟨2, .phase⟩, ⟨3, .phase⟩, ⟨4, .phase⟩, ⟨5, .phase⟩, ⟨6, .phase⟩, ⟨7, .phase⟩, ⟨8, .phase⟩, ⟨9, .phase⟩, ⟨10, .phase⟩, ⟨11, .phase⟩], none⟩) rfl (fun K hK => ?_) AllReadyH.nil
              go_simp
              clear pc pf
              refine hK.out _ _ (trivial) (fun hHeld => ?_)
              clear hK K
              try simp only [Act.put, List.setIfInBounds_toArray, List.set_cons_zero, List.set_cons_succ]
              refine wpAnyH_done (by kernel_rfl) ?_ _
              replace kx := kx.setNew (p := ⟨g4, KX, none⟩) (Hdr.val (a8, cy.length, cap8)) hg4
              obtain ⟨wz, hwz⟩ : ∃ wz, wz = w8.setCell ⟨g4, KX, none⟩ (.slice a8 cy.length cap8) := ⟨_, rfl⟩
              have OQ := Lib.hid (OwnQ.cast OQ.out (w' := wz) hwz)
              have kx : Ex w1 wz := by rw [hwz]; exact kx
              rw [← hwz]
              clear hwz SXF hHeld hn5 hcl
              go_wp2_with fail
              exact ⟨⟨k + 1, _, by omega, by go_num, by rw [FS.out, FIN.out]; exact OQ.out, kx⟩, by simp [intOf]; omega⟩
        · have hlj : KX < C.length := by omega
          obtain ⟨g3, rfl, _⟩ := SOME3.out (by intro h0; rw [h0] at hlj; simp at hlj)
          obtain ⟨x2, o2, b1, m1, d1, c, he2, hx2, hy2, hc2, r1⟩ := (LL3.out.nx ki).at hlj
          cases he2
          rw [Nat.zero_add] at hc2
          obtain ⟨p1, p2, p3⟩ := FF.out c (List.mem_of_getElem? hy2)
          obtain ⟨x4, o4, y4, rfl, hx4, hy4, hc4⟩ := r1.at (j := 0) (by rw [← r1.len]; exact p1)
          have hm1 : 0 < m1 := by rw [← r1.len]; exact p1
          have f4 : wi.cell? ⟨x4, o4 + 2, none⟩ = some (.int .u32 y4.word) := by simpa using hc4 2 _ rfl
          have f2 := Chg.cellv ki e2' hx1
          have hx1' : x1 < wi.heap.size := Nat.lt_of_lt_of_le hx1 ki.size
          have hyw4 := p3 y4 (List.mem_of_getElem? hy4)
          have hHW : headW c = y4.word := by
            cases c with
            | nil => simp at hy4
            | cons z r => simp at hy4; subst hy4; rfl
          have SR := fun w => same_rE y4.word y.word h w hyw4 hyw
          have dj : (KX : Int) < (C.length : Int) := by omega
          have dj1 : decide ((KX : Int) < (C.length : Int)) = true := by simpa using dj
          have dj2 : decide (KX < C.length) = true := by simpa using hlj
          have HY2 := Lib.hid hy2
          clear hc4 hy4 p1 p2 p3 r1 hy2 e2' ki
          cases hsm : sameN y4.word y.word h with
          | true =>
            have KI : Hid (idxC C y.word h = KX) := Lib.hid (idxC_of HY2.out (by rw [hHW]; exact hsm) HNO.out)
            rw [hsm] at SR
            have SR := Lib.hid SR
            clear hsm hHW
            go_wp2_with fail
            refine wp_region_held_drew (S := Ex wi.drew) (by kernel_rfl) (Ex.refl _) (fun hHeld => ?_)
            refine wpAnyH_take (i := 0) (oi := ⟨some 18, .move (.tmp 7), 3, "ref.go:53", #[], none⟩) (v := ?_) rfl (by kernel_rfl) (by kernel_rfl) (by kernel_rfl) (fun _ _ _ h => h) (Or.inl ⟨by rfl, ?hyr3x0⟩) (by assumption) ?restr3x0
            case hyr3x0 => intro wq hSw; (go_simp); (try with_reducible rfl)
            try simp only [Act.put, List.setIfInBounds_toArray, List.set_cons_zero, List.set_cons_succ]
            refine wpAnyH_take (i := 1) (oi := ⟨some 19, .move (.tmp 5), 74, "ref.go:53", #[], none⟩) (v := ?_) rfl (by kernel_rfl) (by kernel_rfl) (by kernel_rfl) (fun _ _ _ h => h) (Or.inl ⟨by rfl, ?hyr3x1⟩) (by assumption) ?restr3x1
            case hyr3x1 => intro wq hSw; (go_simp); (try with_reducible rfl)
            try simp only [Act.put, List.setIfInBounds_toArray, List.set_cons_zero, List.set_cons_succ]
            refine wpAnyH_take (i := 2) (oi := ⟨some 20, .call { callee := .builtin .len, args := #[.tmp 19], argTypes := #[74] }, 3, "ref.go:53", #[⟨1, .data⟩], none⟩) (v := ?_) rfl (by kernel_rfl) (by kernel_rfl) (by kernel_rfl) (fun _ _ _ h => h) (Or.inl ⟨by rfl, ?hyr3x2⟩) (by assumption) ?restr3x2
            case hyr3x2 => intro wq hSw; (go_simp); (try with_reducible rfl)
            try simp only [Act.put, List.setIfInBounds_toArray, List.set_cons_zero, List.set_cons_succ]
            refine wpAnyH_take (i := 3) (oi := ⟨some 21, .binOp .lss 3 (.tmp 18) (.tmp 20) 3, 4, "ref.go:53", #[⟨0, .data⟩, ⟨2, .data⟩], none⟩) (v := ?_) rfl (by kernel_rfl) (by kernel_rfl) (by kernel_rfl) (fun _ _ _ h => h) (Or.inl ⟨by rfl, ?hyr3x3⟩) (by assumption) ?restr3x3
            case hyr3x3 => intro wq hSw; (go_simp); (try with_reducible rfl)
            try simp only [Act.put, List.setIfInBounds_toArray, List.set_cons_zero, List.set_cons_succ]
            refine wpAnyH_take (i := 4) (oi := ⟨some 22, .move (.tmp 21), 4, "ref.go:53", #[⟨3, .data⟩], none⟩) (v := ?_) rfl (by kernel_rfl) (by kernel_rfl) (by kernel_rfl) (fun _ _ _ h => h) (Or.inl ⟨by rfl, ?hyr3x4⟩) (by assumption) ?restr3x4
            case hyr3x4 => intro wq hSw; (go_simp); (try with_reducible rfl)
            try simp only [Act.put, List.setIfInBounds_toArray, List.set_cons_zero, List.set_cons_succ]
            refine wpAnyH_take (i := 5) (oi := ⟨some 23, .move (.tmp 5), 74, "ref.go:53", #[⟨4, .guard⟩], some (4, true)⟩) (v := ?_) rfl (by kernel_rfl) (by kernel_rfl) (by kernel_rfl) (fun _ _ _ h => h) (Or.inl ⟨by rfl, ?hyr3x5⟩) (by assumption) ?restr3x5
            case hyr3x5 => intro wq hSw; (go_simp); (try with_reducible rfl)
            try simp only [Act.put, List.setIfInBounds_toArray, List.set_cons_zero, List.set_cons_succ]
            refine wpAnyH_take (i := 6) (oi := ⟨some 24, .move (.tmp 7), 3, "ref.go:53", #[⟨4, .guard⟩], some (4, true)⟩) (v := ?_) rfl (by kernel_rfl) (by kernel_rfl) (by kernel_rfl) (fun _ _ _ h => h) (Or.inl ⟨by rfl, ?hyr3x6⟩) (by assumption) ?restr3x6
            case hyr3x6 => intro wq hSw; (go_simp); (try with_reducible rfl)
            try simp only [Act.put, List.setIfInBounds_toArray, List.set_cons_zero, List.set_cons_succ]
            refine wpAnyH_take (i := 7) (oi := ⟨some 25, .indexAddr 74 (.tmp 23) (.tmp 24), 0, "ref.go:53", #[⟨5, .data⟩, ⟨6, .data⟩, ⟨4, .guard⟩], some (4, true)⟩) (v := ?_) rfl (by kernel_rfl) (by kernel_rfl) (by kernel_rfl) (fun _ _ _ h => h) (Or.inl ⟨by rfl, ?hyr3x7⟩) (by assumption) ?restr3x7
            case hyr3x7 => intro wq hSw; (go_simp); (try with_reducible rfl)
            try simp only [Act.put, List.setIfInBounds_toArray, List.set_cons_zero, List.set_cons_succ]
            refine wpAnyH_take (i := 8) (oi := ⟨some 26, .load 23 (.tmp 25), 23, "ref.go:53", #[⟨7, .data⟩, ⟨4, .guard⟩], some (4, true)⟩) (v := ?_) rfl (by kernel_rfl) (by kernel_rfl) (by kernel_rfl) (fun _ _ _ h => h) (Or.inl ⟨by rfl, ?hyr3x8⟩) (by assumption) ?restr3x8
            case hyr3x8 => intro wq hSw; (have cq := Chg.cellv hSw hc2 hx2; go_simp); (try with_reducible rfl)
            try simp only [Act.put, List.setIfInBounds_toArray, List.set_cons_zero, List.set_cons_succ]
            refine wpAnyH_take (i := 9) (oi := ⟨some 27, .indexAddr 23 (.tmp 26) (.const (.int .i64 0)), 0, "ref.go:53", #[⟨8, .data⟩, ⟨4, .guard⟩], some (4, true)⟩) (v := ?_) rfl (by kernel_rfl) (by kernel_rfl) (by kernel_rfl) (fun _ _ _ h => h) (Or.inl ⟨by rfl, ?hyr3x9⟩) (by assumption) ?restr3x9
            case hyr3x9 => intro wq hSw; (go_simp); (try with_reducible rfl)
            try simp only [Act.put, List.setIfInBounds_toArray, List.set_cons_zero, List.set_cons_succ]
            refine wpAnyH_take (i := 10) (oi := ⟨some 28, .fieldAddr 48 (.tmp 27) 2, 0, "ref.go:53", #[⟨9, .data⟩, ⟨4, .guard⟩], some (4, true)⟩) (v := ?_) rfl (by kernel_rfl) (by kernel_rfl) (by kernel_rfl) (fun _ _ _ h => h) (Or.inl ⟨by rfl, ?hyr3x10⟩) (by assumption) ?restr3x10
            case hyr3x10 => intro wq hSw; (go_simp); (try with_reducible rfl)
            try simp only [Act.put, List.setIfInBounds_toArray, List.set_cons_zero, List.set_cons_succ]
            refine wpAnyH_take (i := 11) (oi := ⟨some 29, .load 46 (.tmp 28), 46, "ref.go:53", #[⟨10, .data⟩, ⟨4, .guard⟩], some (4, true)⟩) (v := ?_) rfl (by kernel_rfl) (by kernel_rfl) (by kernel_rfl) (fun _ _ _ h => h) (Or.inl ⟨by rfl, ?hyr3x11⟩) (by assumption) ?restr3x11
            case hyr3x11 => intro wq hSw; (have cq := Chg.cellv hSw f4 hx4; go_simp); (try with_reducible rfl)
            try simp only [Act.put, List.setIfInBounds_toArray, List.set_cons_zero, List.set_cons_succ]
            refine wpAnyH_take (i := 12) (oi := ⟨some 30, .move (.tmp 0), 23, "ref.go:53", #[⟨4, .guard⟩], some (4, true)⟩) (v := ?_) rfl (by kernel_rfl) (by kernel_rfl) (by kernel_rfl) (fun _ _ _ h => h) (Or.inl ⟨by rfl, ?hyr3x12⟩) (by assumption) ?restr3x12
            case hyr3x12 => intro wq hSw; (go_simp); (try with_reducible rfl)
            try simp only [Act.put, List.setIfInBounds_toArray, List.set_cons_zero, List.set_cons_succ]
            refine wpAnyH_take (i := 13) (oi := ⟨some 31, .move (.tmp 6), 3, "ref.go:53", #[⟨4, .guard⟩], some (4, true)⟩) (v := ?_) rfl (by kernel_rfl) (by kernel_rfl) (by kernel_rfl) (fun _ _ _ h => h) (Or.inl ⟨by rfl, ?hyr3x13⟩) (by assumption) ?restr3x13
            case hyr3x13 => intro wq hSw; (go_simp); (try with_reducible rfl)
            try simp only [Act.put, List.setIfInBounds_toArray, List.set_cons_zero, List.set_cons_succ]
            refine wpAnyH_take (i := 14) (oi := ⟨some 32, .indexAddr 23 (.tmp 30) (.tmp 31), 0, "ref.go:53", #[⟨12, .data⟩, ⟨13, .data⟩, ⟨4, .guard⟩], some (4, true)⟩) (v := ?_) rfl (by kernel_rfl) (by kernel_rfl) (by kernel_rfl) (fun _ _ _ h => h) (Or.inl ⟨by rfl, ?hyr3x14⟩) (by assumption) ?restr3x14
            case hyr3x14 => intro wq hSw; (go_simp); (try with_reducible rfl)
            try simp only [Act.put, List.setIfInBounds_toArray, List.set_cons_zero, List.set_cons_succ]
            refine wpAnyH_take (i := 15) (oi := ⟨some 33, .fieldAddr 48 (.tmp 32) 2, 0, "ref.go:53", #[⟨14, .data⟩, ⟨4, .guard⟩], some (4, true)⟩) (v := ?_) rfl (by kernel_rfl) (by kernel_rfl) (by kernel_rfl) (fun _ _ _ h => h) (Or.inl ⟨by rfl, ?hyr3x15⟩) (by assumption) ?restr3x15
            case hyr3x15 => intro wq hSw; (go_simp); (try with_reducible rfl)
            try simp only [Act.put, List.setIfInBounds_toArray, List.set_cons_zero, List.set_cons_succ]
            refine wpAnyH_take (i := 16) (oi := ⟨some 34, .load 46 (.tmp 33), 46, "ref.go:53", #[⟨15, .data⟩, ⟨4, .guard⟩], some (4, true)⟩) (v := ?_) rfl (by kernel_rfl) (by kernel_rfl) (by kernel_rfl) (fun _ _ _ h => h) (Or.inl ⟨by rfl, ?hyr3x16⟩) (by assumption) ?restr3x16
            case hyr3x16 => intro wq hSw; (have cq := Chg.cellv hSw f2 hx1'; go_simp); (try with_reducible rfl)
            try simp only [Act.put, List.setIfInBounds_toArray, List.set_cons_zero, List.set_cons_succ]
            refine wpAnyH_take (i := 17) (oi := ⟨some 35, .move (.tmp 1), 3, "ref.go:53", #[⟨4, .guard⟩], some (4, true)⟩) (v := ?_) rfl (by kernel_rfl) (by kernel_rfl) (by kernel_rfl) (fun _ _ _ h => h) (Or.inl ⟨by rfl, ?hyr3x17⟩) (by assumption) ?restr3x17
            case hyr3x17 => intro wq hSw; (go_simp); (try with_reducible rfl)
            try simp only [Act.put, List.setIfInBounds_toArray, List.set_cons_zero, List.set_cons_succ]
            refine wpAnyH_ready (rs := [18]) (by kernel_rfl) (by simp) ?_
            refine AllReadyH.cons (o := ⟨some 36, .call { callee := .value (.func 29), args := #[.tmp 29, .tmp 34, .tmp 35], argTypes := #[46, 46, 3] }, 4, "ref.go:53", #[⟨11, .data⟩, ⟨16, .data⟩, ⟨17, .data⟩, ⟨4, .chain⟩, ⟨4, .guard⟩], some (4, true)⟩) rfl (fun K hK => ?_) AllReadyH.nil
            go_simp
            refine (SR.out _).mono ?_
            rintro e v1 ⟨rfl, kk⟩
            refine hK.out _ _ kk (fun _ => ?_)
            clear hK K
            try simp only [Act.put, List.setIfInBounds_toArray, List.set_cons_zero, List.set_cons_succ]
            refine wpAnyH_switch (S' := Ex v1) (fun _ hSw => Ex.nx kk hSw) ?_
            clear hHeld
            have hHeld := Ex.refl v1
            refine wpAnyH_take (i := 19) (oi := ⟨some 37, .unOp .not 4 (.tmp 36), 4, "ref.go:53", #[⟨18, .data⟩, ⟨4, .guard⟩], some (4, true)⟩) (v := ?_) rfl (by kernel_rfl) (by kernel_rfl) (by kernel_rfl) (fun _ _ _ h => h) (Or.inl ⟨by rfl, ?hyr3x19⟩) (by assumption) ?restr3x19
            case hyr3x19 => intro wq hSw; (go_simp); (try with_reducible rfl)
            try simp only [Act.put, List.setIfInBounds_toArray, List.set_cons_zero, List.set_cons_succ]
            refine wpAnyH_take (i := 20) (oi := ⟨some 38, .pick (.tmp 22) (.tmp 37) (.const (.bool false)), 4, "ref.go:53", #[⟨4, .data⟩, ⟨19, .data⟩], none⟩) (v := ?_) rfl (by kernel_rfl) (by kernel_rfl) (by kernel_rfl) (fun _ _ _ h => h) (Or.inl ⟨by rfl, ?hyr3x20⟩) (by assumption) ?restr3x20
            case hyr3x20 => intro wq hSw; (go_simp); (try with_reducible rfl)
            try simp only [Act.put, List.setIfInBounds_toArray, List.set_cons_zero, List.set_cons_succ]
            refine wpAnyH_done (by kernel_rfl) ?_ _
            have dk : ((KX : Int) == (C.length : Int)) = false := by simp; omega
            replace OQ := (OQ.nx (Ex.refl wi).drew).nx kk
            replace kx := (kx.nx (Ex.refl wi).drew).nx kk
            obtain ⟨wa, rfl⟩ : ∃ wa : World, wa = v1 := ⟨_, rfl⟩
            clear kk hc2 f4 f2 hx1' dj1 dj2
            have EC : Hid (C = padC C KX) := Lib.hid (by unfold padC; rw [if_neg (by omega)])
            have CLEN : Hid (∀ c ∈ C, c.length ≤ 1000000) := Lib.hid (fun c hc => Nat.le_trans (FF.out c hc).2.1 (by omega))
            have hKC : KX < C.length := by omega
            have NL : Hid (C.length ≤ 1000001) := Lib.hid (by omega)
            obtain ⟨x5, o5, y5, he5, hx5, hy5, hc5⟩ := (hs.out.nx kx).at hlt
            cases he5
            obtain rfl : y = y5 := Option.some.inj (HY.out.symm.trans hy5)
            have E0 := Lib.hid (hc5 0 _ rfl)
            have E1 := Lib.hid (hc5 1 _ rfl)
            have E2 := Lib.hid (hc5 2 _ rfl)
            clear hy5 hc5 hx5
            obtain ⟨a4, cap4, he4, ll4, _, _, some4⟩ := OQ.ll
            cases he4
            obtain ⟨g4, e4, hg4⟩ := some4 (by intro h0; rw [h0] at hKC; simp at hKC)
            first | subst e4 | (obtain rfl : g4 = g3 := by cases e4; rfl)
            obtain ⟨c, hc⟩ : ∃ c, C[KX]? = some c := ⟨C[KX]'hKC, by simp⟩
            obtain ⟨⟨qa, qn, qc⟩, hq⟩ : ∃ q : Hdr, qs[KX]? = some q := ⟨qs[KX]'(by rw [OQ.2.1]; exact hKC), by simp⟩
            have hcl : c.length ≤ 1000000 := CLEN.out c (List.mem_of_getElem? hc)
            obtain ⟨cy, hcy⟩ : ∃ cy : List Nd, cy = c ++ [y] := ⟨_, rfl⟩
            have FIN : Hid (stepC h C y = C.set KX cy) := Lib.hid (by unfold stepC; rw [KI.out, ← EC.out, hc, hcy]; rfl)
            have HCY := Lib.hid hcy
            clear hcy
            have HQ := Lib.hid hq
            have HCC := Lib.hid hc
            have hn4 : (KX : Int) < (C.length : Int) := by omega
            have hn5 : C.length ≤ 1000001 := NL.out
            clear hc hq ll4 some4
            go_wp2_with fail
            have OQ := Lib.hid (OQ.nx (Ex.refl wa).drew)
            have kx := kx.nx (Ex.refl wa).drew
            have SXF : ∀ cur : World, Sl 3 encN (cur.alloc (.cells #[.int .i64 y.id, .string y.key, .int .u32 y.word] 48)) (some ⟨cur.heap.size, 0, none⟩) 1 [y] := fun cur => Sl.lit _ rfl rfl (fun _ => rfl) rfl
            refine wp_region_held_drew (S := fun _ => True) (by kernel_rfl) (trivial) (fun hHeld => ?_)
            refine wpAnyH_take (i := 0) (oi := ⟨some 48, .move (.tmp 5), 74, "ref.go:59", #[], none⟩) (v := ?_) rfl (by kernel_rfl) (by kernel_rfl) (by kernel_rfl) (fun _ _ _ h => h) (Or.inl ⟨by rfl, ?hyr4x0q1⟩) (by assumption) ?restr4x0q1
            case hyr4x0q1 => intro wq hSw; (go_simp); (try with_reducible rfl)
            try simp only [Act.put, List.setIfInBounds_toArray, List.set_cons_zero, List.set_cons_succ]
            refine wpAnyH_take (i := 1) (oi := ⟨some 49, .move (.tmp 7), 3, "ref.go:59", #[], none⟩) (v := ?_) rfl (by kernel_rfl) (by kernel_rfl) (by kernel_rfl) (fun _ _ _ h => h) (Or.inl ⟨by rfl, ?hyr4x1q4⟩) (by assumption) ?restr4x1q4
            case hyr4x1q4 => intro wq hSw; (go_simp); (try with_reducible rfl)
            try simp only [Act.put, List.setIfInBounds_toArray, List.set_cons_zero, List.set_cons_succ]
            refine wpAnyH_take (i := 2) (oi := ⟨some 50, .move (.tmp 5), 74, "ref.go:59", #[], none⟩) (v := ?_) rfl (by kernel_rfl) (by kernel_rfl) (by kernel_rfl) (fun _ _ _ h => h) (Or.inl ⟨by rfl, ?hyr4x2q7⟩) (by assumption) ?restr4x2q7
            case hyr4x2q7 => intro wq hSw; (go_simp); (try with_reducible rfl)
            try simp only [Act.put, List.setIfInBounds_toArray, List.set_cons_zero, List.set_cons_succ]
            refine wpAnyH_take (i := 3) (oi := ⟨some 51, .move (.tmp 7), 3, "ref.go:59", #[], none⟩) (v := ?_) rfl (by kernel_rfl) (by kernel_rfl) (by kernel_rfl) (fun _ _ _ h => h) (Or.inl ⟨by rfl, ?hyr4x3q10⟩) (by assumption) ?restr4x3q10
            case hyr4x3q10 => intro wq hSw; (go_simp); (try with_reducible rfl)
            try simp only [Act.put, List.setIfInBounds_toArray, List.set_cons_zero, List.set_cons_succ]
            refine wpAnyH_take (i := 4) (oi := ⟨some 52, .indexAddr 74 (.tmp 50) (.tmp 51), 0, "ref.go:59", #[⟨2, .data⟩, ⟨3, .data⟩], none⟩) (v := ?_) rfl (by kernel_rfl) (by kernel_rfl) (by kernel_rfl) (fun _ _ _ h => h) (Or.inl ⟨by rfl, ?hyr4x4q13⟩) (by assumption) ?restr4x4q13
            case hyr4x4q13 => intro wq hSw; (go_simp); (try with_reducible rfl)
            try simp only [Act.put, List.setIfInBounds_toArray, List.set_cons_zero, List.set_cons_succ]
            refine wpAnyH_take (i := 6) (oi := ⟨some 54, .move (.tmp 0), 23, "ref.go:59", #[], none⟩) (v := ?_) rfl (by kernel_rfl) (by kernel_rfl) (by kernel_rfl) (fun _ _ _ h => h) (Or.inl ⟨by rfl, ?hyr4x6q16⟩) (by assumption) ?restr4x6q16
            case hyr4x6q16 => intro wq hSw; (go_simp); (try with_reducible rfl)
            try simp only [Act.put, List.setIfInBounds_toArray, List.set_cons_zero, List.set_cons_succ]
            refine wpAnyH_take (i := 7) (oi := ⟨some 55, .move (.tmp 6), 3, "ref.go:59", #[], none⟩) (v := ?_) rfl (by kernel_rfl) (by kernel_rfl) (by kernel_rfl) (fun _ _ _ h => h) (Or.inl ⟨by rfl, ?hyr4x7q19⟩) (by assumption) ?restr4x7q19
            case hyr4x7q19 => intro wq hSw; (go_simp); (try with_reducible rfl)
            try simp only [Act.put, List.setIfInBounds_toArray, List.set_cons_zero, List.set_cons_succ]
            refine wpAnyH_take (i := 8) (oi := ⟨some 56, .indexAddr 23 (.tmp 54) (.tmp 55), 0, "ref.go:59", #[⟨6, .data⟩, ⟨7, .data⟩], none⟩) (v := ?_) rfl (by kernel_rfl) (by kernel_rfl) (by kernel_rfl) (fun _ _ _ h => h) (Or.inl ⟨by rfl, ?hyr4x8q22⟩) (by assumption) ?restr4x8q22
            case hyr4x8q22 => intro wq hSw; (go_simp); (try with_reducible rfl)
            try simp only [Act.put, List.setIfInBounds_toArray, List.set_cons_zero, List.set_cons_succ]
            refine wpAnyH_ready (rs := [5, 9]) (by kernel_rfl) (by simp) ?_
            refine AllReadyH.cons (o := ⟨some 53, .load 23 (.tmp 52), 23, "ref.go:59", #[⟨4, .data⟩], none⟩) rfl (fun K hK => ?_) ?_
            · have cc := (own_cellH OQ.out.1 HQ.out).1
              simp only [Hdr.val] at cc
              (try have cc2 : (wa.alloc (.cells #[.int .i64 y.id, .string y.key, .int .u32 y.word] 48)).cell? ⟨g4, KX, none⟩ = some (.slice qa qn qc) := cc)
              go_simp
              clear cc
              (try clear cc2)
              refine hK.out _ _ (trivial) (fun hHeld => ?_)
              clear hK K
              try simp only [Act.put, List.setIfInBounds_toArray, List.set_cons_zero, List.set_cons_succ]
              refine wpAnyH_ready (rs := [9]) (by kernel_rfl) (by simp) ?_
              refine AllReadyH.cons (o := ⟨some 57, .load 48 (.tmp 56), 48, "ref.go:59", #[⟨8, .data⟩], none⟩) rfl (fun K hK => ?_) AllReadyH.nil
              have b0 : wa.cell? ⟨x1, o1 + k * 3, none⟩ = some (.int .i64 y.id) := E0.out
              have b1 : wa.cell? ⟨x1, o1 + k * 3 + 1, none⟩ = some (.string y.key) := E1.out
              have b2 : wa.cell? ⟨x1, o1 + k * 3 + 1 + 1, none⟩ = some (.int .u32 y.word) := E2.out
              go_simp
              clear b0 b1 b2
              refine hK.out _ _ (trivial) (fun hHeld => ?_)
              clear hK K
              try simp only [Act.put, List.setIfInBounds_toArray, List.set_cons_zero, List.set_cons_succ]
              refine wpAnyH_ready (rs := [10]) (by kernel_rfl) (by simp) ?_
              refine AllReadyH.cons (o := ⟨some 58, .buildSlice 23 1 #[(0, .tmp 57)], 23, "ref.go:59", #[⟨9, .data⟩], none⟩) rfl (fun K hK => ?_) AllReadyH.nil
              go_simp
              have SX := SXF wa.drew
              have e7 := Ex.new wa.drew (.cells #[.int .i64 y.id, .string y.key, .int .u32 y.word] 48)
              replace OQ := Lib.hid (OQ.out.nx e7)
              replace kx := kx.nx e7
              clear e7
              refine hK.out _ _ (trivial) (fun hHeld => ?_)
              clear hK K
              try simp only [Act.put, List.setIfInBounds_toArray, List.set_cons_zero, List.set_cons_succ]
              refine wpAnyH_ready (rs := [11]) (by kernel_rfl) (by simp) ?_
              refine AllReadyH.cons (o := ⟨some 59, .call { callee := .builtin .append, args := #[.tmp 53, .tmp 58], argTypes := #[23, 23] }, 23, "ref.go:59", #[⟨5, .data⟩, ⟨10, .data⟩], none⟩) rfl (fun K hK => ?_) AllReadyH.nil
              rw [if_pos (by rfl)]
              have z0 := Ex.size kx
              have oi := OQ.out.2.2.1 KX _ _ HQ.out HCC.out
              refine wp_append_rda (enc := encN) _ (.tmp 53) (.tmp 58) 23 rfl w1.heap.size 48 (.agg #[.int .i64 0, .string ByteArray.empty, .int .u32 0]) 3 32 Tryd.underlying23 Tryd.infoN rfl (by omega) (by omega) _ c oi rfl _ _ 1 1 [y] SX (fun h => by cases h) (fun _ => rfl) (by simp [encN, Value.oneCell']) rfl hcl (by omega) z0 ?_
              intro v8 w8 own8 ch0 ch1 hat
              rw [← HCY.out] at own8
              obtain ⟨a8, cap8, rfl, _, _, _, _⟩ := own8.rd (fun _ => rfl)
              obtain ⟨pc, pf, OQ2⟩ := OwnQ.put (q' := (a8, cy.length, cap8)) OQ.out HQ.out own8 ch0 hat
              replace kx : Ex w1 w8 := Chg.trans kx ch1
              replace OQ := Lib.hid OQ2
              clear OQ2 own8 ch0 ch1 hat oi z0 SX
              refine hK.out _ _ (trivial) (fun hHeld => ?_)
              clear hK K
              try simp only [Act.put, List.setIfInBounds_toArray, List.set_cons_zero, List.set_cons_succ]
              refine wpAnyH_take (i := 12) (oi := ⟨some 60, .indexAddr 74 (.tmp 48) (.tmp 49), 0, "ref.go:59", #[⟨0, .data⟩, ⟨1, .data⟩, ⟨0, .phase⟩, ⟨1, .phase⟩, ⟨2, .phase⟩, ⟨3, .phase⟩, ⟨4, .phase⟩, ⟨5, .phase⟩, ⟨6, .phase⟩, ⟨7, .phase⟩, ⟨8, .phase⟩, ⟨9, .phase⟩, ⟨10, .phase⟩, ⟨11, .phase⟩], none⟩) (v := ?_) rfl (by kernel_rfl) (by kernel_rfl) (by kernel_rfl) (fun _ _ _ h => h) (Or.inl ⟨by rfl, ?hyr4x12q73⟩) (by assumption) ?restr4x12q73
              case hyr4x12q73 => intro wq hSw; (go_simp); (try with_reducible rfl)
              try simp only [Act.put, List.setIfInBounds_toArray, List.set_cons_zero, List.set_cons_succ]
              refine wpAnyH_ready (rs := [13]) (by kernel_rfl) (by simp) ?_
              refine AllReadyH.cons (o := ⟨none, .store 23 (.tmp 60) (.tmp 59), 0, "ref.go:59", #[⟨12, .data⟩, ⟨11, .data⟩, ⟨11, .chain⟩, ⟨0, .phase⟩, ⟨1, .phase⟩, ⟨2, .phase⟩, ⟨3, .phase⟩, ⟨4, .phase⟩, ⟨5, .phase⟩, ⟨6, .phase⟩, ⟨7, .phase⟩, ⟨8, .phase⟩, ⟨9, .phase⟩, ⟨10, .phase⟩, ⟨11, .phase⟩], none⟩) rfl (fun K hK => ?_) AllReadyH.nil
              go_simp
              clear pc pf
              refine hK.out _ _ (trivial) (fun hHeld => ?_)
              clear hK K
              try simp only [Act.put, List.setIfInBounds_toArray, List.set_cons_zero, List.set_cons_succ]
              refine wpAnyH_done (by kernel_rfl) ?_ _
              replace kx := kx.setNew (p := ⟨g4, KX, none⟩) (Hdr.val (a8, cy.length, cap8)) hg4
              obtain ⟨wz, hwz⟩ : ∃ wz, wz = w8.setCell ⟨g4, KX, none⟩ (.slice a8 cy.length cap8) := ⟨_, rfl⟩
              have OQ := Lib.hid (OwnQ.cast OQ.out (w' := wz) hwz)
              have kx : Ex w1 wz := by rw [hwz]; exact kx
              rw [← hwz]
              clear hwz SXF hHeld hn5 hcl
              go_wp2_with fail
              exact ⟨⟨k + 1, _, by omega, by go_num, by rw [FS.out, FIN.out]; exact OQ.out, kx⟩, by simp [intOf]; omega⟩
            refine AllReadyH.cons (o := ⟨some 57, .load 48 (.tmp 56), 48, "ref.go:59", #[⟨8, .data⟩], none⟩) rfl (fun K hK => ?_) AllReadyH.nil
            · have b0 : wa.cell? ⟨x1, o1 + k * 3, none⟩ = some (.int .i64 y.id) := E0.out
              have b1 : wa.cell? ⟨x1, o1 + k * 3 + 1, none⟩ = some (.string y.key) := E1.out
              have b2 : wa.cell? ⟨x1, o1 + k * 3 + 1 + 1, none⟩ = some (.int .u32 y.word) := E2.out
              go_simp
              clear b0 b1 b2
              refine hK.out _ _ (trivial) (fun hHeld => ?_)
              clear hK K
              try simp only [Act.put, List.setIfInBounds_toArray, List.set_cons_zero, List.set_cons_succ]
              refine wpAnyH_ready (rs := [5, 10]) (by kernel_rfl) (by simp) ?_
              refine AllReadyH.cons (o := ⟨some 53, .load 23 (.tmp 52), 23, "ref.go:59", #[⟨4, .data⟩], none⟩) rfl (fun K hK => ?_) ?_
              · have cc := (own_cellH OQ.out.1 HQ.out).1
                simp only [Hdr.val] at cc
                (try have cc2 : (wa.alloc (.cells #[.int .i64 y.id, .string y.key, .int .u32 y.word] 48)).cell? ⟨g4, KX, none⟩ = some (.slice qa qn qc) := cc)
                go_simp
                clear cc
                (try clear cc2)
                refine hK.out _ _ (trivial) (fun hHeld => ?_)
                clear hK K
                try simp only [Act.put, List.setIfInBounds_toArray, List.set_cons_zero, List.set_cons_succ]
                refine wpAnyH_ready (rs := [10]) (by kernel_rfl) (by simp) ?_
                refine AllReadyH.cons (o := ⟨some 58, .buildSlice 23 1 #[(0, .tmp 57)], 23, "ref.go:59", #[⟨9, .data⟩], none⟩) rfl (fun K hK => ?_) AllReadyH.nil
                go_simp
                have SX := SXF wa.drew
                have e7 := Ex.new wa.drew (.cells #[.int .i64 y.id, .string y.key, .int .u32 y.word] 48)
                replace OQ := Lib.hid (OQ.out.nx e7)
                replace kx := kx.nx e7
                clear e7
                refine hK.out _ _ (trivial) (fun hHeld => ?_)
                clear hK K
                try simp only [Act.put, List.setIfInBounds_toArray, List.set_cons_zero, List.set_cons_succ]
                refine wpAnyH_ready (rs := [11]) (by kernel_rfl) (by simp) ?_
                refine AllReadyH.cons (o := ⟨some 59, .call { callee := .builtin .append, args := #[.tmp 53, .tmp 58], argTypes := #[23, 23] }, 23, "ref.go:59", #[⟨5, .data⟩, ⟨10, .data⟩], none⟩) rfl (fun K hK => ?_) AllReadyH.nil
                rw [if_pos (by rfl)]
                have z0 := Ex.size kx
                have oi := OQ.out.2.2.1 KX _ _ HQ.out HCC.out
                refine wp_append_rda (enc := encN) _ (.tmp 53) (.tmp 58) 23 rfl w1.heap.size 48 (.agg #[.int .i64 0, .string ByteArray.empty, .int .u32 0]) 3 32 Tryd.underlying23 Tryd.infoN rfl (by omega) (by omega) _ c oi rfl _ _ 1 1 [y] SX (fun h => by cases h) (fun _ => rfl) (by simp [encN, Value.oneCell']) rfl hcl (by omega) z0 ?_
                intro v8 w8 own8 ch0 ch1 hat
                rw [← HCY.out] at own8
                obtain ⟨a8, cap8, rfl, _, _, _, _⟩ := own8.rd (fun _ => rfl)
                obtain ⟨pc, pf, OQ2⟩ := OwnQ.put (q' := (a8, cy.length, cap8)) OQ.out HQ.out own8 ch0 hat
                replace kx : Ex w1 w8 := Chg.trans kx ch1
                replace OQ := Lib.hid OQ2
                clear OQ2 own8 ch0 ch1 hat oi z0 SX
                refine hK.out _ _ (trivial) (fun hHeld => ?_)
                clear hK K
                try simp only [Act.put, List.setIfInBounds_toArray, List.set_cons_zero, List.set_cons_succ]
                refine wpAnyH_take (i := 12) (oi := ⟨some 60, .indexAddr 74 (.tmp 48) (.tmp 49), 0, "ref.go:59", #[⟨0, .data⟩, ⟨1, .data⟩, ⟨0, .phase⟩, ⟨1, .phase⟩, ⟨2, .phase⟩, ⟨3, .phase⟩, ⟨4, .phase⟩, ⟨5, .phase⟩, ⟨6, .phase⟩, ⟨7, .phase⟩, ⟨8, .phase⟩, ⟨9, .phase⟩, ⟨10, .phase⟩, ⟨11, .phase⟩], none⟩) (v := ?_) rfl (by kernel_rfl) (by kernel_rfl) (by kernel_rfl) (fun _ _ _ h => h) (Or.inl ⟨by rfl, ?hyr4x12q132⟩) (by assumption) ?restr4x12q132
                case hyr4x12q132 => intro wq hSw; (go_simp); (try with_reducible rfl)
                try simp only [Act.put, List.setIfInBounds_toArray, List.set_cons_zero, List.set_cons_succ]
                refine wpAnyH_ready (rs := [13]) (by kernel_rfl) (by simp) ?_
                refine AllReadyH.cons (o := ⟨none, .store 23 (.tmp 60) (.tmp 59), 0, "ref.go:59", #[⟨12, .data⟩, ⟨11, .data⟩, ⟨11, .chain⟩, ⟨0, .phase⟩, ⟨1, .phase⟩, ⟨2, .phase⟩, ⟨3, .phase⟩, ⟨4, .phase⟩, ⟨5, .phase⟩, ⟨6, .phase⟩, ⟨7, .phase⟩, ⟨8, .phase⟩, ⟨9, .phase⟩, ⟨10, .phase⟩, ⟨11, .phase⟩], none⟩) rfl (fun K hK => ?_) AllReadyH.nil
                go_simp
                clear pc pf
                refine hK.out _ _ (trivial) (fun hHeld => ?_)
                clear hK K
                try simp only [Act.put, List.setIfInBounds_toArray, List.set_cons_zero, List.set_cons_succ]
                refine wpAnyH_done (by kernel_rfl) ?_ _
                replace kx := kx.setNew (p := ⟨g4, KX, none⟩) (Hdr.val (a8, cy.length, cap8)) hg4
                obtain ⟨wz, hwz⟩ : ∃ wz, wz = w8.setCell ⟨g4, KX, none⟩ (.slice a8 cy.length cap8) := ⟨_, rfl⟩
                have OQ := Lib.hid (OwnQ.cast OQ.out (w' := wz) hwz)
                have kx : Ex w1 wz := by rw [hwz]; exact kx
                rw [← hwz]
                clear hwz SXF hHeld hn5 hcl
                go_wp2_with fail
                exact ⟨⟨k + 1, _, by omega, by go_num, by rw [FS.out, FIN.out]; exact OQ.out, kx⟩, by simp [intOf]; omega⟩
              refine AllReadyH.cons (o := ⟨some 58, .buildSlice 23 1 #[(0, .tmp 57)], 23, "ref.go:59", #[⟨9, .data⟩], none⟩) rfl (fun K hK => ?_) AllReadyH.nil
              · go_simp
                have SX := SXF wa.drew
                have e7 := Ex.new wa.drew (.cells #[.int .i64 y.id, .string y.key, .int .u32 y.word] 48)
                replace OQ := Lib.hid (OQ.out.nx e7)
                replace kx := kx.nx e7
                clear e7
                refine hK.out _ _ (trivial) (fun hHeld => ?_)
                clear hK K
                try simp only [Act.put, List.setIfInBounds_toArray, List.set_cons_zero, List.set_cons_succ]
                refine wpAnyH_ready (rs := [5]) (by kernel_rfl) (by simp) ?_
                refine AllReadyH.cons (o := ⟨some 53, .load 23 (.tmp 52), 23, "ref.go:59", #[⟨4, .data⟩], none⟩) rfl (fun K hK => ?_) AllReadyH.nil
                have cc := (own_cellH OQ.out.1 HQ.out).1
                simp only [Hdr.val] at cc
                (try have cc2 : (wa.alloc (.cells #[.int .i64 y.id, .string y.key, .int .u32 y.word] 48)).cell? ⟨g4, KX, none⟩ = some (.slice qa qn qc) := cc)
                go_simp
                clear cc
                (try clear cc2)
                refine hK.out _ _ (trivial) (fun hHeld => ?_)
                clear hK K
                try simp only [Act.put, List.setIfInBounds_toArray, List.set_cons_zero, List.set_cons_succ]
                refine wpAnyH_ready (rs := [11]) (by kernel_rfl) (by simp) ?_
                refine AllReadyH.cons (o := ⟨some 59, .call { callee := .builtin .append, args := #[.tmp 53, .tmp 58], argTypes := #[23, 23] }, 23, "ref.go:59", #[⟨5, .data⟩, ⟨10, .data⟩], none⟩) rfl (fun K hK => ?_) AllReadyH.nil
                rw [if_pos (by rfl)]
                have z0 := Ex.size kx
                have oi := OQ.out.2.2.1 KX _ _ HQ.out HCC.out
                refine wp_append_rda (enc := encN) _ (.tmp 53) (.tmp 58) 23 rfl w1.heap.size 48 (.agg #[.int .i64 0, .string ByteArray.empty, .int .u32 0]) 3 32 Tryd.underlying23 Tryd.infoN rfl (by omega) (by omega) _ c oi rfl _ _ 1 1 [y] SX (fun h => by cases h) (fun _ => rfl) (by simp [encN, Value.oneCell']) rfl hcl (by omega) z0 ?_
                intro v8 w8 own8 ch0 ch1 hat
                rw [← HCY.out] at own8
                obtain ⟨a8, cap8, rfl, _, _, _, _⟩ := own8.rd (fun _ => rfl)
                obtain ⟨pc, pf, OQ2⟩ := OwnQ.put (q' := (a8, cy.length, cap8)) OQ.out HQ.out own8 ch0 hat
                replace kx : Ex w1 w8 := Chg.trans kx ch1
                replace OQ := Lib.hid OQ2
                clear OQ2 own8 ch0 ch1 hat oi z0 SX
                refine hK.out _ _ (trivial) (fun hHeld => ?_)
                clear hK K
                try simp only [Act.put, List.setIfInBounds_toArray, List.set_cons_zero, List.set_cons_succ]
                refine wpAnyH_take (i := 12) (oi := ⟨some 60, .indexAddr 74 (.tmp 48) (.tmp 49), 0, "ref.go:59", #[⟨0, .data⟩, ⟨1, .data⟩, ⟨0, .phase⟩, ⟨1, .phase⟩, ⟨2, .phase⟩, ⟨3, .phase⟩, ⟨4, .phase⟩, ⟨5, .phase⟩, ⟨6, .phase⟩, ⟨7, .phase⟩, ⟨8, .phase⟩, ⟨9, .phase⟩, ⟨10, .phase⟩, ⟨11, .phase⟩], none⟩) (v := ?_) rfl (by kernel_rfl) (by kernel_rfl) (by kernel_rfl) (fun _ _ _ h => h) (Or.inl ⟨by rfl, ?hyr4x12q181⟩) (by assumption) ?restr4x12q181
                case hyr4x12q181 => intro wq hSw; (go_simp); (try with_reducible rfl)
                try simp only [Act.put, List.setIfInBounds_toArray, List.set_cons_zero, List.set_cons_succ]
                refine wpAnyH_ready (rs := [13]) (by kernel_rfl) (by simp) ?_
                refine AllReadyH.cons (o := ⟨none, .store 23 (.tmp 60) (.tmp 59), 0, "ref.go:59", #[⟨12, .data⟩, ⟨11, .data⟩, ⟨11, .chain⟩, ⟨0, .phase⟩, ⟨1, .phase⟩, ⟨2, .phase⟩, ⟨3, .phase⟩, ⟨4, .phase⟩, ⟨5, .phase⟩, ⟨6, .phase⟩, ⟨7, .phase⟩, ⟨8, .phase⟩, ⟨9, .phase⟩, ⟨10, .phase⟩, ⟨11, .phase⟩], none⟩) rfl (fun K hK => ?_) AllReadyH.nil
                go_simp
                clear pc pf
                refine hK.out _ _ (trivial) (fun hHeld => ?_)
                clear hK K
                try simp only [Act.put, List.setIfInBounds_toArray, List.set_cons_zero, List.set_cons_succ]
                refine wpAnyH_done (by kernel_rfl) ?_ _
                replace kx := kx.setNew (p := ⟨g4, KX, none⟩) (Hdr.val (a8, cy.length, cap8)) hg4
                obtain ⟨wz, hwz⟩ : ∃ wz, wz = w8.setCell ⟨g4, KX, none⟩ (.slice a8 cy.length cap8) := ⟨_, rfl⟩
                have OQ := Lib.hid (OwnQ.cast OQ.out (w' := wz) hwz)
                have kx : Ex w1 wz := by rw [hwz]; exact kx
                rw [← hwz]
                clear hwz SXF hHeld hn5 hcl
                go_wp2_with fail
                exact ⟨⟨k + 1, _, by omega, by go_num, by rw [FS.out, FIN.out]; exact OQ.out, kx⟩, by simp [intOf]; omega⟩
          | false =>
            have HNS : Hid (sameN (headW c) y.word h = false) := Lib.hid (by rw [hHW]; exact hsm)
            rw [hsm] at SR
            have SR := Lib.hid SR
            clear hsm hHW
            go_wp2_with fail
            refine wp_region_held_drew (S := Ex wi.drew) (by kernel_rfl) (Ex.refl _) (fun hHeld => ?_)
            refine wpAnyH_take (i := 0) (oi := ⟨some 18, .move (.tmp 7), 3, "ref.go:53", #[], none⟩) (v := ?_) rfl (by kernel_rfl) (by kernel_rfl) (by kernel_rfl) (fun _ _ _ h => h) (Or.inl ⟨by rfl, ?hyr5x0⟩) (by assumption) ?restr5x0
            case hyr5x0 => intro wq hSw; (go_simp); (try with_reducible rfl)
            try simp only [Act.put, List.setIfInBounds_toArray, List.set_cons_zero, List.set_cons_succ]
            refine wpAnyH_take (i := 1) (oi := ⟨some 19, .move (.tmp 5), 74, "ref.go:53", #[], none⟩) (v := ?_) rfl (by kernel_rfl) (by kernel_rfl) (by kernel_rfl) (fun _ _ _ h => h) (Or.inl ⟨by rfl, ?hyr5x1⟩) (by assumption) ?restr5x1
            case hyr5x1 => intro wq hSw; (go_simp); (try with_reducible rfl)
            try simp only [Act.put, List.setIfInBounds_toArray, List.set_cons_zero, List.set_cons_succ]
            refine wpAnyH_take (i := 2) (oi := ⟨some 20, .call { callee := .builtin .len, args := #[.tmp 19], argTypes := #[74] }, 3, "ref.go:53", #[⟨1, .data⟩], none⟩) (v := ?_) rfl (by kernel_rfl) (by kernel_rfl) (by kernel_rfl) (fun _ _ _ h => h) (Or.inl ⟨by rfl, ?hyr5x2⟩) (by assumption) ?restr5x2
            case hyr5x2 => intro wq hSw; (go_simp); (try with_reducible rfl)
            try simp only [Act.put, List.setIfInBounds_toArray, List.set_cons_zero, List.set_cons_succ]
            refine wpAnyH_take (i := 3) (oi := ⟨some 21, .binOp .lss 3 (.tmp 18) (.tmp 20) 3, 4, "ref.go:53", #[⟨0, .data⟩, ⟨2, .data⟩], none⟩) (v := ?_) rfl (by kernel_rfl) (by kernel_rfl) (by kernel_rfl) (fun _ _ _ h => h) (Or.inl ⟨by rfl, ?hyr5x3⟩) (by assumption) ?restr5x3
            case hyr5x3 => intro wq hSw; (go_simp); (try with_reducible rfl)
            try simp only [Act.put, List.setIfInBounds_toArray, List.set_cons_zero, List.set_cons_succ]
            refine wpAnyH_take (i := 4) (oi := ⟨some 22, .move (.tmp 21), 4, "ref.go:53", #[⟨3, .data⟩], none⟩) (v := ?_) rfl (by kernel_rfl) (by kernel_rfl) (by kernel_rfl) (fun _ _ _ h => h) (Or.inl ⟨by rfl, ?hyr5x4⟩) (by assumption) ?restr5x4
            case hyr5x4 => intro wq hSw; (go_simp); (try with_reducible rfl)
            try simp only [Act.put, List.setIfInBounds_toArray, List.set_cons_zero, List.set_cons_succ]
            refine wpAnyH_take (i := 5) (oi := ⟨some 23, .move (.tmp 5), 74, "ref.go:53", #[⟨4, .guard⟩], some (4, true)⟩) (v := ?_) rfl (by kernel_rfl) (by kernel_rfl) (by kernel_rfl) (fun _ _ _ h => h) (Or.inl ⟨by rfl, ?hyr5x5⟩) (by assumption) ?restr5x5
            case hyr5x5 => intro wq hSw; (go_simp); (try with_reducible rfl)
            try simp only [Act.put, List.setIfInBounds_toArray, List.set_cons_zero, List.set_cons_succ]
            refine wpAnyH_take (i := 6) (oi := ⟨some 24, .move (.tmp 7), 3, "ref.go:53", #[⟨4, .guard⟩], some (4, true)⟩) (v := ?_) rfl (by kernel_rfl) (by kernel_rfl) (by kernel_rfl) (fun _ _ _ h => h) (Or.inl ⟨by rfl, ?hyr5x6⟩) (by assumption) ?restr5x6
            case hyr5x6 => intro wq hSw; (go_simp); (try with_reducible rfl)
            try simp only [Act.put, List.setIfInBounds_toArray, List.set_cons_zero, List.set_cons_succ]
            refine wpAnyH_take (i := 7) (oi := ⟨some 25, .indexAddr 74 (.tmp 23) (.tmp 24), 0, "ref.go:53", #[⟨5, .data⟩, ⟨6, .data⟩, ⟨4, .guard⟩], some (4, true)⟩) (v := ?_) rfl (by kernel_rfl) (by kernel_rfl) (by kernel_rfl) (fun _ _ _ h => h) (Or.inl ⟨by rfl, ?hyr5x7⟩) (by assumption) ?restr5x7
            case hyr5x7 => intro wq hSw; (go_simp); (try with_reducible rfl)
            try simp only [Act.put, List.setIfInBounds_toArray, List.set_cons_zero, List.set_cons_succ]
            refine wpAnyH_take (i := 8) (oi := ⟨some 26, .load 23 (.tmp 25), 23, "ref.go:53", #[⟨7, .data⟩, ⟨4, .guard⟩], some (4, true)⟩) (v := ?_) rfl (by kernel_rfl) (by kernel_rfl) (by kernel_rfl) (fun _ _ _ h => h) (Or.inl ⟨by rfl, ?hyr5x8⟩) (by assumption) ?restr5x8
            case hyr5x8 => intro wq hSw; (have cq := Chg.cellv hSw hc2 hx2; go_simp); (try with_reducible rfl)
            try simp only [Act.put, List.setIfInBounds_toArray, List.set_cons_zero, List.set_cons_succ]
            refine wpAnyH_take (i := 9) (oi := ⟨some 27, .indexAddr 23 (.tmp 26) (.const (.int .i64 0)), 0, "ref.go:53", #[⟨8, .data⟩, ⟨4, .guard⟩], some (4, true)⟩) (v := ?_) rfl (by kernel_rfl) (by kernel_rfl) (by kernel_rfl) (fun _ _ _ h => h) (Or.inl ⟨by rfl, ?hyr5x9⟩) (by assumption) ?restr5x9
            case hyr5x9 => intro wq hSw; (go_simp); (try with_reducible rfl)
            try simp only [Act.put, List.setIfInBounds_toArray, List.set_cons_zero, List.set_cons_succ]
            refine wpAnyH_take (i := 10) (oi := ⟨some 28, .fieldAddr 48 (.tmp 27) 2, 0, "ref.go:53", #[⟨9, .data⟩, ⟨4, .guard⟩], some (4, true)⟩) (v := ?_) rfl (by kernel_rfl) (by kernel_rfl) (by kernel_rfl) (fun _ _ _ h => h) (Or.inl ⟨by rfl, ?hyr5x10⟩) (by assumption) ?restr5x10
            case hyr5x10 => intro wq hSw; (go_simp); (try with_reducible rfl)
            try simp only [Act.put, List.setIfInBounds_toArray, List.set_cons_zero, List.set_cons_succ]
            refine wpAnyH_take (i := 11) (oi := ⟨some 29, .load 46 (.tmp 28), 46, "ref.go:53", #[⟨10, .data⟩, ⟨4, .guard⟩], some (4, true)⟩) (v := ?_) rfl (by kernel_rfl) (by kernel_rfl) (by kernel_rfl) (fun _ _ _ h => h) (Or.inl ⟨by rfl, ?hyr5x11⟩) (by assumption) ?restr5x11
            case hyr5x11 => intro wq hSw; (have cq := Chg.cellv hSw f4 hx4; go_simp); (try with_reducible rfl)
            try simp only [Act.put, List.setIfInBounds_toArray, List.set_cons_zero, List.set_cons_succ]
            refine wpAnyH_take (i := 12) (oi := ⟨some 30, .move (.tmp 0), 23, "ref.go:53", #[⟨4, .guard⟩], some (4, true)⟩) (v := ?_) rfl (by kernel_rfl) (by kernel_rfl) (by kernel_rfl) (fun _ _ _ h => h) (Or.inl ⟨by rfl, ?hyr5x12⟩) (by assumption) ?restr5x12
            case hyr5x12 => intro wq hSw; (go_simp); (try with_reducible rfl)
            try simp only [Act.put, List.setIfInBounds_toArray, List.set_cons_zero, List.set_cons_succ]
            refine wpAnyH_take (i := 13) (oi := ⟨some 31, .move (.tmp 6), 3, "ref.go:53", #[⟨4, .guard⟩], some (4, true)⟩) (v := ?_) rfl (by kernel_rfl) (by kernel_rfl) (by kernel_rfl) (fun _ _ _ h => h) (Or.inl ⟨by rfl, ?hyr5x13⟩) (by assumption) ?restr5x13
            case hyr5x13 => intro wq hSw; (go_simp); (try with_reducible rfl)
            try simp only [Act.put, List.setIfInBounds_toArray, List.set_cons_zero, List.set_cons_succ]
            refine wpAnyH_take (i := 14) (oi := ⟨some 32, .indexAddr 23 (.tmp 30) (.tmp 31), 0, "ref.go:53", #[⟨12, .data⟩, ⟨13, .data⟩, ⟨4, .guard⟩], some (4, true)⟩) (v := ?_) rfl (by kernel_rfl) (by kernel_rfl) (by kernel_rfl) (fun _ _ _ h => h) (Or.inl ⟨by rfl, ?hyr5x14⟩) (by assumption) ?restr5x14
            case hyr5x14 => intro wq hSw; (go_simp); (try with_reducible rfl)
            try simp only [Act.put, List.setIfInBounds_toArray, List.set_cons_zero, List.set_cons_succ]
            refine wpAnyH_take (i := 15) (oi := ⟨some 33, .fieldAddr 48 (.tmp 32) 2, 0, "ref.go:53", #[⟨14, .data⟩, ⟨4, .guard⟩], some (4, true)⟩) (v := ?_) rfl (by kernel_rfl) (by kernel_rfl) (by kernel_rfl) (fun _ _ _ h => h) (Or.inl ⟨by rfl, ?hyr5x15⟩) (by assumption) ?restr5x15
            case hyr5x15 => intro wq hSw; (go_simp); (try with_reducible rfl)
            try simp only [Act.put, List.setIfInBounds_toArray, List.set_cons_zero, List.set_cons_succ]
            refine wpAnyH_take (i := 16) (oi := ⟨some 34, .load 46 (.tmp 33), 46, "ref.go:53", #[⟨15, .data⟩, ⟨4, .guard⟩], some (4, true)⟩) (v := ?_) rfl (by kernel_rfl) (by kernel_rfl) (by kernel_rfl) (fun _ _ _ h => h) (Or.inl ⟨by rfl, ?hyr5x16⟩) (by assumption) ?restr5x16
            case hyr5x16 => intro wq hSw; (have cq := Chg.cellv hSw f2 hx1'; go_simp); (try with_reducible rfl)
            try simp only [Act.put, List.setIfInBounds_toArray, List.set_cons_zero, List.set_cons_succ]
            refine wpAnyH_take (i := 17) (oi := ⟨some 35, .move (.tmp 1), 3, "ref.go:53", #[⟨4, .guard⟩], some (4, true)⟩) (v := ?_) rfl (by kernel_rfl) (by kernel_rfl) (by kernel_rfl) (fun _ _ _ h => h) (Or.inl ⟨by rfl, ?hyr5x17⟩) (by assumption) ?restr5x17
            case hyr5x17 => intro wq hSw; (go_simp); (try with_reducible rfl)
            try simp only [Act.put, List.setIfInBounds_toArray, List.set_cons_zero, List.set_cons_succ]
            refine wpAnyH_ready (rs := [18]) (by kernel_rfl) (by simp) ?_
            refine AllReadyH.cons (o := ⟨some 36, .call { callee := .value (.func 29), args := #[.tmp 29, .tmp 34, .tmp 35], argTypes := #[46, 46, 3] }, 4, "ref.go:53", #[⟨11, .data⟩, ⟨16, .data⟩, ⟨17, .data⟩, ⟨4, .chain⟩, ⟨4, .guard⟩], some (4, true)⟩) rfl (fun K hK => ?_) AllReadyH.nil
            go_simp
            refine (SR.out _).mono ?_
            rintro e v1 ⟨rfl, kk⟩
            refine hK.out _ _ kk (fun _ => ?_)
            clear hK K
            try simp only [Act.put, List.setIfInBounds_toArray, List.set_cons_zero, List.set_cons_succ]
            refine wpAnyH_switch (S' := Ex v1) (fun _ hSw => Ex.nx kk hSw) ?_
            clear hHeld
            have hHeld := Ex.refl v1
            refine wpAnyH_take (i := 19) (oi := ⟨some 37, .unOp .not 4 (.tmp 36), 4, "ref.go:53", #[⟨18, .data⟩, ⟨4, .guard⟩], some (4, true)⟩) (v := ?_) rfl (by kernel_rfl) (by kernel_rfl) (by kernel_rfl) (fun _ _ _ h => h) (Or.inl ⟨by rfl, ?hyr5x19⟩) (by assumption) ?restr5x19
            case hyr5x19 => intro wq hSw; (go_simp); (try with_reducible rfl)
            try simp only [Act.put, List.setIfInBounds_toArray, List.set_cons_zero, List.set_cons_succ]
            refine wpAnyH_take (i := 20) (oi := ⟨some 38, .pick (.tmp 22) (.tmp 37) (.const (.bool false)), 4, "ref.go:53", #[⟨4, .data⟩, ⟨19, .data⟩], none⟩) (v := ?_) rfl (by kernel_rfl) (by kernel_rfl) (by kernel_rfl) (fun _ _ _ h => h) (Or.inl ⟨by rfl, ?hyr5x20⟩) (by assumption) ?restr5x20
            case hyr5x20 => intro wq hSw; (go_simp); (try with_reducible rfl)
            try simp only [Act.put, List.setIfInBounds_toArray, List.set_cons_zero, List.set_cons_succ]
            refine wpAnyH_done (by kernel_rfl) ?_ _
            clear hc2 f4 f2 hx1' dj1 dj2
            go_wp2_with fail
            refine ⟨⟨KX + 1, by omega, by go_num, (KIX.out.nx (Ex.refl wi).drew).nx kk, fun j c' hj hc' => ?_⟩, by simp [intOf]; omega⟩
            rcases Nat.lt_or_ge j KX with h | h
            · exact HNO.out j c' h hc'
            · obtain rfl : j = KX := by omega
              rw [Option.some.inj (hc'.symm.trans HY2.out)]
              exact HNS.out
    · obtain rfl : k = n := by omega
      rw [List.take_of_length_le (by rw [HL.out]; exact Nat.le_refl _)] at OQ
      obtain ⟨a3, cap3, rfl, ll3, hc3, _, _⟩ := OQ.ll
      have LL3 := Lib.hid ll3
      clear OQ ll3 hk
      go_wp2_with fail
      go_ret
      exact ⟨a3, cap3, by rw [HF.out]; rfl, by rw [HF.out]; exact LL3.out, kx⟩
end Go.Proofs.YtihpaonhonhfoaaDoor

/- Find, Through, Neighbours, Height of the reference. -/
namespace Go.Proofs.YtihpaonhonhfoaaDoor
open Go.RowKit

def Nd.val (x : Nd) : Value := .agg #[.int .i64 x.id, .string x.key, .int .u32 x.word]
def Nd.zero : Nd := ⟨0, ⟨#[]⟩, 0⟩
theorem bytesLess_total : ∀ x y : List UInt8, Op.bytesLess x y = false → Op.bytesLess y x = false → x = y
  | [], [], _, _ => rfl
  | [], b :: y, h, _ => by simp [Op.bytesLess] at h
  | a :: x, [], _, h => by simp [Op.bytesLess] at h
  | a :: x, b :: y, h1, h2 => by
    simp only [Op.bytesLess, Bool.or_eq_false_iff, Bool.and_eq_false_iff, decide_eq_false_iff_not, beq_eq_false_iff_ne] at h1 h2
    have hab : a = b := by
      rcases UInt8.lt_or_le a b with h | h
      · exact absurd h h1.1
      · rcases UInt8.lt_or_eq_of_le h with h | h
        · exact absurd h h2.1
        · exact h.symm
    subst hab
    rw [bytesLess_total x y (h1.2.resolve_left (by simp)) (h2.2.resolve_left (by simp))]
theorem insN_mem (out : List Nd) (x y : Nd) : y ∈ insN out x ↔ y ∈ out ∨ y = x := by
  unfold insN
  rw [List.mem_append, List.mem_cons]
  constructor
  · rintro (h | h | h)
    · exact .inl (List.mem_of_mem_take h)
    · exact .inr h
    · exact .inl (List.mem_of_mem_drop h)
  · rintro (h | h)
    · have : y ∈ out.take (atN out x out.length) ++ out.drop (atN out x out.length) := by rw [List.take_append_drop]; exact h
      rcases List.mem_append.1 this with h | h
      · exact .inl h
      · exact .inr (.inr h)
    · exact .inr (.inl h)
theorem sortN_mem (l : List Nd) (y : Nd) : y ∈ sortN l ↔ y ∈ l := by
  have : ∀ (l out : List Nd), y ∈ l.foldl insN out ↔ y ∈ out ∨ y ∈ l := by
    intro l
    induction l with
    | nil => intro out; simp
    | cons x r ih => intro out; rw [List.foldl_cons, ih, insN_mem, List.mem_cons, or_assoc]
  have := this l []
  simpa [sortN] using this

/-- the first node with a number -/
def findN (l : List Nd) (id : Int) : Nd × Bool := match l.find? (fun x => x.id == id) with | some x => (x, true) | none => (Nd.zero, false)
theorem findN_of {l : List Nd} {id : Int} {k : Nat} {y : Nd} (hy : l[k]? = some y) (he : y.id = id) (hno : ∀ j z, j < k → l[j]? = some z → z.id ≠ id) : findN l id = (y, true) := by
  have hk := (List.getElem?_eq_some_iff.1 hy).1
  have : l.find? (fun x => x.id == id) = some y := by
    rw [List.find?_eq_some_iff_getElem]
    refine ⟨by simpa using he, k, hk, (List.getElem?_eq_some_iff.1 hy).2, fun j hj => ?_⟩
    have := hno j l[j] hj (by simp)
    simpa using this
  unfold findN
  rw [this]
theorem findN_none {l : List Nd} {id : Int} (hno : ∀ j z, j < l.length → l[j]? = some z → z.id ≠ id) : findN l id = (Nd.zero, false) := by
  have : l.find? (fun x => x.id == id) = none := by
    rw [List.find?_eq_none]
    intro x hx
    obtain ⟨j, hj, he⟩ := List.mem_iff_getElem.1 hx
    have := hno j x hj (by rw [← he]; simp)
    simpa using this
  unfold findN
  rw [this]
def FdRel (l : List Nd) (id : Int) (w : World) (i : Value) (wr : World) : Prop :=
  ∃ k : Nat, k ≤ l.length ∧ i = .int .i64 k ∧ Ex w wr ∧ ∀ j z, j < k → l[j]? = some z → z.id ≠ id

set_option maxHeartbeats 1000000 in
theorem find_r (a : Option Addr) (n cp : Nat) (l : List Nd) (id : Int) (w : World) (h : Sl 3 encN w a n l) (hn : n ≤ 1000000) :
    Calls Tryd.prog 64 #[.slice a n cp, .int .i64 id] w fun e w' => e = .returned (.tuple #[(findN l id).1.val, .bool (findN l id).2]) ∧ Ex w w' := by
  have HL := Lib.hid h.len
  have hs := Lib.hid h
  have k1 := Ex.new w (.cells #[.int .i64 0, .string ⟨#[]⟩, .int .u32 0] 48)
  have B1 := Blk.new w [.int .i64 0, .string ⟨#[]⟩, .int .u32 0] 48
  obtain ⟨w1, hw1⟩ : ∃ w1, w1 = w.alloc (.cells #[.int .i64 0, .string ⟨#[]⟩, .int .u32 0] 48) := ⟨_, rfl⟩
  obtain ⟨g, hg⟩ : ∃ g, g = w.heap.size := ⟨_, rfl⟩
  have B1 : Blk w1 g [.int .i64 0, .string ⟨#[]⟩, .int .u32 0] 48 := by rw [hw1, hg]; exact B1
  rw [← hw1] at k1
  have hgn : w.heap.size ≤ g := by omega
  have HW1 := Lib.hid hw1
  have HG := Lib.hid hg
  clear h hw1 hg
  go_enter Tryd.func64, Tryd.ntmps64
  go_upto_region 1 with fail
  rw [← HG.out, ← HW1.out]
  go_wp2_with fail
  go_loopw [6] (fun i wr => FdRel l id w1 i wr) (fun i _ => n - (intOf i).toNat)
  case atStart => exact ⟨0, by omega, rfl, Ex.refl _, by intro _ _ h; omega⟩
  case round =>
    obtain ⟨k, hk, rfl, kw, hno⟩ := hrel
    have HNO := Lib.hid hno
    rw [HL.out] at hk
    clear hno
    obtain ⟨wo, rfl⟩ : ∃ wo : World, wo = wr := ⟨_, rfl⟩
    have B := B1.nx kw
    have q0 := B.cell 0 _ rfl
    have q1 := B.cell 1 _ rfl
    have q2 := B.cell 2 _ rfl
    have z0 := B.free 0
    have z1 := B.free 1
    have z2 := B.free 2
    by_cases hlt : k < n
    · obtain ⟨x1, o1, y, rfl, hx1, hy, hc1⟩ := ((hs.out.nx k1).nx kw).at hlt
      have e0 : wo.cell? ⟨x1, o1 + k * 3, none⟩ = some (.int .i64 y.id) := hc1 0 _ rfl
      have e1 : wo.cell? ⟨x1, o1 + k * 3 + 1, none⟩ = some (.string y.key) := hc1 1 _ rfl
      have e2 : wo.cell? ⟨x1, o1 + k * 3 + 1 + 1, none⟩ = some (.int .u32 y.word) := by simpa [Nat.add_assoc] using hc1 2 _ rfl
      have HY := Lib.hid hy
      have BO := Lib.hid B
      clear hy hc1 B B1
      by_cases hid : y.id = id
      · have HF : Hid (findN l id = (y, true)) := Lib.hid (findN_of HY.out hid HNO.out)
        have d1 : (y.id == id) = true := by simpa using hid
        clear hid
        go_wp2_with fail
        refine bodyPost_ret (v := .tuple #[.agg #[.int .i64 y.id, .string y.key, .int .u32 y.word], .bool true]) (by simp [results, Tryd.results64, go_sem, *]) rfl ⟨by rw [HF.out]; rfl, ?_⟩
        exact (((k1.nx kw).setNew (p := ⟨g, 0, none⟩) _ hgn).setNew (p := ⟨g, 1, none⟩) _ hgn).setNew (p := ⟨g, 2, none⟩) _ hgn
      · have d1 : (y.id == id) = false := by simpa using hid
        have HID := Lib.hid hid
        clear hid q0 q1 q2 z0 z1 z2
        go_wp2_with fail
        refine ⟨⟨k + 1, by rw [HL.out]; omega, by go_num, kw, fun j z hj hz => ?_⟩, by simp [intOf]; omega⟩
        rcases Nat.lt_or_ge j k with h | h
        · exact HNO.out j z h hz
        · obtain rfl : j = k := by omega
          rw [Option.some.inj (hz.symm.trans HY.out)]
          exact HID.out
    · have HF : Hid (findN l id = (Nd.zero, false)) := Lib.hid (findN_none (fun j z hj hz => HNO.out j z (by have := HL.out; omega) hz))
      clear B1
      go_wp2_with fail
      refine bodyPost_ret (v := .tuple #[.agg #[.int .i64 0, .string ⟨#[]⟩, .int .u32 0], .bool false]) (by simp [results, Tryd.results64, go_sem, *]) rfl ⟨by rw [HF.out]; rfl, ?_⟩
      exact (((k1.nx kw).setNew (p := ⟨g, 0, none⟩) _ hgn).setNew (p := ⟨g, 1, none⟩) _ hgn).setNew (p := ⟨g, 2, none⟩) _ hgn

def lvlN (h : Int) : Bool := decide (0 ≤ h) && decide (h ≤ 16)
theorem level_r (h : Int) (w : World) : Calls Tryd.prog 40 #[.int .i64 h] w fun e w' => e = .returned (.bool (lvlN h)) ∧ w = w' := by
  go_enter Tryd.func40, Tryd.ntmps40
  by_cases h0 : 0 ≤ h
  · have HV : Hid (lvlN h = decide (h ≤ 16)) := Lib.hid (by unfold lvlN; simp [h0])
    go_wp2
    go_ret
    exact ⟨by rw [HV.out]; rfl, rfl⟩
  · have HV : Hid (lvlN h = false) := Lib.hid (by unfold lvlN; simp [h0])
    go_wp2
    go_ret
    exact ⟨by rw [HV.out]; rfl, rfl⟩

theorem sort_word {l : List Nd} (hw : ∀ x ∈ l, x.word < 4294967296) : ∀ x ∈ sortN l, x.word < 4294967296 := fun x hx => hw x ((sortN_mem l x).1 hx)
set_option maxHeartbeats 1000000 in
theorem classes6_r (a : Option Addr) (n cp : Nat) (l : List Nd) (h : Int) (w : World) (hs : Sl 3 encN w a n l) (hn : n ≤ 1000) (hw : ∀ x ∈ l, x.word < 4294967296) :
    Calls Tryd.prog 46 #[.slice a n cp, .int .i64 h] w (ClPost (classesN (sortN l) h) w) := by
  have HW := Lib.hid (sort_word hw)
  have HL := sortN_length l
  have hl := hs.len
  clear hw
  go_enter Tryd.func46, Tryd.ntmps46
  go_wp2_with fail
  (with_reducible refine (sort_r _ _ _ _ _ hs hn).mono ?_)
  rintro e w1 ⟨a1, n1, c1, rfl, r1, kk⟩
  have r1 : Slf 3 encN w w1 a1 n1 _ := r1
  have hn1 : n1 ≤ 1000 := by have := r1.len; omega
  replace kk : Ex w w1 := kk
  clear hs HL hl
  go_wp2_with fail
  (with_reducible refine (classes_r _ _ _ _ _ _ r1.sl hn1 HW.out).mono ?_)
  rintro e w2 ⟨a2, c2, rfl, C2, k2⟩
  clear r1
  go_wp2_with fail
  go_ret
  exact ⟨a2, c2, rfl, C2, kk.nx k2⟩

def heightN (l : List Nd) : Nat := if (checkN l == 0) = false ∨ l.length = 0 then 0 else ((List.range 16).find? fun h => !decide ((classesN (sortN l) (h : Nat)).length < l.length)).getD 16
theorem heightN_of {l : List Nd} {k : Nat} (hk : k < 16) (h1 : (checkN l == 0) = true) (h2 : l.length ≠ 0) (hk2 : ¬ (classesN (sortN l) (k : Nat)).length < l.length) (hno : ∀ j, j < k → (classesN (sortN l) (j : Nat)).length < l.length) : heightN l = k := by
  have : (List.range 16).find? (fun h => !decide ((classesN (sortN l) (h : Nat)).length < l.length)) = some k := by
    rw [List.find?_eq_some_iff_getElem]
    refine ⟨by simpa using hk2, k, by simpa using hk, by simp, fun j hj => ?_⟩
    have := hno j hj
    simpa using this
  unfold heightN
  rw [if_neg (by rw [h1]; simp [h2]), this]
  rfl
theorem heightN_top {l : List Nd} (h1 : (checkN l == 0) = true) (h2 : l.length ≠ 0) (hno : ∀ j, j < 16 → (classesN (sortN l) (j : Nat)).length < l.length) : heightN l = 16 := by
  have : (List.range 16).find? (fun h => !decide ((classesN (sortN l) (h : Nat)).length < l.length)) = none := by
    rw [List.find?_eq_none]
    intro j hj
    have := hno j (by simpa using hj)
    simpa using this
  unfold heightN
  rw [if_neg (by rw [h1]; simp [h2]), this]
  rfl
def HtRel (l : List Nd) (w : World) (i : Value) (wr : World) : Prop := ∃ k : Nat, k ≤ 16 ∧ i = .int .i64 k ∧ Ex w wr ∧ ∀ j, j < k → (classesN (sortN l) (j : Nat)).length < l.length
set_option maxHeartbeats 1000000 in
theorem height_r (a : Option Addr) (n cp : Nat) (l : List Nd) (w : World) (hs : Sl 3 encN w a n l) (hn : n ≤ 1000) (hw : ∀ x ∈ l, x.word < 4294967296) :
    Calls Tryd.prog 24 #[.slice a n cp] w fun e w' => e = .returned (.int .i64 (heightN l)) ∧ Ex w w' := by
  have HW := Lib.hid hw
  have HL := Lib.hid hs.len
  clear hw
  go_enter Tryd.func24, Tryd.ntmps24
  go_wp2_with fail
  (with_reducible refine (is_r _ _ _ _ _ hs (by omega)).mono ?_)
  rintro e w1 ⟨rfl, k1⟩
  have S1 := hs.nx k1
  clear hs
  cases hc : (checkN l == 0) with
  | false =>
    have HH : Hid (heightN l = 0) := Lib.hid (by unfold heightN; rw [if_pos (.inl hc)])
    clear hc S1
    go_wp2_with fail
    go_ret
    exact ⟨by rw [HH.out]; rfl, k1⟩
  | true =>
    have HC := Lib.hid hc
    clear hc
    by_cases hn0 : n = 0
    · have HH : Hid (heightN l = 0) := Lib.hid (by unfold heightN; rw [if_pos (.inr (by rw [HL.out]; exact hn0))])
      have d0 : ((n : Int) == 0) = true := by simp; omega
      clear S1
      go_wp2_with fail
      go_ret
      exact ⟨by rw [HH.out]; rfl, k1⟩
    · have d0 : ((n : Int) == 0) = false := by simp; omega
      have HN : Hid (l.length ≠ 0) := Lib.hid (by rw [HL.out]; exact hn0)
      have S1 := Lib.hid S1
      clear hn0
      go_wp2_with fail
      go_loopw [3] (fun i wr => HtRel l w1 i wr) (fun i _ => 16 - (intOf i).toNat)
      case atStart => exact ⟨0, by omega, rfl, Ex.refl _, by intro _ h; omega⟩
      case round =>
        obtain ⟨k, hk, rfl, kw, hno⟩ := hrel
        have HNO := Lib.hid hno
        obtain ⟨wo, rfl⟩ : ∃ wo : World, wo = wr := ⟨_, rfl⟩
        clear hno
        by_cases hlt : k < 16
        · have SO := S1.out.nx kw
          go_wp2_with fail
          (with_reducible refine (classes6_r _ _ _ _ _ _ SO hn HW.out).mono ?_)
          rintro e w2 ⟨a2, c2, rfl, C2, k2⟩
          replace kw := kw.nx k2
          have CK := Lib.hid (rfl : classesN (sortN l) (k : Int) = classesN (sortN l) (k : Int))
          clear SO C2
          by_cases hm : (classesN (sortN l) (k : Int)).length < l.length
          · have HM := Lib.hid hm
            have dm : ((classesN (sortN l) (k : Int)).length : Int) < (n : Int) := by rw [← HL.out]; omega
            clear hm
            go_wp2_with fail
            refine ⟨⟨k + 1, by omega, by go_num, kw, fun j hj => ?_⟩, by simp [intOf]; omega⟩
            rcases Nat.lt_or_ge j k with h | h
            · exact HNO.out j h
            · obtain rfl : j = k := by omega
              exact HM.out
          · have HH : Hid (heightN l = k) := Lib.hid (heightN_of hlt HC.out HN.out hm HNO.out)
            have dm : ¬ ((classesN (sortN l) (k : Int)).length : Int) < (n : Int) := by rw [← HL.out]; omega
            clear hm
            go_wp2_with fail
            go_ret
            exact ⟨by rw [HH.out]; rfl, k1.nx kw⟩
        · obtain rfl : k = 16 := by omega
          have HH : Hid (heightN l = 16) := Lib.hid (heightN_top HC.out HN.out HNO.out)
          go_wp2_with fail
          go_ret
          exact ⟨by rw [HH.out]; rfl, k1.nx kw⟩
end Go.Proofs.YtihpaonhonhfoaaDoor

/- The order of nodes, and the sorted list of nodes, in plain Lean. -/
namespace Go.Proofs.YtihpaonhonhfoaaDoor
open Go.RowKit

/-- the order of the package roster -/
def ltN (a b : Nd) : Bool := Op.bytesLess a.key.toList b.key.toList || (a.key.toList == b.key.toList && decide (a.id < b.id))
theorem bl_trans {x y z : List UInt8} (h1 : Op.bytesLess x y = true) (h2 : Op.bytesLess y z = true) : Op.bytesLess x z = true := by
  rw [bytesLess_eq] at *
  simp only [decide_eq_true_eq] at *
  exact List.lt_trans h1 h2
theorem bl_asymm {x y : List UInt8} (h : Op.bytesLess x y = true) : Op.bytesLess y x = false := by
  cases h2 : Op.bytesLess y x with
  | false => rfl
  | true =>
    have h3 := bl_trans h h2
    rw [bytesLess_irrefl] at h3
    cases h3
/-- exactly one of three -/
theorem bl_tri (x y : List UInt8) : (Op.bytesLess x y = true ∧ Op.bytesLess y x = false ∧ x ≠ y) ∨ (x = y ∧ Op.bytesLess x y = false ∧ Op.bytesLess y x = false) ∨ (Op.bytesLess y x = true ∧ Op.bytesLess x y = false ∧ x ≠ y) := by
  cases h1 : Op.bytesLess x y with
  | true => exact .inl ⟨rfl, bl_asymm h1, fun he => by rw [he, bytesLess_irrefl] at h1; cases h1⟩
  | false =>
    cases h2 : Op.bytesLess y x with
    | true => exact .inr (.inr ⟨rfl, rfl, fun he => by rw [he, bytesLess_irrefl] at h2; cases h2⟩)
    | false => exact .inr (.inl ⟨bytesLess_total x y h1 h2, rfl, rfl⟩)
theorem ltN_iff (a b : Nd) : ltN a b = true ↔ Op.bytesLess a.key.toList b.key.toList = true ∨ (a.key.toList = b.key.toList ∧ a.id < b.id) := by
  unfold ltN; simp
theorem ltN_no (a b : Nd) : ltN a b = false ↔ Op.bytesLess b.key.toList a.key.toList = true ∨ (a.key.toList = b.key.toList ∧ b.id ≤ a.id) := by
  rw [← Bool.not_eq_true, ltN_iff]
  rcases bl_tri a.key.toList b.key.toList with ⟨h1, h2, h3⟩ | ⟨h1, h2, h3⟩ | ⟨h1, h2, h3⟩
  · simp [h1, h2, h3]
  · simp [h1, bytesLess_irrefl]
  · simp [h1, h2, h3]
theorem gtN_lt (a b : Nd) : gtN a b = ltN b a := by
  unfold gtN ltN
  rcases bl_tri a.key.toList b.key.toList with ⟨h1, h2, h3⟩ | ⟨h1, h2, h3⟩ | ⟨h1, h2, h3⟩
  · have e1 : (a.key.toList == b.key.toList) = false := by rw [beq_eq_false_iff_ne]; exact h3
    have e2 : (b.key.toList == a.key.toList) = false := by rw [beq_eq_false_iff_ne]; exact fun h => h3 h.symm
    rw [h1, h2, e1, e2]; rfl
  · simp [h1, bytesLess_irrefl]
  · have e1 : (a.key.toList == b.key.toList) = false := by rw [beq_eq_false_iff_ne]; exact h3
    have e2 : (b.key.toList == a.key.toList) = false := by rw [beq_eq_false_iff_ne]; exact fun h => h3 h.symm
    rw [h1, h2, e1, e2]; rfl
theorem swo_ltN : Sort.SWO ltN where
  irrefl x := by unfold ltN; simp [bytesLess_irrefl]
  trans x y z h1 h2 := by
    rw [ltN_iff] at *
    rcases h1 with h1 | ⟨h1, h1'⟩ <;> rcases h2 with h2 | ⟨h2, h2'⟩
    · exact .inl (bl_trans h1 h2)
    · exact .inl (by rw [← h2]; exact h1)
    · exact .inl (by rw [h1]; exact h2)
    · exact .inr ⟨h1.trans h2, by omega⟩
  ntrans x y z h1 h2 := by
    rw [ltN_no] at *
    rcases h1 with h1 | ⟨h1, h1'⟩ <;> rcases h2 with h2 | ⟨h2, h2'⟩
    · exact .inl (bl_trans h2 h1)
    · exact .inl (by rw [← h2]; exact h1)
    · exact .inl (by rw [h1]; exact h2)
    · exact .inr ⟨h1.trans h2, by omega⟩
/-- ascending: none is less than one before it -/
def AscN (l : List Nd) : Prop := l.Pairwise fun x y => ltN y x = false
theorem atN_spec (out : List Nd) (x : Nd) (h : AscN out) : ∀ n, n ≤ out.length → (∀ j y, n ≤ j → out[j]? = some y → ltN x y = true) →
    (∀ j y, atN out x n ≤ j → out[j]? = some y → ltN x y = true) ∧ (∀ j y, j < atN out x n → out[j]? = some y → ltN x y = false)
  | 0, _, h1 => ⟨h1, by intro j y hj; unfold atN at hj; omega⟩
  | n + 1, hn, h1 => by
    have hy : out[n]? = some out[n] := List.getElem?_eq_getElem (by omega)
    unfold atN
    rw [hy]
    simp only
    split
    · rename_i hg
      rw [gtN_lt] at hg
      refine atN_spec out x h n (by omega) fun j y hj hjy => ?_
      rcases Nat.lt_or_ge n j with h2 | h2
      · exact h1 j y h2 hjy
      · obtain rfl : j = n := by omega
        rw [hy] at hjy
        cases hjy
        exact hg
    · rename_i hg
      rw [gtN_lt] at hg
      have hg : ltN x out[n] = false := by simpa using hg
      refine ⟨h1, fun j y hj hjy => ?_⟩
      rcases Nat.lt_or_ge j n with h2 | h2
      · have hj' := List.getElem?_eq_some_iff.1 hjy
        have := List.pairwise_iff_getElem.1 h j n hj'.1 (by omega) h2
        rw [hj'.2] at this
        exact swo_ltN.ntrans _ _ _ hg this
      · obtain rfl : j = n := by omega
        rw [hy] at hjy
        cases hjy
        exact hg
theorem insN_asc {out : List Nd} (x : Nd) (h : AscN out) : AscN (insN out x) := by
  obtain ⟨h1, h2⟩ := atN_spec out x h out.length (Nat.le_refl _) (by intro j y hj hjy; have := (List.getElem?_eq_some_iff.1 hjy).1; omega)
  unfold insN AscN
  have ha : (out.take (atN out x out.length) ++ out.drop (atN out x out.length)).Pairwise fun x y => ltN y x = false := by rw [List.take_append_drop]; exact h
  rw [List.pairwise_append] at ha ⊢
  refine ⟨ha.1, List.pairwise_cons.2 ⟨fun y hy => ?_, ha.2.1⟩, fun y hy z hz => ?_⟩
  · obtain ⟨j, hj⟩ := List.mem_iff_getElem?.1 hy
    rw [List.getElem?_drop] at hj
    exact swo_ltN.asymmA (h1 _ y (by omega) hj)
  · rcases List.mem_cons.1 hz with rfl | hz
    · obtain ⟨j, hj⟩ := List.mem_iff_getElem?.1 hy
      rw [List.getElem?_take] at hj
      split at hj
      · exact h2 j y (by assumption) hj
      · cases hj
    · exact ha.2.2 y hy z hz
theorem insN_perm (out : List Nd) (x : Nd) : (insN out x).Perm (x :: out) := by
  unfold insN
  have h := List.perm_middle (a := x) (l₁ := out.take (atN out x out.length)) (l₂ := out.drop (atN out x out.length))
  rw [List.take_append_drop] at h
  exact h
theorem fold_asc : ∀ (l out : List Nd), AscN out → AscN (l.foldl insN out)
  | [], _, h => h
  | x :: r, out, h => fold_asc r _ (insN_asc x h)
theorem fold_perm : ∀ (l out : List Nd), (l.foldl insN out).Perm (l ++ out)
  | [], _ => List.Perm.refl _
  | x :: r, out => by
    rw [List.foldl_cons, List.cons_append]
    exact (fold_perm r _).trans (((insN_perm out x).append_left r).trans List.perm_middle)
theorem sortN_asc (l : List Nd) : AscN (sortN l) := fold_asc l [] List.Pairwise.nil
theorem sortN_perm (l : List Nd) : (sortN l).Perm l := by
  have := fold_perm l []
  rwa [List.append_nil] at this
/-- no key twice -/
def KeysN (l : List Nd) : Prop := ∀ (i k : Nat) (x y : Nd), k < i → l[i]? = some x → l[k]? = some y → x.key ≠ y.key ∧ x.id ≠ y.id
theorem check_keys {l : List Nd} (h : checkN l = 0) : KeysN l := by
  unfold checkN at h
  split at h
  · omega
  · split at h
    · omega
    · split at h
      · omega
      · rename_i hd
        intro i k x y hk hx hy
        have : ¬ eqN x y = true := fun he => hd ((dupN_iff l).2 ⟨i, k, x, y, hk, hx, hy, he⟩)
        unfold eqN at this
        simp only [Bool.or_eq_true, beq_iff_eq, not_or] at this
        exact ⟨fun he => this.2 (by rw [he]), this.1⟩
theorem keys_eq {l : List Nd} (h : KeysN l) {x y : Nd} (hx : x ∈ l) (hy : y ∈ l) (he : x.key.toList = y.key.toList) : x = y := by
  obtain ⟨i, hi⟩ := List.mem_iff_getElem?.1 hx
  obtain ⟨k, hk⟩ := List.mem_iff_getElem?.1 hy
  have hke : x.key = y.key := by
    rw [ByteArray.toList_eq, ByteArray.toList_eq] at he
    exact ByteArray.ext (Array.toList_inj.1 he)
  rcases Nat.lt_trichotomy i k with hlt | rfl | hlt
  · exact absurd hke.symm (h k i y x hlt hk hi).1
  · exact Option.some.inj (hi.symm.trans hk)
  · exact absurd hke (h i k x y hlt hi hk).1
theorem ids_eq {l : List Nd} (h : KeysN l) {x y : Nd} (hx : x ∈ l) (hy : y ∈ l) (he : x.id = y.id) : x = y := by
  obtain ⟨i, hi⟩ := List.mem_iff_getElem?.1 hx
  obtain ⟨k, hk⟩ := List.mem_iff_getElem?.1 hy
  rcases Nat.lt_trichotomy i k with hlt | rfl | hlt
  · exact absurd he.symm (h k i y x hlt hk hi).2
  · exact Option.some.inj (hi.symm.trans hk)
  · exact absurd he (h i k x y hlt hi hk).2
/-- there is one sorted list of nodes without a key that occurs twice -/
theorem sortN_unique {l S : List Nd} (hk : KeysN l) (hp : S.Perm l) (hs : AscN S) : S = sortN l := by
  refine List.Perm.eq_of_pairwise (le := fun x y => ltN y x = false) ?_ hs (sortN_asc l) (hp.trans (sortN_perm l).symm)
  intro a b ha hb h1 h2
  have ha := hp.mem_iff.1 ha
  have hb := (sortN_mem l b).1 hb
  rw [ltN_no] at h1 h2
  rcases h1 with h1 | ⟨h1, _⟩
  · rcases h2 with h2 | ⟨h2, _⟩
    · rw [bl_asymm h1] at h2; cases h2
    · exact keys_eq hk ha hb h2
  · exact (keys_eq hk hb ha h1).symm
end Go.Proofs.YtihpaonhonhfoaaDoor

/- The comparison of Sort of the package roster. -/
namespace Go.Proofs.YtihpaonhonhfoaaDoor
open Go.RowKit Go.Sort Go.Lib

instance : Inhabited Nd := ⟨Nd.zero⟩

set_option maxRecDepth 100000 in
set_option maxHeartbeats 4000000 in
theorem less_n (blk off B n c i j : Nat) (x y : Nd) (w : World) (hb : w.cell? ⟨B, 0, none⟩ = some (.slice (some ⟨blk, off, none⟩) n c)) (hi : i < n) (hj : j < n) (hn : n < 4611686018427387904)
    (x0 : w.cell? ⟨blk, off + i * 3, none⟩ = some (.int .i64 x.id)) (x1 : w.cell? ⟨blk, off + i * 3 + 1, none⟩ = some (.string x.key)) (x2 : w.cell? ⟨blk, off + i * 3 + 2, none⟩ = some (.int .u32 x.word))
    (y0 : w.cell? ⟨blk, off + j * 3, none⟩ = some (.int .i64 y.id)) (y1 : w.cell? ⟨blk, off + j * 3 + 1, none⟩ = some (.string y.key)) (y2 : w.cell? ⟨blk, off + j * 3 + 2, none⟩ = some (.int .u32 y.word)) :
    Calls Tryd.prog 77 #[.int .i64 i, .int .i64 j, .pointer (some ⟨B, 0, none⟩)] w fun e w' => e = .returned (.bool (ltN x y)) ∧ ∃ (q : Nat) (o1 o2 : Obj), w' = ((w.drewN q).alloc o1).alloc o2 := by
  have hil : (i : Int) < (n : Int) := by omega
  have hjl : (j : Int) < (n : Int) := by omega
  have hi0 : (0 : Int) ≤ (i : Int) := by omega
  have hj0 : (0 : Int) ≤ (j : Int) := by omega
  have nb := World.new_ne w _ hb
  have nx0 := World.new_ne w _ x0
  have ny0 := World.new_ne w _ y0
  go_enter Tryd.func77, Tryd.ntmps77
  go_wp2
  go_region_held3 (fun w' => w'.cell? ⟨B, 0, none⟩ = some (.slice (some ⟨blk, off, none⟩) n c) ∧ w'.cell? ⟨blk, off + i * 3, none⟩ = some (.int .i64 x.id) ∧ w'.cell? ⟨blk, off + i * 3 + 1, none⟩ = some (.string x.key) ∧ w'.cell? ⟨blk, off + i * 3 + 2, none⟩ = some (.int .u32 x.word) ∧ w'.cell? ⟨blk, off + j * 3, none⟩ = some (.int .i64 y.id) ∧ w'.cell? ⟨blk, off + j * 3 + 1, none⟩ = some (.string y.key) ∧ w'.cell? ⟨blk, off + j * 3 + 2, none⟩ = some (.int .u32 y.word))
    (go_keep) (fail)
  all_goals
    cases h1 : Op.bytesLess x.key.toList y.key.toList with
    | true =>
      have HL : Hid (ltN x y = true) := Lib.hid (by unfold ltN; rw [h1]; rfl)
      go_wp2
      go_ret
      exact ⟨by rw [HL.out]; rfl, 1, _, _, rfl⟩
    | false =>
      cases h2 : (x.key.toList == y.key.toList) with
      | false =>
        have HL : Hid (ltN x y = false) := Lib.hid (by unfold ltN; rw [h1, h2]; rfl)
        go_wp2
        go_ret
        exact ⟨by rw [HL.out]; rfl, 1, _, _, rfl⟩
      | true =>
        by_cases h3 : x.id < y.id
        · have HL : Hid (ltN x y = true) := Lib.hid (by unfold ltN; rw [h1, h2, decide_eq_true h3]; rfl)
          go_wp2
          go_ret
          exact ⟨by rw [HL.out]; rfl, 1, _, _, rfl⟩
        · have HL : Hid (ltN x y = false) := Lib.hid (by unfold ltN; rw [h1, h2, decide_eq_false h3]; rfl)
          go_wp2
          go_ret
          exact ⟨by rw [HL.out]; rfl, 1, _, _, rfl⟩
end Go.Proofs.YtihpaonhonhfoaaDoor

/- The comparison of Sort of the package roster in the worlds of the sort; a copy of a list of nodes. -/
namespace Go.Proofs.YtihpaonhonhfoaaDoor
open Go.RowKit Go.Sort Go.Lib

theorem lessg_n (blk off B n c : Nat) (d : Array Nd) (w : World) (hd : d.size = n) (hH : HoldsK encN 3 w blk off d) (hblk : blk < w.heap.size) (hbox : w.cell? ⟨B, 0, none⟩ = some (.slice (some ⟨blk, off, none⟩) n c)) (hne : B ≠ blk) (hn : n < 4611686018427387904) :
    LessG Tryd.prog 77 #[.pointer (some ⟨B, 0, none⟩)] encN 3 ltN blk off d.size w := by
  intro m os dk hs i j hi hj
  have hB : B < w.heap.size := World.block_lt_of_cell? w _ hbox
  have hHk : HoldsK encN 3 (sortWorldK encN 3 w blk off m dk os) blk off dk := holdsK_sortWorldK encN 3 w blk off m d dk os hblk hH hs
  have hb : (sortWorldK encN 3 w blk off m dk os).cell? ⟨B, 0, none⟩ = some (.slice (some ⟨blk, off, none⟩) n c) := by
    unfold sortWorldK
    rw [cell?_grow _ _ _ (by rw [size_putRowK]; exact hB), cell?_putRowK_other encN 3 _ blk off _ _ hne]
    exact hbox
  refine (less_n blk off B n c i j dk[i]! dk[j]! _ hb (by omega) (by omega) hn (hHk.cell (i := i) (c := 0) (by omega) (by omega)).1 (hHk.cell (i := i) (c := 1) (by omega) (by omega)).1 (hHk.cell (i := i) (c := 2) (by omega) (by omega)).1
    (hHk.cell (i := j) (c := 0) (by omega) (by omega)).1 (hHk.cell (i := j) (c := 1) (by omega) (by omega)).1 (hHk.cell (i := j) (c := 2) (by omega) (by omega)).1).mono ?_
  rintro e w' ⟨rfl, q, o1, o2, rfl⟩
  refine ⟨rfl, q, #[o1, o2], ?_⟩
  rw [sortWorldK_drewN, alloc_eq_grow, alloc_eq_grow, grow_grow]
  unfold sortWorldK
  rw [grow_grow]
  rfl

set_option maxRecDepth 100000 in
set_option maxHeartbeats 2000000 in
/-- slices.Clone -/
theorem clone_n (a : Option Addr) (n c : Nat) (l : List Nd) (w : World) (h : Sl 3 encN w a n l) (hn : n ≤ 1000) :
    Calls Tryd.prog 57 #[.slice a n c] w fun e w' => ∃ v, e = .returned v ∧ OwnL 3 encN 48 w.heap.size w' v l ∧ Ex w w' := by
  have HL := Lib.hid h.len
  cases a with
  | none =>
    have hn0 : n = 0 := by
      rcases h.2 with h0 | ⟨x, o, e, _⟩
      · exact h0
      · cases e
    have hl : l = [] := List.eq_nil_of_length_eq_zero (HL.out.trans hn0)
    subst hn0 hl
    clear h HL
    have hq : ∀ w : World, (binOp .eql 23 (.slice none 0 c) (.slice none 0 0)).run Tryd.prog w = .ok (.bool true) w := fun w => Lib.run_eql_slice_nil w 23 48 none 0 c 0 0 Tryd.underlying23
    go_enter Tryd.func57, Tryd.ntmps57
    go_wp2
    go_ret
    exact ⟨_, rfl, OwnL.nil _ _ _ _ _, Ex.refl _⟩
  | some A =>
    have q0 := Ex.new w (.cells #[] 48)
    have h0 := h.nx q0
    have own0 : OwnL 3 encN 48 w.heap.size (w.alloc (.cells #[] 48)) (.slice (some ⟨w.heap.size, 0, none⟩) 0 0) [] := OwnL.empty (Nat.le_refl _) rfl
    clear h
    have hq : ∀ w : World, (binOp .eql 23 (.slice (some A) n c) (.slice none 0 0)).run Tryd.prog w = .ok (.bool false) w := fun w => Lib.run_eql_slice_nil w 23 48 (some A) n c 0 0 Tryd.underlying23
    go_enter Tryd.func57, Tryd.ntmps57
    go_wp2_with (at_builtin; (refine wpList_append_rd (enc := encN) _ rfl _ _ 23 rfl w.heap.size 48 (.agg #[.int .i64 0, .string ByteArray.empty, .int .u32 0]) 3 32 Tryd.underlying23 Tryd.infoN rfl (by omega) (by omega) _ [] own0 rfl _ (some A) n c l h0 (fun h => by cases h) (fun _ => rfl) (by simp [encN, Value.oneCell']) rfl (by simp) (by omega) (by simp) ?_); intro v1 w1 own1 hch0 hch1)
    go_ret
    rw [List.nil_append] at own1
    exact ⟨_, rfl, own1, Chg.trans q0 hch1⟩
end Go.Proofs.YtihpaonhonhfoaaDoor

/- sort.SliceIsSorted and sort.SliceStable over nodes. -/
namespace Go.Proofs.YtihpaonhonhfoaaDoor
open Go.RowKit Go.Sort Go.Lib

noncomputable def Tryd.svT : TypeInfo := (Tryd.prog.info? 23).get (by kernel_rfl)
noncomputable def Tryd.svE : TypeInfo := (Tryd.prog.info? 48).get (by kernel_rfl)
theorem Tryd.svT_eq : Tryd.prog.info? 23 = some Tryd.svT := by kernel_rfl
theorem Tryd.svE_eq : Tryd.prog.info? 48 = some Tryd.svE := by kernel_rfl
theorem Tryd.svT_desc : Tryd.svT.desc = .slice 48 := by kernel_rfl
theorem Tryd.svT_packed : Tryd.prog.packed 23 = false := by kernel_rfl
theorem Tryd.svK (n : Nat) (h2 : 2 ≤ n) : Lib.swapperK n Tryd.svE 25 = 9 := by
  have a : Tryd.svE.hasPointers = true := by kernel_rfl
  have b : Tryd.svE.bytes = 32 := by kernel_rfl
  have c : (n == 0) = false := by simp; omega
  have d : (n == 1) = false := by simp; omega
  simp [Lib.swapperK, a, b, c, d]

theorem Tryd.glob : Tryd.prog.globals.size = 2 := by kernel_rfl
set_option maxRecDepth 100000 in
set_option maxHeartbeats 2000000 in
theorem issorted_tiny (a : Option Addr) (n c : Nat) (lf : Fn) (la lb : Array Value) (w : World) (hn : n ≤ 1) :
    Calls Tryd.prog 78 #[.iface 23 (.slice a n c), .func lf la lb] w fun e w' => e = .returned (.bool true) ∧ Ex w w' := by
  have hv := run_valueOf_slice (P := Tryd.prog) 23 48 Tryd.svT Tryd.svT_eq Tryd.svT_desc a n c w
  have hl := fun ad w ha => run_valueLen_slice (P := Tryd.prog) 23 48 Tryd.svT Tryd.svT_eq Tryd.svT_desc Tryd.svT_packed ad a n c w ha
  simp only [typeHandle, Tryd.glob] at hv hl
  have hlt : ¬ (0 : Int) < (n : Int) - 1 := by omega
  go_enter Tryd.func78, Tryd.ntmps78
  go_wp2
  rw [run_callFunc_extern Tryd.func81 (by kernel_rfl) (by kernel_rfl) (by kernel_rfl) (e := fun args => Extern.ReflectliteValue.unpack (args.getD 0 (.tuple #[]))) (by kernel_rfl),
    show Sem.run Tryd.prog ((fun args : Array Value => Extern.ReflectliteValue.unpack (args.getD 0 (.tuple #[]))) #[.iface 23 (.slice a n c)]) w = _ from hv]
  simp only [Result.andThen]
  rw [Oper.upon_value]
  go_wp2
  rw [run_callFunc_extern Tryd.func82 (by kernel_rfl) (by kernel_rfl) (by kernel_rfl) (e := Extern.ReflectliteValue.method (Extern.ReflectliteValue.valueError "reflectlite.Value.Len" 0) Extern.ReflectliteValue.len) (by kernel_rfl),
    hl _ _ (by simp)]
  simp only [Result.andThen]
  rw [Oper.upon_value]
  go_wp2
  refine wp_loop_rounds 1 ?_
  rw [rounds_succ]
  go_wp2
  go_ret
  exact ⟨rfl, ((Ex.refl w).alloc _).alloc _⟩

/-- what SliceIsSorted gives -/
def IsoPost (blk off n : Nat) (d : Array Nd) (w : World) (e : Ending) (w' : World) : Prop :=
  ∃ (b : Bool) (m : Nat) (os : Array Obj), e = .returned (.bool b) ∧ (b = true → ∀ i, 0 < i → i < n → ltN d[i]! d[i - 1]! = false) ∧ w' = sortWorldK encN 3 w blk off m d os
set_option maxRecDepth 100000 in
set_option maxHeartbeats 4000000 in
theorem issorted_n (blk off B n c : Nat) (d : Array Nd) (w : World) (hd : d.size = n) (hH : HoldsK encN 3 w blk off d) (hblk : blk < w.heap.size) (hbox : w.cell? ⟨B, 0, none⟩ = some (.slice (some ⟨blk, off, none⟩) n c)) (hne : B ≠ blk) (hn0 : 1 ≤ n) (hn : n < 4611686018427387904) :
    Calls Tryd.prog 78 #[.iface 23 (.slice (some ⟨blk, off, none⟩) n c), .func (.func 77) #[] #[.pointer (some ⟨B, 0, none⟩)]] w
      (IsoPost blk off n d w) := by
  have hv := run_valueOf_slice (P := Tryd.prog) 23 48 Tryd.svT Tryd.svT_eq Tryd.svT_desc (some ⟨blk, off, none⟩) n c w
  have hl := fun ad w ha => run_valueLen_slice (P := Tryd.prog) 23 48 Tryd.svT Tryd.svT_eq Tryd.svT_desc Tryd.svT_packed ad (some ⟨blk, off, none⟩) n c w ha
  simp only [typeHandle, Tryd.glob] at hv hl
  have LG := lessg_n blk off B n c d w hd hH hblk hbox hne hn
  have HLG := Lib.hid LG
  have HD := Lib.hid hd
  have hW : ∀ o1 o2 : Obj, (w.alloc o1).alloc o2 = sortWorldK encN 3 w blk off 0 d #[o1, o2] := fun o1 o2 => by
    have : sortWorldK encN 3 w blk off 0 d #[] = w := sortWorldK_start encN 3 w blk off d hH
    rw [alloc_eq_grow, alloc_eq_grow, grow_grow]
    unfold sortWorldK at this ⊢
    rw [grow_empty] at this
    rw [this]
    rfl
  have HW := Lib.hid hW
  have eg : ∀ args w, (callFunc 77 args).run Tryd.prog w = .ok (.enter 77 args) w := enters_of Tryd.func77 (by kernel_rfl) rfl
  clear hH hd LG hW hbox
  go_enter Tryd.func78, Tryd.ntmps78
  go_wp2
  rw [run_callFunc_extern Tryd.func81 (by kernel_rfl) (by kernel_rfl) (by kernel_rfl) (e := fun args => Extern.ReflectliteValue.unpack (args.getD 0 (.tuple #[]))) (by kernel_rfl),
    show Sem.run Tryd.prog ((fun args : Array Value => Extern.ReflectliteValue.unpack (args.getD 0 (.tuple #[]))) #[.iface 23 (.slice (some ⟨blk, off, none⟩) n c)]) w = _ from hv]
  simp only [Result.andThen]
  rw [Oper.upon_value]
  go_wp2
  rw [run_callFunc_extern Tryd.func82 (by kernel_rfl) (by kernel_rfl) (by kernel_rfl) (e := Extern.ReflectliteValue.method (Extern.ReflectliteValue.valueError "reflectlite.Value.Len" 0) Extern.ReflectliteValue.len) (by kernel_rfl),
    hl _ _ (by simp)]
  simp only [Result.andThen]
  rw [Oper.upon_value]
  clear hv hl
  go_wp2
  go_loopw [7] (fun vi wr => ∃ (i m : Nat) (os : Array Obj), vi = .int .i64 i ∧ i + 1 ≤ n ∧ (∀ j, i < j → j < n → ltN d[j]! d[j - 1]! = false) ∧ wr = sortWorldK encN 3 w blk off m d os) (fun vi _ => (intOf vi).toNat)
  case atStart => exact ⟨n - 1, 0, _, by rw [Int.natCast_sub hn0]; rfl, by omega, by intro j h1 h2; omega, HW.out _ _⟩
  case round =>
    obtain ⟨i, m, os, rfl, hin, hso, hwr⟩ := hrel
    have HSO := Lib.hid hso
    have HWR := Lib.hid hwr
    clear hso hwr
    by_cases hi0 : 0 < i
    · have hi1 : (0 : Int) < (i : Int) := by omega
      have hl := HLG.out m os d rfl i (i - 1) (by rw [HD.out]; omega) (by rw [HD.out]; omega)
      rw [← HWR.out, show (((i - 1 : Nat) : Int)) = (i : Int) - 1 by omega] at hl
      cases hlv : ltN d[i]! d[i - 1]! with
      | true =>
        rw [hlv] at hl
        clear hlv
        go_wp2_with fail
        refine hl.mono ?_
        rintro e w1 ⟨rfl, q, os', hw1⟩
        have HW1 := Lib.hid hw1
        clear hw1 hl
        go_wp2_with fail
        go_ret
        exact ⟨false, m + q, os ++ os', rfl, fun h => (by cases h), HW1.out⟩
      | false =>
        rw [hlv] at hl
        have HLV := Lib.hid hlv
        clear hlv
        go_wp2_with fail
        refine hl.mono ?_
        rintro e w1 ⟨rfl, q, os', hw1⟩
        have HW1 := Lib.hid hw1
        clear hw1 hl
        go_wp2
        go_roundw
        case rel => exact ⟨i - 1, m + q, os ++ os', by rw [show ((i - 1 : Nat) : Int) = (i : Int) - 1 by omega], by omega, fun j h1 h2 => by
          rcases Nat.lt_or_ge i j with h | h
          · exact HSO.out j h h2
          · obtain rfl : j = i := by omega
            exact HLV.out, HW1.out⟩
        case measure => simp [intOf]; omega
    · have hi1 : ¬ (0 : Int) < (i : Int) := by omega
      go_wp2
      go_ret
      exact ⟨true, m, os, rfl, fun _ j h1 h2 => HSO.out j (by omega) h2, HWR.out⟩

theorem swaps_n (blk off n c : Nat) : SwapSwapsK Tryd.prog 94 #[.slice (some ⟨blk, off, none⟩) n c, .pointer (some ⟨2, 48, none⟩)] encN 3 blk off n := by
  have h := swapSwapsK_of_literal (P := Tryd.prog) false 94
    (fun args W => run_callFunc_extern Tryd.func94 (by kernel_rfl) (by kernel_rfl) (by kernel_rfl) (e := Extern.ReflectliteSwapper.swap false) (by kernel_rfl) args W)
    48 Tryd.svE Tryd.svE_eq encN 3 (fun _ => rfl) (by kernel_rfl) (fun _ => by kernel_rfl) (fun x v hv => by simp [encN] at hv; rcases hv with rfl | rfl | rfl <;> rfl) blk off n c
  rw [typeHandle, Tryd.glob] at h
  exact h
theorem swapper_n (blk off n c : Nat) (hn2 : 2 ≤ n) (w : World) : (Extern.ReflectliteSwapper.swapper "internal/reflectlite" (Extern.ReflectliteValue.valueError "Swapper") #[.iface 23 (.slice (some ⟨blk, off, none⟩) n c)]).run Tryd.prog w
    = .ok (.func (.func 94) #[] #[.slice (some ⟨blk, off, none⟩) n c, .pointer (some ⟨2, 48, none⟩)]) w := by
  have h := run_swapper_slice (P := Tryd.prog) 23 48 Tryd.svT Tryd.svE Tryd.svT_eq Tryd.svT_desc Tryd.svE_eq 25 (fun _ => by kernel_rfl) (some ⟨blk, off, none⟩) n c 94 (by rw [Tryd.svK n hn2]; kernel_rfl) w
  rw [if_neg (by rw [Tryd.svK n hn2]; omega), typeHandle, Tryd.glob] at h
  exact h
set_option maxRecDepth 100000 in
set_option maxHeartbeats 4000000 in
theorem slicestable_n (blk off B n c : Nat) (d : Array Nd) (w : World) (hd : d.size = n) (hH : HoldsK encN 3 w blk off d) (hblk : blk < w.heap.size) (hbox : w.cell? ⟨B, 0, none⟩ = some (.slice (some ⟨blk, off, none⟩) n c)) (hne : B ≠ blk) (hn2 : 2 ≤ n) (hn : n < 1152921504606846976) :
    Calls Tryd.prog 79 #[.iface 23 (.slice (some ⟨blk, off, none⟩) n c), .func (.func 77) #[] #[.pointer (some ⟨B, 0, none⟩)]] w
      (SrtPost encN 3 w blk off fun d' => PermIn 0 n d d' ∧ SortedIn ltN 0 n d') := by
  have hv := run_valueOf_slice (P := Tryd.prog) 23 48 Tryd.svT Tryd.svT_eq Tryd.svT_desc (some ⟨blk, off, none⟩) n c w
  have hl := fun ad w ha => run_valueLen_slice (P := Tryd.prog) 23 48 Tryd.svT Tryd.svT_eq Tryd.svT_desc Tryd.svT_packed ad (some ⟨blk, off, none⟩) n c w ha
  have hs := fun w => swapper_n blk off n c hn2 w
  have HSW := Lib.hid (swaps_n blk off n c)
  simp only [typeHandle, Tryd.glob] at hv hl
  have LG := lessg_n blk off B n c d w hd hH hblk hbox hne (by omega)
  have hW : ∀ o1 o2 : Obj, (w.alloc o1).alloc o2 = sortWorldK encN 3 w blk off 0 d #[o1, o2] := fun o1 o2 => by
    have : sortWorldK encN 3 w blk off 0 d #[] = w := sortWorldK_start encN 3 w blk off d hH
    rw [alloc_eq_grow, alloc_eq_grow, grow_grow]
    unfold sortWorldK at this ⊢
    rw [grow_empty] at this
    rw [this]
    rfl
  have eg : ∀ args w, (callFunc 77 args).run Tryd.prog w = .ok (.enter 77 args) w := enters_of Tryd.func77 (by kernel_rfl) rfl
  have ST : Hid (∀ (o1 o2 : Obj), Calls Tryd.prog 84 #[dta 77 #[.pointer (some ⟨B, 0, none⟩)] 94 #[.slice (some ⟨blk, off, none⟩) n c, .pointer (some ⟨2, 48, none⟩)], .int .i64 n] ((w.alloc o1).alloc o2)
      (SrtPost encN 3 w blk off fun d' => PermIn 0 n d d' ∧ SortedIn ltN 0 n d')) := Lib.hid (fun o1 o2 => by
    rw [hW]
    have hsw : SwapSwapsK Tryd.prog 94 #[.slice (some ⟨blk, off, none⟩) n c, .pointer (some ⟨2, 48, none⟩)] encN 3 blk off d.size := by rw [hd]; exact HSW.out
    refine (stable_s (enc := encN) (kk := 3) (lt := ltN) (fun _ => rfl) swo_ltN 77 #[.pointer (some ⟨B, 0, none⟩)] 94 #[.slice (some ⟨blk, off, none⟩) n c, .pointer (some ⟨2, 48, none⟩)] eg blk off n d _ hd (LG.on hblk 0 d _ rfl) hsw (holdsK_sortWorldK encN 3 w blk off 0 d d _ hblk hH rfl) (lt_sortWorldK encN 3 w blk off 0 d _ hblk) hn).mono ?_
    rintro e w' ⟨rfl, m, os, d', hp, rfl⟩
    exact ⟨rfl, 0 + m, #[o1, o2] ++ os, d', hp, sortWorldK_on encN 3 w blk off 0 m d d' _ os hblk (by rw [hp.1.1])⟩)
  clear hH hd LG hW hbox HSW eg
  go_enter Tryd.func79, Tryd.ntmps79
  go_wp2
  rw [run_callFunc_extern Tryd.func81 (by kernel_rfl) (by kernel_rfl) (by kernel_rfl) (e := fun args => Extern.ReflectliteValue.unpack (args.getD 0 (.tuple #[]))) (by kernel_rfl),
    show Sem.run Tryd.prog ((fun args : Array Value => Extern.ReflectliteValue.unpack (args.getD 0 (.tuple #[]))) #[.iface 23 (.slice (some ⟨blk, off, none⟩) n c)]) w = _ from hv]
  simp only [Result.andThen]
  rw [Oper.upon_value]
  go_wp2
  rw [run_callFunc_extern Tryd.func83 (by kernel_rfl) (by kernel_rfl) (by kernel_rfl) (e := Extern.ReflectliteSwapper.swapper "internal/reflectlite" (Extern.ReflectliteValue.valueError "Swapper")) (by kernel_rfl), hs]
  simp only [Result.andThen]
  rw [Oper.upon_value]
  go_wp2
  rw [run_callFunc_extern Tryd.func82 (by kernel_rfl) (by kernel_rfl) (by kernel_rfl) (e := Extern.ReflectliteValue.method (Extern.ReflectliteValue.valueError "reflectlite.Value.Len" 0) Extern.ReflectliteValue.len) (by kernel_rfl),
    hl _ _ (by simp)]
  simp only [Result.andThen]
  rw [Oper.upon_value]
  clear hv hl hs
  go_wp2_with fail
  refine (ST.out _ _).mono ?_
  rintro e w' ⟨rfl, m, os, d', hp, hw⟩
  have HP := Lib.hid hp
  have HW := Lib.hid hw
  clear hp hw ST
  go_wp2
  go_end0
  exact ⟨rfl, m, os, d', HP.out, HW.out⟩
end Go.Proofs.YtihpaonhonhfoaaDoor

/- Sort of the package roster. -/
namespace Go.Proofs.YtihpaonhonhfoaaDoor
open Go.RowKit Go.Sort Go.Lib

theorem flatK_list (d : Array Nd) : flatK encN 3 d = (d.toList.flatMap encN).toArray := by
  have hlen : (d.toList.flatMap encN).length = d.size * 3 := by rw [flatW_len (sz := 3) (fun _ => rfl), Array.length_toList]
  refine ext_get! (by rw [size_flatK]; simp [hlen]) fun t ht => ?_
  rw [size_flatK] at ht
  rw [get_flatK encN 3 d t ht]
  have hd : t / 3 < d.size := by omega
  have hm : t % 3 < (encN d[t / 3]!).length := by show t % 3 < 3; omega
  have h1 : d.toList[t / 3]? = some d[t / 3]! := by
    rw [getElem!_pos d (t / 3) hd, List.getElem?_eq_getElem (by simpa using hd)]
    simp
  have h := flat_at (enc := encN) (sz := 3) (fun _ => rfl) d.toList (t / 3) d[t / 3]! h1 (t % 3) _ (List.getElem?_eq_getElem hm)
  rw [show t / 3 * 3 + t % 3 = t by omega] at h
  rw [getElem!_pos (encN d[t / 3]!) (t % 3) hm]
  have ht' : t < (d.toList.flatMap encN).length := by omega
  rw [getElem!_pos _ t (by simpa using ht')]
  rw [List.getElem?_eq_getElem ht'] at h
  simpa using (Option.some.inj h).symm
theorem own_holds {e : TypeId} {base g n cap : Nat} {w : World} {l : List Nd} (h : OwnL 3 encN e base w (.slice (some ⟨g, 0, none⟩) n cap) l) : HoldsK encN 3 w g 0 l.toArray := by
  rcases h.2 with ⟨h1, _⟩ | ⟨g', cap', cur, e1, e2, e3, e4, e5, e6, e7⟩
  · cases h1
  · cases e1
    intro j hj
    rw [flatK_list] at hj ⊢
    have hj' : j < (l.flatMap encN).length := by simpa using hj
    refine ⟨?_, by simp [World.frozen?, e3]⟩
    have h1 : (cur.toList.take (l.length * 3))[j]? = some (l.flatMap encN)[j] := by rw [e7]; exact List.getElem?_eq_getElem hj'
    rw [flatW_len (sz := 3) (fun _ => rfl)] at hj'
    rw [List.getElem?_take, if_pos hj'] at h1
    have h2 : cur[j]? = some (l.flatMap encN)[j] := by simpa using h1
    rw [getElem!_pos _ j hj]
    simp [World.cell?, e3, h2]
theorem sortWorldK_heap {w : World} {g m : Nat} {cur : Array Value} {e : TypeId} {fr : Nat × Nat} (d : Array Nd) (os : Array Obj) (h : w.heap[g]? = some (.cells cur e fr)) :
    (sortWorldK encN 3 w g 0 m d os).heap[g]? = some (.cells (putCells id 0 (flatK encN 3 d) cur) e fr) := by
  have hg : g < (w.heap.modify g (onCells (putCells id 0 (flatK encN 3 d)))).size := by simp; exact heap_lt h
  show ((w.heap.modify g (onCells (putCells id 0 (flatK encN 3 d)))) ++ os)[g]? = _
  rw [Array.getElem?_append_left hg, Array.getElem?_modify, if_pos rfl, h]
  rfl
theorem sortWorldK_exb (w : World) (g m : Nat) (d : Array Nd) (os : Array Obj) : Exb g w (sortWorldK encN 3 w g 0 m d os) := by
  refine ⟨rfl, rfl, rfl, ?_, fun k hk => ?_⟩
  · show _ ≤ ((w.heap.modify g (onCells (putCells id 0 (flatK encN 3 d)))) ++ os).size
    simp
  · have hg : k < (w.heap.modify g (onCells (putCells id 0 (flatK encN 3 d)))).size := by simp; exact hk.1
    show ((w.heap.modify g (onCells (putCells id 0 (flatK encN 3 d)))) ++ os)[k]? = _
    rw [Array.getElem?_append_left hg, Array.getElem?_modify, if_neg (fun h => hk.2 h.symm)]
theorem own_sorted {e : TypeId} {base g n cap m : Nat} {w : World} {l : List Nd} (h : OwnL 3 encN e base w (.slice (some ⟨g, 0, none⟩) n cap) l) (d : Array Nd) (hd : d.size = l.length) (os : Array Obj) :
    OwnL 3 encN e base (sortWorldK encN 3 w g 0 m d os) (.slice (some ⟨g, 0, none⟩) n cap) d.toList := by
  rcases h.2 with ⟨h1, _⟩ | ⟨g', cap', cur, e1, e2, e3, e4, e5, e6, e7⟩
  · cases h1
  · cases e1
    have hl : d.toList.length = l.length := by rw [Array.length_toList, hd]
    refine ⟨by rw [flatW_len (sz := 3) (fun _ => rfl)], .inr ⟨g, cap, _, by rw [hl], e2, sortWorldK_heap d os e3, by rw [hl]; exact e4, e5, by simpa [putCells] using e6, ?_⟩⟩
    have hf : (flatK encN 3 d).size = l.length * 3 := by rw [size_flatK, hd]
    rw [hl]
    apply List.ext_getElem?
    intro j
    rw [List.getElem?_take]
    by_cases hj : j < l.length * 3
    · rw [if_pos hj]
      have hjc : j < cur.size := by
        have := Nat.mul_le_mul_right 3 e4
        omega
      have hp : (putCells id 0 (flatK encN 3 d) cur)[j]? = some (flatK encN 3 d)[j]! := by
        unfold putCells
        rw [Array.getElem?_mapIdx, Array.getElem?_eq_getElem hjc, Option.map_some, if_pos (by omega)]
        rfl
      rw [Array.getElem?_toList, hp, getElem!_pos _ j (by omega)]
      have hx := congrArg Array.toList (flatK_list d)
      have : (d.toList.flatMap encN) = (flatK encN 3 d).toList := by rw [flatK_list]
      rw [this, List.getElem?_eq_getElem (by rw [Array.length_toList]; omega)]
      simp
    · rw [if_neg hj]
      symm
      rw [List.getElem?_eq_none]
      rw [flatW_len (sz := 3) (fun _ => rfl), hl]; omega

/-- what Sort gives -/
def SoPost (l : List Nd) (w : World) (e : Ending) (w' : World) : Prop :=
  ∃ (v : Value) (S : List Nd), e = .returned v ∧ OwnL 3 encN 48 w.heap.size w' v S ∧ (S.Perm l ∧ AscN S) ∧ Ex w w'
theorem asc_of_adj {l : List Nd} (h : ∀ i, 0 < i → i < l.length → ltN l.toArray[i]! l.toArray[i - 1]! = false) : AscN l := by
  have : ∀ (k i : Nat), i + k < l.length → ltN l.toArray[i + k]! l.toArray[i]! = false := by
    intro k
    induction k with
    | zero => intro i _; exact swo_ltN.irrefl _
    | succ k ih =>
      intro i hi
      have h1 := h (i + (k + 1)) (by omega) hi
      rw [show i + (k + 1) - 1 = i + k by omega] at h1
      exact swo_ltN.ntrans _ _ _ h1 (ih i (by omega))
  unfold AscN
  rw [List.pairwise_iff_getElem]
  intro i j hi hj hij
  have := this (j - i) i (by omega)
  rw [show i + (j - i) = j by omega, getElem!_pos _ j (by simpa using hj), getElem!_pos _ i (by simpa using hi)] at this
  simpa using this
theorem asc_of_sorted {n : Nat} {d : Array Nd} (h : SortedIn ltN 0 n d) (hn : d.size = n) : AscN d.toList := by
  unfold AscN
  rw [List.pairwise_iff_getElem]
  intro i j hi hj hij
  have hi' : i < d.size := by simpa using hi
  have hj' : j < d.size := by simpa using hj
  have := h i j (Nat.zero_le _) hij (by omega)
  rw [getElem!_pos d j hj', getElem!_pos d i hi'] at this
  simpa using this
theorem perm_of_permIn {n : Nat} {l : List Nd} {d : Array Nd} (h : PermIn 0 n l.toArray d) (hn : l.length = n) : d.toList.Perm l := by
  have h3 := h.2.2
  have hs : d.size = n := by rw [h.1]; simpa using hn
  rw [show d.extract 0 n = d by rw [← hs]; exact Array.extract_size, show l.toArray.extract 0 n = l.toArray by rw [← hn]; simp] at h3
  simpa using h3
theorem asc_small {l : List Nd} (h : l.length ≤ 1) : AscN l := by
  match l, h with
  | [], _ => exact List.Pairwise.nil
  | [x], _ => exact List.pairwise_singleton _ _

set_option maxRecDepth 100000 in
set_option maxHeartbeats 4000000 in
theorem sort_p (a : Option Addr) (n c : Nat) (l : List Nd) (w : World) (h : Sl 3 encN w a n l) (hn : n ≤ 1000) :
    Calls Tryd.prog 62 #[.slice a n c] w (SoPost l w) := by
  have HL := Lib.hid h.len
  go_enter Tryd.func62, Tryd.ntmps62
  go_wp2_with fail
  (with_reducible refine (clone_n _ _ _ _ _ h hn).mono ?_)
  rintro e w1 ⟨v1, rfl, own1, k1⟩
  clear h
  have O1 := Lib.hid own1
  have K1 := Lib.hid k1
  by_cases hn2 : n ≤ 1
  · obtain ⟨a1, c1, rfl, _, _, _, _⟩ := own1.slf (fun _ => rfl)
    rw [HL.out] at own1 ⊢
    have B2 := Blk.new w1 [.slice a1 n c1] 23
    have k2 := Ex.new w1 (.cells #[.slice a1 n c1] 23)
    obtain ⟨w2, hw2⟩ : ∃ w2, w2 = w1.alloc (.cells #[.slice a1 n c1] 23) := ⟨_, rfl⟩
    obtain ⟨B, hB⟩ : ∃ B, B = w1.heap.size := ⟨_, rfl⟩
    have B2 : Blk w2 B [.slice a1 n c1] 23 := by rw [hw2, hB]; exact B2
    rw [← hw2] at k2
    have HW2 := Lib.hid hw2
    have HB := Lib.hid hB
    have q0 := B2.cell 0 _ rfl
    have K2 := Lib.hid (k1.nx k2)
    have O2 := Lib.hid (own1.nx k2)
    clear own1 k1 hw2 hB k2
    go_wp2_with fail
    rw [← HB.out, ← HW2.out]
    go_wp2_with fail
    (with_reducible refine (issorted_tiny _ _ _ _ _ _ _ hn2).mono ?_)
    rintro e w3 ⟨rfl, k3⟩
    have B3 := B2.nx k3
    have q3 := B3.cell 0 _ rfl
    have O3 := Lib.hid (O2.out.nx k3)
    have K3 := Lib.hid (K2.out.nx k3)
    clear q0 B2 B3 k3
    go_wp2_with fail
    go_ret
    exact ⟨_, l, rfl, O3.out, ⟨List.Perm.refl _, asc_small (by rw [HL.out]; exact hn2)⟩, K3.out⟩
  · obtain ⟨g, cap, rfl, hgw⟩ : ∃ g cap, v1 = .slice (some ⟨g, 0, none⟩) n cap ∧ w.heap.size ≤ g := by
      rcases own1.2 with ⟨_, h1⟩ | ⟨g', cap', cur, e1, e2, _⟩
      · have := HL.out; omega
      · exact ⟨g', cap', by rw [e1, HL.out], e2⟩
    have hgl : g < w1.heap.size := (own1.lt g rfl).2
    have B2 := Blk.new w1 [.slice (some ⟨g, 0, none⟩) n cap] 23
    have k2 := Ex.new w1 (.cells #[.slice (some ⟨g, 0, none⟩) n cap] 23)
    obtain ⟨w2, hw2⟩ : ∃ w2, w2 = w1.alloc (.cells #[.slice (some ⟨g, 0, none⟩) n cap] 23) := ⟨_, rfl⟩
    obtain ⟨B, hB⟩ : ∃ B, B = w1.heap.size := ⟨_, rfl⟩
    have B2 : Blk w2 B [.slice (some ⟨g, 0, none⟩) n cap] 23 := by rw [hw2, hB]; exact B2
    rw [← hw2] at k2
    have hBg : B ≠ g := by omega
    have hwB : w.heap.size ≤ B := by have := k1.size; omega
    have HW2 := Lib.hid hw2
    have HB := Lib.hid hB
    have q0 := B2.cell 0 _ rfl
    have K2 := Lib.hid (k1.nx k2)
    have O2 := Lib.hid (own1.nx k2)
    have hg2 : g < w2.heap.size := by have := k2.size; omega
    have B2 := Lib.hid B2
    clear own1 k1 hw2 hB k2
    go_wp2_with fail
    rw [← HB.out, ← HW2.out]
    go_wp2_with fail
    (with_reducible refine (issorted_n g 0 B n cap l.toArray w2 (by simpa using HL.out) (own_holds O2.out) hg2 q0 hBg (by omega) (by omega)).mono ?_)
    rintro e w3 ⟨b, m, os, rfl, hb, hw3⟩
    have O3 := own_sorted (m := m) O2.out l.toArray (by simp) os
    have kx := sortWorldK_exb w2 g m l.toArray os
    rw [← hw3] at O3 kx
    have B3 := B2.out.nxb hBg kx
    have q3 := B3.cell 0 _ rfl
    have K3 := Lib.hid (Ex.of_exb ((K2.out.b g).nxb kx) hgw)
    have hg3 : g < w3.heap.size := by have := kx.size; omega
    have O3 := Lib.hid O3
    have B3 := Lib.hid B3
    clear hw3 q0 B2 kx
    cases b with
    | true =>
      have HAS : Hid (AscN l) := Lib.hid (asc_of_adj (fun i h1 h2 => hb rfl i h1 (by rw [← HL.out]; exact h2)))
      clear hb
      go_wp2_with fail
      go_ret
      exact ⟨_, l, rfl, O3.out, ⟨List.Perm.refl _, HAS.out⟩, K3.out⟩
    | false =>
      clear hb
      go_wp2_with fail
      (with_reducible refine (slicestable_n g 0 B n cap l.toArray w3 (by simpa using HL.out) (own_holds O3.out) hg3 q3 hBg (by omega) (by omega)).mono ?_)
      rintro e w4 ⟨rfl, m, os, d, ⟨hp, hso⟩, hw4⟩
      have hd : d.size = l.length := by rw [hp.1]; simp
      have O4 := own_sorted (m := m) O3.out d hd os
      have kx := sortWorldK_exb w3 g m d os
      rw [← hw4] at O4 kx
      have B4 := B3.out.nxb hBg kx
      have q4 := B4.cell 0 _ rfl
      have K4 := Lib.hid (Ex.of_exb ((K3.out.b g).nxb kx) hgw)
      have O4 := Lib.hid O4
      have HP : Hid (d.toList.Perm l ∧ AscN d.toList) := Lib.hid ⟨perm_of_permIn hp HL.out, asc_of_sorted hso (by rw [hd]; exact HL.out)⟩
      clear hw4 q3 B4 kx hp hso hd
      go_wp2_with fail
      go_ret
      exact ⟨_, d.toList, rfl, O4.out, HP.out, K4.out⟩
end Go.Proofs.YtihpaonhonhfoaaDoor

/- slices.IndexFunc and ContainsFunc over nodes; Find and Check of the package roster. -/
namespace Go.Proofs.YtihpaonhonhfoaaDoor
open Go.RowKit

/-- a predicate on nodes: it may make blocks -/
def PredG (g : Nat) (lb : Array Value) (p : Nd → Bool) (w : World) : Prop := ∀ (x : Nd) (w' : World), Ex w w' → Calls Tryd.prog g (#[x.val] ++ lb) w' fun e w'' => e = .returned (.bool (p x)) ∧ Ex w' w''
theorem PredG.nx {g : Nat} {lb : Array Value} {p : Nd → Bool} {w w' : World} (h : PredG g lb p w) (k : Ex w w') : PredG g lb p w' := fun x w'' k2 => h x w'' (k.nx k2)
def idxB (p : Nd → Bool) (l : List Nd) : Int := if l.findIdx p < l.length then (l.findIdx p : Int) else -1
theorem idxB_of {p : Nd → Bool} {l : List Nd} {k : Nat} {y : Nd} (hy : l[k]? = some y) (hp : p y = true) (hno : ∀ j z, j < k → l[j]? = some z → p z = false) : idxB p l = k ∧ k < l.length := by
  have hk := (List.getElem?_eq_some_iff.1 hy)
  have hk1 := hk.1
  have : l.findIdx p = k := by
    rw [List.findIdx_eq hk.1]
    refine ⟨by rw [hk.2]; exact hp, fun j hj => ?_⟩
    exact hno j _ hj (List.getElem?_eq_getElem (by omega))
  unfold idxB
  rw [this, if_pos hk.1]
  exact ⟨rfl, hk.1⟩
theorem idxB_none {p : Nd → Bool} {l : List Nd} (hno : ∀ j z, j < l.length → l[j]? = some z → p z = false) : idxB p l = -1 := by
  unfold idxB
  rw [if_neg]
  rw [List.findIdx_lt_length]
  rintro ⟨x, hx, hp⟩
  obtain ⟨j, hj⟩ := List.mem_iff_getElem?.1 hx
  rw [hno j x (List.getElem?_eq_some_iff.1 hj).1 hj] at hp
  cases hp
theorem idxB_any (p : Nd → Bool) (l : List Nd) : decide (0 ≤ idxB p l) = l.any p := by
  unfold idxB
  split
  · rename_i h
    rw [List.findIdx_lt_length] at h
    have h1 : l.any p = true := List.any_eq_true.2 h
    rw [h1]; simp
  · rename_i h
    rw [List.findIdx_lt_length] at h
    have h1 : l.any p = false := by
      rw [List.any_eq_false]
      intro x hx hp
      exact h ⟨x, hx, hp⟩
    rw [h1]; simp
def IdRel (p : Nd → Bool) (l : List Nd) (n : Nat) (w : World) (i : Value) (wr : World) : Prop :=
  ∃ k : Nat, k ≤ n ∧ i = .int .i64 k ∧ Ex w wr ∧ ∀ j z, j < k → l[j]? = some z → p z = false

set_option maxRecDepth 100000 in
set_option maxHeartbeats 2000000 in
theorem idxf_n (g : Nat) (lb : Array Value) (p : Nd → Bool) (eg : ∀ args w, (callFunc g args).run Tryd.prog w = .ok (.enter g args) w) (a : Option Addr) (n c : Nat) (l : List Nd) (w : World) (h : Sl 3 encN w a n l) (hn : n ≤ 1000000) (hp : PredG g lb p w) :
    Calls Tryd.prog 50 #[.slice a n c, .func (.func g) #[] lb] w fun e w' => e = .returned (.int .i64 (idxB p l)) ∧ Ex w w' := by
  have HL := Lib.hid h.len
  have HP := Lib.hid hp
  have hs := Lib.hid h
  clear h hp
  go_enter Tryd.func50, Tryd.ntmps50
  go_wp2
  go_loopw [8] (fun i wr => IdRel p l n w i wr) (fun i _ => n - (intOf i).toNat)
  case atStart => exact ⟨0, by omega, rfl, Ex.refl _, by intro j z h; omega⟩
  case round =>
    obtain ⟨k, hk, rfl, kw, hno⟩ := hrel
    have HNO := Lib.hid hno
    clear hno
    obtain ⟨wo, rfl⟩ : ∃ wo : World, wo = wr := ⟨_, rfl⟩
    by_cases hlt : k < n
    · obtain ⟨x1, o1, y, rfl, hx1, hy, hc1⟩ := (hs.out.nx kw).at hlt
      have e0 : wo.cell? ⟨x1, o1 + k * 3, none⟩ = some (.int .i64 y.id) := hc1 0 _ rfl
      have e1 : wo.cell? ⟨x1, o1 + k * 3 + 1, none⟩ = some (.string y.key) := hc1 1 _ rfl
      have e2 : wo.cell? ⟨x1, o1 + k * 3 + 1 + 1, none⟩ = some (.int .u32 y.word) := by simpa [Nat.add_assoc] using hc1 2 _ rfl
      have e2' : wo.cell? ⟨x1, o1 + k * 3 + 2, none⟩ = some (.int .u32 y.word) := hc1 2 _ rfl
      have HY := Lib.hid hy
      have hc := HP.out y wo kw
      have KW := Lib.hid kw
      clear hc1 hy kw
      unfold Nd.val at hc
      go_wp2_with fail
      refine hc.mono ?_
      rintro e w2 ⟨rfl, k2⟩
      have K2 := Lib.hid (KW.out.nx k2)
      clear hc k2 e0 e1 e2 e2'
      cases hb : p y with
      | true =>
        have HI : Hid (idxB p l = k) := Lib.hid (idxB_of HY.out hb HNO.out).1
        clear hb
        go_wp2_with fail
        go_ret
        exact ⟨by rw [HI.out]; rfl, K2.out⟩
      | false =>
        have HB := Lib.hid hb
        clear hb
        go_wp2_with fail
        refine ⟨⟨k + 1, by omega, by go_num, K2.out, fun j z hj hz => ?_⟩, by simp [intOf]; omega⟩
        rcases Nat.lt_or_ge j k with h | h
        · exact HNO.out j z h hz
        · obtain rfl : j = k := by omega
          rw [Option.some.inj (hz.symm.trans HY.out)]
          exact HB.out
    · obtain rfl : k = n := by omega
      have HI : Hid (idxB p l = -1) := Lib.hid (idxB_none (fun j z hj hz => HNO.out j z (by rw [← HL.out]; exact hj) hz))
      have KW := Lib.hid kw
      clear kw hk hlt
      go_wp2_with fail
      go_ret
      exact ⟨by rw [HI.out]; rfl, KW.out⟩
theorem contf_n (g : Nat) (lb : Array Value) (p : Nd → Bool) (eg : ∀ args w, (callFunc g args).run Tryd.prog w = .ok (.enter g args) w) (a : Option Addr) (n c : Nat) (l : List Nd) (w : World) (h : Sl 3 encN w a n l) (hn : n ≤ 1000000) (hp : PredG g lb p w) :
    Calls Tryd.prog 71 #[.slice a n c, .func (.func g) #[] lb] w fun e w' => e = .returned (.bool (l.any p)) ∧ Ex w w' := by
  have HA := Lib.hid (idxB_any p l)
  go_enter Tryd.func71, Tryd.ntmps71
  go_wp2_with fail
  (with_reducible refine (idxf_n g lb p eg _ _ _ _ _ h hn hp).mono ?_)
  rintro e w1 ⟨rfl, kk⟩
  clear h hp
  go_wp2_with fail
  go_ret
  exact ⟨by rw [← HA.out]; rfl, kk⟩

/-- Find -/
theorem find1_p (gx : Nat) (id : Int) (w : World) (hx : Blk w gx [.int .i64 id] 3) : PredG 51 #[.pointer (some ⟨gx, 0, none⟩)] (fun x => x.id == id) w := by
  intro x w' kk
  have q0 := (hx.nx kk).cell 0 _ rfl
  have hg := (hx.nx kk).lt
  have hne : ¬ gx = w'.heap.size := by omega
  unfold Nd.val
  clear hx kk
  go_enter Tryd.func51, Tryd.ntmps51
  go_wp2
  go_ret
  exact ⟨rfl, (Ex.refl _).alloc _⟩
theorem idxB_find (l : List Nd) (id : Int) : (∃ (k : Nat) (y : Nd), idxB (fun x => x.id == id) l = k ∧ k < l.length ∧ l[k]? = some y ∧ findN l id = (y, true)) ∨ (idxB (fun x => x.id == id) l = -1 ∧ findN l id = (Nd.zero, false)) := by
  unfold findN idxB
  by_cases h : l.findIdx (fun x => x.id == id) < l.length
  · refine .inl ⟨l.findIdx (fun x => x.id == id), l[l.findIdx (fun x => x.id == id)], by rw [if_pos h], h, List.getElem?_eq_getElem h, ?_⟩
    rw [List.find?_eq_getElem?_findIdx, List.getElem?_eq_getElem h]
  · refine .inr ⟨by rw [if_neg h], ?_⟩
    rw [List.find?_eq_getElem?_findIdx, List.getElem?_eq_none (by omega)]
/-- a node and a Boolean -/
def NbPost (r : Nd × Bool) (w : World) (e : Ending) (w' : World) : Prop := e = .returned (.tuple #[r.1.val, .bool r.2]) ∧ Ex w w'
set_option maxRecDepth 100000 in
set_option maxHeartbeats 2000000 in
theorem find_p (a : Option Addr) (n c : Nat) (l : List Nd) (id : Int) (w : World) (h : Sl 3 encN w a n l) (hn : n ≤ 1000000) :
    Calls Tryd.prog 28 #[.slice a n c, .int .i64 id] w (NbPost (findN l id) w) := by
  have HL := Lib.hid h.len
  have hs := Lib.hid h
  have k1 := Ex.new w (.cells #[.int .i64 id] 3)
  have B1 := Blk.new w [.int .i64 id] 3
  have k2 := k1.alloc (.cells #[.int .i64 0, .string ⟨#[]⟩, .int .u32 0] 48)
  have B2 := Blk.new (w.alloc (.cells #[.int .i64 id] 3)) [.int .i64 0, .string ⟨#[]⟩, .int .u32 0] 48
  have B1 := B1.nx (Ex.new _ (.cells #[.int .i64 0, .string ⟨#[]⟩, .int .u32 0] 48))
  obtain ⟨w1, hw1⟩ : ∃ w1, w1 = (w.alloc (.cells #[.int .i64 id] 3)).alloc (.cells #[.int .i64 0, .string ⟨#[]⟩, .int .u32 0] 48) := ⟨_, rfl⟩
  obtain ⟨g, hg⟩ : ∃ g, g = w.heap.size + 1 := ⟨_, rfl⟩
  obtain ⟨gi, hgi⟩ : ∃ gi, gi = w.heap.size := ⟨_, rfl⟩
  have B2 : Blk w1 g [.int .i64 0, .string ⟨#[]⟩, .int .u32 0] 48 := by rw [hw1, hg]; simpa using B2
  have B1 : Blk w1 gi [.int .i64 id] 3 := by rw [hw1, hgi]; exact B1
  rw [← hw1] at k2
  have hgn : w.heap.size ≤ g := by omega
  have eg : ∀ args w, (callFunc 51 args).run Tryd.prog w = .ok (.enter 51 args) w := enters_of Tryd.func51 (by kernel_rfl) rfl
  have HW1 := Lib.hid hw1
  have HG := Lib.hid hg
  have HGI := Lib.hid hgi
  have EG := Lib.hid eg
  clear h hw1 hg hgi k1 eg
  go_enter Tryd.func28, Tryd.ntmps28
  go_upto_region 1 with fail
  rw [← HG.out, ← HW1.out, ← HGI.out]
  go_wp2_with fail
  (with_reducible refine (idxf_n 51 #[.pointer (some ⟨gi, 0, none⟩)] (fun x => x.id == id) EG.out _ _ _ _ _ (hs.out.nx k2) hn (find1_p gi id w1 B1)).mono ?_)
  rintro e w3 ⟨rfl, k3⟩
  have B3 := B2.nx k3
  have q0 := B3.cell 0 _ rfl
  have q1 := B3.cell 1 _ rfl
  have q2 := B3.cell 2 _ rfl
  have z0 := B3.free 0
  have z1 := B3.free 1
  have z2 := B3.free 2
  have kk := k2.nx k3
  have KE : Hid (∀ v0 v1 v2, Ex w (((w3.setCell ⟨g, 0, none⟩ v0).setCell ⟨g, 1, none⟩ v1).setCell ⟨g, 2, none⟩ v2)) := Lib.hid (fun v0 v1 v2 => ((kk.setNew (p := ⟨g, 0, none⟩) _ hgn).setNew (p := ⟨g, 1, none⟩) _ hgn).setNew (p := ⟨g, 2, none⟩) _ hgn)
  have hgw := B3.lt
  rcases idxB_find l id with ⟨k, y, hi, hk, hy, hf⟩ | ⟨hi, hf⟩
  · rw [hi]
    have HF := Lib.hid hf
    obtain ⟨x1, o1, y', ha, hx1, hy', hc1⟩ := (hs.out.nx kk).at (j := k) (by rw [← HL.out]; exact hk)
    obtain rfl : y = y' := Option.some.inj (hy.symm.trans hy')
    subst ha
    have e0 : w3.cell? ⟨x1, o1 + k * 3, none⟩ = some (.int .i64 y.id) := hc1 0 _ rfl
    have e1 : w3.cell? ⟨x1, o1 + k * 3 + 1, none⟩ = some (.string y.key) := hc1 1 _ rfl
    have e2 : w3.cell? ⟨x1, o1 + k * 3 + 1 + 1, none⟩ = some (.int .u32 y.word) := by simpa [Nat.add_assoc] using hc1 2 _ rfl
    have hkn : (k : Int) < (n : Int) := by have := HL.out; omega
    have hk0 : ¬ (k : Int) < 0 := by omega
    clear hi hf hy hy' hc1 B1 B2 B3 k2 k3 kk hk
    go_wp2_with fail
    refine bodyPost_ret (v := .tuple #[.agg #[.int .i64 y.id, .string y.key, .int .u32 y.word], .bool true]) (by simp [results, Tryd.results28, go_sem, *]) rfl ⟨by rw [HF.out]; rfl, KE.out _ _ _⟩
  · rw [hi]
    have HF := Lib.hid hf
    clear hi hf B1 B2 B3 k2 k3 kk
    go_wp2_with fail
    refine bodyPost_ret (v := .tuple #[.agg #[.int .i64 0, .string ⟨#[]⟩, .int .u32 0], .bool false]) (by simp [results, Tryd.results28, go_sem, *]) rfl ⟨by rw [HF.out]; rfl, KE.out _ _ _⟩
end Go.Proofs.YtihpaonhonhfoaaDoor

/- Walks over the package word and its reference: bits, common beginnings. -/
namespace Go.Proofs.YtihpaonhonhfoaaDoor
open Go.RowKit

/-- the table of math/bits, as it is laid -/
def TabG (w : World) : Prop := ∀ j, j < 32 → w.cell? ⟨1, j, none⟩ = some (.int .u8 (Lib.deBruijn32tab.getD j 0))
theorem TabG.lt {w : World} (h : TabG w) : 1 < w.heap.size := World.block_lt_of_cell? w _ (h 0 (by omega))
theorem TabG.chg {w w' : World} (h : TabG w) {S : Nat → Prop} (k : Chg S w w') (hs : S 1) : TabG w' := fun j hj => k.cellv (h j hj) hs

set_option maxHeartbeats 1000000 in
theorem tz32_core (x k idx : Nat) (w : World) (hx0 : ((x : Int) == 0) = false)
    (key : bits BinOp.and IntKind.u32 (x : Int) (-(x : Int) % 4294967296) * 125613361 % 4294967296 / 134217728 = (idx : Int))
    (hi : idx < 32) (hcell : w.cell? ⟨1, idx, none⟩ = some (.int .u8 k)) (_hk : k < 32) :
    Calls Tryd.prog 85 #[.int .u32 x] w fun e w' => e = .returned (.int .i64 k) ∧ w = w' := by
  go_enter Tryd.func85, Tryd.ntmps85
  go_wp2_with (simp only [key])
  go_ret
  exact ⟨rfl, rfl⟩
theorem tz32_zero (w : World) : Calls Tryd.prog 85 #[.int .u32 0] w fun e w' => e = .returned (.int .i64 32) ∧ w = w' := by
  go_enter Tryd.func85, Tryd.ntmps85
  go_wp2
  go_ret
  exact ⟨rfl, rfl⟩
theorem tz32 (x : Nat) (hx : x < 4294967296) (w : World) (hT : TabG w) :
    Calls Tryd.prog 85 #[.int .u32 x] w fun e w' => e = .returned (.int .i64 (Lib.ctz 32 x)) ∧ w = w' := by
  by_cases hx0 : x = 0
  · subst hx0
    exact tz32_zero w
  · obtain ⟨hlow, hk⟩ := Lib.lowest_bit 32 x hx0 hx
    obtain ⟨hi, htab⟩ := Lib.deBruijn32_at _ hk
    have hcell := hT _ hi
    rw [htab] at hcell
    exact tz32_core x _ _ w (by simp; omega) (tz32_keyn x _ hx hx0 hlow) hi hcell hk

set_option maxHeartbeats 1000000 in
theorem common_p (a b : Nat) (w : World) (ha : a < 4294967296) (hb : b < 4294967296) (hT : TabG w) :
    Calls Tryd.prog 80 #[.int .u32 a, .int .u32 b] w fun e w' => e = .returned (.int .i64 (commonN a b)) ∧ w = w' := by
  have hx := bits_xor_u32n a b ha hb
  have HT := Lib.hid hT
  clear hT
  by_cases h16 : Lib.ctz 32 (a ^^^ b) ≤ 16
  · have HC : Hid (commonN a b = Lib.ctz 32 (a ^^^ b)) := Nat.min_eq_left h16
    generalize hk : Lib.ctz 32 (a ^^^ b) = k at *
    have HK := Lib.hid hk
    clear hk
    go_enter Tryd.func80, Tryd.ntmps80
    go_wp2_with fail
    refine (tz32 _ (xor_lt ha hb) _ HT.out).mono ?_
    rintro e w1 ⟨rfl, rfl⟩
    rw [HK.out]
    go_wp2_with fail
    go_ret
    exact ⟨by rw [HC.out]; first | rfl | exact congrArg (fun z => Ending.returned (Value.int .i64 z)) (by omega : min (k : Int) 16 = (k : Int)), rfl⟩
  · have HC : Hid (commonN a b = 16) := Nat.min_eq_right (by omega)
    generalize hk : Lib.ctz 32 (a ^^^ b) = k at *
    have HK := Lib.hid hk
    clear hk
    go_enter Tryd.func80, Tryd.ntmps80
    go_wp2_with fail
    refine (tz32 _ (xor_lt ha hb) _ HT.out).mono ?_
    rintro e w1 ⟨rfl, rfl⟩
    rw [HK.out]
    go_wp2_with fail
    go_ret
    exact ⟨by rw [HC.out]; first | rfl | exact congrArg (fun z => Ending.returned (Value.int .i64 z)) (by omega : min (k : Int) 16 = ((16 : Nat) : Int)), rfl⟩

set_option maxHeartbeats 1000000 in
theorem same_p (a b : Nat) (h : Int) (w : World) (ha : a < 4294967296) (hb : b < 4294967296) (hT : TabG w) :
    Calls Tryd.prog 63 #[.int .u32 a, .int .u32 b, .int .i64 h] w fun e w' => e = .returned (.bool (sameN a b h)) ∧ w = w' := by
  have HT := Lib.hid hT
  clear hT
  go_enter Tryd.func63, Tryd.ntmps63
  go_wp2_with fail
  refine (common_p _ _ _ ha hb HT.out).mono ?_
  rintro e w1 ⟨rfl, rfl⟩
  go_wp2_with fail
  go_ret
  exact ⟨rfl, rfl⟩
theorem wvalid_p (a : Nat) (w : World) : Calls Tryd.prog 70 #[.int .u32 a] w fun e w' => e = .returned (.bool (validN a)) ∧ w = w' := by
  go_enter Tryd.func70, Tryd.ntmps70
  go_wp2
  go_ret
  exact ⟨rfl, rfl⟩
end Go.Proofs.YtihpaonhonhfoaaDoor
