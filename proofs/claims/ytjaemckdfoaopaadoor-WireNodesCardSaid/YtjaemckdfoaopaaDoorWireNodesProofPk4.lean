/- Texts for the statement WireNodesProof, part 4 of 12: ClsR, Nb. -/
import Derived.Deep.DeepCutAuto
import Derived.Test.YtjaemckdfoaopaaDoorWireNodesProofPk2
import Derived.Test.YtjaemckdfoaopaaDoorWireNodesProofPk3

/- Classes of the reference. -/
namespace Go.Proofs.YtjaemckdfoaopaaDoor
open Go.RowKit

theorem same_rE (a b : Nat) (h : Int) (w : World) (ha : a < 4294967296) (hb : b < 4294967296) :
    Calls Tryd.prog 68 #[.int .u32 a, .int .u32 b, .int .i64 h] w fun e w' => e = .returned (.bool (sameN a b h)) ∧ Ex w w' :=
  (same_r a b h w ha hb).mono fun _ _ h => ⟨h.1, by rw [← h.2]; exact Ex.refl _⟩

set_option maxRecDepth 100000 in
set_option maxHeartbeats 4000000 in
theorem classes_r (a : Option Addr) (n cp : Nat) (l : List Nd) (h : Int) (w : World) (hs : Sl 3 encN w a n l) (hn : n ≤ 1000) (hw : ∀ x ∈ l, x.word < 4294967296) :
    Calls Tryd.prog 63 #[.slice a n cp, .int .i64 h] w (ClPost (classesN l h) w) := by
  have HL := Lib.hid hs.len
  have hs := Lib.hid hs
  have HW := Lib.hid hw
  obtain ⟨w1, rfl⟩ : ∃ w1 : World, w1 = w := ⟨_, rfl⟩
  clear hw
  go_enter Tryd.func63, Tryd.ntmps63
  by_cases h16 : 16 < h
  · have HC : Hid (classesN l h = []) := Lib.hid (classesN_big h16)
    have d16 : decide (h ≤ 16) = false := by simp; omega
    go_wp2_with fail
    go_loopw [5, 6] (fun o i wr => o = .slice none 0 0 ∧ i = .int .i64 0 ∧ Ex w1 wr) (fun _ i _ => 0)
    case atStart => exact ⟨rfl, rfl, Ex.refl _⟩
    case round =>
      obtain ⟨rfl, rfl, kx⟩ := hrel
      obtain ⟨wo, rfl⟩ : ∃ wo : World, wo = wr := ⟨_, rfl⟩
      have hh : ¬ h ≤ 16 := by omega
      by_cases hn0 : (0 : Int) < (n : Int)
      · go_wp2_with fail
        go_ret
        exact ⟨none, 0, by rw [HC.out]; rfl, by rw [HC.out]; exact LL.nil _ _, kx⟩
      · go_wp2_with fail
        go_ret
        exact ⟨none, 0, by rw [HC.out]; rfl, by rw [HC.out]; exact LL.nil _ _, kx⟩
  have HF := Lib.hid (classesN_fold (l := l) h16)
  have d16 : decide (h ≤ 16) = true := by simp; omega
  go_wp2_with fail
  go_loopw [5, 6] (fun o i wr => ClRel l h n w1 o i wr) (fun _ i _ => n - (intOf i).toNat)
  case atStart => exact ⟨0, [], by omega, rfl, OwnQ.nil _ _, Ex.refl _⟩
  case round =>
    obtain ⟨k, qs, hk, rfl, OQ, kx⟩ := hrel
    obtain ⟨wo, rfl⟩ : ∃ wo : World, wo = wr := ⟨_, rfl⟩
    by_cases hlt : k < n
    · obtain ⟨x1, o1, y, rfl, hx1, hy, hc1⟩ := (hs.out.nx (kx)).at hlt
      have e0 : wo.cell? ⟨x1, o1 + k * 3, none⟩ = some (.int .i64 y.id) := hc1 0 _ rfl
      have e1 : wo.cell? ⟨x1, o1 + k * 3 + 1, none⟩ = some (.string y.key) := hc1 1 _ rfl
      have e2 : wo.cell? ⟨x1, o1 + k * 3 + 1 + 1, none⟩ = some (.int .u32 y.word) := by simpa [Nat.add_assoc] using hc1 2 _ rfl
      have e2' : wo.cell? ⟨x1, o1 + k * 3 + 2, none⟩ = some (.int .u32 y.word) := hc1 2 _ rfl
      have HY := Lib.hid hy
      have hyw := HW.out y (List.mem_of_getElem? hy)
      have FSn := Lib.hid (foldC_snoc h l k y hy)
      have hFL : (foldC h (l.take k)).length ≤ k := Nat.le_trans (foldC_length h (l.take k)) (by rw [List.length_take]; omega)
      have FF : Hid (Fine 100000 (fun y => y.word < 4294967296) (foldC h (l.take k))) := Lib.hid (fun c hc => by
        have := foldC_fine (h := h) (l.take k) (P := fun y => y.word < 4294967296) (fun y hy => HW.out y (List.mem_of_mem_take hy)) c hc
        exact ⟨this.1, Nat.le_trans this.2.1 (by rw [List.length_take]; omega), this.2.2⟩)
      generalize foldC h (l.take k) = C at OQ FSn hFL FF
      clear hc1 hy
      obtain ⟨a3, cap3, rfl, ll3, hc3, _, some3⟩ := OQ.ll
      have LL3 := Lib.hid ll3
      have OQ := Lib.hid OQ
      have SOME3 := Lib.hid some3
      clear ll3 e0 e1 e2 some3
      go_wp2_with fail
      go_loopw [7] (fun i wr => IdxRel C.length C y.word h wo i wr) (fun i _ => C.length - (intOf i).toNat)
      case atStart => exact ⟨0, by omega, rfl, Ex.refl _, by intro _ _ h; omega⟩
      case round =>
        obtain ⟨KX, hKle, rfl, ki, hno⟩ := hrel
        have HNO := Lib.hid hno
        obtain ⟨wi, rfl⟩ : ∃ wi : World, wi = wr := ⟨_, rfl⟩
        replace OQ := OQ.out.nx ki
        replace kx := kx.nx ki
        have KIX := Lib.hid ki
        clear hno
        by_cases hKn : KX = C.length
        · have KI : Hid (idxC C y.word h = KX) := Lib.hid (by rw [idxC_none (fun j c hj hc => HNO.out j c (by omega) hc), hKn])
          have lq : qs.length ≤ 1000000 := by rw [OQ.2.1]; omega
          have zq := kx.size
          have d1 : decide ((KX : Int) < (C.length : Int)) = false := by simp; omega
          have d2 : decide (KX < C.length) = false := by simp; omega
          clear e2' ki
          have hKn' := Lib.hid hKn
          clear hKn
          go_wp2_with fail
          refine wp_region_held_drew (S := Ex wi.drew) (by kernel_rfl) (Ex.refl _) (fun hHeld => ?_)
          refine wpAnyH_take (i := 0) (oi := { dst := some 18, op := Op.move (Operand.tmp 7), type := 3, pos := "ref.go:53", after := #[], guard := none }) (v := ?_) rfl (by kernel_rfl) (by kernel_rfl) (by kernel_rfl) (fun _ _ _ h => h) (Or.inl ⟨by rfl, ?hyr1x0⟩) (by assumption) ?restr1x0
          case hyr1x0 => intro wq hSw; (go_simp); (try with_reducible rfl)
          try simp only [Act.put, List.setIfInBounds_toArray, List.set_cons_zero, List.set_cons_succ]
          refine wpAnyH_take (i := 1) (oi := { dst := some 19, op := Op.move (Operand.tmp 5), type := 88, pos := "ref.go:53", after := #[], guard := none }) (v := ?_) rfl (by kernel_rfl) (by kernel_rfl) (by kernel_rfl) (fun _ _ _ h => h) (Or.inl ⟨by rfl, ?hyr1x1⟩) (by assumption) ?restr1x1
          case hyr1x1 => intro wq hSw; (go_simp); (try with_reducible rfl)
          try simp only [Act.put, List.setIfInBounds_toArray, List.set_cons_zero, List.set_cons_succ]
          refine wpAnyH_take (i := 2) (oi := { dst := some 20, op := Op.call { callee := Callee.builtin Builtin.len, args := #[Operand.tmp 19], argTypes := #[88] }, type := 3, pos := "ref.go:53", after := #[{ on := 1, ground := Ground.data }], guard := none }) (v := ?_) rfl (by kernel_rfl) (by kernel_rfl) (by kernel_rfl) (fun _ _ _ h => h) (Or.inl ⟨by rfl, ?hyr1x2⟩) (by assumption) ?restr1x2
          case hyr1x2 => intro wq hSw; (go_simp); (try with_reducible rfl)
          try simp only [Act.put, List.setIfInBounds_toArray, List.set_cons_zero, List.set_cons_succ]
          refine wpAnyH_take (i := 3) (oi := { dst := some 21, op := Op.binOp BinOp.lss 3 (Operand.tmp 18) (Operand.tmp 20) 3, type := 4, pos := "ref.go:53", after := #[{ on := 0, ground := Ground.data }, { on := 2, ground := Ground.data }], guard := none }) (v := ?_) rfl (by kernel_rfl) (by kernel_rfl) (by kernel_rfl) (fun _ _ _ h => h) (Or.inl ⟨by rfl, ?hyr1x3⟩) (by assumption) ?restr1x3
          case hyr1x3 => intro wq hSw; (go_simp); (try with_reducible rfl)
          try simp only [Act.put, List.setIfInBounds_toArray, List.set_cons_zero, List.set_cons_succ]
          refine wpAnyH_take (i := 4) (oi := { dst := some 22, op := Op.move (Operand.tmp 21), type := 4, pos := "ref.go:53", after := #[{ on := 3, ground := Ground.data }], guard := none }) (v := ?_) rfl (by kernel_rfl) (by kernel_rfl) (by kernel_rfl) (fun _ _ _ h => h) (Or.inl ⟨by rfl, ?hyr1x4⟩) (by assumption) ?restr1x4
          case hyr1x4 => intro wq hSw; (go_simp); (try with_reducible rfl)
          try simp only [Act.put, List.setIfInBounds_toArray, List.set_cons_zero, List.set_cons_succ]
          refine wpAnyH_take (i := 5) (oi := { dst := some 23, op := Op.move (Operand.tmp 5), type := 88, pos := "ref.go:53", after := #[{ on := 4, ground := Ground.guard }], guard := some (4, true) }) (v := undef) rfl (by kernel_rfl) (by kernel_rfl) (by kernel_rfl) (fun _ _ _ h => h) (Or.inr ⟨by rfl, rfl⟩) (by assumption) ?_
          try simp only [Act.put, List.setIfInBounds_toArray, List.set_cons_zero, List.set_cons_succ]
          refine wpAnyH_take (i := 6) (oi := { dst := some 24, op := Op.move (Operand.tmp 7), type := 3, pos := "ref.go:53", after := #[{ on := 4, ground := Ground.guard }], guard := some (4, true) }) (v := undef) rfl (by kernel_rfl) (by kernel_rfl) (by kernel_rfl) (fun _ _ _ h => h) (Or.inr ⟨by rfl, rfl⟩) (by assumption) ?_
          try simp only [Act.put, List.setIfInBounds_toArray, List.set_cons_zero, List.set_cons_succ]
          refine wpAnyH_take (i := 7) (oi := { dst := some 25, op := Op.indexAddr 88 (Operand.tmp 23) (Operand.tmp 24), type := 0, pos := "ref.go:53", after := #[{ on := 5, ground := Ground.data }, { on := 6, ground := Ground.data }, { on := 4, ground := Ground.guard }], guard := some (4, true) }) (v := undef) rfl (by kernel_rfl) (by kernel_rfl) (by kernel_rfl) (fun _ _ _ h => h) (Or.inr ⟨by rfl, rfl⟩) (by assumption) ?_
          try simp only [Act.put, List.setIfInBounds_toArray, List.set_cons_zero, List.set_cons_succ]
          refine wpAnyH_take (i := 8) (oi := { dst := some 26, op := Op.load 43 (Operand.tmp 25), type := 43, pos := "ref.go:53", after := #[{ on := 7, ground := Ground.data }, { on := 4, ground := Ground.guard }], guard := some (4, true) }) (v := undef) rfl (by kernel_rfl) (by kernel_rfl) (by kernel_rfl) (fun _ _ _ h => h) (Or.inr ⟨by rfl, rfl⟩) (by assumption) ?_
          try simp only [Act.put, List.setIfInBounds_toArray, List.set_cons_zero, List.set_cons_succ]
          refine wpAnyH_take (i := 9) (oi := { dst := some 27, op := Op.indexAddr 43 (Operand.tmp 26) (Operand.const (Value.int IntKind.i64 0)), type := 0, pos := "ref.go:53", after := #[{ on := 8, ground := Ground.data }, { on := 4, ground := Ground.guard }], guard := some (4, true) }) (v := undef) rfl (by kernel_rfl) (by kernel_rfl) (by kernel_rfl) (fun _ _ _ h => h) (Or.inr ⟨by rfl, rfl⟩) (by assumption) ?_
          try simp only [Act.put, List.setIfInBounds_toArray, List.set_cons_zero, List.set_cons_succ]
          refine wpAnyH_take (i := 10) (oi := { dst := some 28, op := Op.fieldAddr 68 (Operand.tmp 27) 2, type := 0, pos := "ref.go:53", after := #[{ on := 9, ground := Ground.data }, { on := 4, ground := Ground.guard }], guard := some (4, true) }) (v := undef) rfl (by kernel_rfl) (by kernel_rfl) (by kernel_rfl) (fun _ _ _ h => h) (Or.inr ⟨by rfl, rfl⟩) (by assumption) ?_
          try simp only [Act.put, List.setIfInBounds_toArray, List.set_cons_zero, List.set_cons_succ]
          refine wpAnyH_take (i := 11) (oi := { dst := some 29, op := Op.load 65 (Operand.tmp 28), type := 65, pos := "ref.go:53", after := #[{ on := 10, ground := Ground.data }, { on := 4, ground := Ground.guard }], guard := some (4, true) }) (v := undef) rfl (by kernel_rfl) (by kernel_rfl) (by kernel_rfl) (fun _ _ _ h => h) (Or.inr ⟨by rfl, rfl⟩) (by assumption) ?_
          try simp only [Act.put, List.setIfInBounds_toArray, List.set_cons_zero, List.set_cons_succ]
          refine wpAnyH_take (i := 12) (oi := { dst := some 30, op := Op.move (Operand.tmp 0), type := 43, pos := "ref.go:53", after := #[{ on := 4, ground := Ground.guard }], guard := some (4, true) }) (v := undef) rfl (by kernel_rfl) (by kernel_rfl) (by kernel_rfl) (fun _ _ _ h => h) (Or.inr ⟨by rfl, rfl⟩) (by assumption) ?_
          try simp only [Act.put, List.setIfInBounds_toArray, List.set_cons_zero, List.set_cons_succ]
          refine wpAnyH_take (i := 13) (oi := { dst := some 31, op := Op.move (Operand.tmp 6), type := 3, pos := "ref.go:53", after := #[{ on := 4, ground := Ground.guard }], guard := some (4, true) }) (v := undef) rfl (by kernel_rfl) (by kernel_rfl) (by kernel_rfl) (fun _ _ _ h => h) (Or.inr ⟨by rfl, rfl⟩) (by assumption) ?_
          try simp only [Act.put, List.setIfInBounds_toArray, List.set_cons_zero, List.set_cons_succ]
          refine wpAnyH_take (i := 14) (oi := { dst := some 32, op := Op.indexAddr 43 (Operand.tmp 30) (Operand.tmp 31), type := 0, pos := "ref.go:53", after := #[{ on := 12, ground := Ground.data }, { on := 13, ground := Ground.data }, { on := 4, ground := Ground.guard }], guard := some (4, true) }) (v := undef) rfl (by kernel_rfl) (by kernel_rfl) (by kernel_rfl) (fun _ _ _ h => h) (Or.inr ⟨by rfl, rfl⟩) (by assumption) ?_
          try simp only [Act.put, List.setIfInBounds_toArray, List.set_cons_zero, List.set_cons_succ]
          refine wpAnyH_take (i := 15) (oi := { dst := some 33, op := Op.fieldAddr 68 (Operand.tmp 32) 2, type := 0, pos := "ref.go:53", after := #[{ on := 14, ground := Ground.data }, { on := 4, ground := Ground.guard }], guard := some (4, true) }) (v := undef) rfl (by kernel_rfl) (by kernel_rfl) (by kernel_rfl) (fun _ _ _ h => h) (Or.inr ⟨by rfl, rfl⟩) (by assumption) ?_
          try simp only [Act.put, List.setIfInBounds_toArray, List.set_cons_zero, List.set_cons_succ]
          refine wpAnyH_take (i := 16) (oi := { dst := some 34, op := Op.load 65 (Operand.tmp 33), type := 65, pos := "ref.go:53", after := #[{ on := 15, ground := Ground.data }, { on := 4, ground := Ground.guard }], guard := some (4, true) }) (v := undef) rfl (by kernel_rfl) (by kernel_rfl) (by kernel_rfl) (fun _ _ _ h => h) (Or.inr ⟨by rfl, rfl⟩) (by assumption) ?_
          try simp only [Act.put, List.setIfInBounds_toArray, List.set_cons_zero, List.set_cons_succ]
          refine wpAnyH_take (i := 17) (oi := { dst := some 35, op := Op.move (Operand.tmp 1), type := 3, pos := "ref.go:53", after := #[{ on := 4, ground := Ground.guard }], guard := some (4, true) }) (v := undef) rfl (by kernel_rfl) (by kernel_rfl) (by kernel_rfl) (fun _ _ _ h => h) (Or.inr ⟨by rfl, rfl⟩) (by assumption) ?_
          try simp only [Act.put, List.setIfInBounds_toArray, List.set_cons_zero, List.set_cons_succ]
          refine wpAnyH_take (i := 18) (oi := { dst := some 36, op := Op.call { callee := Callee.value (Operand.func 68), args := #[Operand.tmp 29, Operand.tmp 34, Operand.tmp 35], argTypes := #[65, 65, 3] }, type := 4, pos := "ref.go:53", after := #[{ on := 11, ground := Ground.data }, { on := 16, ground := Ground.data }, { on := 17, ground := Ground.data }, { on := 4, ground := Ground.chain }, { on := 4, ground := Ground.guard }], guard := some (4, true) }) (v := undef) rfl (by kernel_rfl) (by kernel_rfl) (by kernel_rfl) (fun _ _ _ h => h) (Or.inr ⟨by rfl, rfl⟩) (by assumption) ?_
          try simp only [Act.put, List.setIfInBounds_toArray, List.set_cons_zero, List.set_cons_succ]
          refine wpAnyH_take (i := 19) (oi := { dst := some 37, op := Op.unOp UnOp.not 4 (Operand.tmp 36), type := 4, pos := "ref.go:53", after := #[{ on := 18, ground := Ground.data }, { on := 4, ground := Ground.guard }], guard := some (4, true) }) (v := undef) rfl (by kernel_rfl) (by kernel_rfl) (by kernel_rfl) (fun _ _ _ h => h) (Or.inr ⟨by rfl, rfl⟩) (by assumption) ?_
          try simp only [Act.put, List.setIfInBounds_toArray, List.set_cons_zero, List.set_cons_succ]
          refine wpAnyH_take (i := 20) (oi := { dst := some 38, op := Op.pick (Operand.tmp 22) (Operand.tmp 37) (Operand.const (Value.bool false)), type := 4, pos := "ref.go:53", after := #[{ on := 4, ground := Ground.data }, { on := 19, ground := Ground.data }], guard := none }) (v := ?_) rfl (by kernel_rfl) (by kernel_rfl) (by kernel_rfl) (fun _ _ _ h => h) (Or.inl ⟨by rfl, ?hyr1x20⟩) (by assumption) ?restr1x20
          case hyr1x20 => intro wq hSw; (go_simp); (try with_reducible rfl)
          try simp only [Act.put, List.setIfInBounds_toArray, List.set_cons_zero, List.set_cons_succ]
          refine wpAnyH_done (by kernel_rfl) ?_ _
          have hKn := hKn'.out
          have d3 : ((KX : Int) == (C.length : Int)) = true := by simp; omega
          replace OQ := OQ.nx (Ex.refl wi).drew
          replace kx := kx.nx (Ex.refl wi).drew
          obtain ⟨w3, hw3⟩ : ∃ w3, w3 = wi.drew := ⟨_, rfl⟩
          rw [← hw3] at OQ kx ⊢
          clear d1 d2 hw3 zq
          have zq := kx.size
          go_upto_region 10 with (at_builtin; (refine wpList_append_lit (enc := encH) w3 rfl _ _ 88 rfl w1.heap.size 43 (.slice none 0 0) 1 24 Tryd.underlying88 Tryd.infoH rfl (by omega) (by omega) _ _ OQ.1 rfl ((none, 0, 0) : Hdr) _ rfl rfl (by simp [encH, Hdr.val, Value.oneCell']) _ (by simp) rfl lq (by omega) _ ?_); intro vp wp ownp ch0 ch1 _)
          have OQ := OQ.pad ownp ch0
          replace kx : Ex w1 wp := Chg.trans kx ch1
          obtain ⟨C', hC'⟩ : ∃ C' : List (List Nd), C' = C ++ [[]] := ⟨_, rfl⟩
          rw [← hC'] at OQ
          have CL : C'.length = C.length + 1 := by rw [hC']; simp
          have EC : Hid (C' = padC C KX) := Lib.hid (by unfold padC; rw [if_pos (by omega), hC'])
          have CLEN : Hid (∀ c ∈ C', c.length ≤ 1000000) := Lib.hid (fun c hc => by
            rw [hC'] at hc
            rcases List.mem_append.1 hc with h1 | h1
            · exact Nat.le_trans (FF.out c h1).2.1 (by omega)
            · rw [List.mem_singleton.1 h1]; simp)
          generalize (qs ++ [((none, 0, 0) : Hdr)]) = qs at OQ
          obtain ⟨wa, rfl⟩ : ∃ wa : World, wa = wp := ⟨_, rfl⟩
          have hKC : KX < C'.length := by omega
          have NL : Hid (C'.length ≤ 1000001) := Lib.hid (by omega)
          clear hC' CL ownp ch0 ch1
          rw [← hKn]
          clear hKn
          obtain ⟨x5, o5, y5, he5, hx5, hy5, hc5⟩ := (hs.out.nx kx).at hlt
          cases he5
          obtain rfl : y = y5 := Option.some.inj (HY.out.symm.trans hy5)
          have E0 := Lib.hid (hc5 0 _ rfl)
          have E1 := Lib.hid (hc5 1 _ rfl)
          have E2 := Lib.hid (hc5 2 _ rfl)
          clear hy5 hc5 hx5
          obtain ⟨a4, cap4, he4, ll4, _, _, some4⟩ := OQ.ll
          cases he4
          obtain ⟨g4, e4, hg4⟩ := some4 (by intro h0; rw [h0] at hKC; simp at hKC)
          first | subst e4 | (obtain rfl : g4 = g3 := by cases e4; rfl)
          obtain ⟨c, hc⟩ : ∃ c, C'[KX]? = some c := ⟨C'[KX]'hKC, by simp⟩
          obtain ⟨⟨qa, qn, qc⟩, hq⟩ : ∃ q : Hdr, qs[KX]? = some q := ⟨qs[KX]'(by rw [OQ.2.1]; exact hKC), by simp⟩
          have hcl : c.length ≤ 1000000 := CLEN.out c (List.mem_of_getElem? hc)
          obtain ⟨cy, hcy⟩ : ∃ cy : List Nd, cy = c ++ [y] := ⟨_, rfl⟩
          have FIN : Hid (stepC h C y = C'.set KX cy) := Lib.hid (by unfold stepC; rw [KI.out, ← EC.out, hc, hcy]; rfl)
          have HCY := Lib.hid hcy
          clear hcy
          have HQ := Lib.hid hq
          have HCC := Lib.hid hc
          have hn4 : (KX : Int) < (C'.length : Int) := by omega
          have hn5 : C'.length ≤ 1000001 := NL.out
          clear hc hq ll4 some4
          go_wp2_with fail
          have OQ := Lib.hid (OQ.nx (Ex.refl wa).drew)
          have kx := kx.nx (Ex.refl wa).drew
          have SXF : ∀ cur : World, Sl 3 encN (cur.alloc (.cells #[.int .i64 y.id, .string y.key, .int .u32 y.word] 68)) (some ⟨cur.heap.size, 0, none⟩) 1 [y] := fun cur => Sl.lit _ rfl rfl (fun _ => rfl) rfl
          refine wp_region_held_drew (S := fun _ => True) (by kernel_rfl) (trivial) (fun hHeld => ?_)
          refine wpAnyH_take (i := 0) (oi := { dst := some 48, op := Op.move (Operand.tmp 5), type := 88, pos := "ref.go:59", after := #[], guard := none }) (v := ?_) rfl (by kernel_rfl) (by kernel_rfl) (by kernel_rfl) (fun _ _ _ h => h) (Or.inl ⟨by rfl, ?hyr2x0q1⟩) (by assumption) ?restr2x0q1
          case hyr2x0q1 => intro wq hSw; (go_simp); (try with_reducible rfl)
          try simp only [Act.put, List.setIfInBounds_toArray, List.set_cons_zero, List.set_cons_succ]
          refine wpAnyH_take (i := 1) (oi := { dst := some 49, op := Op.move (Operand.tmp 7), type := 3, pos := "ref.go:59", after := #[], guard := none }) (v := ?_) rfl (by kernel_rfl) (by kernel_rfl) (by kernel_rfl) (fun _ _ _ h => h) (Or.inl ⟨by rfl, ?hyr2x1q4⟩) (by assumption) ?restr2x1q4
          case hyr2x1q4 => intro wq hSw; (go_simp); (try with_reducible rfl)
          try simp only [Act.put, List.setIfInBounds_toArray, List.set_cons_zero, List.set_cons_succ]
          refine wpAnyH_take (i := 2) (oi := { dst := some 50, op := Op.move (Operand.tmp 5), type := 88, pos := "ref.go:59", after := #[], guard := none }) (v := ?_) rfl (by kernel_rfl) (by kernel_rfl) (by kernel_rfl) (fun _ _ _ h => h) (Or.inl ⟨by rfl, ?hyr2x2q7⟩) (by assumption) ?restr2x2q7
          case hyr2x2q7 => intro wq hSw; (go_simp); (try with_reducible rfl)
          try simp only [Act.put, List.setIfInBounds_toArray, List.set_cons_zero, List.set_cons_succ]
          refine wpAnyH_take (i := 3) (oi := { dst := some 51, op := Op.move (Operand.tmp 7), type := 3, pos := "ref.go:59", after := #[], guard := none }) (v := ?_) rfl (by kernel_rfl) (by kernel_rfl) (by kernel_rfl) (fun _ _ _ h => h) (Or.inl ⟨by rfl, ?hyr2x3q10⟩) (by assumption) ?restr2x3q10
          case hyr2x3q10 => intro wq hSw; (go_simp); (try with_reducible rfl)
          try simp only [Act.put, List.setIfInBounds_toArray, List.set_cons_zero, List.set_cons_succ]
          refine wpAnyH_take (i := 4) (oi := { dst := some 52, op := Op.indexAddr 88 (Operand.tmp 50) (Operand.tmp 51), type := 0, pos := "ref.go:59", after := #[{ on := 2, ground := Ground.data }, { on := 3, ground := Ground.data }], guard := none }) (v := ?_) rfl (by kernel_rfl) (by kernel_rfl) (by kernel_rfl) (fun _ _ _ h => h) (Or.inl ⟨by rfl, ?hyr2x4q13⟩) (by assumption) ?restr2x4q13
          case hyr2x4q13 => intro wq hSw; (go_simp); (try with_reducible rfl)
          try simp only [Act.put, List.setIfInBounds_toArray, List.set_cons_zero, List.set_cons_succ]
          refine wpAnyH_take (i := 6) (oi := { dst := some 54, op := Op.move (Operand.tmp 0), type := 43, pos := "ref.go:59", after := #[], guard := none }) (v := ?_) rfl (by kernel_rfl) (by kernel_rfl) (by kernel_rfl) (fun _ _ _ h => h) (Or.inl ⟨by rfl, ?hyr2x6q16⟩) (by assumption) ?restr2x6q16
          case hyr2x6q16 => intro wq hSw; (go_simp); (try with_reducible rfl)
          try simp only [Act.put, List.setIfInBounds_toArray, List.set_cons_zero, List.set_cons_succ]
          refine wpAnyH_take (i := 7) (oi := { dst := some 55, op := Op.move (Operand.tmp 6), type := 3, pos := "ref.go:59", after := #[], guard := none }) (v := ?_) rfl (by kernel_rfl) (by kernel_rfl) (by kernel_rfl) (fun _ _ _ h => h) (Or.inl ⟨by rfl, ?hyr2x7q19⟩) (by assumption) ?restr2x7q19
          case hyr2x7q19 => intro wq hSw; (go_simp); (try with_reducible rfl)
          try simp only [Act.put, List.setIfInBounds_toArray, List.set_cons_zero, List.set_cons_succ]
          refine wpAnyH_take (i := 8) (oi := { dst := some 56, op := Op.indexAddr 43 (Operand.tmp 54) (Operand.tmp 55), type := 0, pos := "ref.go:59", after := #[{ on := 6, ground := Ground.data }, { on := 7, ground := Ground.data }], guard := none }) (v := ?_) rfl (by kernel_rfl) (by kernel_rfl) (by kernel_rfl) (fun _ _ _ h => h) (Or.inl ⟨by rfl, ?hyr2x8q22⟩) (by assumption) ?restr2x8q22
          case hyr2x8q22 => intro wq hSw; (go_simp); (try with_reducible rfl)
          try simp only [Act.put, List.setIfInBounds_toArray, List.set_cons_zero, List.set_cons_succ]
          refine wpAnyH_ready (rs := [5, 9]) (by kernel_rfl) (by simp) ?_
          refine AllReadyH.cons (o := { dst := some 53, op := Op.load 43 (Operand.tmp 52), type := 43, pos := "ref.go:59", after := #[{ on := 4, ground := Ground.data }], guard := none }) rfl (fun K hK => ?_) ?_
          · have cc := (own_cellH OQ.out.1 HQ.out).1
            simp only [Hdr.val] at cc
            (try have cc2 : (wa.alloc (.cells #[.int .i64 y.id, .string y.key, .int .u32 y.word] 68)).cell? ⟨g4, KX, none⟩ = some (.slice qa qn qc) := cc)
            go_simp
            clear cc
            (try clear cc2)
            refine hK.out _ _ (trivial) (fun hHeld => ?_)
            clear hK K
            try simp only [Act.put, List.setIfInBounds_toArray, List.set_cons_zero, List.set_cons_succ]
            refine wpAnyH_ready (rs := [9]) (by kernel_rfl) (by simp) ?_
            refine AllReadyH.cons (o := { dst := some 57, op := Op.load 68 (Operand.tmp 56), type := 68, pos := "ref.go:59", after := #[{ on := 8, ground := Ground.data }], guard := none }) rfl (fun K hK => ?_) AllReadyH.nil
            have b0 : wa.cell? ⟨x1, o1 + k * 3, none⟩ = some (.int .i64 y.id) := E0.out
            have b1 : wa.cell? ⟨x1, o1 + k * 3 + 1, none⟩ = some (.string y.key) := E1.out
            have b2 : wa.cell? ⟨x1, o1 + k * 3 + 1 + 1, none⟩ = some (.int .u32 y.word) := E2.out
            go_simp
            clear b0 b1 b2
            refine hK.out _ _ (trivial) (fun hHeld => ?_)
            clear hK K
            try simp only [Act.put, List.setIfInBounds_toArray, List.set_cons_zero, List.set_cons_succ]
            refine wpAnyH_ready (rs := [10]) (by kernel_rfl) (by simp) ?_
            refine AllReadyH.cons (o := { dst := some 58, op := Op.buildSlice 43 1 #[(0, Operand.tmp 57)], type := 43, pos := "ref.go:59", after := #[{ on := 9, ground := Ground.data }], guard := none }) rfl (fun K hK => ?_) AllReadyH.nil
            go_simp
            have SX := SXF wa.drew
            have e7 := Ex.new wa.drew (.cells #[.int .i64 y.id, .string y.key, .int .u32 y.word] 68)
            replace OQ := Lib.hid (OQ.out.nx e7)
            replace kx := kx.nx e7
            clear e7
            refine hK.out _ _ (trivial) (fun hHeld => ?_)
            clear hK K
            try simp only [Act.put, List.setIfInBounds_toArray, List.set_cons_zero, List.set_cons_succ]
            refine wpAnyH_ready (rs := [11]) (by kernel_rfl) (by simp) ?_
            refine AllReadyH.cons (o := { dst := some 59, op := Op.call { callee := Callee.builtin Builtin.append, args := #[Operand.tmp 53, Operand.tmp 58], argTypes := #[43, 43] }, type := 43, pos := "ref.go:59", after := #[{ on := 5, ground := Ground.data }, { on := 10, ground := Ground.data }], guard := none }) rfl (fun K hK => ?_) AllReadyH.nil
            rw [if_pos (by rfl)]
            have z0 := Ex.size kx
            have oi := OQ.out.2.2.1 KX _ _ HQ.out HCC.out
            refine wp_append_rda (enc := encN) _ (.tmp 53) (.tmp 58) 43 rfl w1.heap.size 68 (.agg #[.int .i64 0, .string ByteArray.empty, .int .u32 0]) 3 32 Tryd.underlying43 Tryd.infoN rfl (by omega) (by omega) _ c oi rfl _ _ 1 1 [y] SX (fun h => by cases h) (fun _ => rfl) (by simp [encN, Value.oneCell']) rfl hcl (by omega) z0 ?_
            intro v8 w8 own8 ch0 ch1 hat
            rw [← HCY.out] at own8
            obtain ⟨a8, cap8, rfl, _, _, _, _⟩ := own8.rd (fun _ => rfl)
            obtain ⟨pc, pf, OQ2⟩ := OwnQ.put (q' := (a8, cy.length, cap8)) OQ.out HQ.out own8 ch0 hat
            replace kx : Ex w1 w8 := Chg.trans kx ch1
            replace OQ := Lib.hid OQ2
            clear OQ2 own8 ch0 ch1 hat oi z0 SX
            refine hK.out _ _ (trivial) (fun hHeld => ?_)
            clear hK K
            try simp only [Act.put, List.setIfInBounds_toArray, List.set_cons_zero, List.set_cons_succ]
            refine wpAnyH_take (i := 12) (oi := { dst := some 60, op := Op.indexAddr 88 (Operand.tmp 48) (Operand.tmp 49), type := 0, pos := "ref.go:59", after := #[{ on := 0, ground := Ground.data }, { on := 1, ground := Ground.data }, { on := 0, ground := Ground.phase }, { on := 1, ground := Ground.phase }, { on := 2, ground := Ground.phase }, { on := 3, ground := Ground.phase }, { on := 4, ground := Ground.phase }, { on := 5, ground := Ground.phase }, { on := 6, ground := Ground.phase }, { on := 7, ground := Ground.phase }, { on := 8, ground := Ground.phase }, { on := 9, ground := Ground.phase }, { on := 10, ground := Ground.phase }, { on := 11, ground := Ground.phase }], guard := none }) (v := ?_) rfl (by kernel_rfl) (by kernel_rfl) (by kernel_rfl) (fun _ _ _ h => h) (Or.inl ⟨by rfl, ?hyr2x12q73⟩) (by assumption) ?restr2x12q73
            case hyr2x12q73 => intro wq hSw; (go_simp); (try with_reducible rfl)
            try simp only [Act.put, List.setIfInBounds_toArray, List.set_cons_zero, List.set_cons_succ]
            refine wpAnyH_ready (rs := [13]) (by kernel_rfl) (by simp) ?_
            refine AllReadyH.cons (o := { dst := none, op := Op.store 43 (Operand.tmp 60) (Operand.tmp 59), type := 0, pos := "ref.go:59", after := #[{ on := 12, ground := Ground.data }, { on := 11, ground := Ground.data }, { on := 11, ground := Ground.chain }, { on := 0, ground := Ground.phase }, { on := 1, ground := Ground.phase }, { on := 2, ground := Ground.phase }, { on := 3, ground := Ground.phase }, { on := 4, ground := Ground.phase }, { on := 5, ground := Ground.phase }, { on := 6, ground := Ground.phase }, { on := 7, ground := Ground.phase }, { on := 8, ground := Ground.phase }, { on := 9, ground := Ground.phase }, { on := 10, ground := Ground.phase }, { on := 11, ground := Ground.phase }], guard := none }) rfl (fun K hK => ?_) AllReadyH.nil
            go_simp
            clear pc pf
            refine hK.out _ _ (trivial) (fun hHeld => ?_)
            clear hK K
            try simp only [Act.put, List.setIfInBounds_toArray, List.set_cons_zero, List.set_cons_succ]
            refine wpAnyH_done (by kernel_rfl) ?_ _
            replace kx := kx.setNew (p := ⟨g4, KX, none⟩) (Hdr.val (a8, cy.length, cap8)) hg4
            obtain ⟨wz, hwz⟩ : ∃ wz, wz = w8.setCell ⟨g4, KX, none⟩ (.slice a8 cy.length cap8) := ⟨_, rfl⟩
            have OQ := Lib.hid (OwnQ.cast OQ.out (w' := wz) hwz)
            have kx : Ex w1 wz := by rw [hwz]; exact kx
            rw [← hwz]
            clear hwz SXF hHeld hn5 hcl
            go_wp2_with fail
            exact ⟨⟨k + 1, _, by omega, by go_num, by rw [FSn.out, FIN.out]; exact OQ.out, kx⟩, by simp [intOf]; omega⟩
          refine AllReadyH.cons (o := { dst := some 57, op := Op.load 68 (Operand.tmp 56), type := 68, pos := "ref.go:59", after := #[{ on := 8, ground := Ground.data }], guard := none }) rfl (fun K hK => ?_) AllReadyH.nil
          · have b0 : wa.cell? ⟨x1, o1 + k * 3, none⟩ = some (.int .i64 y.id) := E0.out
            have b1 : wa.cell? ⟨x1, o1 + k * 3 + 1, none⟩ = some (.string y.key) := E1.out
            have b2 : wa.cell? ⟨x1, o1 + k * 3 + 1 + 1, none⟩ = some (.int .u32 y.word) := E2.out
            go_simp
            clear b0 b1 b2
            refine hK.out _ _ (trivial) (fun hHeld => ?_)
            clear hK K
            try simp only [Act.put, List.setIfInBounds_toArray, List.set_cons_zero, List.set_cons_succ]
            refine wpAnyH_ready (rs := [5, 10]) (by kernel_rfl) (by simp) ?_
            refine AllReadyH.cons (o := { dst := some 53, op := Op.load 43 (Operand.tmp 52), type := 43, pos := "ref.go:59", after := #[{ on := 4, ground := Ground.data }], guard := none }) rfl (fun K hK => ?_) ?_
            · have cc := (own_cellH OQ.out.1 HQ.out).1
              simp only [Hdr.val] at cc
              (try have cc2 : (wa.alloc (.cells #[.int .i64 y.id, .string y.key, .int .u32 y.word] 68)).cell? ⟨g4, KX, none⟩ = some (.slice qa qn qc) := cc)
              go_simp
              clear cc
              (try clear cc2)
              refine hK.out _ _ (trivial) (fun hHeld => ?_)
              clear hK K
              try simp only [Act.put, List.setIfInBounds_toArray, List.set_cons_zero, List.set_cons_succ]
              refine wpAnyH_ready (rs := [10]) (by kernel_rfl) (by simp) ?_
              refine AllReadyH.cons (o := { dst := some 58, op := Op.buildSlice 43 1 #[(0, Operand.tmp 57)], type := 43, pos := "ref.go:59", after := #[{ on := 9, ground := Ground.data }], guard := none }) rfl (fun K hK => ?_) AllReadyH.nil
              go_simp
              have SX := SXF wa.drew
              have e7 := Ex.new wa.drew (.cells #[.int .i64 y.id, .string y.key, .int .u32 y.word] 68)
              replace OQ := Lib.hid (OQ.out.nx e7)
              replace kx := kx.nx e7
              clear e7
              refine hK.out _ _ (trivial) (fun hHeld => ?_)
              clear hK K
              try simp only [Act.put, List.setIfInBounds_toArray, List.set_cons_zero, List.set_cons_succ]
              refine wpAnyH_ready (rs := [11]) (by kernel_rfl) (by simp) ?_
              refine AllReadyH.cons (o := { dst := some 59, op := Op.call { callee := Callee.builtin Builtin.append, args := #[Operand.tmp 53, Operand.tmp 58], argTypes := #[43, 43] }, type := 43, pos := "ref.go:59", after := #[{ on := 5, ground := Ground.data }, { on := 10, ground := Ground.data }], guard := none }) rfl (fun K hK => ?_) AllReadyH.nil
              rw [if_pos (by rfl)]
              have z0 := Ex.size kx
              have oi := OQ.out.2.2.1 KX _ _ HQ.out HCC.out
              refine wp_append_rda (enc := encN) _ (.tmp 53) (.tmp 58) 43 rfl w1.heap.size 68 (.agg #[.int .i64 0, .string ByteArray.empty, .int .u32 0]) 3 32 Tryd.underlying43 Tryd.infoN rfl (by omega) (by omega) _ c oi rfl _ _ 1 1 [y] SX (fun h => by cases h) (fun _ => rfl) (by simp [encN, Value.oneCell']) rfl hcl (by omega) z0 ?_
              intro v8 w8 own8 ch0 ch1 hat
              rw [← HCY.out] at own8
              obtain ⟨a8, cap8, rfl, _, _, _, _⟩ := own8.rd (fun _ => rfl)
              obtain ⟨pc, pf, OQ2⟩ := OwnQ.put (q' := (a8, cy.length, cap8)) OQ.out HQ.out own8 ch0 hat
              replace kx : Ex w1 w8 := Chg.trans kx ch1
              replace OQ := Lib.hid OQ2
              clear OQ2 own8 ch0 ch1 hat oi z0 SX
              refine hK.out _ _ (trivial) (fun hHeld => ?_)
              clear hK K
              try simp only [Act.put, List.setIfInBounds_toArray, List.set_cons_zero, List.set_cons_succ]
              refine wpAnyH_take (i := 12) (oi := { dst := some 60, op := Op.indexAddr 88 (Operand.tmp 48) (Operand.tmp 49), type := 0, pos := "ref.go:59", after := #[{ on := 0, ground := Ground.data }, { on := 1, ground := Ground.data }, { on := 0, ground := Ground.phase }, { on := 1, ground := Ground.phase }, { on := 2, ground := Ground.phase }, { on := 3, ground := Ground.phase }, { on := 4, ground := Ground.phase }, { on := 5, ground := Ground.phase }, { on := 6, ground := Ground.phase }, { on := 7, ground := Ground.phase }, { on := 8, ground := Ground.phase }, { on := 9, ground := Ground.phase }, { on := 10, ground := Ground.phase }, { on := 11, ground := Ground.phase }], guard := none }) (v := ?_) rfl (by kernel_rfl) (by kernel_rfl) (by kernel_rfl) (fun _ _ _ h => h) (Or.inl ⟨by rfl, ?hyr2x12q132⟩) (by assumption) ?restr2x12q132
              case hyr2x12q132 => intro wq hSw; (go_simp); (try with_reducible rfl)
              try simp only [Act.put, List.setIfInBounds_toArray, List.set_cons_zero, List.set_cons_succ]
              refine wpAnyH_ready (rs := [13]) (by kernel_rfl) (by simp) ?_
              refine AllReadyH.cons (o := { dst := none, op := Op.store 43 (Operand.tmp 60) (Operand.tmp 59), type := 0, pos := "ref.go:59", after := #[{ on := 12, ground := Ground.data }, { on := 11, ground := Ground.data }, { on := 11, ground := Ground.chain }, { on := 0, ground := Ground.phase }, { on := 1, ground := Ground.phase }, { on := 2, ground := Ground.phase }, { on := 3, ground := Ground.phase }, { on := 4, ground := Ground.phase }, { on := 5, ground := Ground.phase }, { on := 6, ground := Ground.phase }, { on := 7, ground := Ground.phase }, { on := 8, ground := Ground.phase }, { on := 9, ground := Ground.phase }, { on := 10, ground := Ground.phase }, { on := 11, ground := Ground.phase }], guard := none }) rfl (fun K hK => ?_) AllReadyH.nil
              go_simp
              clear pc pf
              refine hK.out _ _ (trivial) (fun hHeld => ?_)
              clear hK K
              try simp only [Act.put, List.setIfInBounds_toArray, List.set_cons_zero, List.set_cons_succ]
              refine wpAnyH_done (by kernel_rfl) ?_ _
              replace kx := kx.setNew (p := ⟨g4, KX, none⟩) (Hdr.val (a8, cy.length, cap8)) hg4
              obtain ⟨wz, hwz⟩ : ∃ wz, wz = w8.setCell ⟨g4, KX, none⟩ (.slice a8 cy.length cap8) := ⟨_, rfl⟩
              have OQ := Lib.hid (OwnQ.cast OQ.out (w' := wz) hwz)
              have kx : Ex w1 wz := by rw [hwz]; exact kx
              rw [← hwz]
              clear hwz SXF hHeld hn5 hcl
              go_wp2_with fail
              exact ⟨⟨k + 1, _, by omega, by go_num, by rw [FSn.out, FIN.out]; exact OQ.out, kx⟩, by simp [intOf]; omega⟩
            refine AllReadyH.cons (o := { dst := some 58, op := Op.buildSlice 43 1 #[(0, Operand.tmp 57)], type := 43, pos := "ref.go:59", after := #[{ on := 9, ground := Ground.data }], guard := none }) rfl (fun K hK => ?_) AllReadyH.nil
            · go_simp
              have SX := SXF wa.drew
              have e7 := Ex.new wa.drew (.cells #[.int .i64 y.id, .string y.key, .int .u32 y.word] 68)
              replace OQ := Lib.hid (OQ.out.nx e7)
              replace kx := kx.nx e7
              clear e7
              refine hK.out _ _ (trivial) (fun hHeld => ?_)
              clear hK K
              try simp only [Act.put, List.setIfInBounds_toArray, List.set_cons_zero, List.set_cons_succ]
              refine wpAnyH_ready (rs := [5]) (by kernel_rfl) (by simp) ?_
              refine AllReadyH.cons (o := { dst := some 53, op := Op.load 43 (Operand.tmp 52), type := 43, pos := "ref.go:59", after := #[{ on := 4, ground := Ground.data }], guard := none }) rfl (fun K hK => ?_) AllReadyH.nil
              have cc := (own_cellH OQ.out.1 HQ.out).1
              simp only [Hdr.val] at cc
              (try have cc2 : (wa.alloc (.cells #[.int .i64 y.id, .string y.key, .int .u32 y.word] 68)).cell? ⟨g4, KX, none⟩ = some (.slice qa qn qc) := cc)
              go_simp
              clear cc
              (try clear cc2)
              refine hK.out _ _ (trivial) (fun hHeld => ?_)
              clear hK K
              try simp only [Act.put, List.setIfInBounds_toArray, List.set_cons_zero, List.set_cons_succ]
              refine wpAnyH_ready (rs := [11]) (by kernel_rfl) (by simp) ?_
              refine AllReadyH.cons (o := { dst := some 59, op := Op.call { callee := Callee.builtin Builtin.append, args := #[Operand.tmp 53, Operand.tmp 58], argTypes := #[43, 43] }, type := 43, pos := "ref.go:59", after := #[{ on := 5, ground := Ground.data }, { on := 10, ground := Ground.data }], guard := none }) rfl (fun K hK => ?_) AllReadyH.nil
              rw [if_pos (by rfl)]
              have z0 := Ex.size kx
              have oi := OQ.out.2.2.1 KX _ _ HQ.out HCC.out
              refine wp_append_rda (enc := encN) _ (.tmp 53) (.tmp 58) 43 rfl w1.heap.size 68 (.agg #[.int .i64 0, .string ByteArray.empty, .int .u32 0]) 3 32 Tryd.underlying43 Tryd.infoN rfl (by omega) (by omega) _ c oi rfl _ _ 1 1 [y] SX (fun h => by cases h) (fun _ => rfl) (by simp [encN, Value.oneCell']) rfl hcl (by omega) z0 ?_
              intro v8 w8 own8 ch0 ch1 hat
              rw [← HCY.out] at own8
              obtain ⟨a8, cap8, rfl, _, _, _, _⟩ := own8.rd (fun _ => rfl)
              obtain ⟨pc, pf, OQ2⟩ := OwnQ.put (q' := (a8, cy.length, cap8)) OQ.out HQ.out own8 ch0 hat
              replace kx : Ex w1 w8 := Chg.trans kx ch1
              replace OQ := Lib.hid OQ2
              clear OQ2 own8 ch0 ch1 hat oi z0 SX
              refine hK.out _ _ (trivial) (fun hHeld => ?_)
              clear hK K
              try simp only [Act.put, List.setIfInBounds_toArray, List.set_cons_zero, List.set_cons_succ]
              refine wpAnyH_take (i := 12) (oi := { dst := some 60, op := Op.indexAddr 88 (Operand.tmp 48) (Operand.tmp 49), type := 0, pos := "ref.go:59", after := #[{ on := 0, ground := Ground.data }, { on := 1, ground := Ground.data }, { on := 0, ground := Ground.phase }, { on := 1, ground := Ground.phase }, { on := 2, ground := Ground.phase }, { on := 3, ground := Ground.phase }, { on := 4, ground := Ground.phase }, { on := 5, ground := Ground.phase }, { on := 6, ground := Ground.phase }, { on := 7, ground := Ground.phase }, { on := 8, ground := Ground.phase }, { on := 9, ground := Ground.phase }, { on := 10, ground := Ground.phase }, { on := 11, ground := Ground.phase }], guard := none }) (v := ?_) rfl (by kernel_rfl) (by kernel_rfl) (by kernel_rfl) (fun _ _ _ h => h) (Or.inl ⟨by rfl, ?hyr2x12q181⟩) (by assumption) ?restr2x12q181
              case hyr2x12q181 => intro wq hSw; (go_simp); (try with_reducible rfl)
              try simp only [Act.put, List.setIfInBounds_toArray, List.set_cons_zero, List.set_cons_succ]
              refine wpAnyH_ready (rs := [13]) (by kernel_rfl) (by simp) ?_
              refine AllReadyH.cons (o := { dst := none, op := Op.store 43 (Operand.tmp 60) (Operand.tmp 59), type := 0, pos := "ref.go:59", after := #[{ on := 12, ground := Ground.data }, { on := 11, ground := Ground.data }, { on := 11, ground := Ground.chain }, { on := 0, ground := Ground.phase }, { on := 1, ground := Ground.phase }, { on := 2, ground := Ground.phase }, { on := 3, ground := Ground.phase }, { on := 4, ground := Ground.phase }, { on := 5, ground := Ground.phase }, { on := 6, ground := Ground.phase }, { on := 7, ground := Ground.phase }, { on := 8, ground := Ground.phase }, { on := 9, ground := Ground.phase }, { on := 10, ground := Ground.phase }, { on := 11, ground := Ground.phase }], guard := none }) rfl (fun K hK => ?_) AllReadyH.nil
              go_simp
              clear pc pf
              refine hK.out _ _ (trivial) (fun hHeld => ?_)
              clear hK K
              try simp only [Act.put, List.setIfInBounds_toArray, List.set_cons_zero, List.set_cons_succ]
              refine wpAnyH_done (by kernel_rfl) ?_ _
              replace kx := kx.setNew (p := ⟨g4, KX, none⟩) (Hdr.val (a8, cy.length, cap8)) hg4
              obtain ⟨wz, hwz⟩ : ∃ wz, wz = w8.setCell ⟨g4, KX, none⟩ (.slice a8 cy.length cap8) := ⟨_, rfl⟩
              have OQ := Lib.hid (OwnQ.cast OQ.out (w' := wz) hwz)
              have kx : Ex w1 wz := by rw [hwz]; exact kx
              rw [← hwz]
              clear hwz SXF hHeld hn5 hcl
              go_wp2_with fail
              exact ⟨⟨k + 1, _, by omega, by go_num, by rw [FSn.out, FIN.out]; exact OQ.out, kx⟩, by simp [intOf]; omega⟩
        · have hlj : KX < C.length := by omega
          obtain ⟨g3, rfl, _⟩ := SOME3.out (by intro h0; rw [h0] at hlj; simp at hlj)
          obtain ⟨x2, o2, b1, m1, d1, c, he2, hx2, hy2, hc2, r1⟩ := (LL3.out.nx ki).at hlj
          cases he2
          rw [Nat.zero_add] at hc2
          obtain ⟨p1, p2, p3⟩ := FF.out c (List.mem_of_getElem? hy2)
          obtain ⟨x4, o4, y4, rfl, hx4, hy4, hc4⟩ := r1.at (j := 0) (by rw [← r1.len]; exact p1)
          have hm1 : 0 < m1 := by rw [← r1.len]; exact p1
          have f4 : wi.cell? ⟨x4, o4 + 2, none⟩ = some (.int .u32 y4.word) := by simpa using hc4 2 _ rfl
          have f2 := Chg.cellv ki e2' hx1
          have hx1' : x1 < wi.heap.size := Nat.lt_of_lt_of_le hx1 ki.size
          have hyw4 := p3 y4 (List.mem_of_getElem? hy4)
          have hHW : headW c = y4.word := by
            cases c with
            | nil => simp at hy4
            | cons z r => simp at hy4; subst hy4; rfl
          have SR := fun w => same_rE y4.word y.word h w hyw4 hyw
          have dj : (KX : Int) < (C.length : Int) := by omega
          have dj1 : decide ((KX : Int) < (C.length : Int)) = true := by simpa using dj
          have dj2 : decide (KX < C.length) = true := by simpa using hlj
          have HY2 := Lib.hid hy2
          clear hc4 hy4 p1 p2 p3 r1 hy2 e2' ki
          cases hsm : sameN y4.word y.word h with
          | true =>
            have KI : Hid (idxC C y.word h = KX) := Lib.hid (idxC_of HY2.out (by rw [hHW]; exact hsm) HNO.out)
            rw [hsm] at SR
            have SR := Lib.hid SR
            clear hsm hHW
            go_wp2_with fail
            refine wp_region_held_drew (S := Ex wi.drew) (by kernel_rfl) (Ex.refl _) (fun hHeld => ?_)
            refine wpAnyH_take (i := 0) (oi := { dst := some 18, op := Op.move (Operand.tmp 7), type := 3, pos := "ref.go:53", after := #[], guard := none }) (v := ?_) rfl (by kernel_rfl) (by kernel_rfl) (by kernel_rfl) (fun _ _ _ h => h) (Or.inl ⟨by rfl, ?hyr3x0⟩) (by assumption) ?restr3x0
            case hyr3x0 => intro wq hSw; (go_simp); (try with_reducible rfl)
            try simp only [Act.put, List.setIfInBounds_toArray, List.set_cons_zero, List.set_cons_succ]
            refine wpAnyH_take (i := 1) (oi := { dst := some 19, op := Op.move (Operand.tmp 5), type := 88, pos := "ref.go:53", after := #[], guard := none }) (v := ?_) rfl (by kernel_rfl) (by kernel_rfl) (by kernel_rfl) (fun _ _ _ h => h) (Or.inl ⟨by rfl, ?hyr3x1⟩) (by assumption) ?restr3x1
            case hyr3x1 => intro wq hSw; (go_simp); (try with_reducible rfl)
            try simp only [Act.put, List.setIfInBounds_toArray, List.set_cons_zero, List.set_cons_succ]
            refine wpAnyH_take (i := 2) (oi := { dst := some 20, op := Op.call { callee := Callee.builtin Builtin.len, args := #[Operand.tmp 19], argTypes := #[88] }, type := 3, pos := "ref.go:53", after := #[{ on := 1, ground := Ground.data }], guard := none }) (v := ?_) rfl (by kernel_rfl) (by kernel_rfl) (by kernel_rfl) (fun _ _ _ h => h) (Or.inl ⟨by rfl, ?hyr3x2⟩) (by assumption) ?restr3x2
            case hyr3x2 => intro wq hSw; (go_simp); (try with_reducible rfl)
            try simp only [Act.put, List.setIfInBounds_toArray, List.set_cons_zero, List.set_cons_succ]
            refine wpAnyH_take (i := 3) (oi := { dst := some 21, op := Op.binOp BinOp.lss 3 (Operand.tmp 18) (Operand.tmp 20) 3, type := 4, pos := "ref.go:53", after := #[{ on := 0, ground := Ground.data }, { on := 2, ground := Ground.data }], guard := none }) (v := ?_) rfl (by kernel_rfl) (by kernel_rfl) (by kernel_rfl) (fun _ _ _ h => h) (Or.inl ⟨by rfl, ?hyr3x3⟩) (by assumption) ?restr3x3
            case hyr3x3 => intro wq hSw; (go_simp); (try with_reducible rfl)
            try simp only [Act.put, List.setIfInBounds_toArray, List.set_cons_zero, List.set_cons_succ]
            refine wpAnyH_take (i := 4) (oi := { dst := some 22, op := Op.move (Operand.tmp 21), type := 4, pos := "ref.go:53", after := #[{ on := 3, ground := Ground.data }], guard := none }) (v := ?_) rfl (by kernel_rfl) (by kernel_rfl) (by kernel_rfl) (fun _ _ _ h => h) (Or.inl ⟨by rfl, ?hyr3x4⟩) (by assumption) ?restr3x4
            case hyr3x4 => intro wq hSw; (go_simp); (try with_reducible rfl)
            try simp only [Act.put, List.setIfInBounds_toArray, List.set_cons_zero, List.set_cons_succ]
            refine wpAnyH_take (i := 5) (oi := { dst := some 23, op := Op.move (Operand.tmp 5), type := 88, pos := "ref.go:53", after := #[{ on := 4, ground := Ground.guard }], guard := some (4, true) }) (v := ?_) rfl (by kernel_rfl) (by kernel_rfl) (by kernel_rfl) (fun _ _ _ h => h) (Or.inl ⟨by rfl, ?hyr3x5⟩) (by assumption) ?restr3x5
            case hyr3x5 => intro wq hSw; (go_simp); (try with_reducible rfl)
            try simp only [Act.put, List.setIfInBounds_toArray, List.set_cons_zero, List.set_cons_succ]
            refine wpAnyH_take (i := 6) (oi := { dst := some 24, op := Op.move (Operand.tmp 7), type := 3, pos := "ref.go:53", after := #[{ on := 4, ground := Ground.guard }], guard := some (4, true) }) (v := ?_) rfl (by kernel_rfl) (by kernel_rfl) (by kernel_rfl) (fun _ _ _ h => h) (Or.inl ⟨by rfl, ?hyr3x6⟩) (by assumption) ?restr3x6
            case hyr3x6 => intro wq hSw; (go_simp); (try with_reducible rfl)
            try simp only [Act.put, List.setIfInBounds_toArray, List.set_cons_zero, List.set_cons_succ]
            refine wpAnyH_take (i := 7) (oi := { dst := some 25, op := Op.indexAddr 88 (Operand.tmp 23) (Operand.tmp 24), type := 0, pos := "ref.go:53", after := #[{ on := 5, ground := Ground.data }, { on := 6, ground := Ground.data }, { on := 4, ground := Ground.guard }], guard := some (4, true) }) (v := ?_) rfl (by kernel_rfl) (by kernel_rfl) (by kernel_rfl) (fun _ _ _ h => h) (Or.inl ⟨by rfl, ?hyr3x7⟩) (by assumption) ?restr3x7
            case hyr3x7 => intro wq hSw; (go_simp); (try with_reducible rfl)
            try simp only [Act.put, List.setIfInBounds_toArray, List.set_cons_zero, List.set_cons_succ]
            refine wpAnyH_take (i := 8) (oi := { dst := some 26, op := Op.load 43 (Operand.tmp 25), type := 43, pos := "ref.go:53", after := #[{ on := 7, ground := Ground.data }, { on := 4, ground := Ground.guard }], guard := some (4, true) }) (v := ?_) rfl (by kernel_rfl) (by kernel_rfl) (by kernel_rfl) (fun _ _ _ h => h) (Or.inl ⟨by rfl, ?hyr3x8⟩) (by assumption) ?restr3x8
            case hyr3x8 => intro wq hSw; (have cq := Chg.cellv hSw hc2 hx2; go_simp); (try with_reducible rfl)
            try simp only [Act.put, List.setIfInBounds_toArray, List.set_cons_zero, List.set_cons_succ]
            refine wpAnyH_take (i := 9) (oi := { dst := some 27, op := Op.indexAddr 43 (Operand.tmp 26) (Operand.const (Value.int IntKind.i64 0)), type := 0, pos := "ref.go:53", after := #[{ on := 8, ground := Ground.data }, { on := 4, ground := Ground.guard }], guard := some (4, true) }) (v := ?_) rfl (by kernel_rfl) (by kernel_rfl) (by kernel_rfl) (fun _ _ _ h => h) (Or.inl ⟨by rfl, ?hyr3x9⟩) (by assumption) ?restr3x9
            case hyr3x9 => intro wq hSw; (go_simp); (try with_reducible rfl)
            try simp only [Act.put, List.setIfInBounds_toArray, List.set_cons_zero, List.set_cons_succ]
            refine wpAnyH_take (i := 10) (oi := { dst := some 28, op := Op.fieldAddr 68 (Operand.tmp 27) 2, type := 0, pos := "ref.go:53", after := #[{ on := 9, ground := Ground.data }, { on := 4, ground := Ground.guard }], guard := some (4, true) }) (v := ?_) rfl (by kernel_rfl) (by kernel_rfl) (by kernel_rfl) (fun _ _ _ h => h) (Or.inl ⟨by rfl, ?hyr3x10⟩) (by assumption) ?restr3x10
            case hyr3x10 => intro wq hSw; (go_simp); (try with_reducible rfl)
            try simp only [Act.put, List.setIfInBounds_toArray, List.set_cons_zero, List.set_cons_succ]
            refine wpAnyH_take (i := 11) (oi := { dst := some 29, op := Op.load 65 (Operand.tmp 28), type := 65, pos := "ref.go:53", after := #[{ on := 10, ground := Ground.data }, { on := 4, ground := Ground.guard }], guard := some (4, true) }) (v := ?_) rfl (by kernel_rfl) (by kernel_rfl) (by kernel_rfl) (fun _ _ _ h => h) (Or.inl ⟨by rfl, ?hyr3x11⟩) (by assumption) ?restr3x11
            case hyr3x11 => intro wq hSw; (have cq := Chg.cellv hSw f4 hx4; go_simp); (try with_reducible rfl)
            try simp only [Act.put, List.setIfInBounds_toArray, List.set_cons_zero, List.set_cons_succ]
            refine wpAnyH_take (i := 12) (oi := { dst := some 30, op := Op.move (Operand.tmp 0), type := 43, pos := "ref.go:53", after := #[{ on := 4, ground := Ground.guard }], guard := some (4, true) }) (v := ?_) rfl (by kernel_rfl) (by kernel_rfl) (by kernel_rfl) (fun _ _ _ h => h) (Or.inl ⟨by rfl, ?hyr3x12⟩) (by assumption) ?restr3x12
            case hyr3x12 => intro wq hSw; (go_simp); (try with_reducible rfl)
            try simp only [Act.put, List.setIfInBounds_toArray, List.set_cons_zero, List.set_cons_succ]
            refine wpAnyH_take (i := 13) (oi := { dst := some 31, op := Op.move (Operand.tmp 6), type := 3, pos := "ref.go:53", after := #[{ on := 4, ground := Ground.guard }], guard := some (4, true) }) (v := ?_) rfl (by kernel_rfl) (by kernel_rfl) (by kernel_rfl) (fun _ _ _ h => h) (Or.inl ⟨by rfl, ?hyr3x13⟩) (by assumption) ?restr3x13
            case hyr3x13 => intro wq hSw; (go_simp); (try with_reducible rfl)
            try simp only [Act.put, List.setIfInBounds_toArray, List.set_cons_zero, List.set_cons_succ]
            refine wpAnyH_take (i := 14) (oi := { dst := some 32, op := Op.indexAddr 43 (Operand.tmp 30) (Operand.tmp 31), type := 0, pos := "ref.go:53", after := #[{ on := 12, ground := Ground.data }, { on := 13, ground := Ground.data }, { on := 4, ground := Ground.guard }], guard := some (4, true) }) (v := ?_) rfl (by kernel_rfl) (by kernel_rfl) (by kernel_rfl) (fun _ _ _ h => h) (Or.inl ⟨by rfl, ?hyr3x14⟩) (by assumption) ?restr3x14
            case hyr3x14 => intro wq hSw; (go_simp); (try with_reducible rfl)
            try simp only [Act.put, List.setIfInBounds_toArray, List.set_cons_zero, List.set_cons_succ]
            refine wpAnyH_take (i := 15) (oi := { dst := some 33, op := Op.fieldAddr 68 (Operand.tmp 32) 2, type := 0, pos := "ref.go:53", after := #[{ on := 14, ground := Ground.data }, { on := 4, ground := Ground.guard }], guard := some (4, true) }) (v := ?_) rfl (by kernel_rfl) (by kernel_rfl) (by kernel_rfl) (fun _ _ _ h => h) (Or.inl ⟨by rfl, ?hyr3x15⟩) (by assumption) ?restr3x15
            case hyr3x15 => intro wq hSw; (go_simp); (try with_reducible rfl)
            try simp only [Act.put, List.setIfInBounds_toArray, List.set_cons_zero, List.set_cons_succ]
            refine wpAnyH_take (i := 16) (oi := { dst := some 34, op := Op.load 65 (Operand.tmp 33), type := 65, pos := "ref.go:53", after := #[{ on := 15, ground := Ground.data }, { on := 4, ground := Ground.guard }], guard := some (4, true) }) (v := ?_) rfl (by kernel_rfl) (by kernel_rfl) (by kernel_rfl) (fun _ _ _ h => h) (Or.inl ⟨by rfl, ?hyr3x16⟩) (by assumption) ?restr3x16
            case hyr3x16 => intro wq hSw; (have cq := Chg.cellv hSw f2 hx1'; go_simp); (try with_reducible rfl)
            try simp only [Act.put, List.setIfInBounds_toArray, List.set_cons_zero, List.set_cons_succ]
            refine wpAnyH_take (i := 17) (oi := { dst := some 35, op := Op.move (Operand.tmp 1), type := 3, pos := "ref.go:53", after := #[{ on := 4, ground := Ground.guard }], guard := some (4, true) }) (v := ?_) rfl (by kernel_rfl) (by kernel_rfl) (by kernel_rfl) (fun _ _ _ h => h) (Or.inl ⟨by rfl, ?hyr3x17⟩) (by assumption) ?restr3x17
            case hyr3x17 => intro wq hSw; (go_simp); (try with_reducible rfl)
            try simp only [Act.put, List.setIfInBounds_toArray, List.set_cons_zero, List.set_cons_succ]
            refine wpAnyH_ready (rs := [18]) (by kernel_rfl) (by simp) ?_
            refine AllReadyH.cons (o := { dst := some 36, op := Op.call { callee := Callee.value (Operand.func 68), args := #[Operand.tmp 29, Operand.tmp 34, Operand.tmp 35], argTypes := #[65, 65, 3] }, type := 4, pos := "ref.go:53", after := #[{ on := 11, ground := Ground.data }, { on := 16, ground := Ground.data }, { on := 17, ground := Ground.data }, { on := 4, ground := Ground.chain }, { on := 4, ground := Ground.guard }], guard := some (4, true) }) rfl (fun K hK => ?_) AllReadyH.nil
            go_simp
            refine (SR.out _).mono ?_
            rintro e v1 ⟨rfl, kk⟩
            refine hK.out _ _ kk (fun _ => ?_)
            clear hK K
            try simp only [Act.put, List.setIfInBounds_toArray, List.set_cons_zero, List.set_cons_succ]
            refine wpAnyH_switch (S' := Ex v1) (fun _ hSw => Ex.nx kk hSw) ?_
            clear hHeld
            have hHeld := Ex.refl v1
            refine wpAnyH_take (i := 19) (oi := { dst := some 37, op := Op.unOp UnOp.not 4 (Operand.tmp 36), type := 4, pos := "ref.go:53", after := #[{ on := 18, ground := Ground.data }, { on := 4, ground := Ground.guard }], guard := some (4, true) }) (v := ?_) rfl (by kernel_rfl) (by kernel_rfl) (by kernel_rfl) (fun _ _ _ h => h) (Or.inl ⟨by rfl, ?hyr3x19⟩) (by assumption) ?restr3x19
            case hyr3x19 => intro wq hSw; (go_simp); (try with_reducible rfl)
            try simp only [Act.put, List.setIfInBounds_toArray, List.set_cons_zero, List.set_cons_succ]
            refine wpAnyH_take (i := 20) (oi := { dst := some 38, op := Op.pick (Operand.tmp 22) (Operand.tmp 37) (Operand.const (Value.bool false)), type := 4, pos := "ref.go:53", after := #[{ on := 4, ground := Ground.data }, { on := 19, ground := Ground.data }], guard := none }) (v := ?_) rfl (by kernel_rfl) (by kernel_rfl) (by kernel_rfl) (fun _ _ _ h => h) (Or.inl ⟨by rfl, ?hyr3x20⟩) (by assumption) ?restr3x20
            case hyr3x20 => intro wq hSw; (go_simp); (try with_reducible rfl)
            try simp only [Act.put, List.setIfInBounds_toArray, List.set_cons_zero, List.set_cons_succ]
            refine wpAnyH_done (by kernel_rfl) ?_ _
            have dk : ((KX : Int) == (C.length : Int)) = false := by simp; omega
            replace OQ := (OQ.nx (Ex.refl wi).drew).nx kk
            replace kx := (kx.nx (Ex.refl wi).drew).nx kk
            obtain ⟨wa, rfl⟩ : ∃ wa : World, wa = v1 := ⟨_, rfl⟩
            clear kk hc2 f4 f2 hx1' dj1 dj2
            have EC : Hid (C = padC C KX) := Lib.hid (by unfold padC; rw [if_neg (by omega)])
            have CLEN : Hid (∀ c ∈ C, c.length ≤ 1000000) := Lib.hid (fun c hc => Nat.le_trans (FF.out c hc).2.1 (by omega))
            have hKC : KX < C.length := by omega
            have NL : Hid (C.length ≤ 1000001) := Lib.hid (by omega)
            obtain ⟨x5, o5, y5, he5, hx5, hy5, hc5⟩ := (hs.out.nx kx).at hlt
            cases he5
            obtain rfl : y = y5 := Option.some.inj (HY.out.symm.trans hy5)
            have E0 := Lib.hid (hc5 0 _ rfl)
            have E1 := Lib.hid (hc5 1 _ rfl)
            have E2 := Lib.hid (hc5 2 _ rfl)
            clear hy5 hc5 hx5
            obtain ⟨a4, cap4, he4, ll4, _, _, some4⟩ := OQ.ll
            cases he4
            obtain ⟨g4, e4, hg4⟩ := some4 (by intro h0; rw [h0] at hKC; simp at hKC)
            first | subst e4 | (obtain rfl : g4 = g3 := by cases e4; rfl)
            obtain ⟨c, hc⟩ : ∃ c, C[KX]? = some c := ⟨C[KX]'hKC, by simp⟩
            obtain ⟨⟨qa, qn, qc⟩, hq⟩ : ∃ q : Hdr, qs[KX]? = some q := ⟨qs[KX]'(by rw [OQ.2.1]; exact hKC), by simp⟩
            have hcl : c.length ≤ 1000000 := CLEN.out c (List.mem_of_getElem? hc)
            obtain ⟨cy, hcy⟩ : ∃ cy : List Nd, cy = c ++ [y] := ⟨_, rfl⟩
            have FIN : Hid (stepC h C y = C.set KX cy) := Lib.hid (by unfold stepC; rw [KI.out, ← EC.out, hc, hcy]; rfl)
            have HCY := Lib.hid hcy
            clear hcy
            have HQ := Lib.hid hq
            have HCC := Lib.hid hc
            have hn4 : (KX : Int) < (C.length : Int) := by omega
            have hn5 : C.length ≤ 1000001 := NL.out
            clear hc hq ll4 some4
            go_wp2_with fail
            have OQ := Lib.hid (OQ.nx (Ex.refl wa).drew)
            have kx := kx.nx (Ex.refl wa).drew
            have SXF : ∀ cur : World, Sl 3 encN (cur.alloc (.cells #[.int .i64 y.id, .string y.key, .int .u32 y.word] 68)) (some ⟨cur.heap.size, 0, none⟩) 1 [y] := fun cur => Sl.lit _ rfl rfl (fun _ => rfl) rfl
            refine wp_region_held_drew (S := fun _ => True) (by kernel_rfl) (trivial) (fun hHeld => ?_)
            refine wpAnyH_take (i := 0) (oi := { dst := some 48, op := Op.move (Operand.tmp 5), type := 88, pos := "ref.go:59", after := #[], guard := none }) (v := ?_) rfl (by kernel_rfl) (by kernel_rfl) (by kernel_rfl) (fun _ _ _ h => h) (Or.inl ⟨by rfl, ?hyr4x0q1⟩) (by assumption) ?restr4x0q1
            case hyr4x0q1 => intro wq hSw; (go_simp); (try with_reducible rfl)
            try simp only [Act.put, List.setIfInBounds_toArray, List.set_cons_zero, List.set_cons_succ]
            refine wpAnyH_take (i := 1) (oi := { dst := some 49, op := Op.move (Operand.tmp 7), type := 3, pos := "ref.go:59", after := #[], guard := none }) (v := ?_) rfl (by kernel_rfl) (by kernel_rfl) (by kernel_rfl) (fun _ _ _ h => h) (Or.inl ⟨by rfl, ?hyr4x1q4⟩) (by assumption) ?restr4x1q4
            case hyr4x1q4 => intro wq hSw; (go_simp); (try with_reducible rfl)
            try simp only [Act.put, List.setIfInBounds_toArray, List.set_cons_zero, List.set_cons_succ]
            refine wpAnyH_take (i := 2) (oi := { dst := some 50, op := Op.move (Operand.tmp 5), type := 88, pos := "ref.go:59", after := #[], guard := none }) (v := ?_) rfl (by kernel_rfl) (by kernel_rfl) (by kernel_rfl) (fun _ _ _ h => h) (Or.inl ⟨by rfl, ?hyr4x2q7⟩) (by assumption) ?restr4x2q7
            case hyr4x2q7 => intro wq hSw; (go_simp); (try with_reducible rfl)
            try simp only [Act.put, List.setIfInBounds_toArray, List.set_cons_zero, List.set_cons_succ]
            refine wpAnyH_take (i := 3) (oi := { dst := some 51, op := Op.move (Operand.tmp 7), type := 3, pos := "ref.go:59", after := #[], guard := none }) (v := ?_) rfl (by kernel_rfl) (by kernel_rfl) (by kernel_rfl) (fun _ _ _ h => h) (Or.inl ⟨by rfl, ?hyr4x3q10⟩) (by assumption) ?restr4x3q10
            case hyr4x3q10 => intro wq hSw; (go_simp); (try with_reducible rfl)
            try simp only [Act.put, List.setIfInBounds_toArray, List.set_cons_zero, List.set_cons_succ]
            refine wpAnyH_take (i := 4) (oi := { dst := some 52, op := Op.indexAddr 88 (Operand.tmp 50) (Operand.tmp 51), type := 0, pos := "ref.go:59", after := #[{ on := 2, ground := Ground.data }, { on := 3, ground := Ground.data }], guard := none }) (v := ?_) rfl (by kernel_rfl) (by kernel_rfl) (by kernel_rfl) (fun _ _ _ h => h) (Or.inl ⟨by rfl, ?hyr4x4q13⟩) (by assumption) ?restr4x4q13
            case hyr4x4q13 => intro wq hSw; (go_simp); (try with_reducible rfl)
            try simp only [Act.put, List.setIfInBounds_toArray, List.set_cons_zero, List.set_cons_succ]
            refine wpAnyH_take (i := 6) (oi := { dst := some 54, op := Op.move (Operand.tmp 0), type := 43, pos := "ref.go:59", after := #[], guard := none }) (v := ?_) rfl (by kernel_rfl) (by kernel_rfl) (by kernel_rfl) (fun _ _ _ h => h) (Or.inl ⟨by rfl, ?hyr4x6q16⟩) (by assumption) ?restr4x6q16
            case hyr4x6q16 => intro wq hSw; (go_simp); (try with_reducible rfl)
            try simp only [Act.put, List.setIfInBounds_toArray, List.set_cons_zero, List.set_cons_succ]
            refine wpAnyH_take (i := 7) (oi := { dst := some 55, op := Op.move (Operand.tmp 6), type := 3, pos := "ref.go:59", after := #[], guard := none }) (v := ?_) rfl (by kernel_rfl) (by kernel_rfl) (by kernel_rfl) (fun _ _ _ h => h) (Or.inl ⟨by rfl, ?hyr4x7q19⟩) (by assumption) ?restr4x7q19
            case hyr4x7q19 => intro wq hSw; (go_simp); (try with_reducible rfl)
            try simp only [Act.put, List.setIfInBounds_toArray, List.set_cons_zero, List.set_cons_succ]
            refine wpAnyH_take (i := 8) (oi := { dst := some 56, op := Op.indexAddr 43 (Operand.tmp 54) (Operand.tmp 55), type := 0, pos := "ref.go:59", after := #[{ on := 6, ground := Ground.data }, { on := 7, ground := Ground.data }], guard := none }) (v := ?_) rfl (by kernel_rfl) (by kernel_rfl) (by kernel_rfl) (fun _ _ _ h => h) (Or.inl ⟨by rfl, ?hyr4x8q22⟩) (by assumption) ?restr4x8q22
            case hyr4x8q22 => intro wq hSw; (go_simp); (try with_reducible rfl)
            try simp only [Act.put, List.setIfInBounds_toArray, List.set_cons_zero, List.set_cons_succ]
            refine wpAnyH_ready (rs := [5, 9]) (by kernel_rfl) (by simp) ?_
            refine AllReadyH.cons (o := { dst := some 53, op := Op.load 43 (Operand.tmp 52), type := 43, pos := "ref.go:59", after := #[{ on := 4, ground := Ground.data }], guard := none }) rfl (fun K hK => ?_) ?_
            · have cc := (own_cellH OQ.out.1 HQ.out).1
              simp only [Hdr.val] at cc
              (try have cc2 : (wa.alloc (.cells #[.int .i64 y.id, .string y.key, .int .u32 y.word] 68)).cell? ⟨g4, KX, none⟩ = some (.slice qa qn qc) := cc)
              go_simp
              clear cc
              (try clear cc2)
              refine hK.out _ _ (trivial) (fun hHeld => ?_)
              clear hK K
              try simp only [Act.put, List.setIfInBounds_toArray, List.set_cons_zero, List.set_cons_succ]
              refine wpAnyH_ready (rs := [9]) (by kernel_rfl) (by simp) ?_
              refine AllReadyH.cons (o := { dst := some 57, op := Op.load 68 (Operand.tmp 56), type := 68, pos := "ref.go:59", after := #[{ on := 8, ground := Ground.data }], guard := none }) rfl (fun K hK => ?_) AllReadyH.nil
              have b0 : wa.cell? ⟨x1, o1 + k * 3, none⟩ = some (.int .i64 y.id) := E0.out
              have b1 : wa.cell? ⟨x1, o1 + k * 3 + 1, none⟩ = some (.string y.key) := E1.out
              have b2 : wa.cell? ⟨x1, o1 + k * 3 + 1 + 1, none⟩ = some (.int .u32 y.word) := E2.out
              go_simp
              clear b0 b1 b2
              refine hK.out _ _ (trivial) (fun hHeld => ?_)
              clear hK K
              try simp only [Act.put, List.setIfInBounds_toArray, List.set_cons_zero, List.set_cons_succ]
              refine wpAnyH_ready (rs := [10]) (by kernel_rfl) (by simp) ?_
              refine AllReadyH.cons (o := { dst := some 58, op := Op.buildSlice 43 1 #[(0, Operand.tmp 57)], type := 43, pos := "ref.go:59", after := #[{ on := 9, ground := Ground.data }], guard := none }) rfl (fun K hK => ?_) AllReadyH.nil
              go_simp
              have SX := SXF wa.drew
              have e7 := Ex.new wa.drew (.cells #[.int .i64 y.id, .string y.key, .int .u32 y.word] 68)
              replace OQ := Lib.hid (OQ.out.nx e7)
              replace kx := kx.nx e7
              clear e7
              refine hK.out _ _ (trivial) (fun hHeld => ?_)
              clear hK K
              try simp only [Act.put, List.setIfInBounds_toArray, List.set_cons_zero, List.set_cons_succ]
              refine wpAnyH_ready (rs := [11]) (by kernel_rfl) (by simp) ?_
              refine AllReadyH.cons (o := { dst := some 59, op := Op.call { callee := Callee.builtin Builtin.append, args := #[Operand.tmp 53, Operand.tmp 58], argTypes := #[43, 43] }, type := 43, pos := "ref.go:59", after := #[{ on := 5, ground := Ground.data }, { on := 10, ground := Ground.data }], guard := none }) rfl (fun K hK => ?_) AllReadyH.nil
              rw [if_pos (by rfl)]
              have z0 := Ex.size kx
              have oi := OQ.out.2.2.1 KX _ _ HQ.out HCC.out
              refine wp_append_rda (enc := encN) _ (.tmp 53) (.tmp 58) 43 rfl w1.heap.size 68 (.agg #[.int .i64 0, .string ByteArray.empty, .int .u32 0]) 3 32 Tryd.underlying43 Tryd.infoN rfl (by omega) (by omega) _ c oi rfl _ _ 1 1 [y] SX (fun h => by cases h) (fun _ => rfl) (by simp [encN, Value.oneCell']) rfl hcl (by omega) z0 ?_
              intro v8 w8 own8 ch0 ch1 hat
              rw [← HCY.out] at own8
              obtain ⟨a8, cap8, rfl, _, _, _, _⟩ := own8.rd (fun _ => rfl)
              obtain ⟨pc, pf, OQ2⟩ := OwnQ.put (q' := (a8, cy.length, cap8)) OQ.out HQ.out own8 ch0 hat
              replace kx : Ex w1 w8 := Chg.trans kx ch1
              replace OQ := Lib.hid OQ2
              clear OQ2 own8 ch0 ch1 hat oi z0 SX
              refine hK.out _ _ (trivial) (fun hHeld => ?_)
              clear hK K
              try simp only [Act.put, List.setIfInBounds_toArray, List.set_cons_zero, List.set_cons_succ]
              refine wpAnyH_take (i := 12) (oi := { dst := some 60, op := Op.indexAddr 88 (Operand.tmp 48) (Operand.tmp 49), type := 0, pos := "ref.go:59", after := #[{ on := 0, ground := Ground.data }, { on := 1, ground := Ground.data }, { on := 0, ground := Ground.phase }, { on := 1, ground := Ground.phase }, { on := 2, ground := Ground.phase }, { on := 3, ground := Ground.phase }, { on := 4, ground := Ground.phase }, { on := 5, ground := Ground.phase }, { on := 6, ground := Ground.phase }, { on := 7, ground := Ground.phase }, { on := 8, ground := Ground.phase }, { on := 9, ground := Ground.phase }, { on := 10, ground := Ground.phase }, { on := 11, ground := Ground.phase }], guard := none }) (v := ?_) rfl (by kernel_rfl) (by kernel_rfl) (by kernel_rfl) (fun _ _ _ h => h) (Or.inl ⟨by rfl, ?hyr4x12q73⟩) (by assumption) ?restr4x12q73
              case hyr4x12q73 => intro wq hSw; (go_simp); (try with_reducible rfl)
              try simp only [Act.put, List.setIfInBounds_toArray, List.set_cons_zero, List.set_cons_succ]
              refine wpAnyH_ready (rs := [13]) (by kernel_rfl) (by simp) ?_
              refine AllReadyH.cons (o := { dst := none, op := Op.store 43 (Operand.tmp 60) (Operand.tmp 59), type := 0, pos := "ref.go:59", after := #[{ on := 12, ground := Ground.data }, { on := 11, ground := Ground.data }, { on := 11, ground := Ground.chain }, { on := 0, ground := Ground.phase }, { on := 1, ground := Ground.phase }, { on := 2, ground := Ground.phase }, { on := 3, ground := Ground.phase }, { on := 4, ground := Ground.phase }, { on := 5, ground := Ground.phase }, { on := 6, ground := Ground.phase }, { on := 7, ground := Ground.phase }, { on := 8, ground := Ground.phase }, { on := 9, ground := Ground.phase }, { on := 10, ground := Ground.phase }, { on := 11, ground := Ground.phase }], guard := none }) rfl (fun K hK => ?_) AllReadyH.nil
              go_simp
              clear pc pf
              refine hK.out _ _ (trivial) (fun hHeld => ?_)
              clear hK K
              try simp only [Act.put, List.setIfInBounds_toArray, List.set_cons_zero, List.set_cons_succ]
              refine wpAnyH_done (by kernel_rfl) ?_ _
              replace kx := kx.setNew (p := ⟨g4, KX, none⟩) (Hdr.val (a8, cy.length, cap8)) hg4
              obtain ⟨wz, hwz⟩ : ∃ wz, wz = w8.setCell ⟨g4, KX, none⟩ (.slice a8 cy.length cap8) := ⟨_, rfl⟩
              have OQ := Lib.hid (OwnQ.cast OQ.out (w' := wz) hwz)
              have kx : Ex w1 wz := by rw [hwz]; exact kx
              rw [← hwz]
              clear hwz SXF hHeld hn5 hcl
              go_wp2_with fail
              exact ⟨⟨k + 1, _, by omega, by go_num, by rw [FSn.out, FIN.out]; exact OQ.out, kx⟩, by simp [intOf]; omega⟩
            refine AllReadyH.cons (o := { dst := some 57, op := Op.load 68 (Operand.tmp 56), type := 68, pos := "ref.go:59", after := #[{ on := 8, ground := Ground.data }], guard := none }) rfl (fun K hK => ?_) AllReadyH.nil
            · have b0 : wa.cell? ⟨x1, o1 + k * 3, none⟩ = some (.int .i64 y.id) := E0.out
              have b1 : wa.cell? ⟨x1, o1 + k * 3 + 1, none⟩ = some (.string y.key) := E1.out
              have b2 : wa.cell? ⟨x1, o1 + k * 3 + 1 + 1, none⟩ = some (.int .u32 y.word) := E2.out
              go_simp
              clear b0 b1 b2
              refine hK.out _ _ (trivial) (fun hHeld => ?_)
              clear hK K
              try simp only [Act.put, List.setIfInBounds_toArray, List.set_cons_zero, List.set_cons_succ]
              refine wpAnyH_ready (rs := [5, 10]) (by kernel_rfl) (by simp) ?_
              refine AllReadyH.cons (o := { dst := some 53, op := Op.load 43 (Operand.tmp 52), type := 43, pos := "ref.go:59", after := #[{ on := 4, ground := Ground.data }], guard := none }) rfl (fun K hK => ?_) ?_
              · have cc := (own_cellH OQ.out.1 HQ.out).1
                simp only [Hdr.val] at cc
                (try have cc2 : (wa.alloc (.cells #[.int .i64 y.id, .string y.key, .int .u32 y.word] 68)).cell? ⟨g4, KX, none⟩ = some (.slice qa qn qc) := cc)
                go_simp
                clear cc
                (try clear cc2)
                refine hK.out _ _ (trivial) (fun hHeld => ?_)
                clear hK K
                try simp only [Act.put, List.setIfInBounds_toArray, List.set_cons_zero, List.set_cons_succ]
                refine wpAnyH_ready (rs := [10]) (by kernel_rfl) (by simp) ?_
                refine AllReadyH.cons (o := { dst := some 58, op := Op.buildSlice 43 1 #[(0, Operand.tmp 57)], type := 43, pos := "ref.go:59", after := #[{ on := 9, ground := Ground.data }], guard := none }) rfl (fun K hK => ?_) AllReadyH.nil
                go_simp
                have SX := SXF wa.drew
                have e7 := Ex.new wa.drew (.cells #[.int .i64 y.id, .string y.key, .int .u32 y.word] 68)
                replace OQ := Lib.hid (OQ.out.nx e7)
                replace kx := kx.nx e7
                clear e7
                refine hK.out _ _ (trivial) (fun hHeld => ?_)
                clear hK K
                try simp only [Act.put, List.setIfInBounds_toArray, List.set_cons_zero, List.set_cons_succ]
                refine wpAnyH_ready (rs := [11]) (by kernel_rfl) (by simp) ?_
                refine AllReadyH.cons (o := { dst := some 59, op := Op.call { callee := Callee.builtin Builtin.append, args := #[Operand.tmp 53, Operand.tmp 58], argTypes := #[43, 43] }, type := 43, pos := "ref.go:59", after := #[{ on := 5, ground := Ground.data }, { on := 10, ground := Ground.data }], guard := none }) rfl (fun K hK => ?_) AllReadyH.nil
                rw [if_pos (by rfl)]
                have z0 := Ex.size kx
                have oi := OQ.out.2.2.1 KX _ _ HQ.out HCC.out
                refine wp_append_rda (enc := encN) _ (.tmp 53) (.tmp 58) 43 rfl w1.heap.size 68 (.agg #[.int .i64 0, .string ByteArray.empty, .int .u32 0]) 3 32 Tryd.underlying43 Tryd.infoN rfl (by omega) (by omega) _ c oi rfl _ _ 1 1 [y] SX (fun h => by cases h) (fun _ => rfl) (by simp [encN, Value.oneCell']) rfl hcl (by omega) z0 ?_
                intro v8 w8 own8 ch0 ch1 hat
                rw [← HCY.out] at own8
                obtain ⟨a8, cap8, rfl, _, _, _, _⟩ := own8.rd (fun _ => rfl)
                obtain ⟨pc, pf, OQ2⟩ := OwnQ.put (q' := (a8, cy.length, cap8)) OQ.out HQ.out own8 ch0 hat
                replace kx : Ex w1 w8 := Chg.trans kx ch1
                replace OQ := Lib.hid OQ2
                clear OQ2 own8 ch0 ch1 hat oi z0 SX
                refine hK.out _ _ (trivial) (fun hHeld => ?_)
                clear hK K
                try simp only [Act.put, List.setIfInBounds_toArray, List.set_cons_zero, List.set_cons_succ]
                refine wpAnyH_take (i := 12) (oi := { dst := some 60, op := Op.indexAddr 88 (Operand.tmp 48) (Operand.tmp 49), type := 0, pos := "ref.go:59", after := #[{ on := 0, ground := Ground.data }, { on := 1, ground := Ground.data }, { on := 0, ground := Ground.phase }, { on := 1, ground := Ground.phase }, { on := 2, ground := Ground.phase }, { on := 3, ground := Ground.phase }, { on := 4, ground := Ground.phase }, { on := 5, ground := Ground.phase }, { on := 6, ground := Ground.phase }, { on := 7, ground := Ground.phase }, { on := 8, ground := Ground.phase }, { on := 9, ground := Ground.phase }, { on := 10, ground := Ground.phase }, { on := 11, ground := Ground.phase }], guard := none }) (v := ?_) rfl (by kernel_rfl) (by kernel_rfl) (by kernel_rfl) (fun _ _ _ h => h) (Or.inl ⟨by rfl, ?hyr4x12q132⟩) (by assumption) ?restr4x12q132
                case hyr4x12q132 => intro wq hSw; (go_simp); (try with_reducible rfl)
                try simp only [Act.put, List.setIfInBounds_toArray, List.set_cons_zero, List.set_cons_succ]
                refine wpAnyH_ready (rs := [13]) (by kernel_rfl) (by simp) ?_
                refine AllReadyH.cons (o := { dst := none, op := Op.store 43 (Operand.tmp 60) (Operand.tmp 59), type := 0, pos := "ref.go:59", after := #[{ on := 12, ground := Ground.data }, { on := 11, ground := Ground.data }, { on := 11, ground := Ground.chain }, { on := 0, ground := Ground.phase }, { on := 1, ground := Ground.phase }, { on := 2, ground := Ground.phase }, { on := 3, ground := Ground.phase }, { on := 4, ground := Ground.phase }, { on := 5, ground := Ground.phase }, { on := 6, ground := Ground.phase }, { on := 7, ground := Ground.phase }, { on := 8, ground := Ground.phase }, { on := 9, ground := Ground.phase }, { on := 10, ground := Ground.phase }, { on := 11, ground := Ground.phase }], guard := none }) rfl (fun K hK => ?_) AllReadyH.nil
                go_simp
                clear pc pf
                refine hK.out _ _ (trivial) (fun hHeld => ?_)
                clear hK K
                try simp only [Act.put, List.setIfInBounds_toArray, List.set_cons_zero, List.set_cons_succ]
                refine wpAnyH_done (by kernel_rfl) ?_ _
                replace kx := kx.setNew (p := ⟨g4, KX, none⟩) (Hdr.val (a8, cy.length, cap8)) hg4
                obtain ⟨wz, hwz⟩ : ∃ wz, wz = w8.setCell ⟨g4, KX, none⟩ (.slice a8 cy.length cap8) := ⟨_, rfl⟩
                have OQ := Lib.hid (OwnQ.cast OQ.out (w' := wz) hwz)
                have kx : Ex w1 wz := by rw [hwz]; exact kx
                rw [← hwz]
                clear hwz SXF hHeld hn5 hcl
                go_wp2_with fail
                exact ⟨⟨k + 1, _, by omega, by go_num, by rw [FSn.out, FIN.out]; exact OQ.out, kx⟩, by simp [intOf]; omega⟩
              refine AllReadyH.cons (o := { dst := some 58, op := Op.buildSlice 43 1 #[(0, Operand.tmp 57)], type := 43, pos := "ref.go:59", after := #[{ on := 9, ground := Ground.data }], guard := none }) rfl (fun K hK => ?_) AllReadyH.nil
              · go_simp
                have SX := SXF wa.drew
                have e7 := Ex.new wa.drew (.cells #[.int .i64 y.id, .string y.key, .int .u32 y.word] 68)
                replace OQ := Lib.hid (OQ.out.nx e7)
                replace kx := kx.nx e7
                clear e7
                refine hK.out _ _ (trivial) (fun hHeld => ?_)
                clear hK K
                try simp only [Act.put, List.setIfInBounds_toArray, List.set_cons_zero, List.set_cons_succ]
                refine wpAnyH_ready (rs := [5]) (by kernel_rfl) (by simp) ?_
                refine AllReadyH.cons (o := { dst := some 53, op := Op.load 43 (Operand.tmp 52), type := 43, pos := "ref.go:59", after := #[{ on := 4, ground := Ground.data }], guard := none }) rfl (fun K hK => ?_) AllReadyH.nil
                have cc := (own_cellH OQ.out.1 HQ.out).1
                simp only [Hdr.val] at cc
                (try have cc2 : (wa.alloc (.cells #[.int .i64 y.id, .string y.key, .int .u32 y.word] 68)).cell? ⟨g4, KX, none⟩ = some (.slice qa qn qc) := cc)
                go_simp
                clear cc
                (try clear cc2)
                refine hK.out _ _ (trivial) (fun hHeld => ?_)
                clear hK K
                try simp only [Act.put, List.setIfInBounds_toArray, List.set_cons_zero, List.set_cons_succ]
                refine wpAnyH_ready (rs := [11]) (by kernel_rfl) (by simp) ?_
                refine AllReadyH.cons (o := { dst := some 59, op := Op.call { callee := Callee.builtin Builtin.append, args := #[Operand.tmp 53, Operand.tmp 58], argTypes := #[43, 43] }, type := 43, pos := "ref.go:59", after := #[{ on := 5, ground := Ground.data }, { on := 10, ground := Ground.data }], guard := none }) rfl (fun K hK => ?_) AllReadyH.nil
                rw [if_pos (by rfl)]
                have z0 := Ex.size kx
                have oi := OQ.out.2.2.1 KX _ _ HQ.out HCC.out
                refine wp_append_rda (enc := encN) _ (.tmp 53) (.tmp 58) 43 rfl w1.heap.size 68 (.agg #[.int .i64 0, .string ByteArray.empty, .int .u32 0]) 3 32 Tryd.underlying43 Tryd.infoN rfl (by omega) (by omega) _ c oi rfl _ _ 1 1 [y] SX (fun h => by cases h) (fun _ => rfl) (by simp [encN, Value.oneCell']) rfl hcl (by omega) z0 ?_
                intro v8 w8 own8 ch0 ch1 hat
                rw [← HCY.out] at own8
                obtain ⟨a8, cap8, rfl, _, _, _, _⟩ := own8.rd (fun _ => rfl)
                obtain ⟨pc, pf, OQ2⟩ := OwnQ.put (q' := (a8, cy.length, cap8)) OQ.out HQ.out own8 ch0 hat
                replace kx : Ex w1 w8 := Chg.trans kx ch1
                replace OQ := Lib.hid OQ2
                clear OQ2 own8 ch0 ch1 hat oi z0 SX
                refine hK.out _ _ (trivial) (fun hHeld => ?_)
                clear hK K
                try simp only [Act.put, List.setIfInBounds_toArray, List.set_cons_zero, List.set_cons_succ]
                refine wpAnyH_take (i := 12) (oi := { dst := some 60, op := Op.indexAddr 88 (Operand.tmp 48) (Operand.tmp 49), type := 0, pos := "ref.go:59", after := #[{ on := 0, ground := Ground.data }, { on := 1, ground := Ground.data }, { on := 0, ground := Ground.phase }, { on := 1, ground := Ground.phase }, { on := 2, ground := Ground.phase }, { on := 3, ground := Ground.phase }, { on := 4, ground := Ground.phase }, { on := 5, ground := Ground.phase }, { on := 6, ground := Ground.phase }, { on := 7, ground := Ground.phase }, { on := 8, ground := Ground.phase }, { on := 9, ground := Ground.phase }, { on := 10, ground := Ground.phase }, { on := 11, ground := Ground.phase }], guard := none }) (v := ?_) rfl (by kernel_rfl) (by kernel_rfl) (by kernel_rfl) (fun _ _ _ h => h) (Or.inl ⟨by rfl, ?hyr4x12q181⟩) (by assumption) ?restr4x12q181
                case hyr4x12q181 => intro wq hSw; (go_simp); (try with_reducible rfl)
                try simp only [Act.put, List.setIfInBounds_toArray, List.set_cons_zero, List.set_cons_succ]
                refine wpAnyH_ready (rs := [13]) (by kernel_rfl) (by simp) ?_
                refine AllReadyH.cons (o := { dst := none, op := Op.store 43 (Operand.tmp 60) (Operand.tmp 59), type := 0, pos := "ref.go:59", after := #[{ on := 12, ground := Ground.data }, { on := 11, ground := Ground.data }, { on := 11, ground := Ground.chain }, { on := 0, ground := Ground.phase }, { on := 1, ground := Ground.phase }, { on := 2, ground := Ground.phase }, { on := 3, ground := Ground.phase }, { on := 4, ground := Ground.phase }, { on := 5, ground := Ground.phase }, { on := 6, ground := Ground.phase }, { on := 7, ground := Ground.phase }, { on := 8, ground := Ground.phase }, { on := 9, ground := Ground.phase }, { on := 10, ground := Ground.phase }, { on := 11, ground := Ground.phase }], guard := none }) rfl (fun K hK => ?_) AllReadyH.nil
                go_simp
                clear pc pf
                refine hK.out _ _ (trivial) (fun hHeld => ?_)
                clear hK K
                try simp only [Act.put, List.setIfInBounds_toArray, List.set_cons_zero, List.set_cons_succ]
                refine wpAnyH_done (by kernel_rfl) ?_ _
                replace kx := kx.setNew (p := ⟨g4, KX, none⟩) (Hdr.val (a8, cy.length, cap8)) hg4
                obtain ⟨wz, hwz⟩ : ∃ wz, wz = w8.setCell ⟨g4, KX, none⟩ (.slice a8 cy.length cap8) := ⟨_, rfl⟩
                have OQ := Lib.hid (OwnQ.cast OQ.out (w' := wz) hwz)
                have kx : Ex w1 wz := by rw [hwz]; exact kx
                rw [← hwz]
                clear hwz SXF hHeld hn5 hcl
                go_wp2_with fail
                exact ⟨⟨k + 1, _, by omega, by go_num, by rw [FSn.out, FIN.out]; exact OQ.out, kx⟩, by simp [intOf]; omega⟩
          | false =>
            have HNS : Hid (sameN (headW c) y.word h = false) := Lib.hid (by rw [hHW]; exact hsm)
            rw [hsm] at SR
            have SR := Lib.hid SR
            clear hsm hHW
            go_wp2_with fail
            refine wp_region_held_drew (S := Ex wi.drew) (by kernel_rfl) (Ex.refl _) (fun hHeld => ?_)
            refine wpAnyH_take (i := 0) (oi := { dst := some 18, op := Op.move (Operand.tmp 7), type := 3, pos := "ref.go:53", after := #[], guard := none }) (v := ?_) rfl (by kernel_rfl) (by kernel_rfl) (by kernel_rfl) (fun _ _ _ h => h) (Or.inl ⟨by rfl, ?hyr5x0⟩) (by assumption) ?restr5x0
            case hyr5x0 => intro wq hSw; (go_simp); (try with_reducible rfl)
            try simp only [Act.put, List.setIfInBounds_toArray, List.set_cons_zero, List.set_cons_succ]
            refine wpAnyH_take (i := 1) (oi := { dst := some 19, op := Op.move (Operand.tmp 5), type := 88, pos := "ref.go:53", after := #[], guard := none }) (v := ?_) rfl (by kernel_rfl) (by kernel_rfl) (by kernel_rfl) (fun _ _ _ h => h) (Or.inl ⟨by rfl, ?hyr5x1⟩) (by assumption) ?restr5x1
            case hyr5x1 => intro wq hSw; (go_simp); (try with_reducible rfl)
            try simp only [Act.put, List.setIfInBounds_toArray, List.set_cons_zero, List.set_cons_succ]
            refine wpAnyH_take (i := 2) (oi := { dst := some 20, op := Op.call { callee := Callee.builtin Builtin.len, args := #[Operand.tmp 19], argTypes := #[88] }, type := 3, pos := "ref.go:53", after := #[{ on := 1, ground := Ground.data }], guard := none }) (v := ?_) rfl (by kernel_rfl) (by kernel_rfl) (by kernel_rfl) (fun _ _ _ h => h) (Or.inl ⟨by rfl, ?hyr5x2⟩) (by assumption) ?restr5x2
            case hyr5x2 => intro wq hSw; (go_simp); (try with_reducible rfl)
            try simp only [Act.put, List.setIfInBounds_toArray, List.set_cons_zero, List.set_cons_succ]
            refine wpAnyH_take (i := 3) (oi := { dst := some 21, op := Op.binOp BinOp.lss 3 (Operand.tmp 18) (Operand.tmp 20) 3, type := 4, pos := "ref.go:53", after := #[{ on := 0, ground := Ground.data }, { on := 2, ground := Ground.data }], guard := none }) (v := ?_) rfl (by kernel_rfl) (by kernel_rfl) (by kernel_rfl) (fun _ _ _ h => h) (Or.inl ⟨by rfl, ?hyr5x3⟩) (by assumption) ?restr5x3
            case hyr5x3 => intro wq hSw; (go_simp); (try with_reducible rfl)
            try simp only [Act.put, List.setIfInBounds_toArray, List.set_cons_zero, List.set_cons_succ]
            refine wpAnyH_take (i := 4) (oi := { dst := some 22, op := Op.move (Operand.tmp 21), type := 4, pos := "ref.go:53", after := #[{ on := 3, ground := Ground.data }], guard := none }) (v := ?_) rfl (by kernel_rfl) (by kernel_rfl) (by kernel_rfl) (fun _ _ _ h => h) (Or.inl ⟨by rfl, ?hyr5x4⟩) (by assumption) ?restr5x4
            case hyr5x4 => intro wq hSw; (go_simp); (try with_reducible rfl)
            try simp only [Act.put, List.setIfInBounds_toArray, List.set_cons_zero, List.set_cons_succ]
            refine wpAnyH_take (i := 5) (oi := { dst := some 23, op := Op.move (Operand.tmp 5), type := 88, pos := "ref.go:53", after := #[{ on := 4, ground := Ground.guard }], guard := some (4, true) }) (v := ?_) rfl (by kernel_rfl) (by kernel_rfl) (by kernel_rfl) (fun _ _ _ h => h) (Or.inl ⟨by rfl, ?hyr5x5⟩) (by assumption) ?restr5x5
            case hyr5x5 => intro wq hSw; (go_simp); (try with_reducible rfl)
            try simp only [Act.put, List.setIfInBounds_toArray, List.set_cons_zero, List.set_cons_succ]
            refine wpAnyH_take (i := 6) (oi := { dst := some 24, op := Op.move (Operand.tmp 7), type := 3, pos := "ref.go:53", after := #[{ on := 4, ground := Ground.guard }], guard := some (4, true) }) (v := ?_) rfl (by kernel_rfl) (by kernel_rfl) (by kernel_rfl) (fun _ _ _ h => h) (Or.inl ⟨by rfl, ?hyr5x6⟩) (by assumption) ?restr5x6
            case hyr5x6 => intro wq hSw; (go_simp); (try with_reducible rfl)
            try simp only [Act.put, List.setIfInBounds_toArray, List.set_cons_zero, List.set_cons_succ]
            refine wpAnyH_take (i := 7) (oi := { dst := some 25, op := Op.indexAddr 88 (Operand.tmp 23) (Operand.tmp 24), type := 0, pos := "ref.go:53", after := #[{ on := 5, ground := Ground.data }, { on := 6, ground := Ground.data }, { on := 4, ground := Ground.guard }], guard := some (4, true) }) (v := ?_) rfl (by kernel_rfl) (by kernel_rfl) (by kernel_rfl) (fun _ _ _ h => h) (Or.inl ⟨by rfl, ?hyr5x7⟩) (by assumption) ?restr5x7
            case hyr5x7 => intro wq hSw; (go_simp); (try with_reducible rfl)
            try simp only [Act.put, List.setIfInBounds_toArray, List.set_cons_zero, List.set_cons_succ]
            refine wpAnyH_take (i := 8) (oi := { dst := some 26, op := Op.load 43 (Operand.tmp 25), type := 43, pos := "ref.go:53", after := #[{ on := 7, ground := Ground.data }, { on := 4, ground := Ground.guard }], guard := some (4, true) }) (v := ?_) rfl (by kernel_rfl) (by kernel_rfl) (by kernel_rfl) (fun _ _ _ h => h) (Or.inl ⟨by rfl, ?hyr5x8⟩) (by assumption) ?restr5x8
            case hyr5x8 => intro wq hSw; (have cq := Chg.cellv hSw hc2 hx2; go_simp); (try with_reducible rfl)
            try simp only [Act.put, List.setIfInBounds_toArray, List.set_cons_zero, List.set_cons_succ]
            refine wpAnyH_take (i := 9) (oi := { dst := some 27, op := Op.indexAddr 43 (Operand.tmp 26) (Operand.const (Value.int IntKind.i64 0)), type := 0, pos := "ref.go:53", after := #[{ on := 8, ground := Ground.data }, { on := 4, ground := Ground.guard }], guard := some (4, true) }) (v := ?_) rfl (by kernel_rfl) (by kernel_rfl) (by kernel_rfl) (fun _ _ _ h => h) (Or.inl ⟨by rfl, ?hyr5x9⟩) (by assumption) ?restr5x9
            case hyr5x9 => intro wq hSw; (go_simp); (try with_reducible rfl)
            try simp only [Act.put, List.setIfInBounds_toArray, List.set_cons_zero, List.set_cons_succ]
            refine wpAnyH_take (i := 10) (oi := { dst := some 28, op := Op.fieldAddr 68 (Operand.tmp 27) 2, type := 0, pos := "ref.go:53", after := #[{ on := 9, ground := Ground.data }, { on := 4, ground := Ground.guard }], guard := some (4, true) }) (v := ?_) rfl (by kernel_rfl) (by kernel_rfl) (by kernel_rfl) (fun _ _ _ h => h) (Or.inl ⟨by rfl, ?hyr5x10⟩) (by assumption) ?restr5x10
            case hyr5x10 => intro wq hSw; (go_simp); (try with_reducible rfl)
            try simp only [Act.put, List.setIfInBounds_toArray, List.set_cons_zero, List.set_cons_succ]
            refine wpAnyH_take (i := 11) (oi := { dst := some 29, op := Op.load 65 (Operand.tmp 28), type := 65, pos := "ref.go:53", after := #[{ on := 10, ground := Ground.data }, { on := 4, ground := Ground.guard }], guard := some (4, true) }) (v := ?_) rfl (by kernel_rfl) (by kernel_rfl) (by kernel_rfl) (fun _ _ _ h => h) (Or.inl ⟨by rfl, ?hyr5x11⟩) (by assumption) ?restr5x11
            case hyr5x11 => intro wq hSw; (have cq := Chg.cellv hSw f4 hx4; go_simp); (try with_reducible rfl)
            try simp only [Act.put, List.setIfInBounds_toArray, List.set_cons_zero, List.set_cons_succ]
            refine wpAnyH_take (i := 12) (oi := { dst := some 30, op := Op.move (Operand.tmp 0), type := 43, pos := "ref.go:53", after := #[{ on := 4, ground := Ground.guard }], guard := some (4, true) }) (v := ?_) rfl (by kernel_rfl) (by kernel_rfl) (by kernel_rfl) (fun _ _ _ h => h) (Or.inl ⟨by rfl, ?hyr5x12⟩) (by assumption) ?restr5x12
            case hyr5x12 => intro wq hSw; (go_simp); (try with_reducible rfl)
            try simp only [Act.put, List.setIfInBounds_toArray, List.set_cons_zero, List.set_cons_succ]
            refine wpAnyH_take (i := 13) (oi := { dst := some 31, op := Op.move (Operand.tmp 6), type := 3, pos := "ref.go:53", after := #[{ on := 4, ground := Ground.guard }], guard := some (4, true) }) (v := ?_) rfl (by kernel_rfl) (by kernel_rfl) (by kernel_rfl) (fun _ _ _ h => h) (Or.inl ⟨by rfl, ?hyr5x13⟩) (by assumption) ?restr5x13
            case hyr5x13 => intro wq hSw; (go_simp); (try with_reducible rfl)
            try simp only [Act.put, List.setIfInBounds_toArray, List.set_cons_zero, List.set_cons_succ]
            refine wpAnyH_take (i := 14) (oi := { dst := some 32, op := Op.indexAddr 43 (Operand.tmp 30) (Operand.tmp 31), type := 0, pos := "ref.go:53", after := #[{ on := 12, ground := Ground.data }, { on := 13, ground := Ground.data }, { on := 4, ground := Ground.guard }], guard := some (4, true) }) (v := ?_) rfl (by kernel_rfl) (by kernel_rfl) (by kernel_rfl) (fun _ _ _ h => h) (Or.inl ⟨by rfl, ?hyr5x14⟩) (by assumption) ?restr5x14
            case hyr5x14 => intro wq hSw; (go_simp); (try with_reducible rfl)
            try simp only [Act.put, List.setIfInBounds_toArray, List.set_cons_zero, List.set_cons_succ]
            refine wpAnyH_take (i := 15) (oi := { dst := some 33, op := Op.fieldAddr 68 (Operand.tmp 32) 2, type := 0, pos := "ref.go:53", after := #[{ on := 14, ground := Ground.data }, { on := 4, ground := Ground.guard }], guard := some (4, true) }) (v := ?_) rfl (by kernel_rfl) (by kernel_rfl) (by kernel_rfl) (fun _ _ _ h => h) (Or.inl ⟨by rfl, ?hyr5x15⟩) (by assumption) ?restr5x15
            case hyr5x15 => intro wq hSw; (go_simp); (try with_reducible rfl)
            try simp only [Act.put, List.setIfInBounds_toArray, List.set_cons_zero, List.set_cons_succ]
            refine wpAnyH_take (i := 16) (oi := { dst := some 34, op := Op.load 65 (Operand.tmp 33), type := 65, pos := "ref.go:53", after := #[{ on := 15, ground := Ground.data }, { on := 4, ground := Ground.guard }], guard := some (4, true) }) (v := ?_) rfl (by kernel_rfl) (by kernel_rfl) (by kernel_rfl) (fun _ _ _ h => h) (Or.inl ⟨by rfl, ?hyr5x16⟩) (by assumption) ?restr5x16
            case hyr5x16 => intro wq hSw; (have cq := Chg.cellv hSw f2 hx1'; go_simp); (try with_reducible rfl)
            try simp only [Act.put, List.setIfInBounds_toArray, List.set_cons_zero, List.set_cons_succ]
            refine wpAnyH_take (i := 17) (oi := { dst := some 35, op := Op.move (Operand.tmp 1), type := 3, pos := "ref.go:53", after := #[{ on := 4, ground := Ground.guard }], guard := some (4, true) }) (v := ?_) rfl (by kernel_rfl) (by kernel_rfl) (by kernel_rfl) (fun _ _ _ h => h) (Or.inl ⟨by rfl, ?hyr5x17⟩) (by assumption) ?restr5x17
            case hyr5x17 => intro wq hSw; (go_simp); (try with_reducible rfl)
            try simp only [Act.put, List.setIfInBounds_toArray, List.set_cons_zero, List.set_cons_succ]
            refine wpAnyH_ready (rs := [18]) (by kernel_rfl) (by simp) ?_
            refine AllReadyH.cons (o := { dst := some 36, op := Op.call { callee := Callee.value (Operand.func 68), args := #[Operand.tmp 29, Operand.tmp 34, Operand.tmp 35], argTypes := #[65, 65, 3] }, type := 4, pos := "ref.go:53", after := #[{ on := 11, ground := Ground.data }, { on := 16, ground := Ground.data }, { on := 17, ground := Ground.data }, { on := 4, ground := Ground.chain }, { on := 4, ground := Ground.guard }], guard := some (4, true) }) rfl (fun K hK => ?_) AllReadyH.nil
            go_simp
            refine (SR.out _).mono ?_
            rintro e v1 ⟨rfl, kk⟩
            refine hK.out _ _ kk (fun _ => ?_)
            clear hK K
            try simp only [Act.put, List.setIfInBounds_toArray, List.set_cons_zero, List.set_cons_succ]
            refine wpAnyH_switch (S' := Ex v1) (fun _ hSw => Ex.nx kk hSw) ?_
            clear hHeld
            have hHeld := Ex.refl v1
            refine wpAnyH_take (i := 19) (oi := { dst := some 37, op := Op.unOp UnOp.not 4 (Operand.tmp 36), type := 4, pos := "ref.go:53", after := #[{ on := 18, ground := Ground.data }, { on := 4, ground := Ground.guard }], guard := some (4, true) }) (v := ?_) rfl (by kernel_rfl) (by kernel_rfl) (by kernel_rfl) (fun _ _ _ h => h) (Or.inl ⟨by rfl, ?hyr5x19⟩) (by assumption) ?restr5x19
            case hyr5x19 => intro wq hSw; (go_simp); (try with_reducible rfl)
            try simp only [Act.put, List.setIfInBounds_toArray, List.set_cons_zero, List.set_cons_succ]
            refine wpAnyH_take (i := 20) (oi := { dst := some 38, op := Op.pick (Operand.tmp 22) (Operand.tmp 37) (Operand.const (Value.bool false)), type := 4, pos := "ref.go:53", after := #[{ on := 4, ground := Ground.data }, { on := 19, ground := Ground.data }], guard := none }) (v := ?_) rfl (by kernel_rfl) (by kernel_rfl) (by kernel_rfl) (fun _ _ _ h => h) (Or.inl ⟨by rfl, ?hyr5x20⟩) (by assumption) ?restr5x20
            case hyr5x20 => intro wq hSw; (go_simp); (try with_reducible rfl)
            try simp only [Act.put, List.setIfInBounds_toArray, List.set_cons_zero, List.set_cons_succ]
            refine wpAnyH_done (by kernel_rfl) ?_ _
            clear hc2 f4 f2 hx1' dj1 dj2
            go_wp2_with fail
            refine ⟨⟨KX + 1, by omega, by go_num, (KIX.out.nx (Ex.refl wi).drew).nx kk, fun j c' hj hc' => ?_⟩, by simp [intOf]; omega⟩
            rcases Nat.lt_or_ge j KX with h | h
            · exact HNO.out j c' h hc'
            · obtain rfl : j = KX := by omega
              rw [Option.some.inj (hc'.symm.trans HY2.out)]
              exact HNS.out
    · obtain rfl : k = n := by omega
      rw [List.take_of_length_le (by rw [HL.out]; exact Nat.le_refl _)] at OQ
      obtain ⟨a3, cap3, rfl, ll3, hc3, _, _⟩ := OQ.ll
      have LL3 := Lib.hid ll3
      clear OQ ll3 hk
      go_wp2_with fail
      go_ret
      exact ⟨a3, cap3, by rw [HF.out]; rfl, by rw [HF.out]; exact LL3.out, kx⟩
end Go.Proofs.YtjaemckdfoaopaaDoor

/- Find, Through, Neighbours, Height of the reference. -/
namespace Go.Proofs.YtjaemckdfoaopaaDoor
open Go.RowKit

def Nd.val (x : Nd) : Value := .agg #[.int .i64 x.id, .string x.key, .int .u32 x.word]
def Nd.zero : Nd := ⟨0, ⟨#[]⟩, 0⟩
theorem bytesLess_total : ∀ x y : List UInt8, Op.bytesLess x y = false → Op.bytesLess y x = false → x = y
  | [], [], _, _ => rfl
  | [], b :: y, h, _ => by simp [Op.bytesLess] at h
  | a :: x, [], _, h => by simp [Op.bytesLess] at h
  | a :: x, b :: y, h1, h2 => by
    simp only [Op.bytesLess, Bool.or_eq_false_iff, Bool.and_eq_false_iff, decide_eq_false_iff_not, beq_eq_false_iff_ne] at h1 h2
    have hab : a = b := by
      rcases UInt8.lt_or_le a b with h | h
      · exact absurd h h1.1
      · rcases UInt8.lt_or_eq_of_le h with h | h
        · exact absurd h h2.1
        · exact h.symm
    subst hab
    rw [bytesLess_total x y (h1.2.resolve_left (by simp)) (h2.2.resolve_left (by simp))]
theorem insN_mem (out : List Nd) (x y : Nd) : y ∈ insN out x ↔ y ∈ out ∨ y = x := by
  unfold insN
  rw [List.mem_append, List.mem_cons]
  constructor
  · rintro (h | h | h)
    · exact .inl (List.mem_of_mem_take h)
    · exact .inr h
    · exact .inl (List.mem_of_mem_drop h)
  · rintro (h | h)
    · have : y ∈ out.take (atN out x out.length) ++ out.drop (atN out x out.length) := by rw [List.take_append_drop]; exact h
      rcases List.mem_append.1 this with h | h
      · exact .inl h
      · exact .inr (.inr h)
    · exact .inr (.inl h)
theorem sortN_mem (l : List Nd) (y : Nd) : y ∈ sortN l ↔ y ∈ l := by
  have : ∀ (l out : List Nd), y ∈ l.foldl insN out ↔ y ∈ out ∨ y ∈ l := by
    intro l
    induction l with
    | nil => intro out; simp
    | cons x r ih => intro out; rw [List.foldl_cons, ih, insN_mem, List.mem_cons, or_assoc]
  have := this l []
  simpa [sortN] using this

/-- the first node with a number -/
def findN (l : List Nd) (id : Int) : Nd × Bool := match l.find? (fun x => x.id == id) with | some x => (x, true) | none => (Nd.zero, false)
theorem findN_of {l : List Nd} {id : Int} {k : Nat} {y : Nd} (hy : l[k]? = some y) (he : y.id = id) (hno : ∀ j z, j < k → l[j]? = some z → z.id ≠ id) : findN l id = (y, true) := by
  have hk := (List.getElem?_eq_some_iff.1 hy).1
  have : l.find? (fun x => x.id == id) = some y := by
    rw [List.find?_eq_some_iff_getElem]
    refine ⟨by simpa using he, k, hk, (List.getElem?_eq_some_iff.1 hy).2, fun j hj => ?_⟩
    have := hno j l[j] hj (by simp)
    simpa using this
  unfold findN
  rw [this]
theorem findN_none {l : List Nd} {id : Int} (hno : ∀ j z, j < l.length → l[j]? = some z → z.id ≠ id) : findN l id = (Nd.zero, false) := by
  have : l.find? (fun x => x.id == id) = none := by
    rw [List.find?_eq_none]
    intro x hx
    obtain ⟨j, hj, he⟩ := List.mem_iff_getElem.1 hx
    have := hno j x hj (by rw [← he]; simp)
    simpa using this
  unfold findN
  rw [this]
def FdRel (l : List Nd) (id : Int) (w : World) (i : Value) (wr : World) : Prop :=
  ∃ k : Nat, k ≤ l.length ∧ i = .int .i64 k ∧ Ex w wr ∧ ∀ j z, j < k → l[j]? = some z → z.id ≠ id

set_option maxHeartbeats 1000000 in
theorem find_r (a : Option Addr) (n cp : Nat) (l : List Nd) (id : Int) (w : World) (h : Sl 3 encN w a n l) (hn : n ≤ 1000000) :
    Calls Tryd.prog 66 #[.slice a n cp, .int .i64 id] w fun e w' => e = .returned (.tuple #[(findN l id).1.val, .bool (findN l id).2]) ∧ Ex w w' := by
  have HL := Lib.hid h.len
  have hs := Lib.hid h
  have k1 := Ex.new w (.cells #[.int .i64 0, .string ⟨#[]⟩, .int .u32 0] 68)
  have B1 := Blk.new w [.int .i64 0, .string ⟨#[]⟩, .int .u32 0] 68
  obtain ⟨w1, hw1⟩ : ∃ w1, w1 = w.alloc (.cells #[.int .i64 0, .string ⟨#[]⟩, .int .u32 0] 68) := ⟨_, rfl⟩
  obtain ⟨g, hg⟩ : ∃ g, g = w.heap.size := ⟨_, rfl⟩
  have B1 : Blk w1 g [.int .i64 0, .string ⟨#[]⟩, .int .u32 0] 68 := by rw [hw1, hg]; exact B1
  rw [← hw1] at k1
  have hgn : w.heap.size ≤ g := by omega
  have HW1 := Lib.hid hw1
  have HG := Lib.hid hg
  clear h hw1 hg
  go_enter Tryd.func66, Tryd.ntmps66
  go_upto_region 1 with fail
  rw [← HG.out, ← HW1.out]
  go_wp2_with fail
  go_loopw [6] (fun i wr => FdRel l id w1 i wr) (fun i _ => n - (intOf i).toNat)
  case atStart => exact ⟨0, by omega, rfl, Ex.refl _, by intro _ _ h; omega⟩
  case round =>
    obtain ⟨k, hk, rfl, kw, hno⟩ := hrel
    have HNO := Lib.hid hno
    rw [HL.out] at hk
    clear hno
    obtain ⟨wo, rfl⟩ : ∃ wo : World, wo = wr := ⟨_, rfl⟩
    have B := B1.nx kw
    have q0 := B.cell 0 _ rfl
    have q1 := B.cell 1 _ rfl
    have q2 := B.cell 2 _ rfl
    have z0 := B.free 0
    have z1 := B.free 1
    have z2 := B.free 2
    by_cases hlt : k < n
    · obtain ⟨x1, o1, y, rfl, hx1, hy, hc1⟩ := ((hs.out.nx k1).nx kw).at hlt
      have e0 : wo.cell? ⟨x1, o1 + k * 3, none⟩ = some (.int .i64 y.id) := hc1 0 _ rfl
      have e1 : wo.cell? ⟨x1, o1 + k * 3 + 1, none⟩ = some (.string y.key) := hc1 1 _ rfl
      have e2 : wo.cell? ⟨x1, o1 + k * 3 + 1 + 1, none⟩ = some (.int .u32 y.word) := by simpa [Nat.add_assoc] using hc1 2 _ rfl
      have HY := Lib.hid hy
      have BO := Lib.hid B
      clear hy hc1 B B1
      by_cases hid : y.id = id
      · have HF : Hid (findN l id = (y, true)) := Lib.hid (findN_of HY.out hid HNO.out)
        have d1 : (y.id == id) = true := by simpa using hid
        clear hid
        go_wp2_with fail
        refine bodyPost_ret (v := .tuple #[.agg #[.int .i64 y.id, .string y.key, .int .u32 y.word], .bool true]) (by simp [results, Tryd.results66, go_sem, *]) rfl ⟨by rw [HF.out]; rfl, ?_⟩
        exact (((k1.nx kw).setNew (p := ⟨g, 0, none⟩) _ hgn).setNew (p := ⟨g, 1, none⟩) _ hgn).setNew (p := ⟨g, 2, none⟩) _ hgn
      · have d1 : (y.id == id) = false := by simpa using hid
        have HID := Lib.hid hid
        clear hid q0 q1 q2 z0 z1 z2
        go_wp2_with fail
        refine ⟨⟨k + 1, by rw [HL.out]; omega, by go_num, kw, fun j z hj hz => ?_⟩, by simp [intOf]; omega⟩
        rcases Nat.lt_or_ge j k with h | h
        · exact HNO.out j z h hz
        · obtain rfl : j = k := by omega
          rw [Option.some.inj (hz.symm.trans HY.out)]
          exact HID.out
    · have HF : Hid (findN l id = (Nd.zero, false)) := Lib.hid (findN_none (fun j z hj hz => HNO.out j z (by have := HL.out; omega) hz))
      clear B1
      go_wp2_with fail
      refine bodyPost_ret (v := .tuple #[.agg #[.int .i64 0, .string ⟨#[]⟩, .int .u32 0], .bool false]) (by simp [results, Tryd.results66, go_sem, *]) rfl ⟨by rw [HF.out]; rfl, ?_⟩
      exact (((k1.nx kw).setNew (p := ⟨g, 0, none⟩) _ hgn).setNew (p := ⟨g, 1, none⟩) _ hgn).setNew (p := ⟨g, 2, none⟩) _ hgn

def lvlN (h : Int) : Bool := decide (0 ≤ h) && decide (h ≤ 16)
theorem level_r (h : Int) (w : World) : Calls Tryd.prog 50 #[.int .i64 h] w fun e w' => e = .returned (.bool (lvlN h)) ∧ w = w' := by
  go_enter Tryd.func50, Tryd.ntmps50
  by_cases h0 : 0 ≤ h
  · have HV : Hid (lvlN h = decide (h ≤ 16)) := Lib.hid (by unfold lvlN; simp [h0])
    go_wp2
    go_ret
    exact ⟨by rw [HV.out]; rfl, rfl⟩
  · have HV : Hid (lvlN h = false) := Lib.hid (by unfold lvlN; simp [h0])
    go_wp2
    go_ret
    exact ⟨by rw [HV.out]; rfl, rfl⟩

theorem sort_word {l : List Nd} (hw : ∀ x ∈ l, x.word < 4294967296) : ∀ x ∈ sortN l, x.word < 4294967296 := fun x hx => hw x ((sortN_mem l x).1 hx)
set_option maxHeartbeats 1000000 in
theorem classes6_r (a : Option Addr) (n cp : Nat) (l : List Nd) (h : Int) (w : World) (hs : Sl 3 encN w a n l) (hn : n ≤ 1000) (hw : ∀ x ∈ l, x.word < 4294967296) :
    Calls Tryd.prog 53 #[.slice a n cp, .int .i64 h] w (ClPost (classesN (sortN l) h) w) := by
  have HW := Lib.hid (sort_word hw)
  have HL := sortN_length l
  have hl := hs.len
  clear hw
  go_enter Tryd.func53, Tryd.ntmps53
  go_wp2_with fail
  (with_reducible refine (sort_r _ _ _ _ _ hs hn).mono ?_)
  rintro e w1 ⟨a1, n1, c1, rfl, r1, kk⟩
  have r1 : Slf 3 encN w w1 a1 n1 _ := r1
  have hn1 : n1 ≤ 1000 := by have := r1.len; omega
  replace kk : Ex w w1 := kk
  clear hs HL hl
  go_wp2_with fail
  (with_reducible refine (classes_r _ _ _ _ _ _ r1.sl hn1 HW.out).mono ?_)
  rintro e w2 ⟨a2, c2, rfl, C2, k2⟩
  clear r1
  go_wp2_with fail
  go_ret
  exact ⟨a2, c2, rfl, C2, kk.nx k2⟩

def heightN (l : List Nd) : Nat := if (checkN l == 0) = false ∨ l.length = 0 then 0 else ((List.range 16).find? fun h => !decide ((classesN (sortN l) (h : Nat)).length < l.length)).getD 16
theorem heightN_of {l : List Nd} {k : Nat} (hk : k < 16) (h1 : (checkN l == 0) = true) (h2 : l.length ≠ 0) (hk2 : ¬ (classesN (sortN l) (k : Nat)).length < l.length) (hno : ∀ j, j < k → (classesN (sortN l) (j : Nat)).length < l.length) : heightN l = k := by
  have : (List.range 16).find? (fun h => !decide ((classesN (sortN l) (h : Nat)).length < l.length)) = some k := by
    rw [List.find?_eq_some_iff_getElem]
    refine ⟨by simpa using hk2, k, by simpa using hk, by simp, fun j hj => ?_⟩
    have := hno j hj
    simpa using this
  unfold heightN
  rw [if_neg (by rw [h1]; simp [h2]), this]
  rfl
theorem heightN_top {l : List Nd} (h1 : (checkN l == 0) = true) (h2 : l.length ≠ 0) (hno : ∀ j, j < 16 → (classesN (sortN l) (j : Nat)).length < l.length) : heightN l = 16 := by
  have : (List.range 16).find? (fun h => !decide ((classesN (sortN l) (h : Nat)).length < l.length)) = none := by
    rw [List.find?_eq_none]
    intro j hj
    have := hno j (by simpa using hj)
    simpa using this
  unfold heightN
  rw [if_neg (by rw [h1]; simp [h2]), this]
  rfl
def HtRel (l : List Nd) (w : World) (i : Value) (wr : World) : Prop := ∃ k : Nat, k ≤ 16 ∧ i = .int .i64 k ∧ Ex w wr ∧ ∀ j, j < k → (classesN (sortN l) (j : Nat)).length < l.length
set_option maxHeartbeats 1000000 in
theorem height_r (a : Option Addr) (n cp : Nat) (l : List Nd) (w : World) (hs : Sl 3 encN w a n l) (hn : n ≤ 1000) (hw : ∀ x ∈ l, x.word < 4294967296) :
    Calls Tryd.prog 39 #[.slice a n cp] w fun e w' => e = .returned (.int .i64 (heightN l)) ∧ Ex w w' := by
  have HW := Lib.hid hw
  have HL := Lib.hid hs.len
  clear hw
  go_enter Tryd.func39, Tryd.ntmps39
  go_wp2_with fail
  (with_reducible refine (is_r _ _ _ _ _ hs (by omega)).mono ?_)
  rintro e w1 ⟨rfl, k1⟩
  have S1 := hs.nx k1
  clear hs
  cases hc : (checkN l == 0) with
  | false =>
    have HH : Hid (heightN l = 0) := Lib.hid (by unfold heightN; rw [if_pos (.inl hc)])
    clear hc S1
    go_wp2_with fail
    go_ret
    exact ⟨by rw [HH.out]; rfl, k1⟩
  | true =>
    have HC := Lib.hid hc
    clear hc
    by_cases hn0 : n = 0
    · have HH : Hid (heightN l = 0) := Lib.hid (by unfold heightN; rw [if_pos (.inr (by rw [HL.out]; exact hn0))])
      have d0 : ((n : Int) == 0) = true := by simp; omega
      clear S1
      go_wp2_with fail
      go_ret
      exact ⟨by rw [HH.out]; rfl, k1⟩
    · have d0 : ((n : Int) == 0) = false := by simp; omega
      have HN : Hid (l.length ≠ 0) := Lib.hid (by rw [HL.out]; exact hn0)
      have S1 := Lib.hid S1
      clear hn0
      go_wp2_with fail
      go_loopw [3] (fun i wr => HtRel l w1 i wr) (fun i _ => 16 - (intOf i).toNat)
      case atStart => exact ⟨0, by omega, rfl, Ex.refl _, by intro _ h; omega⟩
      case round =>
        obtain ⟨k, hk, rfl, kw, hno⟩ := hrel
        have HNO := Lib.hid hno
        obtain ⟨wo, rfl⟩ : ∃ wo : World, wo = wr := ⟨_, rfl⟩
        clear hno
        by_cases hlt : k < 16
        · have SO := S1.out.nx kw
          go_wp2_with fail
          (with_reducible refine (classes6_r _ _ _ _ _ _ SO hn HW.out).mono ?_)
          rintro e w2 ⟨a2, c2, rfl, C2, k2⟩
          replace kw := kw.nx k2
          have CK := Lib.hid (rfl : classesN (sortN l) (k : Int) = classesN (sortN l) (k : Int))
          clear SO C2
          by_cases hm : (classesN (sortN l) (k : Int)).length < l.length
          · have HM := Lib.hid hm
            have dm : ((classesN (sortN l) (k : Int)).length : Int) < (n : Int) := by rw [← HL.out]; omega
            clear hm
            go_wp2_with fail
            refine ⟨⟨k + 1, by omega, by go_num, kw, fun j hj => ?_⟩, by simp [intOf]; omega⟩
            rcases Nat.lt_or_ge j k with h | h
            · exact HNO.out j h
            · obtain rfl : j = k := by omega
              exact HM.out
          · have HH : Hid (heightN l = k) := Lib.hid (heightN_of hlt HC.out HN.out hm HNO.out)
            have dm : ¬ ((classesN (sortN l) (k : Int)).length : Int) < (n : Int) := by rw [← HL.out]; omega
            clear hm
            go_wp2_with fail
            go_ret
            exact ⟨by rw [HH.out]; rfl, k1.nx kw⟩
        · obtain rfl : k = 16 := by omega
          have HH : Hid (heightN l = 16) := Lib.hid (heightN_top HC.out HN.out HNO.out)
          go_wp2_with fail
          go_ret
          exact ⟨by rw [HH.out]; rfl, k1.nx kw⟩
end Go.Proofs.YtjaemckdfoaopaaDoor
