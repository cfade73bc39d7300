/- Texts for the statement WireRoundTripProof, part 3 of 8: ClsR, Nb, Thr, Bd, TId. -/
import Derived.Deep.DeepCutAuto
import Derived.Test.YtjaemckdfoaopabDoorWireRoundTripProofPk2

/- Classes of the reference. -/
namespace Go.Proofs.YtjaemckdfoaopabDoor
open Go.RowKit

theorem same_rE (a b : Nat) (h : Int) (w : World) (ha : a < 4294967296) (hb : b < 4294967296) :
    Calls Tryd.prog 48 #[.int .u32 a, .int .u32 b, .int .i64 h] w fun e w' => e = .returned (.bool (sameN a b h)) ∧ Ex w w' :=
  (same_r a b h w ha hb).mono fun _ _ h => ⟨h.1, by rw [← h.2]; exact Ex.refl _⟩

set_option maxRecDepth 100000 in
set_option maxHeartbeats 4000000 in
theorem classes_r (a : Option Addr) (n cp : Nat) (l : List Nd) (h : Int) (w : World) (hs : Sl 3 encN w a n l) (hn : n ≤ 1000) (hw : ∀ x ∈ l, x.word < 4294967296) :
    Calls Tryd.prog 45 #[.slice a n cp, .int .i64 h] w (ClPost (classesN l h) w) := by
  have HL := Lib.hid hs.len
  have hs := Lib.hid hs
  have HW := Lib.hid hw
  obtain ⟨w1, rfl⟩ : ∃ w1 : World, w1 = w := ⟨_, rfl⟩
  clear hw
  go_enter Tryd.func45, Tryd.ntmps45
  by_cases h16 : 16 < h
  · have HC : Hid (classesN l h = []) := Lib.hid (classesN_big h16)
    have d16 : decide (h ≤ 16) = false := by simp; omega
    go_wp2_with fail
    go_loopw [5, 6] (fun o i wr => o = .slice none 0 0 ∧ i = .int .i64 0 ∧ Ex w1 wr) (fun _ i _ => 0)
    case atStart => exact ⟨rfl, rfl, Ex.refl _⟩
    case round =>
      obtain ⟨rfl, rfl, kx⟩ := hrel
      obtain ⟨wo, rfl⟩ : ∃ wo : World, wo = wr := ⟨_, rfl⟩
      have hh : ¬ h ≤ 16 := by omega
      by_cases hn0 : (0 : Int) < (n : Int)
      · go_wp2_with fail
        go_ret
        exact ⟨none, 0, by rw [HC.out]; rfl, by rw [HC.out]; exact LL.nil _ _, kx⟩
      · go_wp2_with fail
        go_ret
        exact ⟨none, 0, by rw [HC.out]; rfl, by rw [HC.out]; exact LL.nil _ _, kx⟩
  have HF := Lib.hid (classesN_fold (l := l) h16)
  have d16 : decide (h ≤ 16) = true := by simp; omega
  go_wp2_with fail
  go_loopw [5, 6] (fun o i wr => ClRel l h n w1 o i wr) (fun _ i _ => n - (intOf i).toNat)
  case atStart => exact ⟨0, [], by omega, rfl, OwnQ.nil _ _, Ex.refl _⟩
  case round =>
    obtain ⟨k, qs, hk, rfl, OQ, kx⟩ := hrel
    obtain ⟨wo, rfl⟩ : ∃ wo : World, wo = wr := ⟨_, rfl⟩
    by_cases hlt : k < n
    · obtain ⟨x1, o1, y, rfl, hx1, hy, hc1⟩ := (hs.out.nx (kx)).at hlt
      have e0 : wo.cell? ⟨x1, o1 + k * 3, none⟩ = some (.int .i64 y.id) := hc1 0 _ rfl
      have e1 : wo.cell? ⟨x1, o1 + k * 3 + 1, none⟩ = some (.string y.key) := hc1 1 _ rfl
      have e2 : wo.cell? ⟨x1, o1 + k * 3 + 1 + 1, none⟩ = some (.int .u32 y.word) := by simpa [Nat.add_assoc] using hc1 2 _ rfl
      have e2' : wo.cell? ⟨x1, o1 + k * 3 + 2, none⟩ = some (.int .u32 y.word) := hc1 2 _ rfl
      have HY := Lib.hid hy
      have hyw := HW.out y (List.mem_of_getElem? hy)
      have FS := Lib.hid (foldC_snoc h l k y hy)
      have hFL : (foldC h (l.take k)).length ≤ k := Nat.le_trans (foldC_length h (l.take k)) (by rw [List.length_take]; omega)
      have FF : Hid (Fine 100000 (fun y => y.word < 4294967296) (foldC h (l.take k))) := Lib.hid (fun c hc => by
        have := foldC_fine (h := h) (l.take k) (P := fun y => y.word < 4294967296) (fun y hy => HW.out y (List.mem_of_mem_take hy)) c hc
        exact ⟨this.1, Nat.le_trans this.2.1 (by rw [List.length_take]; omega), this.2.2⟩)
      generalize foldC h (l.take k) = C at OQ FS hFL FF
      clear hc1 hy
      obtain ⟨a3, cap3, rfl, ll3, hc3, _, some3⟩ := OQ.ll
      have LL3 := Lib.hid ll3
      have OQ := Lib.hid OQ
      have SOME3 := Lib.hid some3
      clear ll3 e0 e1 e2 some3
      go_wp2_with fail
      go_loopw [7] (fun i wr => IdxRel C.length C y.word h wo i wr) (fun i _ => C.length - (intOf i).toNat)
      case atStart => exact ⟨0, by omega, rfl, Ex.refl _, by intro _ _ h; omega⟩
      case round =>
        obtain ⟨KX, hKle, rfl, ki, hno⟩ := hrel
        have HNO := Lib.hid hno
        obtain ⟨wi, rfl⟩ : ∃ wi : World, wi = wr := ⟨_, rfl⟩
        replace OQ := OQ.out.nx ki
        replace kx := kx.nx ki
        have KIX := Lib.hid ki
        clear hno
        by_cases hKn : KX = C.length
        · have KI : Hid (idxC C y.word h = KX) := Lib.hid (by rw [idxC_none (fun j c hj hc => HNO.out j c (by omega) hc), hKn])
          have lq : qs.length ≤ 1000000 := by rw [OQ.2.1]; omega
          have zq := kx.size
          have d1 : decide ((KX : Int) < (C.length : Int)) = false := by simp; omega
          have d2 : decide (KX < C.length) = false := by simp; omega
          clear e2' ki
          have hKn' := Lib.hid hKn
          clear hKn
          go_wp2_with fail
          refine wp_region_held_drew (S := Ex wi.drew) (by kernel_rfl) (Ex.refl _) (fun hHeld => ?_)
          refine wpAnyH_take (i := 0) (oi := { dst := some 18, op := Op.move (Operand.tmp 7), type := 3, pos := "ref.go:53", after := #[], guard := none }) (v := ?_) rfl (by kernel_rfl) (by kernel_rfl) (by kernel_rfl) (fun _ _ _ h => h) (Or.inl ⟨by rfl, ?hyr1x0⟩) (by assumption) ?restr1x0
          case hyr1x0 => intro wq hSw; (go_simp); (try with_reducible rfl)
          try simp only [Act.put, List.setIfInBounds_toArray, List.set_cons_zero, List.set_cons_succ]
          refine wpAnyH_take (i := 1) (oi := { dst := some 19, op := Op.move (Operand.tmp 5), type := 86, pos := "ref.go:53", after := #[], guard := none }) (v := ?_) rfl (by kernel_rfl) (by kernel_rfl) (by kernel_rfl) (fun _ _ _ h => h) (Or.inl ⟨by rfl, ?hyr1x1⟩) (by assumption) ?restr1x1
          case hyr1x1 => intro wq hSw; (go_simp); (try with_reducible rfl)
          try simp only [Act.put, List.setIfInBounds_toArray, List.set_cons_zero, List.set_cons_succ]
          refine wpAnyH_take (i := 2) (oi := { dst := some 20, op := Op.call { callee := Callee.builtin Builtin.len, args := #[Operand.tmp 19], argTypes := #[86] }, type := 3, pos := "ref.go:53", after := #[{ on := 1, ground := Ground.data }], guard := none }) (v := ?_) rfl (by kernel_rfl) (by kernel_rfl) (by kernel_rfl) (fun _ _ _ h => h) (Or.inl ⟨by rfl, ?hyr1x2⟩) (by assumption) ?restr1x2
          case hyr1x2 => intro wq hSw; (go_simp); (try with_reducible rfl)
          try simp only [Act.put, List.setIfInBounds_toArray, List.set_cons_zero, List.set_cons_succ]
          refine wpAnyH_take (i := 3) (oi := { dst := some 21, op := Op.binOp BinOp.lss 3 (Operand.tmp 18) (Operand.tmp 20) 3, type := 4, pos := "ref.go:53", after := #[{ on := 0, ground := Ground.data }, { on := 2, ground := Ground.data }], guard := none }) (v := ?_) rfl (by kernel_rfl) (by kernel_rfl) (by kernel_rfl) (fun _ _ _ h => h) (Or.inl ⟨by rfl, ?hyr1x3⟩) (by assumption) ?restr1x3
          case hyr1x3 => intro wq hSw; (go_simp); (try with_reducible rfl)
          try simp only [Act.put, List.setIfInBounds_toArray, List.set_cons_zero, List.set_cons_succ]
          refine wpAnyH_take (i := 4) (oi := { dst := some 22, op := Op.move (Operand.tmp 21), type := 4, pos := "ref.go:53", after := #[{ on := 3, ground := Ground.data }], guard := none }) (v := ?_) rfl (by kernel_rfl) (by kernel_rfl) (by kernel_rfl) (fun _ _ _ h => h) (Or.inl ⟨by rfl, ?hyr1x4⟩) (by assumption) ?restr1x4
          case hyr1x4 => intro wq hSw; (go_simp); (try with_reducible rfl)
          try simp only [Act.put, List.setIfInBounds_toArray, List.set_cons_zero, List.set_cons_succ]
          refine wpAnyH_take (i := 5) (oi := { dst := some 23, op := Op.move (Operand.tmp 5), type := 86, pos := "ref.go:53", after := #[{ on := 4, ground := Ground.guard }], guard := some (4, true) }) (v := undef) rfl (by kernel_rfl) (by kernel_rfl) (by kernel_rfl) (fun _ _ _ h => h) (Or.inr ⟨by rfl, rfl⟩) (by assumption) ?_
          try simp only [Act.put, List.setIfInBounds_toArray, List.set_cons_zero, List.set_cons_succ]
          refine wpAnyH_take (i := 6) (oi := { dst := some 24, op := Op.move (Operand.tmp 7), type := 3, pos := "ref.go:53", after := #[{ on := 4, ground := Ground.guard }], guard := some (4, true) }) (v := undef) rfl (by kernel_rfl) (by kernel_rfl) (by kernel_rfl) (fun _ _ _ h => h) (Or.inr ⟨by rfl, rfl⟩) (by assumption) ?_
          try simp only [Act.put, List.setIfInBounds_toArray, List.set_cons_zero, List.set_cons_succ]
          refine wpAnyH_take (i := 7) (oi := { dst := some 25, op := Op.indexAddr 86 (Operand.tmp 23) (Operand.tmp 24), type := 0, pos := "ref.go:53", after := #[{ on := 5, ground := Ground.data }, { on := 6, ground := Ground.data }, { on := 4, ground := Ground.guard }], guard := some (4, true) }) (v := undef) rfl (by kernel_rfl) (by kernel_rfl) (by kernel_rfl) (fun _ _ _ h => h) (Or.inr ⟨by rfl, rfl⟩) (by assumption) ?_
          try simp only [Act.put, List.setIfInBounds_toArray, List.set_cons_zero, List.set_cons_succ]
          refine wpAnyH_take (i := 8) (oi := { dst := some 26, op := Op.load 26 (Operand.tmp 25), type := 26, pos := "ref.go:53", after := #[{ on := 7, ground := Ground.data }, { on := 4, ground := Ground.guard }], guard := some (4, true) }) (v := undef) rfl (by kernel_rfl) (by kernel_rfl) (by kernel_rfl) (fun _ _ _ h => h) (Or.inr ⟨by rfl, rfl⟩) (by assumption) ?_
          try simp only [Act.put, List.setIfInBounds_toArray, List.set_cons_zero, List.set_cons_succ]
          refine wpAnyH_take (i := 9) (oi := { dst := some 27, op := Op.indexAddr 26 (Operand.tmp 26) (Operand.const (Value.int IntKind.i64 0)), type := 0, pos := "ref.go:53", after := #[{ on := 8, ground := Ground.data }, { on := 4, ground := Ground.guard }], guard := some (4, true) }) (v := undef) rfl (by kernel_rfl) (by kernel_rfl) (by kernel_rfl) (fun _ _ _ h => h) (Or.inr ⟨by rfl, rfl⟩) (by assumption) ?_
          try simp only [Act.put, List.setIfInBounds_toArray, List.set_cons_zero, List.set_cons_succ]
          refine wpAnyH_take (i := 10) (oi := { dst := some 28, op := Op.fieldAddr 52 (Operand.tmp 27) 2, type := 0, pos := "ref.go:53", after := #[{ on := 9, ground := Ground.data }, { on := 4, ground := Ground.guard }], guard := some (4, true) }) (v := undef) rfl (by kernel_rfl) (by kernel_rfl) (by kernel_rfl) (fun _ _ _ h => h) (Or.inr ⟨by rfl, rfl⟩) (by assumption) ?_
          try simp only [Act.put, List.setIfInBounds_toArray, List.set_cons_zero, List.set_cons_succ]
          refine wpAnyH_take (i := 11) (oi := { dst := some 29, op := Op.load 49 (Operand.tmp 28), type := 49, pos := "ref.go:53", after := #[{ on := 10, ground := Ground.data }, { on := 4, ground := Ground.guard }], guard := some (4, true) }) (v := undef) rfl (by kernel_rfl) (by kernel_rfl) (by kernel_rfl) (fun _ _ _ h => h) (Or.inr ⟨by rfl, rfl⟩) (by assumption) ?_
          try simp only [Act.put, List.setIfInBounds_toArray, List.set_cons_zero, List.set_cons_succ]
          refine wpAnyH_take (i := 12) (oi := { dst := some 30, op := Op.move (Operand.tmp 0), type := 26, pos := "ref.go:53", after := #[{ on := 4, ground := Ground.guard }], guard := some (4, true) }) (v := undef) rfl (by kernel_rfl) (by kernel_rfl) (by kernel_rfl) (fun _ _ _ h => h) (Or.inr ⟨by rfl, rfl⟩) (by assumption) ?_
          try simp only [Act.put, List.setIfInBounds_toArray, List.set_cons_zero, List.set_cons_succ]
          refine wpAnyH_take (i := 13) (oi := { dst := some 31, op := Op.move (Operand.tmp 6), type := 3, pos := "ref.go:53", after := #[{ on := 4, ground := Ground.guard }], guard := some (4, true) }) (v := undef) rfl (by kernel_rfl) (by kernel_rfl) (by kernel_rfl) (fun _ _ _ h => h) (Or.inr ⟨by rfl, rfl⟩) (by assumption) ?_
          try simp only [Act.put, List.setIfInBounds_toArray, List.set_cons_zero, List.set_cons_succ]
          refine wpAnyH_take (i := 14) (oi := { dst := some 32, op := Op.indexAddr 26 (Operand.tmp 30) (Operand.tmp 31), type := 0, pos := "ref.go:53", after := #[{ on := 12, ground := Ground.data }, { on := 13, ground := Ground.data }, { on := 4, ground := Ground.guard }], guard := some (4, true) }) (v := undef) rfl (by kernel_rfl) (by kernel_rfl) (by kernel_rfl) (fun _ _ _ h => h) (Or.inr ⟨by rfl, rfl⟩) (by assumption) ?_
          try simp only [Act.put, List.setIfInBounds_toArray, List.set_cons_zero, List.set_cons_succ]
          refine wpAnyH_take (i := 15) (oi := { dst := some 33, op := Op.fieldAddr 52 (Operand.tmp 32) 2, type := 0, pos := "ref.go:53", after := #[{ on := 14, ground := Ground.data }, { on := 4, ground := Ground.guard }], guard := some (4, true) }) (v := undef) rfl (by kernel_rfl) (by kernel_rfl) (by kernel_rfl) (fun _ _ _ h => h) (Or.inr ⟨by rfl, rfl⟩) (by assumption) ?_
          try simp only [Act.put, List.setIfInBounds_toArray, List.set_cons_zero, List.set_cons_succ]
          refine wpAnyH_take (i := 16) (oi := { dst := some 34, op := Op.load 49 (Operand.tmp 33), type := 49, pos := "ref.go:53", after := #[{ on := 15, ground := Ground.data }, { on := 4, ground := Ground.guard }], guard := some (4, true) }) (v := undef) rfl (by kernel_rfl) (by kernel_rfl) (by kernel_rfl) (fun _ _ _ h => h) (Or.inr ⟨by rfl, rfl⟩) (by assumption) ?_
          try simp only [Act.put, List.setIfInBounds_toArray, List.set_cons_zero, List.set_cons_succ]
          refine wpAnyH_take (i := 17) (oi := { dst := some 35, op := Op.move (Operand.tmp 1), type := 3, pos := "ref.go:53", after := #[{ on := 4, ground := Ground.guard }], guard := some (4, true) }) (v := undef) rfl (by kernel_rfl) (by kernel_rfl) (by kernel_rfl) (fun _ _ _ h => h) (Or.inr ⟨by rfl, rfl⟩) (by assumption) ?_
          try simp only [Act.put, List.setIfInBounds_toArray, List.set_cons_zero, List.set_cons_succ]
          refine wpAnyH_take (i := 18) (oi := { dst := some 36, op := Op.call { callee := Callee.value (Operand.func 48), args := #[Operand.tmp 29, Operand.tmp 34, Operand.tmp 35], argTypes := #[49, 49, 3] }, type := 4, pos := "ref.go:53", after := #[{ on := 11, ground := Ground.data }, { on := 16, ground := Ground.data }, { on := 17, ground := Ground.data }, { on := 4, ground := Ground.chain }, { on := 4, ground := Ground.guard }], guard := some (4, true) }) (v := undef) rfl (by kernel_rfl) (by kernel_rfl) (by kernel_rfl) (fun _ _ _ h => h) (Or.inr ⟨by rfl, rfl⟩) (by assumption) ?_
          try simp only [Act.put, List.setIfInBounds_toArray, List.set_cons_zero, List.set_cons_succ]
          refine wpAnyH_take (i := 19) (oi := { dst := some 37, op := Op.unOp UnOp.not 4 (Operand.tmp 36), type := 4, pos := "ref.go:53", after := #[{ on := 18, ground := Ground.data }, { on := 4, ground := Ground.guard }], guard := some (4, true) }) (v := undef) rfl (by kernel_rfl) (by kernel_rfl) (by kernel_rfl) (fun _ _ _ h => h) (Or.inr ⟨by rfl, rfl⟩) (by assumption) ?_
          try simp only [Act.put, List.setIfInBounds_toArray, List.set_cons_zero, List.set_cons_succ]
          refine wpAnyH_take (i := 20) (oi := { dst := some 38, op := Op.pick (Operand.tmp 22) (Operand.tmp 37) (Operand.const (Value.bool false)), type := 4, pos := "ref.go:53", after := #[{ on := 4, ground := Ground.data }, { on := 19, ground := Ground.data }], guard := none }) (v := ?_) rfl (by kernel_rfl) (by kernel_rfl) (by kernel_rfl) (fun _ _ _ h => h) (Or.inl ⟨by rfl, ?hyr1x20⟩) (by assumption) ?restr1x20
          case hyr1x20 => intro wq hSw; (go_simp); (try with_reducible rfl)
          try simp only [Act.put, List.setIfInBounds_toArray, List.set_cons_zero, List.set_cons_succ]
          refine wpAnyH_done (by kernel_rfl) ?_ _
          have hKn := hKn'.out
          have d3 : ((KX : Int) == (C.length : Int)) = true := by simp; omega
          replace OQ := OQ.nx (Ex.refl wi).drew
          replace kx := kx.nx (Ex.refl wi).drew
          obtain ⟨w3, hw3⟩ : ∃ w3, w3 = wi.drew := ⟨_, rfl⟩
          rw [← hw3] at OQ kx ⊢
          clear d1 d2 hw3 zq
          have zq := kx.size
          go_upto_region 10 with (at_builtin; (refine wpList_append_lit (enc := encH) w3 rfl _ _ 86 rfl w1.heap.size 26 (.slice none 0 0) 1 24 Tryd.underlying86 Tryd.infoH rfl (by omega) (by omega) _ _ OQ.1 rfl ((none, 0, 0) : Hdr) _ rfl rfl (by simp [encH, Hdr.val, Value.oneCell']) _ (by simp) rfl lq (by omega) _ ?_); intro vp wp ownp ch0 ch1 _)
          have OQ := OQ.pad ownp ch0
          replace kx : Ex w1 wp := Chg.trans kx ch1
          obtain ⟨C', hC'⟩ : ∃ C' : List (List Nd), C' = C ++ [[]] := ⟨_, rfl⟩
          rw [← hC'] at OQ
          have CL : C'.length = C.length + 1 := by rw [hC']; simp
          have EC : Hid (C' = padC C KX) := Lib.hid (by unfold padC; rw [if_pos (by omega), hC'])
          have CLEN : Hid (∀ c ∈ C', c.length ≤ 1000000) := Lib.hid (fun c hc => by
            rw [hC'] at hc
            rcases List.mem_append.1 hc with h1 | h1
            · exact Nat.le_trans (FF.out c h1).2.1 (by omega)
            · rw [List.mem_singleton.1 h1]; simp)
          generalize (qs ++ [((none, 0, 0) : Hdr)]) = qs at OQ
          obtain ⟨wa, rfl⟩ : ∃ wa : World, wa = wp := ⟨_, rfl⟩
          have hKC : KX < C'.length := by omega
          have NL : Hid (C'.length ≤ 1000001) := Lib.hid (by omega)
          clear hC' CL ownp ch0 ch1
          rw [← hKn]
          clear hKn
          obtain ⟨x5, o5, y5, he5, hx5, hy5, hc5⟩ := (hs.out.nx kx).at hlt
          cases he5
          obtain rfl : y = y5 := Option.some.inj (HY.out.symm.trans hy5)
          have E0 := Lib.hid (hc5 0 _ rfl)
          have E1 := Lib.hid (hc5 1 _ rfl)
          have E2 := Lib.hid (hc5 2 _ rfl)
          clear hy5 hc5 hx5
          obtain ⟨a4, cap4, he4, ll4, _, _, some4⟩ := OQ.ll
          cases he4
          obtain ⟨g4, e4, hg4⟩ := some4 (by intro h0; rw [h0] at hKC; simp at hKC)
          first | subst e4 | (obtain rfl : g4 = g3 := by cases e4; rfl)
          obtain ⟨c, hc⟩ : ∃ c, C'[KX]? = some c := ⟨C'[KX]'hKC, by simp⟩
          obtain ⟨⟨qa, qn, qc⟩, hq⟩ : ∃ q : Hdr, qs[KX]? = some q := ⟨qs[KX]'(by rw [OQ.2.1]; exact hKC), by simp⟩
          have hcl : c.length ≤ 1000000 := CLEN.out c (List.mem_of_getElem? hc)
          obtain ⟨cy, hcy⟩ : ∃ cy : List Nd, cy = c ++ [y] := ⟨_, rfl⟩
          have FIN : Hid (stepC h C y = C'.set KX cy) := Lib.hid (by unfold stepC; rw [KI.out, ← EC.out, hc, hcy]; rfl)
          have HCY := Lib.hid hcy
          clear hcy
          have HQ := Lib.hid hq
          have HCC := Lib.hid hc
          have hn4 : (KX : Int) < (C'.length : Int) := by omega
          have hn5 : C'.length ≤ 1000001 := NL.out
          clear hc hq ll4 some4
          go_wp2_with fail
          have OQ := Lib.hid (OQ.nx (Ex.refl wa).drew)
          have kx := kx.nx (Ex.refl wa).drew
          have SXF : ∀ cur : World, Sl 3 encN (cur.alloc (.cells #[.int .i64 y.id, .string y.key, .int .u32 y.word] 52)) (some ⟨cur.heap.size, 0, none⟩) 1 [y] := fun cur => Sl.lit _ rfl rfl (fun _ => rfl) rfl
          refine wp_region_held_drew (S := fun _ => True) (by kernel_rfl) (trivial) (fun hHeld => ?_)
          refine wpAnyH_take (i := 0) (oi := { dst := some 48, op := Op.move (Operand.tmp 5), type := 86, pos := "ref.go:59", after := #[], guard := none }) (v := ?_) rfl (by kernel_rfl) (by kernel_rfl) (by kernel_rfl) (fun _ _ _ h => h) (Or.inl ⟨by rfl, ?hyr2x0q1⟩) (by assumption) ?restr2x0q1
          case hyr2x0q1 => intro wq hSw; (go_simp); (try with_reducible rfl)
          try simp only [Act.put, List.setIfInBounds_toArray, List.set_cons_zero, List.set_cons_succ]
          refine wpAnyH_take (i := 1) (oi := { dst := some 49, op := Op.move (Operand.tmp 7), type := 3, pos := "ref.go:59", after := #[], guard := none }) (v := ?_) rfl (by kernel_rfl) (by kernel_rfl) (by kernel_rfl) (fun _ _ _ h => h) (Or.inl ⟨by rfl, ?hyr2x1q4⟩) (by assumption) ?restr2x1q4
          case hyr2x1q4 => intro wq hSw; (go_simp); (try with_reducible rfl)
          try simp only [Act.put, List.setIfInBounds_toArray, List.set_cons_zero, List.set_cons_succ]
          refine wpAnyH_take (i := 2) (oi := { dst := some 50, op := Op.move (Operand.tmp 5), type := 86, pos := "ref.go:59", after := #[], guard := none }) (v := ?_) rfl (by kernel_rfl) (by kernel_rfl) (by kernel_rfl) (fun _ _ _ h => h) (Or.inl ⟨by rfl, ?hyr2x2q7⟩) (by assumption) ?restr2x2q7
          case hyr2x2q7 => intro wq hSw; (go_simp); (try with_reducible rfl)
          try simp only [Act.put, List.setIfInBounds_toArray, List.set_cons_zero, List.set_cons_succ]
          refine wpAnyH_take (i := 3) (oi := { dst := some 51, op := Op.move (Operand.tmp 7), type := 3, pos := "ref.go:59", after := #[], guard := none }) (v := ?_) rfl (by kernel_rfl) (by kernel_rfl) (by kernel_rfl) (fun _ _ _ h => h) (Or.inl ⟨by rfl, ?hyr2x3q10⟩) (by assumption) ?restr2x3q10
          case hyr2x3q10 => intro wq hSw; (go_simp); (try with_reducible rfl)
          try simp only [Act.put, List.setIfInBounds_toArray, List.set_cons_zero, List.set_cons_succ]
          refine wpAnyH_take (i := 4) (oi := { dst := some 52, op := Op.indexAddr 86 (Operand.tmp 50) (Operand.tmp 51), type := 0, pos := "ref.go:59", after := #[{ on := 2, ground := Ground.data }, { on := 3, ground := Ground.data }], guard := none }) (v := ?_) rfl (by kernel_rfl) (by kernel_rfl) (by kernel_rfl) (fun _ _ _ h => h) (Or.inl ⟨by rfl, ?hyr2x4q13⟩) (by assumption) ?restr2x4q13
          case hyr2x4q13 => intro wq hSw; (go_simp); (try with_reducible rfl)
          try simp only [Act.put, List.setIfInBounds_toArray, List.set_cons_zero, List.set_cons_succ]
          refine wpAnyH_take (i := 6) (oi := { dst := some 54, op := Op.move (Operand.tmp 0), type := 26, pos := "ref.go:59", after := #[], guard := none }) (v := ?_) rfl (by kernel_rfl) (by kernel_rfl) (by kernel_rfl) (fun _ _ _ h => h) (Or.inl ⟨by rfl, ?hyr2x6q16⟩) (by assumption) ?restr2x6q16
          case hyr2x6q16 => intro wq hSw; (go_simp); (try with_reducible rfl)
          try simp only [Act.put, List.setIfInBounds_toArray, List.set_cons_zero, List.set_cons_succ]
          refine wpAnyH_take (i := 7) (oi := { dst := some 55, op := Op.move (Operand.tmp 6), type := 3, pos := "ref.go:59", after := #[], guard := none }) (v := ?_) rfl (by kernel_rfl) (by kernel_rfl) (by kernel_rfl) (fun _ _ _ h => h) (Or.inl ⟨by rfl, ?hyr2x7q19⟩) (by assumption) ?restr2x7q19
          case hyr2x7q19 => intro wq hSw; (go_simp); (try with_reducible rfl)
          try simp only [Act.put, List.setIfInBounds_toArray, List.set_cons_zero, List.set_cons_succ]
          refine wpAnyH_take (i := 8) (oi := { dst := some 56, op := Op.indexAddr 26 (Operand.tmp 54) (Operand.tmp 55), type := 0, pos := "ref.go:59", after := #[{ on := 6, ground := Ground.data }, { on := 7, ground := Ground.data }], guard := none }) (v := ?_) rfl (by kernel_rfl) (by kernel_rfl) (by kernel_rfl) (fun _ _ _ h => h) (Or.inl ⟨by rfl, ?hyr2x8q22⟩) (by assumption) ?restr2x8q22
          case hyr2x8q22 => intro wq hSw; (go_simp); (try with_reducible rfl)
          try simp only [Act.put, List.setIfInBounds_toArray, List.set_cons_zero, List.set_cons_succ]
          refine wpAnyH_ready (rs := [5, 9]) (by kernel_rfl) (by simp) ?_
          refine AllReadyH.cons (o := { dst := some 53, op := Op.load 26 (Operand.tmp 52), type := 26, pos := "ref.go:59", after := #[{ on := 4, ground := Ground.data }], guard := none }) rfl (fun K hK => ?_) ?_
          · have cc := (own_cellH OQ.out.1 HQ.out).1
            simp only [Hdr.val] at cc
            (try have cc2 : (wa.alloc (.cells #[.int .i64 y.id, .string y.key, .int .u32 y.word] 52)).cell? ⟨g4, KX, none⟩ = some (.slice qa qn qc) := cc)
            go_simp
            clear cc
            (try clear cc2)
            refine hK.out _ _ (trivial) (fun hHeld => ?_)
            clear hK K
            try simp only [Act.put, List.setIfInBounds_toArray, List.set_cons_zero, List.set_cons_succ]
            refine wpAnyH_ready (rs := [9]) (by kernel_rfl) (by simp) ?_
            refine AllReadyH.cons (o := { dst := some 57, op := Op.load 52 (Operand.tmp 56), type := 52, pos := "ref.go:59", after := #[{ on := 8, ground := Ground.data }], guard := none }) rfl (fun K hK => ?_) AllReadyH.nil
            have b0 : wa.cell? ⟨x1, o1 + k * 3, none⟩ = some (.int .i64 y.id) := E0.out
            have b1 : wa.cell? ⟨x1, o1 + k * 3 + 1, none⟩ = some (.string y.key) := E1.out
            have b2 : wa.cell? ⟨x1, o1 + k * 3 + 1 + 1, none⟩ = some (.int .u32 y.word) := E2.out
            go_simp
            clear b0 b1 b2
            refine hK.out _ _ (trivial) (fun hHeld => ?_)
            clear hK K
            try simp only [Act.put, List.setIfInBounds_toArray, List.set_cons_zero, List.set_cons_succ]
            refine wpAnyH_ready (rs := [10]) (by kernel_rfl) (by simp) ?_
            refine AllReadyH.cons (o := { dst := some 58, op := Op.buildSlice 26 1 #[(0, Operand.tmp 57)], type := 26, pos := "ref.go:59", after := #[{ on := 9, ground := Ground.data }], guard := none }) rfl (fun K hK => ?_) AllReadyH.nil
            go_simp
            have SX := SXF wa.drew
            have e7 := Ex.new wa.drew (.cells #[.int .i64 y.id, .string y.key, .int .u32 y.word] 52)
            replace OQ := Lib.hid (OQ.out.nx e7)
            replace kx := kx.nx e7
            clear e7
            refine hK.out _ _ (trivial) (fun hHeld => ?_)
            clear hK K
            try simp only [Act.put, List.setIfInBounds_toArray, List.set_cons_zero, List.set_cons_succ]
            refine wpAnyH_ready (rs := [11]) (by kernel_rfl) (by simp) ?_
            refine AllReadyH.cons (o := { dst := some 59, op := Op.call { callee := Callee.builtin Builtin.append, args := #[Operand.tmp 53, Operand.tmp 58], argTypes := #[26, 26] }, type := 26, pos := "ref.go:59", after := #[{ on := 5, ground := Ground.data }, { on := 10, ground := Ground.data }], guard := none }) rfl (fun K hK => ?_) AllReadyH.nil
            rw [if_pos (by rfl)]
            have z0 := Ex.size kx
            have oi := OQ.out.2.2.1 KX _ _ HQ.out HCC.out
            refine wp_append_rda (enc := encN) _ (.tmp 53) (.tmp 58) 26 rfl w1.heap.size 52 (.agg #[.int .i64 0, .string ByteArray.empty, .int .u32 0]) 3 32 Tryd.underlying26 Tryd.infoN rfl (by omega) (by omega) _ c oi rfl _ _ 1 1 [y] SX (fun h => by cases h) (fun _ => rfl) (by simp [encN, Value.oneCell']) rfl hcl (by omega) z0 ?_
            intro v8 w8 own8 ch0 ch1 hat
            rw [← HCY.out] at own8
            obtain ⟨a8, cap8, rfl, _, _, _, _⟩ := own8.rd (fun _ => rfl)
            obtain ⟨pc, pf, OQ2⟩ := OwnQ.put (q' := (a8, cy.length, cap8)) OQ.out HQ.out own8 ch0 hat
            replace kx : Ex w1 w8 := Chg.trans kx ch1
            replace OQ := Lib.hid OQ2
            clear OQ2 own8 ch0 ch1 hat oi z0 SX
            refine hK.out _ _ (trivial) (fun hHeld => ?_)
            clear hK K
            try simp only [Act.put, List.setIfInBounds_toArray, List.set_cons_zero, List.set_cons_succ]
            refine wpAnyH_take (i := 12) (oi := { dst := some 60, op := Op.indexAddr 86 (Operand.tmp 48) (Operand.tmp 49), type := 0, pos := "ref.go:59", after := #[{ on := 0, ground := Ground.data }, { on := 1, ground := Ground.data }, { on := 0, ground := Ground.phase }, { on := 1, ground := Ground.phase }, { on := 2, ground := Ground.phase }, { on := 3, ground := Ground.phase }, { on := 4, ground := Ground.phase }, { on := 5, ground := Ground.phase }, { on := 6, ground := Ground.phase }, { on := 7, ground := Ground.phase }, { on := 8, ground := Ground.phase }, { on := 9, ground := Ground.phase }, { on := 10, ground := Ground.phase }, { on := 11, ground := Ground.phase }], guard := none }) (v := ?_) rfl (by kernel_rfl) (by kernel_rfl) (by kernel_rfl) (fun _ _ _ h => h) (Or.inl ⟨by rfl, ?hyr2x12q73⟩) (by assumption) ?restr2x12q73
            case hyr2x12q73 => intro wq hSw; (go_simp); (try with_reducible rfl)
            try simp only [Act.put, List.setIfInBounds_toArray, List.set_cons_zero, List.set_cons_succ]
            refine wpAnyH_ready (rs := [13]) (by kernel_rfl) (by simp) ?_
            refine AllReadyH.cons (o := { dst := none, op := Op.store 26 (Operand.tmp 60) (Operand.tmp 59), type := 0, pos := "ref.go:59", after := #[{ on := 12, ground := Ground.data }, { on := 11, ground := Ground.data }, { on := 11, ground := Ground.chain }, { on := 0, ground := Ground.phase }, { on := 1, ground := Ground.phase }, { on := 2, ground := Ground.phase }, { on := 3, ground := Ground.phase }, { on := 4, ground := Ground.phase }, { on := 5, ground := Ground.phase }, { on := 6, ground := Ground.phase }, { on := 7, ground := Ground.phase }, { on := 8, ground := Ground.phase }, { on := 9, ground := Ground.phase }, { on := 10, ground := Ground.phase }, { on := 11, ground := Ground.phase }], guard := none }) rfl (fun K hK => ?_) AllReadyH.nil
            go_simp
            clear pc pf
            refine hK.out _ _ (trivial) (fun hHeld => ?_)
            clear hK K
            try simp only [Act.put, List.setIfInBounds_toArray, List.set_cons_zero, List.set_cons_succ]
            refine wpAnyH_done (by kernel_rfl) ?_ _
            replace kx := kx.setNew (p := ⟨g4, KX, none⟩) (Hdr.val (a8, cy.length, cap8)) hg4
            obtain ⟨wz, hwz⟩ : ∃ wz, wz = w8.setCell ⟨g4, KX, none⟩ (.slice a8 cy.length cap8) := ⟨_, rfl⟩
            have OQ := Lib.hid (OwnQ.cast OQ.out (w' := wz) hwz)
            have kx : Ex w1 wz := by rw [hwz]; exact kx
            rw [← hwz]
            clear hwz SXF hHeld hn5 hcl
            go_wp2_with fail
            exact ⟨⟨k + 1, _, by omega, by go_num, by rw [FS.out, FIN.out]; exact OQ.out, kx⟩, by simp [intOf]; omega⟩
          refine AllReadyH.cons (o := { dst := some 57, op := Op.load 52 (Operand.tmp 56), type := 52, pos := "ref.go:59", after := #[{ on := 8, ground := Ground.data }], guard := none }) rfl (fun K hK => ?_) AllReadyH.nil
          · have b0 : wa.cell? ⟨x1, o1 + k * 3, none⟩ = some (.int .i64 y.id) := E0.out
            have b1 : wa.cell? ⟨x1, o1 + k * 3 + 1, none⟩ = some (.string y.key) := E1.out
            have b2 : wa.cell? ⟨x1, o1 + k * 3 + 1 + 1, none⟩ = some (.int .u32 y.word) := E2.out
            go_simp
            clear b0 b1 b2
            refine hK.out _ _ (trivial) (fun hHeld => ?_)
            clear hK K
            try simp only [Act.put, List.setIfInBounds_toArray, List.set_cons_zero, List.set_cons_succ]
            refine wpAnyH_ready (rs := [5, 10]) (by kernel_rfl) (by simp) ?_
            refine AllReadyH.cons (o := { dst := some 53, op := Op.load 26 (Operand.tmp 52), type := 26, pos := "ref.go:59", after := #[{ on := 4, ground := Ground.data }], guard := none }) rfl (fun K hK => ?_) ?_
            · have cc := (own_cellH OQ.out.1 HQ.out).1
              simp only [Hdr.val] at cc
              (try have cc2 : (wa.alloc (.cells #[.int .i64 y.id, .string y.key, .int .u32 y.word] 52)).cell? ⟨g4, KX, none⟩ = some (.slice qa qn qc) := cc)
              go_simp
              clear cc
              (try clear cc2)
              refine hK.out _ _ (trivial) (fun hHeld => ?_)
              clear hK K
              try simp only [Act.put, List.setIfInBounds_toArray, List.set_cons_zero, List.set_cons_succ]
              refine wpAnyH_ready (rs := [10]) (by kernel_rfl) (by simp) ?_
              refine AllReadyH.cons (o := { dst := some 58, op := Op.buildSlice 26 1 #[(0, Operand.tmp 57)], type := 26, pos := "ref.go:59", after := #[{ on := 9, ground := Ground.data }], guard := none }) rfl (fun K hK => ?_) AllReadyH.nil
              go_simp
              have SX := SXF wa.drew
              have e7 := Ex.new wa.drew (.cells #[.int .i64 y.id, .string y.key, .int .u32 y.word] 52)
              replace OQ := Lib.hid (OQ.out.nx e7)
              replace kx := kx.nx e7
              clear e7
              refine hK.out _ _ (trivial) (fun hHeld => ?_)
              clear hK K
              try simp only [Act.put, List.setIfInBounds_toArray, List.set_cons_zero, List.set_cons_succ]
              refine wpAnyH_ready (rs := [11]) (by kernel_rfl) (by simp) ?_
              refine AllReadyH.cons (o := { dst := some 59, op := Op.call { callee := Callee.builtin Builtin.append, args := #[Operand.tmp 53, Operand.tmp 58], argTypes := #[26, 26] }, type := 26, pos := "ref.go:59", after := #[{ on := 5, ground := Ground.data }, { on := 10, ground := Ground.data }], guard := none }) rfl (fun K hK => ?_) AllReadyH.nil
              rw [if_pos (by rfl)]
              have z0 := Ex.size kx
              have oi := OQ.out.2.2.1 KX _ _ HQ.out HCC.out
              refine wp_append_rda (enc := encN) _ (.tmp 53) (.tmp 58) 26 rfl w1.heap.size 52 (.agg #[.int .i64 0, .string ByteArray.empty, .int .u32 0]) 3 32 Tryd.underlying26 Tryd.infoN rfl (by omega) (by omega) _ c oi rfl _ _ 1 1 [y] SX (fun h => by cases h) (fun _ => rfl) (by simp [encN, Value.oneCell']) rfl hcl (by omega) z0 ?_
              intro v8 w8 own8 ch0 ch1 hat
              rw [← HCY.out] at own8
              obtain ⟨a8, cap8, rfl, _, _, _, _⟩ := own8.rd (fun _ => rfl)
              obtain ⟨pc, pf, OQ2⟩ := OwnQ.put (q' := (a8, cy.length, cap8)) OQ.out HQ.out own8 ch0 hat
              replace kx : Ex w1 w8 := Chg.trans kx ch1
              replace OQ := Lib.hid OQ2
              clear OQ2 own8 ch0 ch1 hat oi z0 SX
              refine hK.out _ _ (trivial) (fun hHeld => ?_)
              clear hK K
              try simp only [Act.put, List.setIfInBounds_toArray, List.set_cons_zero, List.set_cons_succ]
              refine wpAnyH_take (i := 12) (oi := { dst := some 60, op := Op.indexAddr 86 (Operand.tmp 48) (Operand.tmp 49), type := 0, pos := "ref.go:59", after := #[{ on := 0, ground := Ground.data }, { on := 1, ground := Ground.data }, { on := 0, ground := Ground.phase }, { on := 1, ground := Ground.phase }, { on := 2, ground := Ground.phase }, { on := 3, ground := Ground.phase }, { on := 4, ground := Ground.phase }, { on := 5, ground := Ground.phase }, { on := 6, ground := Ground.phase }, { on := 7, ground := Ground.phase }, { on := 8, ground := Ground.phase }, { on := 9, ground := Ground.phase }, { on := 10, ground := Ground.phase }, { on := 11, ground := Ground.phase }], guard := none }) (v := ?_) rfl (by kernel_rfl) (by kernel_rfl) (by kernel_rfl) (fun _ _ _ h => h) (Or.inl ⟨by rfl, ?hyr2x12q132⟩) (by assumption) ?restr2x12q132
              case hyr2x12q132 => intro wq hSw; (go_simp); (try with_reducible rfl)
              try simp only [Act.put, List.setIfInBounds_toArray, List.set_cons_zero, List.set_cons_succ]
              refine wpAnyH_ready (rs := [13]) (by kernel_rfl) (by simp) ?_
              refine AllReadyH.cons (o := { dst := none, op := Op.store 26 (Operand.tmp 60) (Operand.tmp 59), type := 0, pos := "ref.go:59", after := #[{ on := 12, ground := Ground.data }, { on := 11, ground := Ground.data }, { on := 11, ground := Ground.chain }, { on := 0, ground := Ground.phase }, { on := 1, ground := Ground.phase }, { on := 2, ground := Ground.phase }, { on := 3, ground := Ground.phase }, { on := 4, ground := Ground.phase }, { on := 5, ground := Ground.phase }, { on := 6, ground := Ground.phase }, { on := 7, ground := Ground.phase }, { on := 8, ground := Ground.phase }, { on := 9, ground := Ground.phase }, { on := 10, ground := Ground.phase }, { on := 11, ground := Ground.phase }], guard := none }) rfl (fun K hK => ?_) AllReadyH.nil
              go_simp
              clear pc pf
              refine hK.out _ _ (trivial) (fun hHeld => ?_)
              clear hK K
              try simp only [Act.put, List.setIfInBounds_toArray, List.set_cons_zero, List.set_cons_succ]
              refine wpAnyH_done (by kernel_rfl) ?_ _
              replace kx := kx.setNew (p := ⟨g4, KX, none⟩) (Hdr.val (a8, cy.length, cap8)) hg4
              obtain ⟨wz, hwz⟩ : ∃ wz, wz = w8.setCell ⟨g4, KX, none⟩ (.slice a8 cy.length cap8) := ⟨_, rfl⟩
              have OQ := Lib.hid (OwnQ.cast OQ.out (w' := wz) hwz)
              have kx : Ex w1 wz := by rw [hwz]; exact kx
              rw [← hwz]
              clear hwz SXF hHeld hn5 hcl
              go_wp2_with fail
              exact ⟨⟨k + 1, _, by omega, by go_num, by rw [FS.out, FIN.out]; exact OQ.out, kx⟩, by simp [intOf]; omega⟩
            refine AllReadyH.cons (o := { dst := some 58, op := Op.buildSlice 26 1 #[(0, Operand.tmp 57)], type := 26, pos := "ref.go:59", after := #[{ on := 9, ground := Ground.data }], guard := none }) rfl (fun K hK => ?_) AllReadyH.nil
            · go_simp
              have SX := SXF wa.drew
              have e7 := Ex.new wa.drew (.cells #[.int .i64 y.id, .string y.key, .int .u32 y.word] 52)
              replace OQ := Lib.hid (OQ.out.nx e7)
              replace kx := kx.nx e7
              clear e7
              refine hK.out _ _ (trivial) (fun hHeld => ?_)
              clear hK K
              try simp only [Act.put, List.setIfInBounds_toArray, List.set_cons_zero, List.set_cons_succ]
              refine wpAnyH_ready (rs := [5]) (by kernel_rfl) (by simp) ?_
              refine AllReadyH.cons (o := { dst := some 53, op := Op.load 26 (Operand.tmp 52), type := 26, pos := "ref.go:59", after := #[{ on := 4, ground := Ground.data }], guard := none }) rfl (fun K hK => ?_) AllReadyH.nil
              have cc := (own_cellH OQ.out.1 HQ.out).1
              simp only [Hdr.val] at cc
              (try have cc2 : (wa.alloc (.cells #[.int .i64 y.id, .string y.key, .int .u32 y.word] 52)).cell? ⟨g4, KX, none⟩ = some (.slice qa qn qc) := cc)
              go_simp
              clear cc
              (try clear cc2)
              refine hK.out _ _ (trivial) (fun hHeld => ?_)
              clear hK K
              try simp only [Act.put, List.setIfInBounds_toArray, List.set_cons_zero, List.set_cons_succ]
              refine wpAnyH_ready (rs := [11]) (by kernel_rfl) (by simp) ?_
              refine AllReadyH.cons (o := { dst := some 59, op := Op.call { callee := Callee.builtin Builtin.append, args := #[Operand.tmp 53, Operand.tmp 58], argTypes := #[26, 26] }, type := 26, pos := "ref.go:59", after := #[{ on := 5, ground := Ground.data }, { on := 10, ground := Ground.data }], guard := none }) rfl (fun K hK => ?_) AllReadyH.nil
              rw [if_pos (by rfl)]
              have z0 := Ex.size kx
              have oi := OQ.out.2.2.1 KX _ _ HQ.out HCC.out
              refine wp_append_rda (enc := encN) _ (.tmp 53) (.tmp 58) 26 rfl w1.heap.size 52 (.agg #[.int .i64 0, .string ByteArray.empty, .int .u32 0]) 3 32 Tryd.underlying26 Tryd.infoN rfl (by omega) (by omega) _ c oi rfl _ _ 1 1 [y] SX (fun h => by cases h) (fun _ => rfl) (by simp [encN, Value.oneCell']) rfl hcl (by omega) z0 ?_
              intro v8 w8 own8 ch0 ch1 hat
              rw [← HCY.out] at own8
              obtain ⟨a8, cap8, rfl, _, _, _, _⟩ := own8.rd (fun _ => rfl)
              obtain ⟨pc, pf, OQ2⟩ := OwnQ.put (q' := (a8, cy.length, cap8)) OQ.out HQ.out own8 ch0 hat
              replace kx : Ex w1 w8 := Chg.trans kx ch1
              replace OQ := Lib.hid OQ2
              clear OQ2 own8 ch0 ch1 hat oi z0 SX
              refine hK.out _ _ (trivial) (fun hHeld => ?_)
              clear hK K
              try simp only [Act.put, List.setIfInBounds_toArray, List.set_cons_zero, List.set_cons_succ]
              refine wpAnyH_take (i := 12) (oi := { dst := some 60, op := Op.indexAddr 86 (Operand.tmp 48) (Operand.tmp 49), type := 0, pos := "ref.go:59", after := #[{ on := 0, ground := Ground.data }, { on := 1, ground := Ground.data }, { on := 0, ground := Ground.phase }, { on := 1, ground := Ground.phase }, { on := 2, ground := Ground.phase }, { on := 3, ground := Ground.phase }, { on := 4, ground := Ground.phase }, { on := 5, ground := Ground.phase }, { on := 6, ground := Ground.phase }, { on := 7, ground := Ground.phase }, { on := 8, ground := Ground.phase }, { on := 9, ground := Ground.phase }, { on := 10, ground := Ground.phase }, { on := 11, ground := Ground.phase }], guard := none }) (v := ?_) rfl (by kernel_rfl) (by kernel_rfl) (by kernel_rfl) (fun _ _ _ h => h) (Or.inl ⟨by rfl, ?hyr2x12q181⟩) (by assumption) ?restr2x12q181
              case hyr2x12q181 => intro wq hSw; (go_simp); (try with_reducible rfl)
              try simp only [Act.put, List.setIfInBounds_toArray, List.set_cons_zero, List.set_cons_succ]
              refine wpAnyH_ready (rs := [13]) (by kernel_rfl) (by simp) ?_
              refine AllReadyH.cons (o := { dst := none, op := Op.store 26 (Operand.tmp 60) (Operand.tmp 59), type := 0, pos := "ref.go:59", after := #[{ on := 12, ground := Ground.data }, { on := 11, ground := Ground.data }, { on := 11, ground := Ground.chain }, { on := 0, ground := Ground.phase }, { on := 1, ground := Ground.phase }, { on := 2, ground := Ground.phase }, { on := 3, ground := Ground.phase }, { on := 4, ground := Ground.phase }, { on := 5, ground := Ground.phase }, { on := 6, ground := Ground.phase }, { on := 7, ground := Ground.phase }, { on := 8, ground := Ground.phase }, { on := 9, ground := Ground.phase }, { on := 10, ground := Ground.phase }, { on := 11, ground := Ground.phase }], guard := none }) rfl (fun K hK => ?_) AllReadyH.nil
              go_simp
              clear pc pf
              refine hK.out _ _ (trivial) (fun hHeld => ?_)
              clear hK K
              try simp only [Act.put, List.setIfInBounds_toArray, List.set_cons_zero, List.set_cons_succ]
              refine wpAnyH_done (by kernel_rfl) ?_ _
              replace kx := kx.setNew (p := ⟨g4, KX, none⟩) (Hdr.val (a8, cy.length, cap8)) hg4
              obtain ⟨wz, hwz⟩ : ∃ wz, wz = w8.setCell ⟨g4, KX, none⟩ (.slice a8 cy.length cap8) := ⟨_, rfl⟩
              have OQ := Lib.hid (OwnQ.cast OQ.out (w' := wz) hwz)
              have kx : Ex w1 wz := by rw [hwz]; exact kx
              rw [← hwz]
              clear hwz SXF hHeld hn5 hcl
              go_wp2_with fail
              exact ⟨⟨k + 1, _, by omega, by go_num, by rw [FS.out, FIN.out]; exact OQ.out, kx⟩, by simp [intOf]; omega⟩
        · have hlj : KX < C.length := by omega
          obtain ⟨g3, rfl, _⟩ := SOME3.out (by intro h0; rw [h0] at hlj; simp at hlj)
          obtain ⟨x2, o2, b1, m1, d1, c, he2, hx2, hy2, hc2, r1⟩ := (LL3.out.nx ki).at hlj
          cases he2
          rw [Nat.zero_add] at hc2
          obtain ⟨p1, p2, p3⟩ := FF.out c (List.mem_of_getElem? hy2)
          obtain ⟨x4, o4, y4, rfl, hx4, hy4, hc4⟩ := r1.at (j := 0) (by rw [← r1.len]; exact p1)
          have hm1 : 0 < m1 := by rw [← r1.len]; exact p1
          have f4 : wi.cell? ⟨x4, o4 + 2, none⟩ = some (.int .u32 y4.word) := by simpa using hc4 2 _ rfl
          have f2 := Chg.cellv ki e2' hx1
          have hx1' : x1 < wi.heap.size := Nat.lt_of_lt_of_le hx1 ki.size
          have hyw4 := p3 y4 (List.mem_of_getElem? hy4)
          have hHW : headW c = y4.word := by
            cases c with
            | nil => simp at hy4
            | cons z r => simp at hy4; subst hy4; rfl
          have SR := fun w => same_rE y4.word y.word h w hyw4 hyw
          have dj : (KX : Int) < (C.length : Int) := by omega
          have dj1 : decide ((KX : Int) < (C.length : Int)) = true := by simpa using dj
          have dj2 : decide (KX < C.length) = true := by simpa using hlj
          have HY2 := Lib.hid hy2
          clear hc4 hy4 p1 p2 p3 r1 hy2 e2' ki
          cases hsm : sameN y4.word y.word h with
          | true =>
            have KI : Hid (idxC C y.word h = KX) := Lib.hid (idxC_of HY2.out (by rw [hHW]; exact hsm) HNO.out)
            rw [hsm] at SR
            have SR := Lib.hid SR
            clear hsm hHW
            go_wp2_with fail
            refine wp_region_held_drew (S := Ex wi.drew) (by kernel_rfl) (Ex.refl _) (fun hHeld => ?_)
            refine wpAnyH_take (i := 0) (oi := { dst := some 18, op := Op.move (Operand.tmp 7), type := 3, pos := "ref.go:53", after := #[], guard := none }) (v := ?_) rfl (by kernel_rfl) (by kernel_rfl) (by kernel_rfl) (fun _ _ _ h => h) (Or.inl ⟨by rfl, ?hyr3x0⟩) (by assumption) ?restr3x0
            case hyr3x0 => intro wq hSw; (go_simp); (try with_reducible rfl)
            try simp only [Act.put, List.setIfInBounds_toArray, List.set_cons_zero, List.set_cons_succ]
            refine wpAnyH_take (i := 1) (oi := { dst := some 19, op := Op.move (Operand.tmp 5), type := 86, pos := "ref.go:53", after := #[], guard := none }) (v := ?_) rfl (by kernel_rfl) (by kernel_rfl) (by kernel_rfl) (fun _ _ _ h => h) (Or.inl ⟨by rfl, ?hyr3x1⟩) (by assumption) ?restr3x1
            case hyr3x1 => intro wq hSw; (go_simp); (try with_reducible rfl)
            try simp only [Act.put, List.setIfInBounds_toArray, List.set_cons_zero, List.set_cons_succ]
            refine wpAnyH_take (i := 2) (oi := { dst := some 20, op := Op.call { callee := Callee.builtin Builtin.len, args := #[Operand.tmp 19], argTypes := #[86] }, type := 3, pos := "ref.go:53", after := #[{ on := 1, ground := Ground.data }], guard := none }) (v := ?_) rfl (by kernel_rfl) (by kernel_rfl) (by kernel_rfl) (fun _ _ _ h => h) (Or.inl ⟨by rfl, ?hyr3x2⟩) (by assumption) ?restr3x2
            case hyr3x2 => intro wq hSw; (go_simp); (try with_reducible rfl)
            try simp only [Act.put, List.setIfInBounds_toArray, List.set_cons_zero, List.set_cons_succ]
            refine wpAnyH_take (i := 3) (oi := { dst := some 21, op := Op.binOp BinOp.lss 3 (Operand.tmp 18) (Operand.tmp 20) 3, type := 4, pos := "ref.go:53", after := #[{ on := 0, ground := Ground.data }, { on := 2, ground := Ground.data }], guard := none }) (v := ?_) rfl (by kernel_rfl) (by kernel_rfl) (by kernel_rfl) (fun _ _ _ h => h) (Or.inl ⟨by rfl, ?hyr3x3⟩) (by assumption) ?restr3x3
            case hyr3x3 => intro wq hSw; (go_simp); (try with_reducible rfl)
            try simp only [Act.put, List.setIfInBounds_toArray, List.set_cons_zero, List.set_cons_succ]
            refine wpAnyH_take (i := 4) (oi := { dst := some 22, op := Op.move (Operand.tmp 21), type := 4, pos := "ref.go:53", after := #[{ on := 3, ground := Ground.data }], guard := none }) (v := ?_) rfl (by kernel_rfl) (by kernel_rfl) (by kernel_rfl) (fun _ _ _ h => h) (Or.inl ⟨by rfl, ?hyr3x4⟩) (by assumption) ?restr3x4
            case hyr3x4 => intro wq hSw; (go_simp); (try with_reducible rfl)
            try simp only [Act.put, List.setIfInBounds_toArray, List.set_cons_zero, List.set_cons_succ]
            refine wpAnyH_take (i := 5) (oi := { dst := some 23, op := Op.move (Operand.tmp 5), type := 86, pos := "ref.go:53", after := #[{ on := 4, ground := Ground.guard }], guard := some (4, true) }) (v := ?_) rfl (by kernel_rfl) (by kernel_rfl) (by kernel_rfl) (fun _ _ _ h => h) (Or.inl ⟨by rfl, ?hyr3x5⟩) (by assumption) ?restr3x5
            case hyr3x5 => intro wq hSw; (go_simp); (try with_reducible rfl)
            try simp only [Act.put, List.setIfInBounds_toArray, List.set_cons_zero, List.set_cons_succ]
            refine wpAnyH_take (i := 6) (oi := { dst := some 24, op := Op.move (Operand.tmp 7), type := 3, pos := "ref.go:53", after := #[{ on := 4, ground := Ground.guard }], guard := some (4, true) }) (v := ?_) rfl (by kernel_rfl) (by kernel_rfl) (by kernel_rfl) (fun _ _ _ h => h) (Or.inl ⟨by rfl, ?hyr3x6⟩) (by assumption) ?restr3x6
            case hyr3x6 => intro wq hSw; (go_simp); (try with_reducible rfl)
            try simp only [Act.put, List.setIfInBounds_toArray, List.set_cons_zero, List.set_cons_succ]
            refine wpAnyH_take (i := 7) (oi := { dst := some 25, op := Op.indexAddr 86 (Operand.tmp 23) (Operand.tmp 24), type := 0, pos := "ref.go:53", after := #[{ on := 5, ground := Ground.data }, { on := 6, ground := Ground.data }, { on := 4, ground := Ground.guard }], guard := some (4, true) }) (v := ?_) rfl (by kernel_rfl) (by kernel_rfl) (by kernel_rfl) (fun _ _ _ h => h) (Or.inl ⟨by rfl, ?hyr3x7⟩) (by assumption) ?restr3x7
            case hyr3x7 => intro wq hSw; (go_simp); (try with_reducible rfl)
            try simp only [Act.put, List.setIfInBounds_toArray, List.set_cons_zero, List.set_cons_succ]
            refine wpAnyH_take (i := 8) (oi := { dst := some 26, op := Op.load 26 (Operand.tmp 25), type := 26, pos := "ref.go:53", after := #[{ on := 7, ground := Ground.data }, { on := 4, ground := Ground.guard }], guard := some (4, true) }) (v := ?_) rfl (by kernel_rfl) (by kernel_rfl) (by kernel_rfl) (fun _ _ _ h => h) (Or.inl ⟨by rfl, ?hyr3x8⟩) (by assumption) ?restr3x8
            case hyr3x8 => intro wq hSw; (have cq := Chg.cellv hSw hc2 hx2; go_simp); (try with_reducible rfl)
            try simp only [Act.put, List.setIfInBounds_toArray, List.set_cons_zero, List.set_cons_succ]
            refine wpAnyH_take (i := 9) (oi := { dst := some 27, op := Op.indexAddr 26 (Operand.tmp 26) (Operand.const (Value.int IntKind.i64 0)), type := 0, pos := "ref.go:53", after := #[{ on := 8, ground := Ground.data }, { on := 4, ground := Ground.guard }], guard := some (4, true) }) (v := ?_) rfl (by kernel_rfl) (by kernel_rfl) (by kernel_rfl) (fun _ _ _ h => h) (Or.inl ⟨by rfl, ?hyr3x9⟩) (by assumption) ?restr3x9
            case hyr3x9 => intro wq hSw; (go_simp); (try with_reducible rfl)
            try simp only [Act.put, List.setIfInBounds_toArray, List.set_cons_zero, List.set_cons_succ]
            refine wpAnyH_take (i := 10) (oi := { dst := some 28, op := Op.fieldAddr 52 (Operand.tmp 27) 2, type := 0, pos := "ref.go:53", after := #[{ on := 9, ground := Ground.data }, { on := 4, ground := Ground.guard }], guard := some (4, true) }) (v := ?_) rfl (by kernel_rfl) (by kernel_rfl) (by kernel_rfl) (fun _ _ _ h => h) (Or.inl ⟨by rfl, ?hyr3x10⟩) (by assumption) ?restr3x10
            case hyr3x10 => intro wq hSw; (go_simp); (try with_reducible rfl)
            try simp only [Act.put, List.setIfInBounds_toArray, List.set_cons_zero, List.set_cons_succ]
            refine wpAnyH_take (i := 11) (oi := { dst := some 29, op := Op.load 49 (Operand.tmp 28), type := 49, pos := "ref.go:53", after := #[{ on := 10, ground := Ground.data }, { on := 4, ground := Ground.guard }], guard := some (4, true) }) (v := ?_) rfl (by kernel_rfl) (by kernel_rfl) (by kernel_rfl) (fun _ _ _ h => h) (Or.inl ⟨by rfl, ?hyr3x11⟩) (by assumption) ?restr3x11
            case hyr3x11 => intro wq hSw; (have cq := Chg.cellv hSw f4 hx4; go_simp); (try with_reducible rfl)
            try simp only [Act.put, List.setIfInBounds_toArray, List.set_cons_zero, List.set_cons_succ]
            refine wpAnyH_take (i := 12) (oi := { dst := some 30, op := Op.move (Operand.tmp 0), type := 26, pos := "ref.go:53", after := #[{ on := 4, ground := Ground.guard }], guard := some (4, true) }) (v := ?_) rfl (by kernel_rfl) (by kernel_rfl) (by kernel_rfl) (fun _ _ _ h => h) (Or.inl ⟨by rfl, ?hyr3x12⟩) (by assumption) ?restr3x12
            case hyr3x12 => intro wq hSw; (go_simp); (try with_reducible rfl)
            try simp only [Act.put, List.setIfInBounds_toArray, List.set_cons_zero, List.set_cons_succ]
            refine wpAnyH_take (i := 13) (oi := { dst := some 31, op := Op.move (Operand.tmp 6), type := 3, pos := "ref.go:53", after := #[{ on := 4, ground := Ground.guard }], guard := some (4, true) }) (v := ?_) rfl (by kernel_rfl) (by kernel_rfl) (by kernel_rfl) (fun _ _ _ h => h) (Or.inl ⟨by rfl, ?hyr3x13⟩) (by assumption) ?restr3x13
            case hyr3x13 => intro wq hSw; (go_simp); (try with_reducible rfl)
            try simp only [Act.put, List.setIfInBounds_toArray, List.set_cons_zero, List.set_cons_succ]
            refine wpAnyH_take (i := 14) (oi := { dst := some 32, op := Op.indexAddr 26 (Operand.tmp 30) (Operand.tmp 31), type := 0, pos := "ref.go:53", after := #[{ on := 12, ground := Ground.data }, { on := 13, ground := Ground.data }, { on := 4, ground := Ground.guard }], guard := some (4, true) }) (v := ?_) rfl (by kernel_rfl) (by kernel_rfl) (by kernel_rfl) (fun _ _ _ h => h) (Or.inl ⟨by rfl, ?hyr3x14⟩) (by assumption) ?restr3x14
            case hyr3x14 => intro wq hSw; (go_simp); (try with_reducible rfl)
            try simp only [Act.put, List.setIfInBounds_toArray, List.set_cons_zero, List.set_cons_succ]
            refine wpAnyH_take (i := 15) (oi := { dst := some 33, op := Op.fieldAddr 52 (Operand.tmp 32) 2, type := 0, pos := "ref.go:53", after := #[{ on := 14, ground := Ground.data }, { on := 4, ground := Ground.guard }], guard := some (4, true) }) (v := ?_) rfl (by kernel_rfl) (by kernel_rfl) (by kernel_rfl) (fun _ _ _ h => h) (Or.inl ⟨by rfl, ?hyr3x15⟩) (by assumption) ?restr3x15
            case hyr3x15 => intro wq hSw; (go_simp); (try with_reducible rfl)
            try simp only [Act.put, List.setIfInBounds_toArray, List.set_cons_zero, List.set_cons_succ]
            refine wpAnyH_take (i := 16) (oi := { dst := some 34, op := Op.load 49 (Operand.tmp 33), type := 49, pos := "ref.go:53", after := #[{ on := 15, ground := Ground.data }, { on := 4, ground := Ground.guard }], guard := some (4, true) }) (v := ?_) rfl (by kernel_rfl) (by kernel_rfl) (by kernel_rfl) (fun _ _ _ h => h) (Or.inl ⟨by rfl, ?hyr3x16⟩) (by assumption) ?restr3x16
            case hyr3x16 => intro wq hSw; (have cq := Chg.cellv hSw f2 hx1'; go_simp); (try with_reducible rfl)
            try simp only [Act.put, List.setIfInBounds_toArray, List.set_cons_zero, List.set_cons_succ]
            refine wpAnyH_take (i := 17) (oi := { dst := some 35, op := Op.move (Operand.tmp 1), type := 3, pos := "ref.go:53", after := #[{ on := 4, ground := Ground.guard }], guard := some (4, true) }) (v := ?_) rfl (by kernel_rfl) (by kernel_rfl) (by kernel_rfl) (fun _ _ _ h => h) (Or.inl ⟨by rfl, ?hyr3x17⟩) (by assumption) ?restr3x17
            case hyr3x17 => intro wq hSw; (go_simp); (try with_reducible rfl)
            try simp only [Act.put, List.setIfInBounds_toArray, List.set_cons_zero, List.set_cons_succ]
            refine wpAnyH_ready (rs := [18]) (by kernel_rfl) (by simp) ?_
            refine AllReadyH.cons (o := { dst := some 36, op := Op.call { callee := Callee.value (Operand.func 48), args := #[Operand.tmp 29, Operand.tmp 34, Operand.tmp 35], argTypes := #[49, 49, 3] }, type := 4, pos := "ref.go:53", after := #[{ on := 11, ground := Ground.data }, { on := 16, ground := Ground.data }, { on := 17, ground := Ground.data }, { on := 4, ground := Ground.chain }, { on := 4, ground := Ground.guard }], guard := some (4, true) }) rfl (fun K hK => ?_) AllReadyH.nil
            go_simp
            refine (SR.out _).mono ?_
            rintro e v1 ⟨rfl, kk⟩
            refine hK.out _ _ kk (fun _ => ?_)
            clear hK K
            try simp only [Act.put, List.setIfInBounds_toArray, List.set_cons_zero, List.set_cons_succ]
            refine wpAnyH_switch (S' := Ex v1) (fun _ hSw => Ex.nx kk hSw) ?_
            clear hHeld
            have hHeld := Ex.refl v1
            refine wpAnyH_take (i := 19) (oi := { dst := some 37, op := Op.unOp UnOp.not 4 (Operand.tmp 36), type := 4, pos := "ref.go:53", after := #[{ on := 18, ground := Ground.data }, { on := 4, ground := Ground.guard }], guard := some (4, true) }) (v := ?_) rfl (by kernel_rfl) (by kernel_rfl) (by kernel_rfl) (fun _ _ _ h => h) (Or.inl ⟨by rfl, ?hyr3x19⟩) (by assumption) ?restr3x19
            case hyr3x19 => intro wq hSw; (go_simp); (try with_reducible rfl)
            try simp only [Act.put, List.setIfInBounds_toArray, List.set_cons_zero, List.set_cons_succ]
            refine wpAnyH_take (i := 20) (oi := { dst := some 38, op := Op.pick (Operand.tmp 22) (Operand.tmp 37) (Operand.const (Value.bool false)), type := 4, pos := "ref.go:53", after := #[{ on := 4, ground := Ground.data }, { on := 19, ground := Ground.data }], guard := none }) (v := ?_) rfl (by kernel_rfl) (by kernel_rfl) (by kernel_rfl) (fun _ _ _ h => h) (Or.inl ⟨by rfl, ?hyr3x20⟩) (by assumption) ?restr3x20
            case hyr3x20 => intro wq hSw; (go_simp); (try with_reducible rfl)
            try simp only [Act.put, List.setIfInBounds_toArray, List.set_cons_zero, List.set_cons_succ]
            refine wpAnyH_done (by kernel_rfl) ?_ _
            have dk : ((KX : Int) == (C.length : Int)) = false := by simp; omega
            replace OQ := (OQ.nx (Ex.refl wi).drew).nx kk
            replace kx := (kx.nx (Ex.refl wi).drew).nx kk
            obtain ⟨wa, rfl⟩ : ∃ wa : World, wa = v1 := ⟨_, rfl⟩
            clear kk hc2 f4 f2 hx1' dj1 dj2
            have EC : Hid (C = padC C KX) := Lib.hid (by unfold padC; rw [if_neg (by omega)])
            have CLEN : Hid (∀ c ∈ C, c.length ≤ 1000000) := Lib.hid (fun c hc => Nat.le_trans (FF.out c hc).2.1 (by omega))
            have hKC : KX < C.length := by omega
            have NL : Hid (C.length ≤ 1000001) := Lib.hid (by omega)
            obtain ⟨x5, o5, y5, he5, hx5, hy5, hc5⟩ := (hs.out.nx kx).at hlt
            cases he5
            obtain rfl : y = y5 := Option.some.inj (HY.out.symm.trans hy5)
            have E0 := Lib.hid (hc5 0 _ rfl)
            have E1 := Lib.hid (hc5 1 _ rfl)
            have E2 := Lib.hid (hc5 2 _ rfl)
            clear hy5 hc5 hx5
            obtain ⟨a4, cap4, he4, ll4, _, _, some4⟩ := OQ.ll
            cases he4
            obtain ⟨g4, e4, hg4⟩ := some4 (by intro h0; rw [h0] at hKC; simp at hKC)
            first | subst e4 | (obtain rfl : g4 = g3 := by cases e4; rfl)
            obtain ⟨c, hc⟩ : ∃ c, C[KX]? = some c := ⟨C[KX]'hKC, by simp⟩
            obtain ⟨⟨qa, qn, qc⟩, hq⟩ : ∃ q : Hdr, qs[KX]? = some q := ⟨qs[KX]'(by rw [OQ.2.1]; exact hKC), by simp⟩
            have hcl : c.length ≤ 1000000 := CLEN.out c (List.mem_of_getElem? hc)
            obtain ⟨cy, hcy⟩ : ∃ cy : List Nd, cy = c ++ [y] := ⟨_, rfl⟩
            have FIN : Hid (stepC h C y = C.set KX cy) := Lib.hid (by unfold stepC; rw [KI.out, ← EC.out, hc, hcy]; rfl)
            have HCY := Lib.hid hcy
            clear hcy
            have HQ := Lib.hid hq
            have HCC := Lib.hid hc
            have hn4 : (KX : Int) < (C.length : Int) := by omega
            have hn5 : C.length ≤ 1000001 := NL.out
            clear hc hq ll4 some4
            go_wp2_with fail
            have OQ := Lib.hid (OQ.nx (Ex.refl wa).drew)
            have kx := kx.nx (Ex.refl wa).drew
            have SXF : ∀ cur : World, Sl 3 encN (cur.alloc (.cells #[.int .i64 y.id, .string y.key, .int .u32 y.word] 52)) (some ⟨cur.heap.size, 0, none⟩) 1 [y] := fun cur => Sl.lit _ rfl rfl (fun _ => rfl) rfl
            refine wp_region_held_drew (S := fun _ => True) (by kernel_rfl) (trivial) (fun hHeld => ?_)
            refine wpAnyH_take (i := 0) (oi := { dst := some 48, op := Op.move (Operand.tmp 5), type := 86, pos := "ref.go:59", after := #[], guard := none }) (v := ?_) rfl (by kernel_rfl) (by kernel_rfl) (by kernel_rfl) (fun _ _ _ h => h) (Or.inl ⟨by rfl, ?hyr4x0q1⟩) (by assumption) ?restr4x0q1
            case hyr4x0q1 => intro wq hSw; (go_simp); (try with_reducible rfl)
            try simp only [Act.put, List.setIfInBounds_toArray, List.set_cons_zero, List.set_cons_succ]
            refine wpAnyH_take (i := 1) (oi := { dst := some 49, op := Op.move (Operand.tmp 7), type := 3, pos := "ref.go:59", after := #[], guard := none }) (v := ?_) rfl (by kernel_rfl) (by kernel_rfl) (by kernel_rfl) (fun _ _ _ h => h) (Or.inl ⟨by rfl, ?hyr4x1q4⟩) (by assumption) ?restr4x1q4
            case hyr4x1q4 => intro wq hSw; (go_simp); (try with_reducible rfl)
            try simp only [Act.put, List.setIfInBounds_toArray, List.set_cons_zero, List.set_cons_succ]
            refine wpAnyH_take (i := 2) (oi := { dst := some 50, op := Op.move (Operand.tmp 5), type := 86, pos := "ref.go:59", after := #[], guard := none }) (v := ?_) rfl (by kernel_rfl) (by kernel_rfl) (by kernel_rfl) (fun _ _ _ h => h) (Or.inl ⟨by rfl, ?hyr4x2q7⟩) (by assumption) ?restr4x2q7
            case hyr4x2q7 => intro wq hSw; (go_simp); (try with_reducible rfl)
            try simp only [Act.put, List.setIfInBounds_toArray, List.set_cons_zero, List.set_cons_succ]
            refine wpAnyH_take (i := 3) (oi := { dst := some 51, op := Op.move (Operand.tmp 7), type := 3, pos := "ref.go:59", after := #[], guard := none }) (v := ?_) rfl (by kernel_rfl) (by kernel_rfl) (by kernel_rfl) (fun _ _ _ h => h) (Or.inl ⟨by rfl, ?hyr4x3q10⟩) (by assumption) ?restr4x3q10
            case hyr4x3q10 => intro wq hSw; (go_simp); (try with_reducible rfl)
            try simp only [Act.put, List.setIfInBounds_toArray, List.set_cons_zero, List.set_cons_succ]
            refine wpAnyH_take (i := 4) (oi := { dst := some 52, op := Op.indexAddr 86 (Operand.tmp 50) (Operand.tmp 51), type := 0, pos := "ref.go:59", after := #[{ on := 2, ground := Ground.data }, { on := 3, ground := Ground.data }], guard := none }) (v := ?_) rfl (by kernel_rfl) (by kernel_rfl) (by kernel_rfl) (fun _ _ _ h => h) (Or.inl ⟨by rfl, ?hyr4x4q13⟩) (by assumption) ?restr4x4q13
            case hyr4x4q13 => intro wq hSw; (go_simp); (try with_reducible rfl)
            try simp only [Act.put, List.setIfInBounds_toArray, List.set_cons_zero, List.set_cons_succ]
            refine wpAnyH_take (i := 6) (oi := { dst := some 54, op := Op.move (Operand.tmp 0), type := 26, pos := "ref.go:59", after := #[], guard := none }) (v := ?_) rfl (by kernel_rfl) (by kernel_rfl) (by kernel_rfl) (fun _ _ _ h => h) (Or.inl ⟨by rfl, ?hyr4x6q16⟩) (by assumption) ?restr4x6q16
            case hyr4x6q16 => intro wq hSw; (go_simp); (try with_reducible rfl)
            try simp only [Act.put, List.setIfInBounds_toArray, List.set_cons_zero, List.set_cons_succ]
            refine wpAnyH_take (i := 7) (oi := { dst := some 55, op := Op.move (Operand.tmp 6), type := 3, pos := "ref.go:59", after := #[], guard := none }) (v := ?_) rfl (by kernel_rfl) (by kernel_rfl) (by kernel_rfl) (fun _ _ _ h => h) (Or.inl ⟨by rfl, ?hyr4x7q19⟩) (by assumption) ?restr4x7q19
            case hyr4x7q19 => intro wq hSw; (go_simp); (try with_reducible rfl)
            try simp only [Act.put, List.setIfInBounds_toArray, List.set_cons_zero, List.set_cons_succ]
            refine wpAnyH_take (i := 8) (oi := { dst := some 56, op := Op.indexAddr 26 (Operand.tmp 54) (Operand.tmp 55), type := 0, pos := "ref.go:59", after := #[{ on := 6, ground := Ground.data }, { on := 7, ground := Ground.data }], guard := none }) (v := ?_) rfl (by kernel_rfl) (by kernel_rfl) (by kernel_rfl) (fun _ _ _ h => h) (Or.inl ⟨by rfl, ?hyr4x8q22⟩) (by assumption) ?restr4x8q22
            case hyr4x8q22 => intro wq hSw; (go_simp); (try with_reducible rfl)
            try simp only [Act.put, List.setIfInBounds_toArray, List.set_cons_zero, List.set_cons_succ]
            refine wpAnyH_ready (rs := [5, 9]) (by kernel_rfl) (by simp) ?_
            refine AllReadyH.cons (o := { dst := some 53, op := Op.load 26 (Operand.tmp 52), type := 26, pos := "ref.go:59", after := #[{ on := 4, ground := Ground.data }], guard := none }) rfl (fun K hK => ?_) ?_
            · have cc := (own_cellH OQ.out.1 HQ.out).1
              simp only [Hdr.val] at cc
              (try have cc2 : (wa.alloc (.cells #[.int .i64 y.id, .string y.key, .int .u32 y.word] 52)).cell? ⟨g4, KX, none⟩ = some (.slice qa qn qc) := cc)
              go_simp
              clear cc
              (try clear cc2)
              refine hK.out _ _ (trivial) (fun hHeld => ?_)
              clear hK K
              try simp only [Act.put, List.setIfInBounds_toArray, List.set_cons_zero, List.set_cons_succ]
              refine wpAnyH_ready (rs := [9]) (by kernel_rfl) (by simp) ?_
              refine AllReadyH.cons (o := { dst := some 57, op := Op.load 52 (Operand.tmp 56), type := 52, pos := "ref.go:59", after := #[{ on := 8, ground := Ground.data }], guard := none }) rfl (fun K hK => ?_) AllReadyH.nil
              have b0 : wa.cell? ⟨x1, o1 + k * 3, none⟩ = some (.int .i64 y.id) := E0.out
              have b1 : wa.cell? ⟨x1, o1 + k * 3 + 1, none⟩ = some (.string y.key) := E1.out
              have b2 : wa.cell? ⟨x1, o1 + k * 3 + 1 + 1, none⟩ = some (.int .u32 y.word) := E2.out
              go_simp
              clear b0 b1 b2
              refine hK.out _ _ (trivial) (fun hHeld => ?_)
              clear hK K
              try simp only [Act.put, List.setIfInBounds_toArray, List.set_cons_zero, List.set_cons_succ]
              refine wpAnyH_ready (rs := [10]) (by kernel_rfl) (by simp) ?_
              refine AllReadyH.cons (o := { dst := some 58, op := Op.buildSlice 26 1 #[(0, Operand.tmp 57)], type := 26, pos := "ref.go:59", after := #[{ on := 9, ground := Ground.data }], guard := none }) rfl (fun K hK => ?_) AllReadyH.nil
              go_simp
              have SX := SXF wa.drew
              have e7 := Ex.new wa.drew (.cells #[.int .i64 y.id, .string y.key, .int .u32 y.word] 52)
              replace OQ := Lib.hid (OQ.out.nx e7)
              replace kx := kx.nx e7
              clear e7
              refine hK.out _ _ (trivial) (fun hHeld => ?_)
              clear hK K
              try simp only [Act.put, List.setIfInBounds_toArray, List.set_cons_zero, List.set_cons_succ]
              refine wpAnyH_ready (rs := [11]) (by kernel_rfl) (by simp) ?_
              refine AllReadyH.cons (o := { dst := some 59, op := Op.call { callee := Callee.builtin Builtin.append, args := #[Operand.tmp 53, Operand.tmp 58], argTypes := #[26, 26] }, type := 26, pos := "ref.go:59", after := #[{ on := 5, ground := Ground.data }, { on := 10, ground := Ground.data }], guard := none }) rfl (fun K hK => ?_) AllReadyH.nil
              rw [if_pos (by rfl)]
              have z0 := Ex.size kx
              have oi := OQ.out.2.2.1 KX _ _ HQ.out HCC.out
              refine wp_append_rda (enc := encN) _ (.tmp 53) (.tmp 58) 26 rfl w1.heap.size 52 (.agg #[.int .i64 0, .string ByteArray.empty, .int .u32 0]) 3 32 Tryd.underlying26 Tryd.infoN rfl (by omega) (by omega) _ c oi rfl _ _ 1 1 [y] SX (fun h => by cases h) (fun _ => rfl) (by simp [encN, Value.oneCell']) rfl hcl (by omega) z0 ?_
              intro v8 w8 own8 ch0 ch1 hat
              rw [← HCY.out] at own8
              obtain ⟨a8, cap8, rfl, _, _, _, _⟩ := own8.rd (fun _ => rfl)
              obtain ⟨pc, pf, OQ2⟩ := OwnQ.put (q' := (a8, cy.length, cap8)) OQ.out HQ.out own8 ch0 hat
              replace kx : Ex w1 w8 := Chg.trans kx ch1
              replace OQ := Lib.hid OQ2
              clear OQ2 own8 ch0 ch1 hat oi z0 SX
              refine hK.out _ _ (trivial) (fun hHeld => ?_)
              clear hK K
              try simp only [Act.put, List.setIfInBounds_toArray, List.set_cons_zero, List.set_cons_succ]
              refine wpAnyH_take (i := 12) (oi := { dst := some 60, op := Op.indexAddr 86 (Operand.tmp 48) (Operand.tmp 49), type := 0, pos := "ref.go:59", after := #[{ on := 0, ground := Ground.data }, { on := 1, ground := Ground.data }, { on := 0, ground := Ground.phase }, { on := 1, ground := Ground.phase }, { on := 2, ground := Ground.phase }, { on := 3, ground := Ground.phase }, { on := 4, ground := Ground.phase }, { on := 5, ground := Ground.phase }, { on := 6, ground := Ground.phase }, { on := 7, ground := Ground.phase }, { on := 8, ground := Ground.phase }, { on := 9, ground := Ground.phase }, { on := 10, ground := Ground.phase }, { on := 11, ground := Ground.phase }], guard := none }) (v := ?_) rfl (by kernel_rfl) (by kernel_rfl) (by kernel_rfl) (fun _ _ _ h => h) (Or.inl ⟨by rfl, ?hyr4x12q73⟩) (by assumption) ?restr4x12q73
              case hyr4x12q73 => intro wq hSw; (go_simp); (try with_reducible rfl)
              try simp only [Act.put, List.setIfInBounds_toArray, List.set_cons_zero, List.set_cons_succ]
              refine wpAnyH_ready (rs := [13]) (by kernel_rfl) (by simp) ?_
              refine AllReadyH.cons (o := { dst := none, op := Op.store 26 (Operand.tmp 60) (Operand.tmp 59), type := 0, pos := "ref.go:59", after := #[{ on := 12, ground := Ground.data }, { on := 11, ground := Ground.data }, { on := 11, ground := Ground.chain }, { on := 0, ground := Ground.phase }, { on := 1, ground := Ground.phase }, { on := 2, ground := Ground.phase }, { on := 3, ground := Ground.phase }, { on := 4, ground := Ground.phase }, { on := 5, ground := Ground.phase }, { on := 6, ground := Ground.phase }, { on := 7, ground := Ground.phase }, { on := 8, ground := Ground.phase }, { on := 9, ground := Ground.phase }, { on := 10, ground := Ground.phase }, { on := 11, ground := Ground.phase }], guard := none }) rfl (fun K hK => ?_) AllReadyH.nil
              go_simp
              clear pc pf
              refine hK.out _ _ (trivial) (fun hHeld => ?_)
              clear hK K
              try simp only [Act.put, List.setIfInBounds_toArray, List.set_cons_zero, List.set_cons_succ]
              refine wpAnyH_done (by kernel_rfl) ?_ _
              replace kx := kx.setNew (p := ⟨g4, KX, none⟩) (Hdr.val (a8, cy.length, cap8)) hg4
              obtain ⟨wz, hwz⟩ : ∃ wz, wz = w8.setCell ⟨g4, KX, none⟩ (.slice a8 cy.length cap8) := ⟨_, rfl⟩
              have OQ := Lib.hid (OwnQ.cast OQ.out (w' := wz) hwz)
              have kx : Ex w1 wz := by rw [hwz]; exact kx
              rw [← hwz]
              clear hwz SXF hHeld hn5 hcl
              go_wp2_with fail
              exact ⟨⟨k + 1, _, by omega, by go_num, by rw [FS.out, FIN.out]; exact OQ.out, kx⟩, by simp [intOf]; omega⟩
            refine AllReadyH.cons (o := { dst := some 57, op := Op.load 52 (Operand.tmp 56), type := 52, pos := "ref.go:59", after := #[{ on := 8, ground := Ground.data }], guard := none }) rfl (fun K hK => ?_) AllReadyH.nil
            · have b0 : wa.cell? ⟨x1, o1 + k * 3, none⟩ = some (.int .i64 y.id) := E0.out
              have b1 : wa.cell? ⟨x1, o1 + k * 3 + 1, none⟩ = some (.string y.key) := E1.out
              have b2 : wa.cell? ⟨x1, o1 + k * 3 + 1 + 1, none⟩ = some (.int .u32 y.word) := E2.out
              go_simp
              clear b0 b1 b2
              refine hK.out _ _ (trivial) (fun hHeld => ?_)
              clear hK K
              try simp only [Act.put, List.setIfInBounds_toArray, List.set_cons_zero, List.set_cons_succ]
              refine wpAnyH_ready (rs := [5, 10]) (by kernel_rfl) (by simp) ?_
              refine AllReadyH.cons (o := { dst := some 53, op := Op.load 26 (Operand.tmp 52), type := 26, pos := "ref.go:59", after := #[{ on := 4, ground := Ground.data }], guard := none }) rfl (fun K hK => ?_) ?_
              · have cc := (own_cellH OQ.out.1 HQ.out).1
                simp only [Hdr.val] at cc
                (try have cc2 : (wa.alloc (.cells #[.int .i64 y.id, .string y.key, .int .u32 y.word] 52)).cell? ⟨g4, KX, none⟩ = some (.slice qa qn qc) := cc)
                go_simp
                clear cc
                (try clear cc2)
                refine hK.out _ _ (trivial) (fun hHeld => ?_)
                clear hK K
                try simp only [Act.put, List.setIfInBounds_toArray, List.set_cons_zero, List.set_cons_succ]
                refine wpAnyH_ready (rs := [10]) (by kernel_rfl) (by simp) ?_
                refine AllReadyH.cons (o := { dst := some 58, op := Op.buildSlice 26 1 #[(0, Operand.tmp 57)], type := 26, pos := "ref.go:59", after := #[{ on := 9, ground := Ground.data }], guard := none }) rfl (fun K hK => ?_) AllReadyH.nil
                go_simp
                have SX := SXF wa.drew
                have e7 := Ex.new wa.drew (.cells #[.int .i64 y.id, .string y.key, .int .u32 y.word] 52)
                replace OQ := Lib.hid (OQ.out.nx e7)
                replace kx := kx.nx e7
                clear e7
                refine hK.out _ _ (trivial) (fun hHeld => ?_)
                clear hK K
                try simp only [Act.put, List.setIfInBounds_toArray, List.set_cons_zero, List.set_cons_succ]
                refine wpAnyH_ready (rs := [11]) (by kernel_rfl) (by simp) ?_
                refine AllReadyH.cons (o := { dst := some 59, op := Op.call { callee := Callee.builtin Builtin.append, args := #[Operand.tmp 53, Operand.tmp 58], argTypes := #[26, 26] }, type := 26, pos := "ref.go:59", after := #[{ on := 5, ground := Ground.data }, { on := 10, ground := Ground.data }], guard := none }) rfl (fun K hK => ?_) AllReadyH.nil
                rw [if_pos (by rfl)]
                have z0 := Ex.size kx
                have oi := OQ.out.2.2.1 KX _ _ HQ.out HCC.out
                refine wp_append_rda (enc := encN) _ (.tmp 53) (.tmp 58) 26 rfl w1.heap.size 52 (.agg #[.int .i64 0, .string ByteArray.empty, .int .u32 0]) 3 32 Tryd.underlying26 Tryd.infoN rfl (by omega) (by omega) _ c oi rfl _ _ 1 1 [y] SX (fun h => by cases h) (fun _ => rfl) (by simp [encN, Value.oneCell']) rfl hcl (by omega) z0 ?_
                intro v8 w8 own8 ch0 ch1 hat
                rw [← HCY.out] at own8
                obtain ⟨a8, cap8, rfl, _, _, _, _⟩ := own8.rd (fun _ => rfl)
                obtain ⟨pc, pf, OQ2⟩ := OwnQ.put (q' := (a8, cy.length, cap8)) OQ.out HQ.out own8 ch0 hat
                replace kx : Ex w1 w8 := Chg.trans kx ch1
                replace OQ := Lib.hid OQ2
                clear OQ2 own8 ch0 ch1 hat oi z0 SX
                refine hK.out _ _ (trivial) (fun hHeld => ?_)
                clear hK K
                try simp only [Act.put, List.setIfInBounds_toArray, List.set_cons_zero, List.set_cons_succ]
                refine wpAnyH_take (i := 12) (oi := { dst := some 60, op := Op.indexAddr 86 (Operand.tmp 48) (Operand.tmp 49), type := 0, pos := "ref.go:59", after := #[{ on := 0, ground := Ground.data }, { on := 1, ground := Ground.data }, { on := 0, ground := Ground.phase }, { on := 1, ground := Ground.phase }, { on := 2, ground := Ground.phase }, { on := 3, ground := Ground.phase }, { on := 4, ground := Ground.phase }, { on := 5, ground := Ground.phase }, { on := 6, ground := Ground.phase }, { on := 7, ground := Ground.phase }, { on := 8, ground := Ground.phase }, { on := 9, ground := Ground.phase }, { on := 10, ground := Ground.phase }, { on := 11, ground := Ground.phase }], guard := none }) (v := ?_) rfl (by kernel_rfl) (by kernel_rfl) (by kernel_rfl) (fun _ _ _ h => h) (Or.inl ⟨by rfl, ?hyr4x12q132⟩) (by assumption) ?restr4x12q132
                case hyr4x12q132 => intro wq hSw; (go_simp); (try with_reducible rfl)
                try simp only [Act.put, List.setIfInBounds_toArray, List.set_cons_zero, List.set_cons_succ]
                refine wpAnyH_ready (rs := [13]) (by kernel_rfl) (by simp) ?_
                refine AllReadyH.cons (o := { dst := none, op := Op.store 26 (Operand.tmp 60) (Operand.tmp 59), type := 0, pos := "ref.go:59", after := #[{ on := 12, ground := Ground.data }, { on := 11, ground := Ground.data }, { on := 11, ground := Ground.chain }, { on := 0, ground := Ground.phase }, { on := 1, ground := Ground.phase }, { on := 2, ground := Ground.phase }, { on := 3, ground := Ground.phase }, { on := 4, ground := Ground.phase }, { on := 5, ground := Ground.phase }, { on := 6, ground := Ground.phase }, { on := 7, ground := Ground.phase }, { on := 8, ground := Ground.phase }, { on := 9, ground := Ground.phase }, { on := 10, ground := Ground.phase }, { on := 11, ground := Ground.phase }], guard := none }) rfl (fun K hK => ?_) AllReadyH.nil
                go_simp
                clear pc pf
                refine hK.out _ _ (trivial) (fun hHeld => ?_)
                clear hK K
                try simp only [Act.put, List.setIfInBounds_toArray, List.set_cons_zero, List.set_cons_succ]
                refine wpAnyH_done (by kernel_rfl) ?_ _
                replace kx := kx.setNew (p := ⟨g4, KX, none⟩) (Hdr.val (a8, cy.length, cap8)) hg4
                obtain ⟨wz, hwz⟩ : ∃ wz, wz = w8.setCell ⟨g4, KX, none⟩ (.slice a8 cy.length cap8) := ⟨_, rfl⟩
                have OQ := Lib.hid (OwnQ.cast OQ.out (w' := wz) hwz)
                have kx : Ex w1 wz := by rw [hwz]; exact kx
                rw [← hwz]
                clear hwz SXF hHeld hn5 hcl
                go_wp2_with fail
                exact ⟨⟨k + 1, _, by omega, by go_num, by rw [FS.out, FIN.out]; exact OQ.out, kx⟩, by simp [intOf]; omega⟩
              refine AllReadyH.cons (o := { dst := some 58, op := Op.buildSlice 26 1 #[(0, Operand.tmp 57)], type := 26, pos := "ref.go:59", after := #[{ on := 9, ground := Ground.data }], guard := none }) rfl (fun K hK => ?_) AllReadyH.nil
              · go_simp
                have SX := SXF wa.drew
                have e7 := Ex.new wa.drew (.cells #[.int .i64 y.id, .string y.key, .int .u32 y.word] 52)
                replace OQ := Lib.hid (OQ.out.nx e7)
                replace kx := kx.nx e7
                clear e7
                refine hK.out _ _ (trivial) (fun hHeld => ?_)
                clear hK K
                try simp only [Act.put, List.setIfInBounds_toArray, List.set_cons_zero, List.set_cons_succ]
                refine wpAnyH_ready (rs := [5]) (by kernel_rfl) (by simp) ?_
                refine AllReadyH.cons (o := { dst := some 53, op := Op.load 26 (Operand.tmp 52), type := 26, pos := "ref.go:59", after := #[{ on := 4, ground := Ground.data }], guard := none }) rfl (fun K hK => ?_) AllReadyH.nil
                have cc := (own_cellH OQ.out.1 HQ.out).1
                simp only [Hdr.val] at cc
                (try have cc2 : (wa.alloc (.cells #[.int .i64 y.id, .string y.key, .int .u32 y.word] 52)).cell? ⟨g4, KX, none⟩ = some (.slice qa qn qc) := cc)
                go_simp
                clear cc
                (try clear cc2)
                refine hK.out _ _ (trivial) (fun hHeld => ?_)
                clear hK K
                try simp only [Act.put, List.setIfInBounds_toArray, List.set_cons_zero, List.set_cons_succ]
                refine wpAnyH_ready (rs := [11]) (by kernel_rfl) (by simp) ?_
                refine AllReadyH.cons (o := { dst := some 59, op := Op.call { callee := Callee.builtin Builtin.append, args := #[Operand.tmp 53, Operand.tmp 58], argTypes := #[26, 26] }, type := 26, pos := "ref.go:59", after := #[{ on := 5, ground := Ground.data }, { on := 10, ground := Ground.data }], guard := none }) rfl (fun K hK => ?_) AllReadyH.nil
                rw [if_pos (by rfl)]
                have z0 := Ex.size kx
                have oi := OQ.out.2.2.1 KX _ _ HQ.out HCC.out
                refine wp_append_rda (enc := encN) _ (.tmp 53) (.tmp 58) 26 rfl w1.heap.size 52 (.agg #[.int .i64 0, .string ByteArray.empty, .int .u32 0]) 3 32 Tryd.underlying26 Tryd.infoN rfl (by omega) (by omega) _ c oi rfl _ _ 1 1 [y] SX (fun h => by cases h) (fun _ => rfl) (by simp [encN, Value.oneCell']) rfl hcl (by omega) z0 ?_
                intro v8 w8 own8 ch0 ch1 hat
                rw [← HCY.out] at own8
                obtain ⟨a8, cap8, rfl, _, _, _, _⟩ := own8.rd (fun _ => rfl)
                obtain ⟨pc, pf, OQ2⟩ := OwnQ.put (q' := (a8, cy.length, cap8)) OQ.out HQ.out own8 ch0 hat
                replace kx : Ex w1 w8 := Chg.trans kx ch1
                replace OQ := Lib.hid OQ2
                clear OQ2 own8 ch0 ch1 hat oi z0 SX
                refine hK.out _ _ (trivial) (fun hHeld => ?_)
                clear hK K
                try simp only [Act.put, List.setIfInBounds_toArray, List.set_cons_zero, List.set_cons_succ]
                refine wpAnyH_take (i := 12) (oi := { dst := some 60, op := Op.indexAddr 86 (Operand.tmp 48) (Operand.tmp 49), type := 0, pos := "ref.go:59", after := #[{ on := 0, ground := Ground.data }, { on := 1, ground := Ground.data }, { on := 0, ground := Ground.phase }, { on := 1, ground := Ground.phase }, { on := 2, ground := Ground.phase }, { on := 3, ground := Ground.phase }, { on := 4, ground := Ground.phase }, { on := 5, ground := Ground.phase }, { on := 6, ground := Ground.phase }, { on := 7, ground := Ground.phase }, { on := 8, ground := Ground.phase }, { on := 9, ground := Ground.phase }, { on := 10, ground := Ground.phase }, { on := 11, ground := Ground.phase }], guard := none }) (v := ?_) rfl (by kernel_rfl) (by kernel_rfl) (by kernel_rfl) (fun _ _ _ h => h) (Or.inl ⟨by rfl, ?hyr4x12q181⟩) (by assumption) ?restr4x12q181
                case hyr4x12q181 => intro wq hSw; (go_simp); (try with_reducible rfl)
                try simp only [Act.put, List.setIfInBounds_toArray, List.set_cons_zero, List.set_cons_succ]
                refine wpAnyH_ready (rs := [13]) (by kernel_rfl) (by simp) ?_
                refine AllReadyH.cons (o := { dst := none, op := Op.store 26 (Operand.tmp 60) (Operand.tmp 59), type := 0, pos := "ref.go:59", after := #[{ on := 12, ground := Ground.data }, { on := 11, ground := Ground.data }, { on := 11, ground := Ground.chain }, { on := 0, ground := Ground.phase }, { on := 1, ground := Ground.phase }, { on := 2, ground := Ground.phase }, { on := 3, ground := Ground.phase }, { on := 4, ground := Ground.phase }, { on := 5, ground := Ground.phase }, { on := 6, ground := Ground.phase }, { on := 7, ground := Ground.phase }, { on := 8, ground := Ground.phase }, { on := 9, ground := Ground.phase }, { on := 10, ground := Ground.phase }, { on := 11, ground := Ground.phase }], guard := none }) rfl (fun K hK => ?_) AllReadyH.nil
                go_simp
                clear pc pf
                refine hK.out _ _ (trivial) (fun hHeld => ?_)
                clear hK K
                try simp only [Act.put, List.setIfInBounds_toArray, List.set_cons_zero, List.set_cons_succ]
                refine wpAnyH_done (by kernel_rfl) ?_ _
                replace kx := kx.setNew (p := ⟨g4, KX, none⟩) (Hdr.val (a8, cy.length, cap8)) hg4
                obtain ⟨wz, hwz⟩ : ∃ wz, wz = w8.setCell ⟨g4, KX, none⟩ (.slice a8 cy.length cap8) := ⟨_, rfl⟩
                have OQ := Lib.hid (OwnQ.cast OQ.out (w' := wz) hwz)
                have kx : Ex w1 wz := by rw [hwz]; exact kx
                rw [← hwz]
                clear hwz SXF hHeld hn5 hcl
                go_wp2_with fail
                exact ⟨⟨k + 1, _, by omega, by go_num, by rw [FS.out, FIN.out]; exact OQ.out, kx⟩, by simp [intOf]; omega⟩
          | false =>
            have HNS : Hid (sameN (headW c) y.word h = false) := Lib.hid (by rw [hHW]; exact hsm)
            rw [hsm] at SR
            have SR := Lib.hid SR
            clear hsm hHW
            go_wp2_with fail
            refine wp_region_held_drew (S := Ex wi.drew) (by kernel_rfl) (Ex.refl _) (fun hHeld => ?_)
            refine wpAnyH_take (i := 0) (oi := { dst := some 18, op := Op.move (Operand.tmp 7), type := 3, pos := "ref.go:53", after := #[], guard := none }) (v := ?_) rfl (by kernel_rfl) (by kernel_rfl) (by kernel_rfl) (fun _ _ _ h => h) (Or.inl ⟨by rfl, ?hyr5x0⟩) (by assumption) ?restr5x0
            case hyr5x0 => intro wq hSw; (go_simp); (try with_reducible rfl)
            try simp only [Act.put, List.setIfInBounds_toArray, List.set_cons_zero, List.set_cons_succ]
            refine wpAnyH_take (i := 1) (oi := { dst := some 19, op := Op.move (Operand.tmp 5), type := 86, pos := "ref.go:53", after := #[], guard := none }) (v := ?_) rfl (by kernel_rfl) (by kernel_rfl) (by kernel_rfl) (fun _ _ _ h => h) (Or.inl ⟨by rfl, ?hyr5x1⟩) (by assumption) ?restr5x1
            case hyr5x1 => intro wq hSw; (go_simp); (try with_reducible rfl)
            try simp only [Act.put, List.setIfInBounds_toArray, List.set_cons_zero, List.set_cons_succ]
            refine wpAnyH_take (i := 2) (oi := { dst := some 20, op := Op.call { callee := Callee.builtin Builtin.len, args := #[Operand.tmp 19], argTypes := #[86] }, type := 3, pos := "ref.go:53", after := #[{ on := 1, ground := Ground.data }], guard := none }) (v := ?_) rfl (by kernel_rfl) (by kernel_rfl) (by kernel_rfl) (fun _ _ _ h => h) (Or.inl ⟨by rfl, ?hyr5x2⟩) (by assumption) ?restr5x2
            case hyr5x2 => intro wq hSw; (go_simp); (try with_reducible rfl)
            try simp only [Act.put, List.setIfInBounds_toArray, List.set_cons_zero, List.set_cons_succ]
            refine wpAnyH_take (i := 3) (oi := { dst := some 21, op := Op.binOp BinOp.lss 3 (Operand.tmp 18) (Operand.tmp 20) 3, type := 4, pos := "ref.go:53", after := #[{ on := 0, ground := Ground.data }, { on := 2, ground := Ground.data }], guard := none }) (v := ?_) rfl (by kernel_rfl) (by kernel_rfl) (by kernel_rfl) (fun _ _ _ h => h) (Or.inl ⟨by rfl, ?hyr5x3⟩) (by assumption) ?restr5x3
            case hyr5x3 => intro wq hSw; (go_simp); (try with_reducible rfl)
            try simp only [Act.put, List.setIfInBounds_toArray, List.set_cons_zero, List.set_cons_succ]
            refine wpAnyH_take (i := 4) (oi := { dst := some 22, op := Op.move (Operand.tmp 21), type := 4, pos := "ref.go:53", after := #[{ on := 3, ground := Ground.data }], guard := none }) (v := ?_) rfl (by kernel_rfl) (by kernel_rfl) (by kernel_rfl) (fun _ _ _ h => h) (Or.inl ⟨by rfl, ?hyr5x4⟩) (by assumption) ?restr5x4
            case hyr5x4 => intro wq hSw; (go_simp); (try with_reducible rfl)
            try simp only [Act.put, List.setIfInBounds_toArray, List.set_cons_zero, List.set_cons_succ]
            refine wpAnyH_take (i := 5) (oi := { dst := some 23, op := Op.move (Operand.tmp 5), type := 86, pos := "ref.go:53", after := #[{ on := 4, ground := Ground.guard }], guard := some (4, true) }) (v := ?_) rfl (by kernel_rfl) (by kernel_rfl) (by kernel_rfl) (fun _ _ _ h => h) (Or.inl ⟨by rfl, ?hyr5x5⟩) (by assumption) ?restr5x5
            case hyr5x5 => intro wq hSw; (go_simp); (try with_reducible rfl)
            try simp only [Act.put, List.setIfInBounds_toArray, List.set_cons_zero, List.set_cons_succ]
            refine wpAnyH_take (i := 6) (oi := { dst := some 24, op := Op.move (Operand.tmp 7), type := 3, pos := "ref.go:53", after := #[{ on := 4, ground := Ground.guard }], guard := some (4, true) }) (v := ?_) rfl (by kernel_rfl) (by kernel_rfl) (by kernel_rfl) (fun _ _ _ h => h) (Or.inl ⟨by rfl, ?hyr5x6⟩) (by assumption) ?restr5x6
            case hyr5x6 => intro wq hSw; (go_simp); (try with_reducible rfl)
            try simp only [Act.put, List.setIfInBounds_toArray, List.set_cons_zero, List.set_cons_succ]
            refine wpAnyH_take (i := 7) (oi := { dst := some 25, op := Op.indexAddr 86 (Operand.tmp 23) (Operand.tmp 24), type := 0, pos := "ref.go:53", after := #[{ on := 5, ground := Ground.data }, { on := 6, ground := Ground.data }, { on := 4, ground := Ground.guard }], guard := some (4, true) }) (v := ?_) rfl (by kernel_rfl) (by kernel_rfl) (by kernel_rfl) (fun _ _ _ h => h) (Or.inl ⟨by rfl, ?hyr5x7⟩) (by assumption) ?restr5x7
            case hyr5x7 => intro wq hSw; (go_simp); (try with_reducible rfl)
            try simp only [Act.put, List.setIfInBounds_toArray, List.set_cons_zero, List.set_cons_succ]
            refine wpAnyH_take (i := 8) (oi := { dst := some 26, op := Op.load 26 (Operand.tmp 25), type := 26, pos := "ref.go:53", after := #[{ on := 7, ground := Ground.data }, { on := 4, ground := Ground.guard }], guard := some (4, true) }) (v := ?_) rfl (by kernel_rfl) (by kernel_rfl) (by kernel_rfl) (fun _ _ _ h => h) (Or.inl ⟨by rfl, ?hyr5x8⟩) (by assumption) ?restr5x8
            case hyr5x8 => intro wq hSw; (have cq := Chg.cellv hSw hc2 hx2; go_simp); (try with_reducible rfl)
            try simp only [Act.put, List.setIfInBounds_toArray, List.set_cons_zero, List.set_cons_succ]
            refine wpAnyH_take (i := 9) (oi := { dst := some 27, op := Op.indexAddr 26 (Operand.tmp 26) (Operand.const (Value.int IntKind.i64 0)), type := 0, pos := "ref.go:53", after := #[{ on := 8, ground := Ground.data }, { on := 4, ground := Ground.guard }], guard := some (4, true) }) (v := ?_) rfl (by kernel_rfl) (by kernel_rfl) (by kernel_rfl) (fun _ _ _ h => h) (Or.inl ⟨by rfl, ?hyr5x9⟩) (by assumption) ?restr5x9
            case hyr5x9 => intro wq hSw; (go_simp); (try with_reducible rfl)
            try simp only [Act.put, List.setIfInBounds_toArray, List.set_cons_zero, List.set_cons_succ]
            refine wpAnyH_take (i := 10) (oi := { dst := some 28, op := Op.fieldAddr 52 (Operand.tmp 27) 2, type := 0, pos := "ref.go:53", after := #[{ on := 9, ground := Ground.data }, { on := 4, ground := Ground.guard }], guard := some (4, true) }) (v := ?_) rfl (by kernel_rfl) (by kernel_rfl) (by kernel_rfl) (fun _ _ _ h => h) (Or.inl ⟨by rfl, ?hyr5x10⟩) (by assumption) ?restr5x10
            case hyr5x10 => intro wq hSw; (go_simp); (try with_reducible rfl)
            try simp only [Act.put, List.setIfInBounds_toArray, List.set_cons_zero, List.set_cons_succ]
            refine wpAnyH_take (i := 11) (oi := { dst := some 29, op := Op.load 49 (Operand.tmp 28), type := 49, pos := "ref.go:53", after := #[{ on := 10, ground := Ground.data }, { on := 4, ground := Ground.guard }], guard := some (4, true) }) (v := ?_) rfl (by kernel_rfl) (by kernel_rfl) (by kernel_rfl) (fun _ _ _ h => h) (Or.inl ⟨by rfl, ?hyr5x11⟩) (by assumption) ?restr5x11
            case hyr5x11 => intro wq hSw; (have cq := Chg.cellv hSw f4 hx4; go_simp); (try with_reducible rfl)
            try simp only [Act.put, List.setIfInBounds_toArray, List.set_cons_zero, List.set_cons_succ]
            refine wpAnyH_take (i := 12) (oi := { dst := some 30, op := Op.move (Operand.tmp 0), type := 26, pos := "ref.go:53", after := #[{ on := 4, ground := Ground.guard }], guard := some (4, true) }) (v := ?_) rfl (by kernel_rfl) (by kernel_rfl) (by kernel_rfl) (fun _ _ _ h => h) (Or.inl ⟨by rfl, ?hyr5x12⟩) (by assumption) ?restr5x12
            case hyr5x12 => intro wq hSw; (go_simp); (try with_reducible rfl)
            try simp only [Act.put, List.setIfInBounds_toArray, List.set_cons_zero, List.set_cons_succ]
            refine wpAnyH_take (i := 13) (oi := { dst := some 31, op := Op.move (Operand.tmp 6), type := 3, pos := "ref.go:53", after := #[{ on := 4, ground := Ground.guard }], guard := some (4, true) }) (v := ?_) rfl (by kernel_rfl) (by kernel_rfl) (by kernel_rfl) (fun _ _ _ h => h) (Or.inl ⟨by rfl, ?hyr5x13⟩) (by assumption) ?restr5x13
            case hyr5x13 => intro wq hSw; (go_simp); (try with_reducible rfl)
            try simp only [Act.put, List.setIfInBounds_toArray, List.set_cons_zero, List.set_cons_succ]
            refine wpAnyH_take (i := 14) (oi := { dst := some 32, op := Op.indexAddr 26 (Operand.tmp 30) (Operand.tmp 31), type := 0, pos := "ref.go:53", after := #[{ on := 12, ground := Ground.data }, { on := 13, ground := Ground.data }, { on := 4, ground := Ground.guard }], guard := some (4, true) }) (v := ?_) rfl (by kernel_rfl) (by kernel_rfl) (by kernel_rfl) (fun _ _ _ h => h) (Or.inl ⟨by rfl, ?hyr5x14⟩) (by assumption) ?restr5x14
            case hyr5x14 => intro wq hSw; (go_simp); (try with_reducible rfl)
            try simp only [Act.put, List.setIfInBounds_toArray, List.set_cons_zero, List.set_cons_succ]
            refine wpAnyH_take (i := 15) (oi := { dst := some 33, op := Op.fieldAddr 52 (Operand.tmp 32) 2, type := 0, pos := "ref.go:53", after := #[{ on := 14, ground := Ground.data }, { on := 4, ground := Ground.guard }], guard := some (4, true) }) (v := ?_) rfl (by kernel_rfl) (by kernel_rfl) (by kernel_rfl) (fun _ _ _ h => h) (Or.inl ⟨by rfl, ?hyr5x15⟩) (by assumption) ?restr5x15
            case hyr5x15 => intro wq hSw; (go_simp); (try with_reducible rfl)
            try simp only [Act.put, List.setIfInBounds_toArray, List.set_cons_zero, List.set_cons_succ]
            refine wpAnyH_take (i := 16) (oi := { dst := some 34, op := Op.load 49 (Operand.tmp 33), type := 49, pos := "ref.go:53", after := #[{ on := 15, ground := Ground.data }, { on := 4, ground := Ground.guard }], guard := some (4, true) }) (v := ?_) rfl (by kernel_rfl) (by kernel_rfl) (by kernel_rfl) (fun _ _ _ h => h) (Or.inl ⟨by rfl, ?hyr5x16⟩) (by assumption) ?restr5x16
            case hyr5x16 => intro wq hSw; (have cq := Chg.cellv hSw f2 hx1'; go_simp); (try with_reducible rfl)
            try simp only [Act.put, List.setIfInBounds_toArray, List.set_cons_zero, List.set_cons_succ]
            refine wpAnyH_take (i := 17) (oi := { dst := some 35, op := Op.move (Operand.tmp 1), type := 3, pos := "ref.go:53", after := #[{ on := 4, ground := Ground.guard }], guard := some (4, true) }) (v := ?_) rfl (by kernel_rfl) (by kernel_rfl) (by kernel_rfl) (fun _ _ _ h => h) (Or.inl ⟨by rfl, ?hyr5x17⟩) (by assumption) ?restr5x17
            case hyr5x17 => intro wq hSw; (go_simp); (try with_reducible rfl)
            try simp only [Act.put, List.setIfInBounds_toArray, List.set_cons_zero, List.set_cons_succ]
            refine wpAnyH_ready (rs := [18]) (by kernel_rfl) (by simp) ?_
            refine AllReadyH.cons (o := { dst := some 36, op := Op.call { callee := Callee.value (Operand.func 48), args := #[Operand.tmp 29, Operand.tmp 34, Operand.tmp 35], argTypes := #[49, 49, 3] }, type := 4, pos := "ref.go:53", after := #[{ on := 11, ground := Ground.data }, { on := 16, ground := Ground.data }, { on := 17, ground := Ground.data }, { on := 4, ground := Ground.chain }, { on := 4, ground := Ground.guard }], guard := some (4, true) }) rfl (fun K hK => ?_) AllReadyH.nil
            go_simp
            refine (SR.out _).mono ?_
            rintro e v1 ⟨rfl, kk⟩
            refine hK.out _ _ kk (fun _ => ?_)
            clear hK K
            try simp only [Act.put, List.setIfInBounds_toArray, List.set_cons_zero, List.set_cons_succ]
            refine wpAnyH_switch (S' := Ex v1) (fun _ hSw => Ex.nx kk hSw) ?_
            clear hHeld
            have hHeld := Ex.refl v1
            refine wpAnyH_take (i := 19) (oi := { dst := some 37, op := Op.unOp UnOp.not 4 (Operand.tmp 36), type := 4, pos := "ref.go:53", after := #[{ on := 18, ground := Ground.data }, { on := 4, ground := Ground.guard }], guard := some (4, true) }) (v := ?_) rfl (by kernel_rfl) (by kernel_rfl) (by kernel_rfl) (fun _ _ _ h => h) (Or.inl ⟨by rfl, ?hyr5x19⟩) (by assumption) ?restr5x19
            case hyr5x19 => intro wq hSw; (go_simp); (try with_reducible rfl)
            try simp only [Act.put, List.setIfInBounds_toArray, List.set_cons_zero, List.set_cons_succ]
            refine wpAnyH_take (i := 20) (oi := { dst := some 38, op := Op.pick (Operand.tmp 22) (Operand.tmp 37) (Operand.const (Value.bool false)), type := 4, pos := "ref.go:53", after := #[{ on := 4, ground := Ground.data }, { on := 19, ground := Ground.data }], guard := none }) (v := ?_) rfl (by kernel_rfl) (by kernel_rfl) (by kernel_rfl) (fun _ _ _ h => h) (Or.inl ⟨by rfl, ?hyr5x20⟩) (by assumption) ?restr5x20
            case hyr5x20 => intro wq hSw; (go_simp); (try with_reducible rfl)
            try simp only [Act.put, List.setIfInBounds_toArray, List.set_cons_zero, List.set_cons_succ]
            refine wpAnyH_done (by kernel_rfl) ?_ _
            clear hc2 f4 f2 hx1' dj1 dj2
            go_wp2_with fail
            refine ⟨⟨KX + 1, by omega, by go_num, (KIX.out.nx (Ex.refl wi).drew).nx kk, fun j c' hj hc' => ?_⟩, by simp [intOf]; omega⟩
            rcases Nat.lt_or_ge j KX with h | h
            · exact HNO.out j c' h hc'
            · obtain rfl : j = KX := by omega
              rw [Option.some.inj (hc'.symm.trans HY2.out)]
              exact HNS.out
    · obtain rfl : k = n := by omega
      rw [List.take_of_length_le (by rw [HL.out]; exact Nat.le_refl _)] at OQ
      obtain ⟨a3, cap3, rfl, ll3, hc3, _, _⟩ := OQ.ll
      have LL3 := Lib.hid ll3
      clear OQ ll3 hk
      go_wp2_with fail
      go_ret
      exact ⟨a3, cap3, by rw [HF.out]; rfl, by rw [HF.out]; exact LL3.out, kx⟩
end Go.Proofs.YtjaemckdfoaopabDoor

/- Find, Through, Neighbours, Height of the reference. -/
namespace Go.Proofs.YtjaemckdfoaopabDoor
open Go.RowKit

def Nd.val (x : Nd) : Value := .agg #[.int .i64 x.id, .string x.key, .int .u32 x.word]
def Nd.zero : Nd := ⟨0, ⟨#[]⟩, 0⟩
theorem bytesLess_total : ∀ x y : List UInt8, Op.bytesLess x y = false → Op.bytesLess y x = false → x = y
  | [], [], _, _ => rfl
  | [], b :: y, h, _ => by simp [Op.bytesLess] at h
  | a :: x, [], _, h => by simp [Op.bytesLess] at h
  | a :: x, b :: y, h1, h2 => by
    simp only [Op.bytesLess, Bool.or_eq_false_iff, Bool.and_eq_false_iff, decide_eq_false_iff_not, beq_eq_false_iff_ne] at h1 h2
    have hab : a = b := by
      rcases UInt8.lt_or_le a b with h | h
      · exact absurd h h1.1
      · rcases UInt8.lt_or_eq_of_le h with h | h
        · exact absurd h h2.1
        · exact h.symm
    subst hab
    rw [bytesLess_total x y (h1.2.resolve_left (by simp)) (h2.2.resolve_left (by simp))]
theorem insN_mem (out : List Nd) (x y : Nd) : y ∈ insN out x ↔ y ∈ out ∨ y = x := by
  unfold insN
  rw [List.mem_append, List.mem_cons]
  constructor
  · rintro (h | h | h)
    · exact .inl (List.mem_of_mem_take h)
    · exact .inr h
    · exact .inl (List.mem_of_mem_drop h)
  · rintro (h | h)
    · have : y ∈ out.take (atN out x out.length) ++ out.drop (atN out x out.length) := by rw [List.take_append_drop]; exact h
      rcases List.mem_append.1 this with h | h
      · exact .inl h
      · exact .inr (.inr h)
    · exact .inr (.inl h)
theorem sortN_mem (l : List Nd) (y : Nd) : y ∈ sortN l ↔ y ∈ l := by
  have : ∀ (l out : List Nd), y ∈ l.foldl insN out ↔ y ∈ out ∨ y ∈ l := by
    intro l
    induction l with
    | nil => intro out; simp
    | cons x r ih => intro out; rw [List.foldl_cons, ih, insN_mem, List.mem_cons, or_assoc]
  have := this l []
  simpa [sortN] using this

/-- the first node with a number -/
def findN (l : List Nd) (id : Int) : Nd × Bool := match l.find? (fun x => x.id == id) with | some x => (x, true) | none => (Nd.zero, false)
theorem findN_of {l : List Nd} {id : Int} {k : Nat} {y : Nd} (hy : l[k]? = some y) (he : y.id = id) (hno : ∀ j z, j < k → l[j]? = some z → z.id ≠ id) : findN l id = (y, true) := by
  have hk := (List.getElem?_eq_some_iff.1 hy).1
  have : l.find? (fun x => x.id == id) = some y := by
    rw [List.find?_eq_some_iff_getElem]
    refine ⟨by simpa using he, k, hk, (List.getElem?_eq_some_iff.1 hy).2, fun j hj => ?_⟩
    have := hno j l[j] hj (by simp)
    simpa using this
  unfold findN
  rw [this]
theorem findN_none {l : List Nd} {id : Int} (hno : ∀ j z, j < l.length → l[j]? = some z → z.id ≠ id) : findN l id = (Nd.zero, false) := by
  have : l.find? (fun x => x.id == id) = none := by
    rw [List.find?_eq_none]
    intro x hx
    obtain ⟨j, hj, he⟩ := List.mem_iff_getElem.1 hx
    have := hno j x hj (by rw [← he]; simp)
    simpa using this
  unfold findN
  rw [this]
def FdRel (l : List Nd) (id : Int) (w : World) (i : Value) (wr : World) : Prop :=
  ∃ k : Nat, k ≤ l.length ∧ i = .int .i64 k ∧ Ex w wr ∧ ∀ j z, j < k → l[j]? = some z → z.id ≠ id

set_option maxHeartbeats 1000000 in
theorem find_r (a : Option Addr) (n cp : Nat) (l : List Nd) (id : Int) (w : World) (h : Sl 3 encN w a n l) (hn : n ≤ 1000000) :
    Calls Tryd.prog 46 #[.slice a n cp, .int .i64 id] w fun e w' => e = .returned (.tuple #[(findN l id).1.val, .bool (findN l id).2]) ∧ Ex w w' := by
  have HL := Lib.hid h.len
  have hs := Lib.hid h
  have k1 := Ex.new w (.cells #[.int .i64 0, .string ⟨#[]⟩, .int .u32 0] 52)
  have B1 := Blk.new w [.int .i64 0, .string ⟨#[]⟩, .int .u32 0] 52
  obtain ⟨w1, hw1⟩ : ∃ w1, w1 = w.alloc (.cells #[.int .i64 0, .string ⟨#[]⟩, .int .u32 0] 52) := ⟨_, rfl⟩
  obtain ⟨g, hg⟩ : ∃ g, g = w.heap.size := ⟨_, rfl⟩
  have B1 : Blk w1 g [.int .i64 0, .string ⟨#[]⟩, .int .u32 0] 52 := by rw [hw1, hg]; exact B1
  rw [← hw1] at k1
  have hgn : w.heap.size ≤ g := by omega
  have HW1 := Lib.hid hw1
  have HG := Lib.hid hg
  clear h hw1 hg
  go_enter Tryd.func46, Tryd.ntmps46
  go_upto_region 1 with fail
  rw [← HG.out, ← HW1.out]
  go_wp2_with fail
  go_loopw [6] (fun i wr => FdRel l id w1 i wr) (fun i _ => n - (intOf i).toNat)
  case atStart => exact ⟨0, by omega, rfl, Ex.refl _, by intro _ _ h; omega⟩
  case round =>
    obtain ⟨k, hk, rfl, kw, hno⟩ := hrel
    have HNO := Lib.hid hno
    rw [HL.out] at hk
    clear hno
    obtain ⟨wo, rfl⟩ : ∃ wo : World, wo = wr := ⟨_, rfl⟩
    have B := B1.nx kw
    have q0 := B.cell 0 _ rfl
    have q1 := B.cell 1 _ rfl
    have q2 := B.cell 2 _ rfl
    have z0 := B.free 0
    have z1 := B.free 1
    have z2 := B.free 2
    by_cases hlt : k < n
    · obtain ⟨x1, o1, y, rfl, hx1, hy, hc1⟩ := ((hs.out.nx k1).nx kw).at hlt
      have e0 : wo.cell? ⟨x1, o1 + k * 3, none⟩ = some (.int .i64 y.id) := hc1 0 _ rfl
      have e1 : wo.cell? ⟨x1, o1 + k * 3 + 1, none⟩ = some (.string y.key) := hc1 1 _ rfl
      have e2 : wo.cell? ⟨x1, o1 + k * 3 + 1 + 1, none⟩ = some (.int .u32 y.word) := by simpa [Nat.add_assoc] using hc1 2 _ rfl
      have HY := Lib.hid hy
      have BO := Lib.hid B
      clear hy hc1 B B1
      by_cases hid : y.id = id
      · have HF : Hid (findN l id = (y, true)) := Lib.hid (findN_of HY.out hid HNO.out)
        have d1 : (y.id == id) = true := by simpa using hid
        clear hid
        go_wp2_with fail
        refine bodyPost_ret (v := .tuple #[.agg #[.int .i64 y.id, .string y.key, .int .u32 y.word], .bool true]) (by simp [results, Tryd.results46, go_sem, *]) rfl ⟨by rw [HF.out]; rfl, ?_⟩
        exact (((k1.nx kw).setNew (p := ⟨g, 0, none⟩) _ hgn).setNew (p := ⟨g, 1, none⟩) _ hgn).setNew (p := ⟨g, 2, none⟩) _ hgn
      · have d1 : (y.id == id) = false := by simpa using hid
        have HID := Lib.hid hid
        clear hid q0 q1 q2 z0 z1 z2
        go_wp2_with fail
        refine ⟨⟨k + 1, by rw [HL.out]; omega, by go_num, kw, fun j z hj hz => ?_⟩, by simp [intOf]; omega⟩
        rcases Nat.lt_or_ge j k with h | h
        · exact HNO.out j z h hz
        · obtain rfl : j = k := by omega
          rw [Option.some.inj (hz.symm.trans HY.out)]
          exact HID.out
    · have HF : Hid (findN l id = (Nd.zero, false)) := Lib.hid (findN_none (fun j z hj hz => HNO.out j z (by have := HL.out; omega) hz))
      clear B1
      go_wp2_with fail
      refine bodyPost_ret (v := .tuple #[.agg #[.int .i64 0, .string ⟨#[]⟩, .int .u32 0], .bool false]) (by simp [results, Tryd.results46, go_sem, *]) rfl ⟨by rw [HF.out]; rfl, ?_⟩
      exact (((k1.nx kw).setNew (p := ⟨g, 0, none⟩) _ hgn).setNew (p := ⟨g, 1, none⟩) _ hgn).setNew (p := ⟨g, 2, none⟩) _ hgn

def lvlN (h : Int) : Bool := decide (0 ≤ h) && decide (h ≤ 16)
theorem level_r (h : Int) (w : World) : Calls Tryd.prog 36 #[.int .i64 h] w fun e w' => e = .returned (.bool (lvlN h)) ∧ w = w' := by
  go_enter Tryd.func36, Tryd.ntmps36
  by_cases h0 : 0 ≤ h
  · have HV : Hid (lvlN h = decide (h ≤ 16)) := Lib.hid (by unfold lvlN; simp [h0])
    go_wp2
    go_ret
    exact ⟨by rw [HV.out]; rfl, rfl⟩
  · have HV : Hid (lvlN h = false) := Lib.hid (by unfold lvlN; simp [h0])
    go_wp2
    go_ret
    exact ⟨by rw [HV.out]; rfl, rfl⟩

theorem sort_word {l : List Nd} (hw : ∀ x ∈ l, x.word < 4294967296) : ∀ x ∈ sortN l, x.word < 4294967296 := fun x hx => hw x ((sortN_mem l x).1 hx)
set_option maxHeartbeats 1000000 in
theorem classes6_r (a : Option Addr) (n cp : Nat) (l : List Nd) (h : Int) (w : World) (hs : Sl 3 encN w a n l) (hn : n ≤ 1000) (hw : ∀ x ∈ l, x.word < 4294967296) :
    Calls Tryd.prog 39 #[.slice a n cp, .int .i64 h] w (ClPost (classesN (sortN l) h) w) := by
  have HW := Lib.hid (sort_word hw)
  have HL := sortN_length l
  have hl := hs.len
  clear hw
  go_enter Tryd.func39, Tryd.ntmps39
  go_wp2_with fail
  (with_reducible refine (sort_r _ _ _ _ _ hs hn).mono ?_)
  rintro e w1 ⟨a1, n1, c1, rfl, r1, kk⟩
  have r1 : Slf 3 encN w w1 a1 n1 _ := r1
  have hn1 : n1 ≤ 1000 := by have := r1.len; omega
  replace kk : Ex w w1 := kk
  clear hs HL hl
  go_wp2_with fail
  (with_reducible refine (classes_r _ _ _ _ _ _ r1.sl hn1 HW.out).mono ?_)
  rintro e w2 ⟨a2, c2, rfl, C2, k2⟩
  clear r1
  go_wp2_with fail
  go_ret
  exact ⟨a2, c2, rfl, C2, kk.nx k2⟩

def heightN (l : List Nd) : Nat := if (checkN l == 0) = false ∨ l.length = 0 then 0 else ((List.range 16).find? fun h => !decide ((classesN (sortN l) (h : Nat)).length < l.length)).getD 16
theorem heightN_of {l : List Nd} {k : Nat} (hk : k < 16) (h1 : (checkN l == 0) = true) (h2 : l.length ≠ 0) (hk2 : ¬ (classesN (sortN l) (k : Nat)).length < l.length) (hno : ∀ j, j < k → (classesN (sortN l) (j : Nat)).length < l.length) : heightN l = k := by
  have : (List.range 16).find? (fun h => !decide ((classesN (sortN l) (h : Nat)).length < l.length)) = some k := by
    rw [List.find?_eq_some_iff_getElem]
    refine ⟨by simpa using hk2, k, by simpa using hk, by simp, fun j hj => ?_⟩
    have := hno j hj
    simpa using this
  unfold heightN
  rw [if_neg (by rw [h1]; simp [h2]), this]
  rfl
theorem heightN_top {l : List Nd} (h1 : (checkN l == 0) = true) (h2 : l.length ≠ 0) (hno : ∀ j, j < 16 → (classesN (sortN l) (j : Nat)).length < l.length) : heightN l = 16 := by
  have : (List.range 16).find? (fun h => !decide ((classesN (sortN l) (h : Nat)).length < l.length)) = none := by
    rw [List.find?_eq_none]
    intro j hj
    have := hno j (by simpa using hj)
    simpa using this
  unfold heightN
  rw [if_neg (by rw [h1]; simp [h2]), this]
  rfl
def HtRel (l : List Nd) (w : World) (i : Value) (wr : World) : Prop := ∃ k : Nat, k ≤ 16 ∧ i = .int .i64 k ∧ Ex w wr ∧ ∀ j, j < k → (classesN (sortN l) (j : Nat)).length < l.length
set_option maxHeartbeats 1000000 in
theorem height_r (a : Option Addr) (n cp : Nat) (l : List Nd) (w : World) (hs : Sl 3 encN w a n l) (hn : n ≤ 1000) (hw : ∀ x ∈ l, x.word < 4294967296) :
    Calls Tryd.prog 23 #[.slice a n cp] w fun e w' => e = .returned (.int .i64 (heightN l)) ∧ Ex w w' := by
  have HW := Lib.hid hw
  have HL := Lib.hid hs.len
  clear hw
  go_enter Tryd.func23, Tryd.ntmps23
  go_wp2_with fail
  (with_reducible refine (is_r _ _ _ _ _ hs (by omega)).mono ?_)
  rintro e w1 ⟨rfl, k1⟩
  have S1 := hs.nx k1
  clear hs
  cases hc : (checkN l == 0) with
  | false =>
    have HH : Hid (heightN l = 0) := Lib.hid (by unfold heightN; rw [if_pos (.inl hc)])
    clear hc S1
    go_wp2_with fail
    go_ret
    exact ⟨by rw [HH.out]; rfl, k1⟩
  | true =>
    have HC := Lib.hid hc
    clear hc
    by_cases hn0 : n = 0
    · have HH : Hid (heightN l = 0) := Lib.hid (by unfold heightN; rw [if_pos (.inr (by rw [HL.out]; exact hn0))])
      have d0 : ((n : Int) == 0) = true := by simp; omega
      clear S1
      go_wp2_with fail
      go_ret
      exact ⟨by rw [HH.out]; rfl, k1⟩
    · have d0 : ((n : Int) == 0) = false := by simp; omega
      have HN : Hid (l.length ≠ 0) := Lib.hid (by rw [HL.out]; exact hn0)
      have S1 := Lib.hid S1
      clear hn0
      go_wp2_with fail
      go_loopw [3] (fun i wr => HtRel l w1 i wr) (fun i _ => 16 - (intOf i).toNat)
      case atStart => exact ⟨0, by omega, rfl, Ex.refl _, by intro _ h; omega⟩
      case round =>
        obtain ⟨k, hk, rfl, kw, hno⟩ := hrel
        have HNO := Lib.hid hno
        obtain ⟨wo, rfl⟩ : ∃ wo : World, wo = wr := ⟨_, rfl⟩
        clear hno
        by_cases hlt : k < 16
        · have SO := S1.out.nx kw
          go_wp2_with fail
          (with_reducible refine (classes6_r _ _ _ _ _ _ SO hn HW.out).mono ?_)
          rintro e w2 ⟨a2, c2, rfl, C2, k2⟩
          replace kw := kw.nx k2
          have CK := Lib.hid (rfl : classesN (sortN l) (k : Int) = classesN (sortN l) (k : Int))
          clear SO C2
          by_cases hm : (classesN (sortN l) (k : Int)).length < l.length
          · have HM := Lib.hid hm
            have dm : ((classesN (sortN l) (k : Int)).length : Int) < (n : Int) := by rw [← HL.out]; omega
            clear hm
            go_wp2_with fail
            refine ⟨⟨k + 1, by omega, by go_num, kw, fun j hj => ?_⟩, by simp [intOf]; omega⟩
            rcases Nat.lt_or_ge j k with h | h
            · exact HNO.out j h
            · obtain rfl : j = k := by omega
              exact HM.out
          · have HH : Hid (heightN l = k) := Lib.hid (heightN_of hlt HC.out HN.out hm HNO.out)
            have dm : ¬ ((classesN (sortN l) (k : Int)).length : Int) < (n : Int) := by rw [← HL.out]; omega
            clear hm
            go_wp2_with fail
            go_ret
            exact ⟨by rw [HH.out]; rfl, k1.nx kw⟩
        · obtain rfl : k = 16 := by omega
          have HH : Hid (heightN l = 16) := Lib.hid (heightN_top HC.out HN.out HNO.out)
          go_wp2_with fail
          go_ret
          exact ⟨by rw [HH.out]; rfl, k1.nx kw⟩
end Go.Proofs.YtjaemckdfoaopabDoor

/- Through and Neighbours of the reference. -/
namespace Go.Proofs.YtjaemckdfoaopabDoor
open Go.RowKit

def idxI (g : List Nd) (id : Int) : Nat := g.findIdx fun x => x.id == id
theorem idxI_of {g : List Nd} {id : Int} {k : Nat} {y : Nd} (hy : g[k]? = some y) (he : y.id = id) (hno : ∀ j z, j < k → g[j]? = some z → z.id ≠ id) : idxI g id = k := by
  have hk := (List.getElem?_eq_some_iff.1 hy).1
  have hv := (List.getElem?_eq_some_iff.1 hy).2
  rw [idxI, List.findIdx_eq hk]
  refine ⟨by rw [hv]; simpa using he, fun j hj => ?_⟩
  have := hno j _ hj (List.getElem?_eq_getElem (by omega))
  simpa using this
theorem idxI_none {g : List Nd} {id : Int} (hno : ∀ j z, j < g.length → g[j]? = some z → z.id ≠ id) : idxI g id = g.length := by
  rw [idxI, List.findIdx_eq_length]
  intro x hx
  obtain ⟨j, hj, he⟩ := List.mem_iff_getElem.1 hx
  have := hno j x hj (by rw [← he]; simp)
  simpa using this
/-- the list of a level through a node, the node's place in it -/
def thrG (l : List Nd) (id : Int) (h : Int) : List Nd := groupN (sortN l) h (findN l id).1.word
def throughN (l : List Nd) (id : Int) (h : Int) : List Nd × Nat × Bool :=
  if (findN l id).2 = true ∧ (checkN l == 0) = true ∧ lvlN h = true ∧ idxI (thrG l id h) id < (thrG l id h).length then (thrG l id h, idxI (thrG l id h) id, true) else ([], 0, false)
def ThPost (r : List Nd × Nat × Bool) (w : World) (e : Ending) (w' : World) : Prop :=
  ∃ (a : Option Addr) (cp : Nat), e = .returned (.tuple #[.slice a r.1.length cp, .int .i64 r.2.1, .bool r.2.2]) ∧ Sl 3 encN w' a r.1.length r.1 ∧ Ex w w'
theorem thPost_none {l : List Nd} {id h : Int} {w w' : World} (hne : throughN l id h = ([], 0, false)) (k : Ex w w') : ThPost (throughN l id h) w (.returned (.tuple #[.slice none 0 0, .int .i64 0, .bool false])) w' := by
  rw [hne]
  exact ⟨none, 0, rfl, Sl.nil _ _ _ _, k⟩
def TgRel (g : List Nd) (id : Int) (w : World) (i : Value) (wr : World) : Prop :=
  ∃ k : Nat, k ≤ g.length ∧ i = .int .i64 k ∧ Ex w wr ∧ ∀ j z, j < k → g[j]? = some z → z.id ≠ id
theorem findN_word {l : List Nd} (hw : ∀ x ∈ l, x.word < 4294967296) (id : Int) : (findN l id).1.word < 4294967296 := by
  unfold findN
  split
  · rename_i x hx
    exact hw x (List.mem_of_find?_eq_some hx)
  · show 0 < _; omega

set_option maxRecDepth 100000 in
set_option maxHeartbeats 2000000 in
theorem through_r (a : Option Addr) (n cp : Nat) (l : List Nd) (id h : Int) (w : World) (hs : Sl 3 encN w a n l) (hn : n ≤ 1000) (hw : ∀ x ∈ l, x.word < 4294967296) :
    Calls Tryd.prog 44 #[.slice a n cp, .int .i64 id, .int .i64 h] w (ThPost (throughN l id h) w) := by
  have HW := Lib.hid (sort_word hw)
  have HX := findN_word hw id
  have HL := Lib.hid hs.len
  clear hw
  go_enter Tryd.func44, Tryd.ntmps44
  go_wp2_with fail
  (with_reducible refine (find_r _ _ _ _ _ _ hs (by omega)).mono ?_)
  rintro e w1 ⟨rfl, k1⟩
  have S1 := hs.nx k1
  obtain ⟨F, hF⟩ : ∃ F, F = findN l id := ⟨_, rfl⟩
  have HF := Lib.hid hF
  rw [← hF] at HX ⊢
  obtain ⟨⟨xi, xk, xw⟩, ok⟩ := F
  have k2 := Ex.new w1 (.cells #[.int .i64 xi, .string xk, .int .u32 xw] 52)
  have B2 := Blk.new w1 [.int .i64 xi, .string xk, .int .u32 xw] 52
  obtain ⟨w2, hw2⟩ : ∃ w2, w2 = w1.alloc (.cells #[.int .i64 xi, .string xk, .int .u32 xw] 52) := ⟨_, rfl⟩
  obtain ⟨g2, hg2⟩ : ∃ g2, g2 = w1.heap.size := ⟨_, rfl⟩
  have B2 : Blk w2 g2 [.int .i64 xi, .string xk, .int .u32 xw] 52 := by rw [hw2, hg2]; exact B2
  rw [← hw2] at k2
  have HW2 := Lib.hid hw2
  have HG2 := Lib.hid hg2
  replace S1 := S1.nx k2
  replace k1 := k1.nx k2
  clear hF hw2 hg2 k2 hs
  simp only [Nd.val]
  go_upto_region 2 with fail
  rw [← HG2.out, ← HW2.out]
  cases ok with
  | false =>
    have HT : Hid (throughN l id h = ([], 0, false)) := Lib.hid (by unfold throughN; rw [if_neg]; rintro ⟨h1, _⟩; rw [← HF.out] at h1; cases h1)
    clear S1 B2
    go_wp2_with fail
    refine bodyPost_ret (v := .tuple #[.slice none 0 0, .int .i64 0, .bool false]) (by simp [results, Tryd.results44, go_sem, *]) rfl (thPost_none HT.out k1)
  | true =>
    go_wp2_with fail
    (with_reducible refine (is_r _ _ _ _ _ S1 (by omega)).mono ?_)
    rintro e w3 ⟨rfl, k3⟩
    replace S1 := S1.nx k3
    replace k1 := k1.nx k3
    replace B2 := B2.nx k3
    clear k3
    cases hc : (checkN l == 0) with
    | false =>
      have HT : Hid (throughN l id h = ([], 0, false)) := Lib.hid (by unfold throughN; rw [if_neg]; rintro ⟨_, h1, _⟩; rw [hc] at h1; cases h1)
      clear S1 B2 hc
      go_wp2_with fail
      refine bodyPost_ret (v := .tuple #[.slice none 0 0, .int .i64 0, .bool false]) (by simp [results, Tryd.results44, go_sem, *]) rfl (thPost_none HT.out k1)
    | true =>
      have HC := Lib.hid hc
      clear hc
      go_wp2_with fail
      refine (level_r h _).mono ?_
      rintro e w4 ⟨rfl, rfl⟩
      cases hl : lvlN h with
      | false =>
        have HT : Hid (throughN l id h = ([], 0, false)) := Lib.hid (by unfold throughN; rw [if_neg]; rintro ⟨_, _, h1, _⟩; rw [hl] at h1; cases h1)
        clear S1 B2 hl
        go_wp2_with fail
        refine bodyPost_ret (v := .tuple #[.slice none 0 0, .int .i64 0, .bool false]) (by simp [results, Tryd.results44, go_sem, *]) rfl (thPost_none HT.out k1)
      | true =>
        have HLV := Lib.hid hl
        clear hl
        go_wp2_with fail
        replace B2 := B2.nx (Ex.refl w3).drew
        refine wp_region_held_drew (S := Ex w3.drew) (by kernel_rfl) (Ex.refl _) (fun hHeld => ?_)
        refine wpAnyH_take (i := 0) (oi := { dst := some 31, op := Op.move (Operand.tmp 0), type := 26, pos := "ref.go:36", after := #[], guard := none }) (v := ?_) rfl (by kernel_rfl) (by kernel_rfl) (by kernel_rfl) (fun _ _ _ h => h) (Or.inl ⟨by rfl, ?hyr1x0⟩) (by assumption) ?restr1x0
        case hyr1x0 => intro wq hSw; (go_simp); (try with_reducible rfl)
        try simp only [Act.put, List.setIfInBounds_toArray, List.set_cons_zero, List.set_cons_succ]
        refine wpAnyH_take (i := 2) (oi := { dst := some 33, op := Op.move (Operand.tmp 2), type := 3, pos := "ref.go:36", after := #[], guard := none }) (v := ?_) rfl (by kernel_rfl) (by kernel_rfl) (by kernel_rfl) (fun _ _ _ h => h) (Or.inl ⟨by rfl, ?hyr1x2⟩) (by assumption) ?restr1x2
        case hyr1x2 => intro wq hSw; (go_simp); (try with_reducible rfl)
        try simp only [Act.put, List.setIfInBounds_toArray, List.set_cons_zero, List.set_cons_succ]
        refine wpAnyH_take (i := 3) (oi := { dst := some 34, op := Op.fieldAddr 52 (Operand.tmp 9) 2, type := 0, pos := "ref.go:36", after := #[], guard := none }) (v := ?_) rfl (by kernel_rfl) (by kernel_rfl) (by kernel_rfl) (fun _ _ _ h => h) (Or.inl ⟨by rfl, ?hyr1x3⟩) (by assumption) ?restr1x3
        case hyr1x3 => intro wq hSw; (go_simp); (try with_reducible rfl)
        try simp only [Act.put, List.setIfInBounds_toArray, List.set_cons_zero, List.set_cons_succ]
        refine wpAnyH_take (i := 4) (oi := { dst := some 35, op := Op.load 49 (Operand.tmp 34), type := 49, pos := "ref.go:36", after := #[{ on := 3, ground := Ground.data }], guard := none }) (v := ?_) rfl (by kernel_rfl) (by kernel_rfl) (by kernel_rfl) (fun _ _ _ h => h) (Or.inl ⟨by rfl, ?hyr1x4⟩) (by assumption) ?restr1x4
        case hyr1x4 => intro wq hSw; (have cq := (B2.nx hSw).cell 2 _ rfl; go_simp); (try with_reducible rfl)
        try simp only [Act.put, List.setIfInBounds_toArray, List.set_cons_zero, List.set_cons_succ]
        refine wpAnyH_ready (rs := [1]) (by kernel_rfl) (by simp) ?_
        refine AllReadyH.cons (o := { dst := some 32, op := Op.call { callee := Callee.value (Operand.func 37), args := #[Operand.tmp 31], argTypes := #[26] }, type := 26, pos := "ref.go:36", after := #[{ on := 0, ground := Ground.data }], guard := none }) rfl (fun K hK => ?_) AllReadyH.nil
        go_simp
        (with_reducible refine (sort_r _ _ _ _ _ (S1.nx (Ex.refl w3).drew) hn).mono ?_)
        rintro e w5 ⟨a5, n5, c5, rfl, r5, k5⟩
        have r5 : Slf 3 encN w3.drew w5 a5 n5 _ := r5
        replace k5 : Ex w3.drew w5 := k5
        replace B2 := B2.nx k5
        have hn5 : n5 ≤ 1000 := by have := r5.len; have := sortN_length l; have := HL.out; omega
        refine hK.out _ _ k5 (fun _ => ?_)
        clear hK K
        try simp only [Act.put, List.setIfInBounds_toArray, List.set_cons_zero, List.set_cons_succ]
        refine wpAnyH_switch (S' := Ex w5) (fun _ hSw => Ex.nx k5 hSw) ?_
        clear hHeld
        have hHeld := Ex.refl w5
        refine wpAnyH_ready (rs := [5]) (by kernel_rfl) (by simp) ?_
        refine AllReadyH.cons (o := { dst := some 36, op := Op.call { callee := Callee.value (Operand.func 47), args := #[Operand.tmp 32, Operand.tmp 33, Operand.tmp 35], argTypes := #[26, 3, 49] }, type := 26, pos := "ref.go:36", after := #[{ on := 1, ground := Ground.data }, { on := 2, ground := Ground.data }, { on := 4, ground := Ground.data }, { on := 1, ground := Ground.chain }], guard := none }) rfl (fun K hK => ?_) AllReadyH.nil
        go_simp
        refine (group_r _ _ _ _ h xw _ r5.sl (fun _ hk => hk) hn5 HW.out HX).mono ?_
        rintro e w6 ⟨a6, n6, c6, rfl, r6, k6⟩
        have r6 : Slf 3 encN w5 w6 a6 n6 _ := r6
        replace k6 : Ex w5 w6 := k6
        refine hK.out _ _ k6 (fun _ => ?_)
        clear hK K
        try simp only [Act.put, List.setIfInBounds_toArray, List.set_cons_zero, List.set_cons_succ]
        refine wpAnyH_switch (S' := Ex w6) (fun _ hSw => Ex.nx k6 hSw) ?_
        clear hHeld
        have hHeld := Ex.refl w6
        refine wpAnyH_take (i := 6) (oi := { dst := some 11, op := Op.assign (Operand.tmp 36), type := 26, pos := "ref.go:36", after := #[{ on := 5, ground := Ground.data }, { on := 5, ground := Ground.chain }, { on := 0, ground := Ground.phase }, { on := 1, ground := Ground.phase }, { on := 2, ground := Ground.phase }, { on := 3, ground := Ground.phase }, { on := 4, ground := Ground.phase }, { on := 5, ground := Ground.phase }], guard := none }) (v := ?_) rfl (by kernel_rfl) (by kernel_rfl) (by kernel_rfl) (fun _ _ _ h => h) (Or.inl ⟨by rfl, ?hyr1x6⟩) (by assumption) ?restr1x6
        case hyr1x6 => intro wq hSw; (go_simp); (try with_reducible rfl)
        try simp only [Act.put, List.setIfInBounds_toArray, List.set_cons_zero, List.set_cons_succ]
        refine wpAnyH_done (by kernel_rfl) ?_ _
        have k7 := k1.nx (((Ex.refl w3).drew.nx k5).nx k6)
        have HG : Hid (thrG l id h = groupN (sortN l) h xw) := Lib.hid (by unfold thrG; rw [← HF.out])
        have RG := r6.sl
        clear r5 r6 k5 k6 hn5 S1 B2 k1
        have RG := RG
        have hng := RG.len
        subst hng
        have hgl := groupN_length (sortN l) h xw
        rw [sortN_length] at hgl
        have hgl : (groupN (sortN l) h xw).length ≤ 1000 := by have := HL.out; omega
        generalize groupN (sortN l) h xw = G at RG HG hgl ⊢
        have RG := Lib.hid RG
        go_wp2_with fail
        go_loopw [12] (fun i wr => TgRel G id w6 i wr) (fun i _ => G.length - (intOf i).toNat)
        case atStart => exact ⟨0, by omega, rfl, Ex.refl _, by intro _ _ h; omega⟩
        case round =>
          obtain ⟨k, hk, rfl, kw, hno⟩ := hrel
          have HNO := Lib.hid hno
          obtain ⟨wo, rfl⟩ : ∃ wo : World, wo = wr := ⟨_, rfl⟩
          clear hno
          by_cases hlt : k < G.length
          · obtain ⟨x1, o1, y, rfl, hx1, hy, hc1⟩ := (RG.out.nx kw).at hlt
            have e0 : wo.cell? ⟨x1, o1 + k * 3, none⟩ = some (.int .i64 y.id) := hc1 0 _ rfl
            have HY := Lib.hid hy
            have hlt' := Lib.hid hlt
            clear hy hc1
            by_cases hid : y.id = id
            · have HI : idxI G id = k := idxI_of HY.out hid HNO.out
              have HT : Hid (throughN l id h = (G, k, true)) := Lib.hid (by unfold throughN; rw [HG.out, HI, if_pos]; exact ⟨by rw [← HF.out], HC.out, HLV.out, hlt⟩)
              have d1 : (y.id == id) = true := by simpa using hid
              clear hid HI
              go_wp2_with fail
              refine bodyPost_ret (v := .tuple #[.slice (some ⟨x1, o1, none⟩) G.length c6, .int .i64 k, .bool true]) (by simp [results, Tryd.results44, go_sem, *]) rfl ?_
              rw [HT.out]
              exact ⟨_, _, rfl, RG.out.nx kw, k7.nx kw⟩
            · have d1 : (y.id == id) = false := by simpa using hid
              have HID := Lib.hid hid
              clear hid
              go_wp2_with fail
              refine ⟨⟨k + 1, by omega, by go_num, kw, fun j z hj hz => ?_⟩, by simp [intOf]; omega⟩
              rcases Nat.lt_or_ge j k with h | h
              · exact HNO.out j z h hz
              · obtain rfl : j = k := by omega
                rw [Option.some.inj (hz.symm.trans HY.out)]
                exact HID.out
          · obtain rfl : k = G.length := by omega
            have HT : Hid (throughN l id h = ([], 0, false)) := Lib.hid (by unfold throughN; rw [HG.out, if_neg]; rintro ⟨_, _, _, h1⟩; rw [idxI_none HNO.out] at h1; omega)
            clear hk hlt
            go_wp2_with fail
            refine bodyPost_ret (v := .tuple #[.slice none 0 0, .int .i64 0, .bool false]) (by simp [results, Tryd.results44, go_sem, *]) rfl (thPost_none HT.out (k7.nx kw))

def leftN (g : List Nd) (i : Nat) : Int := if i = 0 then 0 else (g[i - 1]?.getD Nd.zero).id
def rightN (g : List Nd) (i : Nat) : Int := (g[i + 1]?.getD Nd.zero).id
def neighN (l : List Nd) (id : Int) (h : Int) : (Int × Int) × Bool :=
  if (throughN l id h).2.2 then ((leftN (throughN l id h).1 (throughN l id h).2.1, rightN (throughN l id h).1 (throughN l id h).2.1), true) else ((0, 0), false)
theorem throughN_lt {l : List Nd} {id h : Int} (hr : (throughN l id h).2.2 = true) : (throughN l id h).2.1 < (throughN l id h).1.length := by
  unfold throughN at *
  split at hr
  · rename_i hc
    rw [if_pos hc]
    exact hc.2.2.2
  · cases hr
theorem throughN_len (l : List Nd) (id h : Int) : (throughN l id h).1.length ≤ l.length := by
  unfold throughN
  split
  · unfold thrG
    have := groupN_length (sortN l) h (findN l id).1.word
    rw [sortN_length] at this
    exact this
  · simp
theorem idAt {w : World} {a : Option Addr} {n : Nat} {G : List Nd} (h : Sl 3 encN w a n G) {j : Nat} (hj : j < n) : ∃ x o, a = some ⟨x, o, none⟩ ∧ x < w.heap.size ∧ w.cell? ⟨x, o + j * 3, none⟩ = some (.int .i64 (G[j]?.getD Nd.zero).id) := by
  obtain ⟨x, o, y, e, hx, hy, hc⟩ := h.at hj
  exact ⟨x, o, e, hx, by rw [hy]; exact hc 0 _ rfl⟩
def NgPost (r : (Int × Int) × Bool) (w : World) (e : Ending) (w' : World) : Prop :=
  e = .returned (.tuple #[.agg #[.int .i64 r.1.1, .int .i64 r.1.2], .bool r.2]) ∧ Ex w w'

set_option maxRecDepth 100000 in
set_option maxHeartbeats 2000000 in
theorem neigh_r (a : Option Addr) (n cp : Nat) (l : List Nd) (id h : Int) (w : World) (hs : Sl 3 encN w a n l) (hn : n ≤ 1000) (hw : ∀ x ∈ l, x.word < 4294967296) :
    Calls Tryd.prog 38 #[.slice a n cp, .int .i64 id, .int .i64 h] w (NgPost (neighN l id h) w) := by
  have HW := Lib.hid hw
  have HL := Lib.hid hs.len
  have k1 := Ex.new w (.cells #[.int .i64 0, .int .i64 0] 56)
  have B1 := Blk.new w [.int .i64 0, .int .i64 0] 56
  obtain ⟨w1, hw1⟩ : ∃ w1, w1 = w.alloc (.cells #[.int .i64 0, .int .i64 0] 56) := ⟨_, rfl⟩
  obtain ⟨g, hg⟩ : ∃ g, g = w.heap.size := ⟨_, rfl⟩
  have B1 : Blk w1 g [.int .i64 0, .int .i64 0] 56 := by rw [hw1, hg]; exact B1
  rw [← hw1] at k1
  have hgn : w.heap.size ≤ g := by omega
  have HW1 := Lib.hid hw1
  have HG := Lib.hid hg
  have S1 := hs.nx k1
  clear hs hw1 hg hw
  go_enter Tryd.func38, Tryd.ntmps38
  go_upto_region 1 with fail
  rw [← HG.out, ← HW1.out]
  go_wp2_with fail
  (with_reducible refine (through_r _ _ _ _ _ _ _ S1 hn HW.out).mono ?_)
  rintro e w2 ⟨a2, c2, rfl, R2, k2⟩
  have HLT := fun hr => throughN_lt (l := l) (id := id) (h := h) hr
  have HLE := throughN_len l id h
  have HNE : Hid (neighN l id h = if (throughN l id h).2.2 then ((leftN (throughN l id h).1 (throughN l id h).2.1, rightN (throughN l id h).1 (throughN l id h).2.1), true) else ((0, 0), false)) := Lib.hid rfl
  have hle := HL.out
  generalize throughN l id h = r at R2 HLT HLE HNE ⊢
  obtain ⟨G, i, ok⟩ := r
  have kk := k1.nx k2
  have B := B1.nx k2
  have hgl : G.length ≤ 1000 := by have := HLE; simp at this; omega
  clear S1 B1 k1 k2 HLE hle
  simp only
  cases ok with
  | false =>
    have HE : Hid (neighN l id h = ((0, 0), false)) := HNE
    have q0 := B.cell 0 _ rfl
    have q1 := B.cell 1 _ rfl
    have z0 := B.free 0
    have z1 := B.free 1
    clear R2 HLT HNE
    go_wp2_with fail
    refine bodyPost_ret (v := .tuple #[.agg #[.int .i64 0, .int .i64 0], .bool false]) (by simp [results, Tryd.results38, go_sem, *]) rfl ⟨by rw [HE.out], ?_⟩
    exact (kk.setNew (p := ⟨g, 0, none⟩) _ hgn).setNew (p := ⟨g, 1, none⟩) _ hgn
  | true =>
    have hi : i < G.length := HLT rfl
    have HE : Hid (neighN l id h = ((leftN G i, rightN G i), true)) := HNE
    have k3 := Ex.new w2 (.cells #[.int .i64 0, .int .i64 0] 56)
    have B3 := Blk.new w2 [.int .i64 0, .int .i64 0] 56
    obtain ⟨w3, hw3⟩ : ∃ w3, w3 = w2.alloc (.cells #[.int .i64 0, .int .i64 0] 56) := ⟨_, rfl⟩
    obtain ⟨g3, hg3⟩ : ∃ g3, g3 = w2.heap.size := ⟨_, rfl⟩
    have B3 : Blk w3 g3 [.int .i64 0, .int .i64 0] 56 := by rw [hw3, hg3]; exact B3
    rw [← hw3] at k3
    have hgg : g ≠ g3 := by have := B.lt; omega
    have hgn3 : w.heap.size ≤ g3 := by have := kk.size; omega
    have HW3 := Lib.hid hw3
    have HG3 := Lib.hid hg3
    replace B := B.nx k3
    replace kk := kk.nx k3
    have R3 := R2.nx k3
    clear hw3 hg3 k3 R2 HLT HNE
    go_upto_region 5 with fail
    rw [← HG3.out, ← HW3.out]
    -- the left neighbour
    obtain ⟨L, hL⟩ : ∃ L, L = leftN G i := ⟨_, rfl⟩
    obtain ⟨Rr, hR⟩ : ∃ Rr, Rr = rightN G i := ⟨_, rfl⟩
    rw [← hL, ← hR] at HE
    have q0 := B3.cell 0 _ rfl
    have q1 := B3.cell 1 _ rfl
    have z0 := B3.free 0
    have z1 := B3.free 1
    have p0 := B.cell 0 _ rfl
    have p1 := B.cell 1 _ rfl
    have y0 := B.free 0
    have y1 := B.free 1
    have hgg2 : ¬ g = g3 := hgg
    have hgg3 : ¬ g3 = g := fun h => hgg h.symm
    by_cases hi0 : i = 0
    · have hL0 : L = 0 := by rw [hL]; unfold leftN; rw [if_pos hi0]
      subst hL0
      have d0 : ¬ (0 : Int) < (i : Int) := by omega
      by_cases hr : i + 1 < G.length
      · have hR1 : Rr = (G[i + 1]?.getD Nd.zero).id := hR
        obtain ⟨x5, o5, ex, hx5, f5⟩ := idAt R3 (j := i + 1) hr
        subst ex
        rw [← hR1] at f5
        replace f5 : w3.cell? ⟨x5, o5 + 3, none⟩ = some (.int .i64 Rr) := by rw [hi0] at f5; exact f5
        have dr : (i : Int) + 1 < (G.length : Int) := by omega
        clear hL hR R3 hR1
        go_wp2_with fail
        refine bodyPost_ret (v := .tuple #[.agg #[.int .i64 0, .int .i64 Rr], .bool true]) (by simp [results, Tryd.results38, go_sem, *]) rfl ⟨by rw [HE.out], ?_⟩
        repeat (first | exact kk | refine Ex.setNew ?_ _ (by first | exact hgn | exact hgn3))
      · have hR1 : Rr = 0 := by rw [hR]; unfold rightN; rw [List.getElem?_eq_none (by omega)]; rfl
        subst hR1
        have dr : ¬ (i : Int) + 1 < (G.length : Int) := by omega
        clear hL hR R3
        go_wp2_with fail
        refine bodyPost_ret (v := .tuple #[.agg #[.int .i64 0, .int .i64 0], .bool true]) (by simp [results, Tryd.results38, go_sem, *]) rfl ⟨by rw [HE.out], ?_⟩
        repeat (first | exact kk | refine Ex.setNew ?_ _ (by first | exact hgn | exact hgn3))
    · have hL0 : L = (G[i - 1]?.getD Nd.zero).id := by rw [hL]; unfold leftN; rw [if_neg hi0]
      have d0 : (0 : Int) < (i : Int) := by omega
      have hi1 : (i : Int) - 1 = ((i - 1 : Nat) : Int) := by omega
      obtain ⟨x4, o4, rfl, hx4, f4⟩ := idAt R3 (j := i - 1) (by simp only at hi ⊢; omega)
      rw [← hL0] at f4
      clear hL0
      by_cases hr : i + 1 < G.length
      · have hR1 : Rr = (G[i + 1]?.getD Nd.zero).id := hR
        obtain ⟨x5, o5, ex, hx5, f5⟩ := idAt R3 (j := i + 1) hr
        cases ex
        rw [← hR1] at f5
        have dr : (i : Int) + 1 < (G.length : Int) := by omega
        clear hL hR R3 hR1
        go_wp2_with fail
        refine bodyPost_ret (v := .tuple #[.agg #[.int .i64 L, .int .i64 Rr], .bool true]) (by simp [results, Tryd.results38, go_sem, *]) rfl ⟨by rw [HE.out], ?_⟩
        repeat (first | exact kk | refine Ex.setNew ?_ _ (by first | exact hgn | exact hgn3))
      · have hR1 : Rr = 0 := by rw [hR]; unfold rightN; rw [List.getElem?_eq_none (by omega)]; rfl
        subst hR1
        have dr : ¬ (i : Int) + 1 < (G.length : Int) := by omega
        clear hL hR R3
        go_wp2_with fail
        refine bodyPost_ret (v := .tuple #[.agg #[.int .i64 L, .int .i64 0], .bool true]) (by simp [results, Tryd.results38, go_sem, *]) rfl ⟨by rw [HE.out], ?_⟩
        repeat (first | exact kk | refine Ex.setNew ?_ _ (by first | exact hgn | exact hgn3))
end Go.Proofs.YtjaemckdfoaopabDoor

/- Build of the reference. -/
namespace Go.Proofs.YtjaemckdfoaopabDoor
open Go.RowKit

theorem Tryd.infoLk : (Tryd.prog.info? 56).map (fun i => (i.zero, i.size, i.bytes)) = some (some (.agg #[.int .i64 0, .int .i64 0]), 2, 16) := by kernel_rfl
theorem Tryd.infoLd : (Tryd.prog.info? 59).map (fun i => (i.zero, i.size, i.bytes)) = some (some (.agg #[.int .i64 0, .slice none 0 0]), 2, 32) := by kernel_rfl

abbrev Lkd := Int × List (Int × Int)
/-- the links of a node of a sorted roster at the levels below m -/
def rowN (S : List Nd) (m : Nat) (x : Nd) : Lkd := (x.id, (List.range m).map fun (h : Nat) => (neighN S x.id h).1)
def buildN (l : List Nd) (height : Int) : List Lkd × Int :=
  if (checkN l == 0) = false then ([], 1) else if lvlN height = false then ([], 2) else ((sortN l).map (rowN (sortN l) (height.toNat + 1)), 0)
abbrev OwnLk (base : Nat) (w : World) (v : Value) (qs : List (Int × Hdr)) (L : List Lkd) : Prop := OwnN encI 2 2 encS 59 56 base w v qs L
abbrev LkL (w : World) (a : Option Addr) (n : Nat) (L : List Lkd) : Prop := NL encI 2 2 encS w a n L
/-- a list of links that was just made -/
def LkPost (L : List Lkd) (e : Int) (w : World) (en : Ending) (w' : World) : Prop :=
  ∃ (v : Value) (qs : List (Int × Hdr)), en = .returned (.tuple #[v, .int .i64 e]) ∧ OwnLk w.heap.size w' v qs L ∧ Ex w w'
theorem OwnN.base {A β : Type} {encA : A → List Value} {s1 s2 : Nat} {encB : β → List Value} {e1 e2 : TypeId} {base base' : Nat} {w : World} {v : Value} {qs : List (A × Hdr)} {L : List (A × List β)}
    (h : OwnN encA s1 s2 encB e1 e2 base w v qs L) (hb : base' ≤ base) : OwnN encA s1 s2 encB e1 e2 base' w v qs L :=
  ⟨h.1.lower hb, h.2.1, fun j q c hq hc => ⟨(h.2.2.1 j q c hq hc).1, (h.2.2.1 j q c hq hc).2.base hb⟩, h.2.2.2⟩
def BdRel (S : List Nd) (m n : Nat) (w1 : World) (o i : Value) (wr : World) : Prop :=
  ∃ (k : Nat) (qs : List (Int × Hdr)), k ≤ n ∧ i = .int .i64 k ∧ OwnLk w1.heap.size wr o qs ((S.take k).map (rowN S m)) ∧ Ex w1 wr
def LvRel (S : List Nd) (m : Nat) (x : Nd) (g : Nat) (w : World) (i : Value) (wr : World) : Prop :=
  ∃ (j : Nat) (v : Value), j ≤ m ∧ i = .int .i64 j ∧ Blk wr g [.int .i64 x.id, v] 59 ∧ OwnL 2 encS 56 w.heap.size wr v (rowN S j x).2 ∧ Exb g w wr
theorem rowN_succ (S : List Nd) (j : Nat) (x : Nd) : (rowN S (j + 1) x).2 = (rowN S j x).2 ++ [(neighN S x.id (j : Nat)).1] := by
  unfold rowN
  simp [List.range_succ]
theorem rowN_len (S : List Nd) (j : Nat) (x : Nd) : (rowN S j x).2.length = j := by unfold rowN; simp

set_option maxRecDepth 100000 in
set_option maxHeartbeats 4000000 in
theorem build_r (a : Option Addr) (n cp : Nat) (l : List Nd) (h : Int) (w : World) (hs : Sl 3 encN w a n l) (hn : n ≤ 1000) (hw : ∀ x ∈ l, x.word < 4294967296) :
    Calls Tryd.prog 20 #[.slice a n cp, .int .i64 h] w (LkPost (buildN l h).1 (buildN l h).2 w) := by
  have HW := Lib.hid (sort_word hw)
  have HL := Lib.hid hs.len
  clear hw
  go_enter Tryd.func20, Tryd.ntmps20
  go_wp2_with fail
  (with_reducible refine (is_r _ _ _ _ _ hs (by omega)).mono ?_)
  rintro e w1 ⟨rfl, k1⟩
  have S1 := hs.nx k1
  clear hs
  cases hc : (checkN l == 0) with
  | false =>
    have HB : Hid (buildN l h = ([], 1)) := Lib.hid (by unfold buildN; rw [if_pos hc])
    clear S1 hc
    go_wp2_with fail
    go_ret2
    rw [HB.out]
    exact ⟨_, [], rfl, OwnN.nil _ _ _ _ _ _ _ _, k1⟩
  | true =>
    go_wp2_with fail
    refine (level_r h _).mono ?_
    rintro e w2 ⟨rfl, rfl⟩
    cases hl : lvlN h with
    | false =>
      have HB : Hid (buildN l h = ([], 2)) := Lib.hid (by unfold buildN; rw [if_neg (by rw [hc]; simp), if_pos hl])
      clear S1 hc hl
      go_wp2_with fail
      go_ret2
      rw [HB.out]
      exact ⟨_, [], rfl, OwnN.nil _ _ _ _ _ _ _ _, k1⟩
    | true =>
      have HB : Hid (buildN l h = ((sortN l).map (rowN (sortN l) (h.toNat + 1)), 0)) := Lib.hid (by unfold buildN; rw [if_neg (by rw [hc]; simp), if_neg (by rw [hl]; simp)])
      have hh : 0 ≤ h ∧ h ≤ 16 := by unfold lvlN at hl; simpa using hl
      obtain ⟨m, rfl⟩ := Int.eq_ofNat_of_zero_le hh.1
      have hm : m ≤ 16 := by have := hh.2; omega
      clear hc hl hh
      go_wp2_with fail
      (with_reducible refine (sort_r _ _ _ _ _ S1 hn).mono ?_)
      rintro e w3 ⟨a3, n3, c3, rfl, r3, k3⟩
      have r3 : Slf 3 encN w1 w3 a3 n3 _ := r3
      have R3 := r3.sl
      have hn3 : n3 ≤ 1000 := by have := r3.len; have := sortN_length l; have := HL.out; omega
      have k3 : Ex w w3 := k1.nx k3
      clear S1 k1 r3
      obtain ⟨S, hS⟩ : ∃ S, S = sortN l := ⟨_, rfl⟩
      rw [← hS] at R3 HW HB
      have HSL := Lib.hid R3.len
      have R3 := Lib.hid R3
      have K3 := Lib.hid k3
      have hz3 := k3.size
      clear hS k3
      go_wp2_with fail
      go_loopw [7, 8] (fun o i wr => BdRel S (m + 1) n3 w3 o i wr) (fun _ i _ => n3 - (intOf i).toNat)
      case atStart => exact ⟨0, [], by omega, rfl, OwnN.nil _ _ _ _ _ _ _ _, Ex.refl _⟩
      case round =>
        obtain ⟨k, qs, hk, rfl, OQ, kw⟩ := hrel
        obtain ⟨wo, rfl⟩ : ∃ wo : World, wo = wr := ⟨_, rfl⟩
        by_cases hlt : k < n3
        · obtain ⟨x1, o1, x, rfl, hx1, hx, hc1⟩ := (R3.out.nx kw).at hlt
          have e0 : wo.cell? ⟨x1, o1 + k * 3, none⟩ = some (.int .i64 x.id) := hc1 0 _ rfl
          have HX := Lib.hid hx
          have OQ := Lib.hid OQ
          have B9 := Blk.new wo [.int .i64 x.id, .slice none 0 0] 59
          have k9 := Ex.new wo (.cells #[.int .i64 x.id, .slice none 0 0] 59)
          obtain ⟨w9, hw9⟩ : ∃ w9, w9 = wo.alloc (.cells #[.int .i64 x.id, .slice none 0 0] 59) := ⟨_, rfl⟩
          obtain ⟨g9, hg9⟩ : ∃ g9, g9 = wo.heap.size := ⟨_, rfl⟩
          have B9 : Blk w9 g9 [.int .i64 x.id, .slice none 0 0] 59 := by rw [hw9, hg9]; exact B9
          rw [← hw9] at k9
          have hgo : wo.heap.size ≤ g9 := by omega
          have hg9' : g9 < w9.heap.size := B9.lt
          have HW9 := Lib.hid hw9
          have HG9 := Lib.hid hg9
          have hzo := kw.size
          have K9 := Lib.hid k9
          have KW := Lib.hid kw
          clear hw9 hg9 hc1 hx kw k9
          go_upto_region 11 with fail
          rw [← HG9.out, ← HW9.out]
          go_wp2_with fail
          clear e0
          go_loopw [10] (fun i wr => LvRel S (m + 1) x g9 w9 i wr) (fun i _ => m + 1 - (intOf i).toNat)
          case atStart => exact ⟨0, _, by omega, rfl, B9, OwnL.nil _ _ _ _ _, Exb.refl _ _⟩
          case round =>
            clear B9
            obtain ⟨j, vv, hj, rfl, B9, own, kv⟩ := hrel
            obtain ⟨wi, rfl⟩ : ∃ wi : World, wi = wr := ⟨_, rfl⟩
            have ki : Ex wo wi := Ex.of_exb ((K9.out.b g9).nxb kv) hgo
            by_cases hjm : j ≤ m
            · have e0 : wi.cell? ⟨x1, o1 + k * 3, none⟩ = some (.int .i64 x.id) := by
                obtain ⟨x5, o5, y5, he5, hx5, hy5, hc5⟩ := ((R3.out.nx KW.out).nx ki).at hlt
                cases he5
                obtain rfl : x = y5 := Option.some.inj (HX.out.symm.trans hy5)
                exact hc5 0 _ rfl
              have RI := (R3.out.nx KW.out).nx ki
              have RS := Lib.hid (rowN_succ S j x)
              have hrl := rowN_len S j x
              go_wp2_with fail
              (with_reducible refine (neigh_r _ _ _ _ _ _ _ RI hn3 HW.out).mono ?_)
              rintro e w4 ⟨rfl, k4⟩
              obtain ⟨⟨⟨nl, nr⟩, nok⟩, hN⟩ : ∃ N, N = neighN S x.id (j : Nat) := ⟨_, rfl⟩
              have HN := Lib.hid hN
              rw [← hN]
              generalize (rowN S j x).2 = row at own RS hrl
              have own4 := own.nx k4
              replace B9 := B9.nx k4
              replace kv := kv.nxb (k4.b g9)
              clear RI k4 hN e0 own
              have B5 := Blk.new w4 [.int .i64 nl, .int .i64 nr] 56
              have k5 := Ex.new w4 (.cells #[.int .i64 nl, .int .i64 nr] 56)
              obtain ⟨w5, hw5⟩ : ∃ w5, w5 = w4.alloc (.cells #[.int .i64 nl, .int .i64 nr] 56) := ⟨_, rfl⟩
              obtain ⟨g5, hg5⟩ : ∃ g5, g5 = w4.heap.size := ⟨_, rfl⟩
              have B5 : Blk w5 g5 [.int .i64 nl, .int .i64 nr] 56 := by rw [hw5, hg5]; exact B5
              rw [← hw5] at k5
              have HW5 := Lib.hid hw5
              have HG5 := Lib.hid hg5
              replace own4 := own4.nx k5
              replace B9 := B9.nx k5
              replace kv := kv.nxb (k5.b g9)
              clear hw5 hg5 k5
              go_upto_region 15 with fail
              rw [← HG5.out, ← HW5.out]
              have q0 := B5.cell 0 _ rfl
              have q1 := B5.cell 1 _ rfl
              have p0 := B9.cell 0 _ rfl
              have p1 := B9.cell 1 _ rfl
              have zb := kv.size
              go_wp2_with (at_builtin; (refine wpList_append_lit (enc := encS) w5 rfl _ _ 57 rfl w9.heap.size 56 (.agg #[.int .i64 0, .int .i64 0]) 2 16 Tryd.underlying57 Tryd.infoLk rfl (by omega) (by omega) _ _ own4 rfl ((nl, nr) : Int × Int) _ rfl rfl (by simp [encS, Value.oneCell']) _ (by simp) rfl (by omega) zb _ ?_); intro v6 w6 own6 _ ch1 _; obtain ⟨a6, c6, rfl, _, _, _, _⟩ := own6.rd (fun _ => rfl); have B6 : Blk w6 g9 _ _ := (ch1.block g9 hg9').trans B9; have z6 := B6.free 1; have p6 := B6.cell 1 _ rfl)
              rw [← HN.out] at RS
              have own7 : OwnL 2 encS 56 w9.heap.size (w6.setCell ⟨g9, 1, none⟩ (.slice a6 (row ++ [(nl, nr)]).length c6)) (.slice a6 (row ++ [(nl, nr)]).length c6) (row ++ [(nl, nr)]) :=
                own6.chg ((Chg.refl (· ≠ g9) w6).setCell _ (fun x hx => hx)) (fun x _ hv => by have := (own6.lt x hv).1; omega)
              have kv7 : Exb g9 w9 (w6.setCell ⟨g9, 1, none⟩ (.slice a6 (row ++ [(nl, nr)]).length c6)) := (show Exb g9 w9 w6 from Chg.trans kv (ch1.mono (fun x hx => hx.1))).setB _ rfl
              have B7 := B6.set 1 (.slice a6 (row ++ [(nl, nr)]).length c6)
              have hll : (row ++ [(nl, nr)]).length = j + 1 := by simp [hrl]
              rw [hll] at own7 kv7 B7
              exact ⟨⟨j + 1, _, by omega, by go_num, B7, by rw [RS.out]; exact own7, kv7⟩, by simp [intOf]; omega⟩
            · obtain rfl : j = m + 1 := by omega
              have OQ1 := OQ.out.nx ki
              have q0 := B9.cell 0 _ rfl
              have q1 := B9.cell 1 _ rfl
              obtain ⟨a6, c6, rfl, _, _, _, _⟩ := own.rd (fun _ => rfl)
              have hkq : qs.length = k := by rw [OQ1.2.1, List.length_map, List.length_take, HSL.out]; omega
              have hzi : w3.heap.size ≤ wi.heap.size := by have := ki.size; omega
              have hjm1 : ((m : Int) + 1) ≤ (m : Int) + 1 := by omega
              have FR : ∀ (j : Nat) (r : Int × Hdr) (g : Nat), qs[j]? = some r → r.2.val.ownBlock = some g → ¬ (Value.slice a6 (rowN S (m + 1) x).2.length c6).ownBlock = some g := by
                intro j r g hr hg hv
                have h1 := OQ.out.lt hr hg
                have h2 := (own.lt g hv).1
                omega
              clear hjm hj hjm1
              have k8 := Ex.new wi (.cells #[.int .i64 x.id, .slice a6 (rowN S (m + 1) x).2.length c6] 59)
              have SX : Sl 2 (encP encI) (wi.alloc (.cells #[.int .i64 x.id, .slice a6 (rowN S (m + 1) x).2.length c6] 59)) (some ⟨wi.heap.size, 0, none⟩) 1 [((x.id, (a6, (rowN S (m + 1) x).2.length, c6)) : Int × Hdr)] := Sl.lit _ rfl rfl (fun _ => rfl) rfl
              have OQ2 := OQ1.nx k8
              have own2 := own.nx k8
              have ki8 := ki.nx k8
              go_wp2_with (at_builtin; (refine wpList_append_W (enc := encP encI) _ rfl _ _ 28 rfl w3.heap.size 59 (.agg #[.int .i64 0, .slice none 0 0]) 2 32 Tryd.underlying28 Tryd.infoLd rfl (by omega) (by omega) _ _ OQ2.1 rfl _ 1 1 [_] SX (fun _ => rfl) (by simp [encP, encI, Hdr.val, Value.oneCell']) rfl (by omega) (by omega) (by simp; omega) ?_); intro v7 w7 own7 ch0 ch1 _)
              have OQ7 := OQ2.push (by decide) own7 ch0 (own2.base (by omega)) FR
              have kw7 : Ex w3 w7 := Chg.trans (KW.out.nx ki8) ch1
              have ET : (S.take (k + 1)).map (rowN S (m + 1)) = (S.take k).map (rowN S (m + 1)) ++ [(x.id, (rowN S (m + 1) x).2)] := by rw [List.take_add_one, HX.out, List.map_append]; rfl
              exact ⟨⟨k + 1, qs ++ [((x.id, (a6, (rowN S (m + 1) x).2.length, c6)) : Int × Hdr)], by omega, by go_num, by rw [ET]; exact OQ7, kw7⟩, by simp [intOf]; omega⟩
        · obtain rfl : k = n3 := by omega
          rw [List.take_of_length_le (by rw [HSL.out]; exact Nat.le_refl _)] at OQ
          have HB2 := HB
          clear hk hlt
          go_wp2_with fail
          go_ret2
          rw [HB.out]
          exact ⟨_, qs, rfl, OQ.base hz3, K3.out.nx kw⟩
end Go.Proofs.YtjaemckdfoaopabDoor

/- Numbers, keys, heights of the tape. -/
namespace Go.Proofs.YtjaemckdfoaopabDoor
open Go.RowKit

def I64 (x : Int) : Prop := -9223372036854775808 ≤ x ∧ x ≤ 9223372036854775807
set_option maxHeartbeats 1000000 in
theorem id_t {b : Nat} (a : Option Addr) (n cp : Nat) (l : List Nd) (w : World) (h : TK w b) (hs : Slb 3 encN b w a n l) (hn : n ≤ 1000) (hi : ∀ x ∈ l, I64 x.id) :
    Calls Tryd.prog 21 #[.pointer (some ⟨b, 0, none⟩), .slice a n cp] w fun e w' => ∃ r : Int, e = .returned (.int .i64 r) ∧ I64 r ∧ TK w' b ∧ Exb b w w' := by
  have HI := Lib.hid hi
  have hlen := Lib.hid hs.len
  clear hi
  go_enter Tryd.func21, Tryd.ntmps21
  by_cases hn0 : n = 0
  · have d0 : ((n : Int) == 0) = true := by simp; omega
    clear hs
    go_wp2_with fail
    refine (pick_t (n := 5) (-1) 4611686018427387904 [0, -1, 999, 4611686018427387904, 1] h rfl rfl rfl (by omega) (by omega) (by intro x hx; simp at hx; omega)).mono ?_
    clear h
    rintro e w2 ⟨r, rfl, r0, r1, T, kk⟩
    go_wp2_with fail
    go_ret
    exact ⟨r, rfl, ⟨by omega, by omega⟩, T, kk⟩
  · have d0 : ((n : Int) == 0) = false := by simp; omega
    have hnp : 0 < n := by omega
    clear hn0
    go_wp2_with fail
    refine (bool_t 8 _ h (by omega) (by omega)).mono ?_
    clear h
    rintro e w1 ⟨r, rfl, T, kk⟩
    cases r with
    | true =>
      clear hs
      go_wp2_with fail
      refine (pick_t (n := 5) (-1) 4611686018427387904 [0, -1, 999, 4611686018427387904, 1] T rfl rfl rfl (by omega) (by omega) (by intro x hx; simp at hx; omega)).mono ?_
      clear T
      rintro e w2 ⟨r, rfl, r0, r1, T, k2⟩
      have kk := kk.nxb k2
      clear k2
      go_wp2_with fail
      go_ret
      exact ⟨r, rfl, ⟨by omega, by omega⟩, T, kk⟩
    | false =>
      have S1 := hs.nxb kk
      clear hs
      go_wp2_with fail
      refine (next_t (n : Int) _ T (by omega) (by omega)).mono ?_
      clear T
      rintro e w2 ⟨j, rfl, j0, j1, T, k2⟩
      obtain ⟨j, rfl⟩ := Int.eq_ofNat_of_zero_le j0
      have S2 := S1.nxb k2
      have kk := kk.nxb k2
      obtain ⟨x, o, y, rfl, hx, hy, hc⟩ := S2.sl.at (j := j) (by omega)
      have e0 : w2.cell? ⟨x, o + j * 3, none⟩ = some (.int .i64 y.id) := hc 0 _ rfl
      have hyi := Lib.hid (HI.out y (List.mem_of_getElem? hy))
      have hjn : (j : Int) < (n : Int) := by omega
      clear k2 S1 S2 hc hy
      go_wp2_with fail
      go_ret
      exact ⟨y.id, rfl, hyi.out, T, kk⟩

theorem heightN_le (l : List Nd) : heightN l ≤ 16 := by
  unfold heightN
  split
  · omega
  · cases hf : (List.range 16).find? (fun h => !decide ((classesN (sortN l) (h : Nat)).length < l.length)) with
    | none => simp
    | some x =>
      have := List.mem_of_find?_eq_some hf
      simp at this ⊢
      omega
set_option maxHeartbeats 1000000 in
theorem height_t {b : Nat} (a : Option Addr) (n cp : Nat) (l : List Nd) (w : World) (h : TK w b) (hs : Slb 3 encN b w a n l) (hn : n ≤ 1000) (hw : ∀ x ∈ l, x.word < 4294967296) :
    Calls Tryd.prog 7 #[.pointer (some ⟨b, 0, none⟩), .slice a n cp] w fun e w' => ∃ r : Nat, e = .returned (.int .i64 r) ∧ r ≤ 16 ∧ TK w' b ∧ Exb b w w' := by
  go_enter Tryd.func7, Tryd.ntmps7
  go_wp2_with fail
  (with_reducible refine (height_r _ _ _ _ _ hs.sl hn hw).mono ?_)
  rintro e w1 ⟨rfl, k1⟩
  have T := h.nx k1
  have kk := k1.b b
  have hh := heightN_le l
  generalize heightN l = H at hh ⊢
  clear h hs k1 hw
  go_wp2_with fail
  refine (bool_t 3 _ T (by omega) (by omega)).mono ?_
  clear T
  rintro e w2 ⟨r, rfl, T, k2⟩
  replace kk := kk.nxb k2
  clear k2
  cases r with
  | true =>
    go_wp2_with fail
    refine (next_t 3 _ T (by omega) (by omega)).mono ?_
    clear T
    rintro e w3 ⟨j, rfl, j0, j1, T, k3⟩
    obtain ⟨j, rfl⟩ := Int.eq_ofNat_of_zero_le j0
    replace kk := kk.nxb k3
    clear k3
    by_cases hm : H + j ≤ 16
    · have dm : (H : Int) + (j : Int) ≤ 16 := by omega
      by_cases h5 : 5 < (H + j)
      · have d5 : (5 : Int) < ((H : Int) + (j : Int)) := by omega
        go_wp2_with fail
        refine (bool_t 4 _ T (by omega) (by omega)).mono ?_
        clear T
        rintro e w4 ⟨r, rfl, T, k4⟩
        replace kk := kk.nxb k4
        cases r with
        | true =>
          go_wp2_with fail
          go_ret
          exact ⟨(H + j), rfl, by omega, T, kk⟩
        | false =>
          go_wp2_with fail
          go_ret
          exact ⟨3, rfl, by omega, T, kk⟩
      · have d5 : ¬ (5 : Int) < ((H : Int) + (j : Int)) := by omega
        go_wp2_with fail
        go_ret
        exact ⟨(H + j), rfl, by omega, T, kk⟩
    · have dm : ¬ (H : Int) + (j : Int) ≤ 16 := by omega
      go_wp2_with fail
      refine (bool_t 4 _ T (by omega) (by omega)).mono ?_
      clear T
      rintro e w4 ⟨r, rfl, T, k4⟩
      replace kk := kk.nxb k4
      cases r with
      | true =>
        go_wp2_with fail
        go_ret
        exact ⟨16, rfl, by omega, T, kk⟩
      | false =>
        go_wp2_with fail
        go_ret
        exact ⟨3, rfl, by omega, T, kk⟩
  | false =>
    by_cases h5 : 5 < H
    · have d5 : (5 : Int) < (H : Int) := by omega
      go_wp2_with fail
      refine (bool_t 4 _ T (by omega) (by omega)).mono ?_
      clear T
      rintro e w4 ⟨r, rfl, T, k4⟩
      replace kk := kk.nxb k4
      cases r with
      | true =>
        go_wp2_with fail
        go_ret
        exact ⟨H, rfl, by omega, T, kk⟩
      | false =>
        go_wp2_with fail
        go_ret
        exact ⟨3, rfl, by omega, T, kk⟩
    · have d5 : ¬ (5 : Int) < (H : Int) := by omega
      go_wp2_with fail
      go_ret
      exact ⟨H, rfl, by omega, T, kk⟩
end Go.Proofs.YtjaemckdfoaopabDoor
