/- Texts for the statement SearchAgreesProof, part 9 of 11: SrEn. -/
import Derived.Test.YtkjlhcfocefhpaaDoorSearchAgreesProofPk5
import Derived.Test.YtkjlhcfocefhpaaDoorSearchAgreesProofPk8

/- The walk over SearchEnds (printed by gen_l8.py). -/
namespace Go.Proofs.YtkjlhcfocefhpaaDoor
open Go.RowKit

theorem height_le (l : List Nd) : heightN l ≤ 16 := by
  unfold heightN
  split
  · omega
  · cases h : (List.range 16).find? fun h => !decide ((classesN (sortN l) (h : Nat)).length < l.length) with
    | none => simp
    | some k =>
      have := List.mem_of_find?_eq_some h
      simp at this
      simp; omega
theorem rg8 {w w' : World} (h : Ex w.drew w') : Ex w w' := (Ex.refl w).drew.nx h
set_option maxRecDepth 100000 in
set_option maxHeartbeats 16000000 in
theorem searchends_walk (a1 : Option Addr) (n1 c1 : Nat) (l1 : List Int) (s : ByteArray) (w : World) (h1 : Sl 1 encI w a1 n1 l1) (hc1 : n1 ≤ c1) (hm1 : c1 ≤ maxLen) (hT : TabG w) (hL : LetG w) :
    Calls Tryd.prog 11 #[.slice a1 n1 c1, .string s] w fun e w' => e = .returned (.bool true) ∧ Ex w w' := by
  go_enter Tryd.func11, Tryd.ntmps11
  go_wp2_with fail
  refine (new_t _ _ _ l1 _ h1 hc1 hm1).mono ?_
  rintro e w1 ⟨rfl, T, kk, z1⟩
  obtain ⟨b, hb⟩ : ∃ b, b = w.heap.size := ⟨_, rfl⟩
  rw [← hb] at T ⊢
  have hgt : ¬ 1 = b := by have := hT.lt; omega
  have hgl : ¬ 0 = b := by have := hL.lt; omega
  have T1 : Hid (TabG w1) := Lib.hid (hT.nx kk)
  have L1 : Hid (LetG w1) := Lib.hid (hL.nx kk)
  have QL : Hid (Exl b w w1) := Lib.hid ⟨kk, by omega⟩
  clear h1 hT hL kk hb z1
  go_wp2_with fail
  have hbo := T.lt
  refine (some_n 10 _ T L1.out hgl (by omega) (by omega)).mono ?_
  clear T
  rintro e w2 ⟨v1, L, rfl, R, hL1⟩
  replace T1 := Lib.hid (T1.out.nxb hgt R.k)
  replace L1 := Lib.hid (L1.out.nxb hgl R.k)
  replace QL := Lib.hid (QL.out.nxb R.k)
  obtain ⟨aX, cX, rfl, SX, hcX, hmX, _⟩ := R.own.slf (fun _ => rfl)
  have SX := SX.slb hbo
  have RL := R.len
  have RC := Lib.hid R.ok
  have RN := Lib.hid (roster_ok R.ok)
  have XW := Lib.hid (fun x hx => (RN.out x hx).1.2.1)
  have T := R.tape
  clear R
  have hb2 := T.lt
  go_wp2_with fail
  (with_reducible refine (height_p _ _ _ _ _ SX.sl (by omega) hcX hmX XW.out T1.out).mono ?_)
  rintro e w3 ⟨rfl, kk⟩
  replace T := T.nx kk
  replace T1 := Lib.hid (T1.out.nx kk)
  replace L1 := Lib.hid (L1.out.nx kk)
  replace QL := Lib.hid (QL.out.nx kk)
  replace SX := SX.nxb (kk.b b)
  clear kk
  obtain ⟨hh, hhe⟩ : ∃ hh, hh = heightN L := ⟨_, rfl⟩
  rw [← hhe]
  have hh16 : hh ≤ 16 := by rw [hhe]; exact height_le L
  have HH := Lib.hid hhe
  clear hhe
  go_wp2_with fail
  refine (next_t 2 _ T (by omega) (by omega)).mono ?_
  clear T
  rintro e w4 ⟨r, rfl, r0, r1, T, kk⟩
  replace T1 := Lib.hid (T1.out.nxb hgt kk)
  replace L1 := Lib.hid (L1.out.nxb hgl kk)
  replace QL := Lib.hid (QL.out.nxb kk)
  replace SX := SX.nxb kk
  clear kk
  obtain ⟨r, rfl⟩ := Int.eq_ofNat_of_zero_le r0
  obtain ⟨m, hm⟩ : ∃ m : Nat, m = min (hh + r) 16 := ⟨_, rfl⟩
  have hm2 : min ((hh : Int) + (r : Int)) 16 = (m : Int) := by omega
  have hm16 : m ≤ 16 := by omega
  have hhm : Hid (heightN L ≤ m) := Lib.hid (by rw [← HH.out]; omega)
  have hb4 := T.lt
  have HM := Lib.hid hm2
  clear hm hm2 r0
  go_wp2_with fail
  rw [HM.out]
  (with_reducible refine (build_p _ _ _ _ (m : Int) _ SX.sl (by omega) hcX hmX XW.out T1.out).mono ?_)
  rintro e w5 ⟨vL, qs, rfl, own, kk⟩
  replace T := T.nx kk
  replace T1 := Lib.hid (T1.out.nx kk)
  replace L1 := Lib.hid (L1.out.nx kk)
  replace QL := Lib.hid (QL.out.nx kk)
  replace SX := SX.nxb (kk.b b)
  clear kk
  obtain ⟨A0, A1, A2⟩ := build_ok0 RC.out hm16
  rw [A0]
  have BS := Lib.hid (buildN_small L (m : Int) (by omega))
  have OWN := Lib.hid own
  clear own A1 A2 A0
  go_wp2_with fail
  refine (key_t _ T L1.out hgl).mono ?_
  clear T
  rintro e w6 ⟨K, rfl, hK, T, kk⟩
  replace T1 := Lib.hid (T1.out.nxb hgt kk)
  replace L1 := Lib.hid (L1.out.nxb hgl kk)
  replace QL := Lib.hid (QL.out.nxb kk)
  replace SX := SX.nxb kk
  replace OWN := Lib.hid (OWN.out.nxb hb4 kk)
  clear kk
  clear hK
  have hnb := T.lt
  have B44 := Blk.new w6 [.string K, .string s] 9
  have kk := Ex.new w6 (.cells #[.string K, .string s] 9)
  obtain ⟨w7, hw7⟩ : ∃ w7, w7 = w6.alloc (.cells #[.string K, .string s] 9) := ⟨_, rfl⟩
  obtain ⟨g44, hg44⟩ : ∃ g44, g44 = w6.heap.size := ⟨_, rfl⟩
  replace B44 : Blk w7 g44 [.string K, .string s] 9 := by rw [hw7, hg44]; exact B44
  rw [← hw7] at kk
  have Hw7 := Lib.hid hw7
  have Hg44 := Lib.hid hg44
  replace T := T.nx kk
  replace T1 := Lib.hid (T1.out.nx kk)
  replace L1 := Lib.hid (L1.out.nx kk)
  replace QL := Lib.hid (QL.out.nx kk)
  replace SX := SX.nxb (kk.b b)
  replace OWN := Lib.hid (OWN.out.nx kk)
  have hgb : g44 ≠ b := by omega
  clear kk hw7 hg44
  go_upto_region 10 with fail
  rw [← Hg44.out, ← Hw7.out]
  clear Hg44 Hw7
  have B44 := Lib.hid B44
  have SX := Lib.hid SX
  have QL7 := QL
  go_wp2_with fail
  go_loopw [46] (fun i wr => CtRel b 2 w7 i wr) (fun i _ => 2 - (intOf i).toNat)
  case atStart => exact ⟨0, by omega, rfl, Exb.refl _ _, T⟩
  case round =>
    clear T
    obtain ⟨k, hk, rfl, kw, T⟩ := hrel
    obtain ⟨wo, rfl⟩ : ∃ wo : World, wo = wr := ⟨_, rfl⟩
    by_cases hlt : k < 2
    case neg =>
      obtain rfl : k = 2 := by omega
      have TG := T1.out.nxb hgt kw
      have QX := Lib.hid (QL.out.nxb kw).1
      clear hk hlt kw T
      go_wp2_with fail
      (with_reducible refine (sane8_x _ TG).mono ?_)
      rintro e w9 ⟨rfl, kk⟩
      go_wp2_with fail
      go_ret
      exact ⟨rfl, QX.out.nx kk⟩
    have hbo := T.lt
    have SX := SX.out.nxb kw
    have OWN := Lib.hid (OWN.out.nxb hb4 kw)
    have TG := T1.out.nxb hgt kw
    obtain ⟨q, cq⟩ : ∃ q : ByteArray, wo.cell? ⟨g44, k, none⟩ = some (.string q) := by
      have B := B44.out.nxb hgb kw
      rcases (show k = 0 ∨ k = 1 by omega) with h | h
      · exact ⟨K, by rw [h]; exact B.cell 0 _ rfl⟩
      · exact ⟨s, by rw [h]; exact B.cell 1 _ rfl⟩
    go_wp2_with fail
    refine (next_t (L.length : Int) _ T (by omega) (by omega)).mono ?_
    clear T
    rintro e x2 ⟨r, rfl, r0, r1, T, kk⟩
    replace kw := kw.nxb kk
    replace SX := SX.nxb kk
    replace OWN := Lib.hid (OWN.out.nxb hb4 kk)
    replace TG := TG.nxb hgt kk
    clear kk
    obtain ⟨j, rfl⟩ := Int.eq_ofNat_of_zero_le r0
    have hj : j < L.length := by omega
    obtain ⟨x1, o1, y, rfl, hx1, hy, hc1⟩ := SX.sl.at hj
    have e0 : x2.cell? ⟨x1, o1 + j * 3, none⟩ = some (.int .i64 y.id) := hc1 0 _ rfl
    have HYM := Lib.hid (List.mem_of_getElem? hy)
    have TB := Lib.hid T
    have KW := Lib.hid kw
    have S := SX.sl
    obtain ⟨aP, cP, rfl, LK, _, _, _, _⟩ := OwnN.nl (encA := encI) (encB := encS) (s1 := 2) (s2 := 2) (fun _ => rfl) (fun _ => rfl) OWN.out
    have EX := Ex.refl x2
    have LK := Lib.hid LK
    have BS1 := BS.out.1
    clear T kw SX hc1 hy cq r0 r1
    go_wp2_with fail
    (with_reducible refine (route_p _ _ _ _ _ _ _ _ _ _ _ S (by omega) hcX hmX LK.out (by omega) (fun c hc => Nat.le_trans (BS.out.2 c hc) (by omega))).mono ?_)
    rintro e y1 ⟨v2, rfl, own, kk⟩
    replace S := S.nx kk
    replace LK := Lib.hid (LK.out.nx kk)
    replace EX := EX.nx kk
    replace TG := TG.nx kk
    clear kk
    obtain ⟨aH, cH, rfl, H, _, _, _⟩ := own.slf (fun _ => rfl)
    have H := H.sl
    clear own e0 LK
    go_wp2_with fail
    (with_reducible refine (owner_p _ _ _ _ _ _ S (by omega) hcX hmX).mono ?_)
    rintro e y2 ⟨rfl, kk⟩
    replace S := S.nx kk
    replace EX := EX.nx kk
    replace TG := TG.nx kk
    replace H := H.nx kk
    clear kk
    obtain ⟨RT, hRT⟩ : ∃ RT, RT = routeN L (buildN L (m : Int)).1 y.id q := ⟨_, rfl⟩
    rw [← hRT] at H ⊢
    have hRl := route_small L (buildN L (m : Int)).1 y.id q
    rw [← hRT] at hRl
    obtain ⟨ON, hON⟩ : ∃ ON, ON = ownN L q := ⟨_, rfl⟩
    rw [← hON]
    have HRT := Lib.hid hRT
    have HON := Lib.hid hON
    obtain ⟨o, ok⟩ := ON
    simp only
    clear hRT hON
    have B15 := Blk.new y2 [.int .i64 o.id, .string o.key, .int .u32 o.word] 48
    have kk := Ex.new y2 (.cells #[.int .i64 o.id, .string o.key, .int .u32 o.word] 48)
    obtain ⟨y3, hy3⟩ : ∃ y3, y3 = y2.alloc (.cells #[.int .i64 o.id, .string o.key, .int .u32 o.word] 48) := ⟨_, rfl⟩
    obtain ⟨g15, hg15⟩ : ∃ g15, g15 = y2.heap.size := ⟨_, rfl⟩
    replace B15 : Blk y3 g15 [.int .i64 o.id, .string o.key, .int .u32 o.word] 48 := by rw [hy3, hg15]; exact B15
    rw [← hy3] at kk
    have Hy3 := Lib.hid hy3
    have Hg15 := Lib.hid hg15
    replace S := S.nx kk
    replace EX := EX.nx kk
    replace TG := TG.nx kk
    replace H := H.nx kk
    clear kk hy3 hg15
    go_upto_region 15 with fail
    rw [← Hg15.out, ← Hy3.out]
    clear Hg15 Hy3
    by_cases hq : q.size ≤ 64
    · skip
      have HE := end_law (L := (buildN L (m : Int)).1) RC.out HYM.out hq (by rw [(build_top RC.out hm16 HYM.out).1]; omega) (fun x hx => (build_top RC.out hm16 hx).2 0 (by omega))
      have HB := ends_law RC.out XW.out hm16 hhm.out HYM.out hq
      rw [← HRT.out, ← HON.out] at HE
      rw [← HRT.out] at HB
      obtain ⟨g1, g2, g3⟩ := HE
      simp only at g2 g3
      subst g3
      have b0 := B15.cell 0 _ rfl
      have B15h := Lib.hid B15
      have E3 := Lib.hid EX
      have hbl := bound_le RC.out HYM.out
      have HB2 : ¬ (boundN L y.id : Int) < (RT.1.length : Int) := by omega
      clear hq HB b0 EX
      go_upto_region 18 with fail
      refine wp_region_held_drew (S := Ex y3.drew) (by kernel_rfl) (Ex.refl _) (fun hHeld => ?_)
      refine wpAnyH_take (i := 0) (oi := ⟨some 76, .move (.tmp 14), 35, "law.go:85", #[], none⟩) (v := ?_) rfl (by kernel_rfl) (by kernel_rfl) (by kernel_rfl) (fun _ _ _ h => h) (Or.inl ⟨by rfl, ?hyr1x0⟩) (by assumption) ?restr1x0
      case hyr1x0 => intro wq hSw; (go_simp); (try with_reducible rfl)
      try simp only [Act.put, List.setIfInBounds_toArray, List.set_cons_zero, List.set_cons_succ]
      refine wpAnyH_take (i := 1) (oi := ⟨some 77, .binOp .neq 35 (.tmp 76) (.const (.int .i64 0)) 35, 4, "law.go:85", #[⟨0, .data⟩], none⟩) (v := ?_) rfl (by kernel_rfl) (by kernel_rfl) (by kernel_rfl) (fun _ _ _ h => h) (Or.inl ⟨by rfl, ?hyr1x1⟩) (by assumption) ?restr1x1
      case hyr1x1 => intro wq hSw; (go_simp); (try with_reducible rfl)
      try simp only [Act.put, List.setIfInBounds_toArray, List.set_cons_zero, List.set_cons_succ]
      refine wpAnyH_take (i := 2) (oi := ⟨some 78, .move (.tmp 77), 4, "law.go:85", #[⟨1, .data⟩], none⟩) (v := ?_) rfl (by kernel_rfl) (by kernel_rfl) (by kernel_rfl) (fun _ _ _ h => h) (Or.inl ⟨by rfl, ?hyr1x2⟩) (by assumption) ?restr1x2
      case hyr1x2 => intro wq hSw; (go_simp); (try with_reducible rfl)
      try simp only [Act.put, List.setIfInBounds_toArray, List.set_cons_zero, List.set_cons_succ]
      refine wpAnyH_take (i := 3) (oi := ⟨some 79, .move (.tmp 12), 3, "law.go:85", #[⟨2, .guard⟩], some (2, false)⟩) (v := ?_) rfl (by kernel_rfl) (by kernel_rfl) (by kernel_rfl) (fun _ _ _ h => h) (Or.inl ⟨by rfl, ?hyr1x3⟩) (by assumption) ?restr1x3
      case hyr1x3 => intro wq hSw; (go_simp); (try with_reducible rfl)
      try simp only [Act.put, List.setIfInBounds_toArray, List.set_cons_zero, List.set_cons_succ]
      refine wpAnyH_take (i := 4) (oi := ⟨some 80, .move (.tmp 13), 34, "law.go:85", #[⟨2, .guard⟩], some (2, false)⟩) (v := ?_) rfl (by kernel_rfl) (by kernel_rfl) (by kernel_rfl) (fun _ _ _ h => h) (Or.inl ⟨by rfl, ?hyr1x4⟩) (by assumption) ?restr1x4
      case hyr1x4 => intro wq hSw; (go_simp); (try with_reducible rfl)
      try simp only [Act.put, List.setIfInBounds_toArray, List.set_cons_zero, List.set_cons_succ]
      refine wpAnyH_take (i := 6) (oi := ⟨some 82, .fieldAddr 48 (.tmp 15) 0, 0, "law.go:85", #[⟨2, .guard⟩], some (2, false)⟩) (v := ?_) rfl (by kernel_rfl) (by kernel_rfl) (by kernel_rfl) (fun _ _ _ h => h) (Or.inl ⟨by rfl, ?hyr1x6⟩) (by assumption) ?restr1x6
      case hyr1x6 => intro wq hSw; (go_simp); (try with_reducible rfl)
      try simp only [Act.put, List.setIfInBounds_toArray, List.set_cons_zero, List.set_cons_succ]
      refine wpAnyH_take (i := 7) (oi := ⟨some 83, .load 3 (.tmp 82), 3, "law.go:85", #[⟨6, .data⟩, ⟨2, .guard⟩], some (2, false)⟩) (v := ?_) rfl (by kernel_rfl) (by kernel_rfl) (by kernel_rfl) (fun _ _ _ h => h) (Or.inl ⟨by rfl, ?hyr1x7⟩) (by assumption) ?restr1x7
      case hyr1x7 => intro wq hSw; (have cq := (B15h.out.nx (rg8 hSw)).cell 0 _ rfl; go_simp); (try with_reducible rfl)
      try simp only [Act.put, List.setIfInBounds_toArray, List.set_cons_zero, List.set_cons_succ]
      refine wpAnyH_ready (rs := [5]) (by kernel_rfl) (by simp) ?_
      refine AllReadyH.cons (o := ⟨some 81, .call { callee := .value (.func 25), args := #[.tmp 79, .tmp 80], argTypes := #[3, 34] }, 3, "law.go:85", #[⟨3, .data⟩, ⟨4, .data⟩, ⟨2, .chain⟩, ⟨2, .guard⟩], some (2, false)⟩) rfl (fun K hK => ?_) AllReadyH.nil
      go_simp
      (with_reducible refine (end_p _ _ _ _ _ _ (H.nx (Ex.refl y3).drew) (by omega)).mono ?_)
      rintro e y4 ⟨rfl, k4⟩
      replace k4 : Ex y3.drew y4 := k4
      rw [g2]
      have S4 := S.nx ((Ex.refl y3).drew.nx k4)
      have TG4 := TG.nx ((Ex.refl y3).drew.nx k4)
      refine hK.out _ _ k4 (fun _ => ?_)
      clear hK K
      try simp only [Act.put, List.setIfInBounds_toArray, List.set_cons_zero, List.set_cons_succ]
      refine wpAnyH_switch (S' := Ex y4) (fun _ hSw => Ex.nx k4 hSw) ?_
      clear hHeld
      have hHeld := Ex.refl y4
      refine wpAnyH_take (i := 8) (oi := ⟨some 84, .binOp .neq 3 (.tmp 81) (.tmp 83) 3, 4, "law.go:85", #[⟨5, .data⟩, ⟨7, .data⟩, ⟨2, .guard⟩], some (2, false)⟩) (v := ?_) rfl (by kernel_rfl) (by kernel_rfl) (by kernel_rfl) (fun _ _ _ h => h) (Or.inl ⟨by rfl, ?hyr1x8⟩) (by assumption) ?restr1x8
      case hyr1x8 => intro wq hSw; (go_simp); (try with_reducible rfl)
      try simp only [Act.put, List.setIfInBounds_toArray, List.set_cons_zero, List.set_cons_succ]
      refine wpAnyH_take (i := 9) (oi := ⟨some 85, .pick (.tmp 78) (.const (.bool true)) (.tmp 84), 4, "law.go:85", #[⟨2, .data⟩, ⟨8, .data⟩], none⟩) (v := ?_) rfl (by kernel_rfl) (by kernel_rfl) (by kernel_rfl) (fun _ _ _ h => h) (Or.inl ⟨by rfl, ?hyr1x9⟩) (by assumption) ?restr1x9
      case hyr1x9 => intro wq hSw; (go_simp); (try with_reducible rfl)
      try simp only [Act.put, List.setIfInBounds_toArray, List.set_cons_zero, List.set_cons_succ]
      refine wpAnyH_take (i := 10) (oi := ⟨some 86, .move (.tmp 85), 4, "law.go:85", #[⟨9, .data⟩, ⟨5, .chain⟩], none⟩) (v := ?_) rfl (by kernel_rfl) (by kernel_rfl) (by kernel_rfl) (fun _ _ _ h => h) (Or.inl ⟨by rfl, ?hyr1x10⟩) (by assumption) ?restr1x10
      case hyr1x10 => intro wq hSw; (go_simp); (try with_reducible rfl)
      try simp only [Act.put, List.setIfInBounds_toArray, List.set_cons_zero, List.set_cons_succ]
      refine wpAnyH_take (i := 11) (oi := ⟨some 87, .move (.tmp 13), 34, "law.go:85", #[⟨10, .guard⟩], some (10, false)⟩) (v := ?_) rfl (by kernel_rfl) (by kernel_rfl) (by kernel_rfl) (fun _ _ _ h => h) (Or.inl ⟨by rfl, ?hyr1x11⟩) (by assumption) ?restr1x11
      case hyr1x11 => intro wq hSw; (go_simp); (try with_reducible rfl)
      try simp only [Act.put, List.setIfInBounds_toArray, List.set_cons_zero, List.set_cons_succ]
      refine wpAnyH_take (i := 12) (oi := ⟨some 88, .call { callee := .builtin .len, args := #[.tmp 87], argTypes := #[34] }, 3, "law.go:85", #[⟨11, .data⟩, ⟨10, .guard⟩], some (10, false)⟩) (v := ?_) rfl (by kernel_rfl) (by kernel_rfl) (by kernel_rfl) (fun _ _ _ h => h) (Or.inl ⟨by rfl, ?hyr1x12⟩) (by assumption) ?restr1x12
      case hyr1x12 => intro wq hSw; (go_simp); (try with_reducible rfl)
      try simp only [Act.put, List.setIfInBounds_toArray, List.set_cons_zero, List.set_cons_succ]
      refine wpAnyH_take (i := 13) (oi := ⟨some 89, .move (.tmp 6), 23, "law.go:85", #[⟨10, .guard⟩], some (10, false)⟩) (v := ?_) rfl (by kernel_rfl) (by kernel_rfl) (by kernel_rfl) (fun _ _ _ h => h) (Or.inl ⟨by rfl, ?hyr1x13⟩) (by assumption) ?restr1x13
      case hyr1x13 => intro wq hSw; (go_simp); (try with_reducible rfl)
      try simp only [Act.put, List.setIfInBounds_toArray, List.set_cons_zero, List.set_cons_succ]
      refine wpAnyH_take (i := 14) (oi := ⟨some 90, .move (.tmp 12), 3, "law.go:85", #[⟨10, .guard⟩], some (10, false)⟩) (v := ?_) rfl (by kernel_rfl) (by kernel_rfl) (by kernel_rfl) (fun _ _ _ h => h) (Or.inl ⟨by rfl, ?hyr1x14⟩) (by assumption) ?restr1x14
      case hyr1x14 => intro wq hSw; (go_simp); (try with_reducible rfl)
      try simp only [Act.put, List.setIfInBounds_toArray, List.set_cons_zero, List.set_cons_succ]
      refine wpAnyH_ready (rs := [15]) (by kernel_rfl) (by simp) ?_
      refine AllReadyH.cons (o := ⟨some 91, .call { callee := .value (.func 31), args := #[.tmp 89, .tmp 90], argTypes := #[23, 3] }, 3, "law.go:85", #[⟨13, .data⟩, ⟨14, .data⟩, ⟨10, .chain⟩, ⟨10, .guard⟩], some (10, false)⟩) rfl (fun K hK => ?_) AllReadyH.nil
      go_simp
      (with_reducible refine (bound_p _ _ _ _ _ _ S4 (by omega) hcX hmX XW.out TG4).mono ?_)
      rintro e y5 ⟨rfl, k5⟩
      refine hK.out _ _ k5 (fun _ => ?_)
      clear hK K
      try simp only [Act.put, List.setIfInBounds_toArray, List.set_cons_zero, List.set_cons_succ]
      refine wpAnyH_switch (S' := Ex y5) (fun _ hSw => Ex.nx k5 hSw) ?_
      clear hHeld
      have hHeld := Ex.refl y5
      refine wpAnyH_take (i := 16) (oi := ⟨some 92, .binOp .gtr 3 (.tmp 88) (.tmp 91) 3, 4, "law.go:85", #[⟨12, .data⟩, ⟨15, .data⟩, ⟨10, .guard⟩], some (10, false)⟩) (v := ?_) rfl (by kernel_rfl) (by kernel_rfl) (by kernel_rfl) (fun _ _ _ h => h) (Or.inl ⟨by rfl, ?hyr1x16⟩) (by assumption) ?restr1x16
      case hyr1x16 => intro wq hSw; (go_simp); (try with_reducible rfl)
      try simp only [Act.put, List.setIfInBounds_toArray, List.set_cons_zero, List.set_cons_succ]
      refine wpAnyH_take (i := 17) (oi := ⟨some 93, .pick (.tmp 86) (.const (.bool true)) (.tmp 92), 4, "law.go:85", #[⟨10, .data⟩, ⟨16, .data⟩], none⟩) (v := ?_) rfl (by kernel_rfl) (by kernel_rfl) (by kernel_rfl) (fun _ _ _ h => h) (Or.inl ⟨by rfl, ?hyr1x17⟩) (by assumption) ?restr1x17
      case hyr1x17 => intro wq hSw; (go_simp); (try with_reducible rfl)
      try simp only [Act.put, List.setIfInBounds_toArray, List.set_cons_zero, List.set_cons_succ]
      refine wpAnyH_done (by kernel_rfl) ?_ _
      have FIN : Hid (CtRel b 2 w7 (.int .i64 ((k : Int) + 1)) y5) := Lib.hid (by have kx := E3.out.nx (((Ex.refl y3).drew.nx k4).nx k5); exact ⟨k + 1, by omega, by go_num, KW.out.nxb (kx.b b), TB.out.nx kx⟩)
      clear H S B15 TG k4 k5 S4 TG4
      go_wp2_with fail
      exact ⟨FIN.out, by simp [intOf]; omega⟩
    · skip
      have h1 : RT = ([], 1) := by rw [HRT.out, route_bad (.inr (by omega))]
      have h2 : (o, ok) = (Nd.zero, false) := by rw [HON.out, ownN_no (.inr (.inr (by omega)))]
      have hok : ok = false := by cases h2; rfl
      have hR2 : RT.2 = 1 := by rw [h1]
      have FIN : Hid (CtRel b 2 w7 (.int .i64 ((k : Int) + 1)) y3) := Lib.hid ⟨k + 1, by omega, by go_num, KW.out.nxb (EX.b b), TB.out.nx EX⟩
      subst hok
      clear h1 h2 H S B15 hq
      go_wp2_with fail
      exact ⟨FIN.out, by simp [intOf]; omega⟩
end Go.Proofs.YtkjlhcfocefhpaaDoor
